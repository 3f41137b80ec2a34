/- Lemmas for the claim, part 5. -/
import Derived.Test.YtmalhidldgfeoaaGreatDoorRows
import Derived.Lib.LaidU8
import Derived.LaidMore
import Derived.Deep.DeepLaidRun
import Derived.Stop.Joined
import Derived.Test.YtmalhidldgfeoaaGreatDoorQ4

namespace Go.Proofs.YtmalhidldgfeoaaGreatDoor
open Go.RowKit Go.Eng Go.Nw Go.Rt
def rt3 (x : Clm) (i : Nat) : List UInt8 := Xo wordR (rtAt x.routes i) ++ Xo wordB [x.bounds.getD i 0, x.worst.getD i 0] ++ Xo wordL (rtAt x.slots i)
def clT (x : Clm) (k : Nat) : List UInt8 := Xo wordF [x.flow] ++ (List.range k).flatMap (rt3 x)
def X4 (c : List Clm) (k : Nat) : List UInt8 := (c.take k).flatMap fun x => clT x x.routes.length
theorem YeU {x : Clm} (h : J7 x) : ((X0 x).flatMap fun p => p ++ [10]) = clT x x.routes.length := by
  have e : ∀ ks : List Nat, (∀ i ∈ ks, i < x.routes.length) → (ks.flatMap (YbF x)).flatMap (fun p => p ++ [10]) = ks.flatMap (rt3 x) := by
    intro ks
    induction ks with
    | nil => intro _; rfl
    | cons i ks ih =>
      intro hk
      rw [List.flatMap_cons, List.flatMap_append, List.flatMap_cons, ih fun j hj => hk j (List.mem_cons_of_mem _ hj)]
      have hi := hk i List.mem_cons_self
      unfold YbF rt3 Xo
      rw [if_pos (by rw [h.b]; exact hi), if_pos (by rw [h.s]; exact hi)]
      simp
  unfold X0 clT
  rw [List.flatMap_cons, e _ fun i hi => List.mem_range.1 hi]
  rfl
theorem YeK {c : List Clm} (h : ∀ x ∈ c, J7 x) : WB c = X4 c c.length := by
  unfold WB X4
  rw [List.take_length]
  induction c with
  | nil => rfl
  | cons x c ih =>
    rw [List.flatMap_cons, List.flatMap_append, List.flatMap_cons, YeU (h x (by simp)), ih fun y hy => h y (by simp [hy])]
theorem YaB {c : List Clm} {k : Nat} {x : Clm} (h : c[k]? = some x) : X4 c (k + 1) = X4 c k ++ clT x x.routes.length := by
  unfold X4
  rw [List.take_add_one, h, Option.toList_some, List.flatMap_append]
  simp
theorem Yda (x : Clm) (k : Nat) : clT x (k + 1) = clT x k ++ rt3 x k := by
  unfold clT
  rw [List.range_succ, List.flatMap_append, List.append_assoc]
  simp
theorem JG {l : List Int} {b : Int} (hb : b < 10000) (h : ∀ x ∈ l, 0 ≤ x ∧ x ≤ b) : ∀ n ∈ l, 0 ≤ n ∧ n < 10000 := fun n hn => by have := h n hn; omega
theorem YaH {a b : Int} (ha : 0 ≤ a ∧ a < 10000) (hb : 0 ≤ b ∧ b < 10000) : ∀ n ∈ [a, b], 0 ≤ n ∧ n < 10000 := fun n hn => by
  simp only [List.mem_cons, List.not_mem_nil, or_false] at hn
  rcases hn with rfl | rfl
  · exact ha
  · exact hb
theorem YaI {x : Clm} (h : J7 x) {i : Nat} (hi : i < x.routes.length) : (0 ≤ x.bounds.getD i 0 ∧ x.bounds.getD i 0 < 10000) ∧ (0 ≤ x.worst.getD i 0 ∧ x.worst.getD i 0 < 10000) := by
  have h1 := h.bs _ (VR (l := x.bounds) (i := i) (by rw [h.b]; exact hi))
  have h2 := h.ws _ (VR (l := x.worst) (i := i) (by rw [h.w]; exact hi))
  omega
theorem Yep {x : Clm} (h : J7 x) {i : Nat} (hi : i < x.routes.length) : (rt3 x i).length ≤ 500 := by
  have h1 := h.rs i hi
  have h2 := h.ls i hi
  have h3 := YaI h hi
  have k1 := XY (w := wordR) (JG (by decide) h1.2.2)
  have k2 := XY (w := wordB) (YaH h3.1 h3.2)
  have k3 := XY (w := wordL) (JG (by decide) h2.2.2)
  have e1 : wordR.length = 5 := rfl
  have e2 : wordB.length = 5 := rfl
  have e3 : wordL.length = 5 := rfl
  simp only [List.length_cons, List.length_nil] at k2
  unfold rt3
  rw [List.length_append, List.length_append]
  omega
theorem Ybb {x : Clm} (h : J7 x) : ∀ k, k ≤ x.routes.length → (clT x k).length ≤ 20 + 500 * k
  | 0, _ => by
    have k1 := XY (w := wordF) (l := [x.flow]) fun n hn => by have := h.f; rw [List.mem_singleton.1 hn]; omega
    have e1 : wordF.length = 4 := rfl
    simp only [List.length_cons, List.length_nil] at k1
    unfold clT
    simp only [List.range_zero, List.flatMap_nil, List.append_nil]
    omega
  | k + 1, hk => by
    have ih := Ybb h k (by omega)
    have h1 := Yep h (i := k) (by omega)
    rw [Yda, List.length_append]
    omega
theorem YaC {c : List Clm} (h : ∀ x ∈ c, J7 x) : ∀ k, k ≤ c.length → (X4 c k).length ≤ 1100 * k
  | 0, _ => by unfold X4; simp
  | k + 1, hk => by
    have ih := YaC h k (by omega)
    obtain ⟨x, hx⟩ : ∃ x, c[k]? = some x := ⟨_, List.getElem?_eq_getElem (by omega)⟩
    have hf := h x (List.mem_of_getElem? hx)
    have h1 := Ybb hf x.routes.length (Nat.le_refl _)
    have := hf.n
    rw [YaB hx, List.length_append]
    omega
theorem ClM.In.here {c : ClM} {B : Nat} {w0 w : World} {H : List HP} (h : c.In B w0 H) (hw : St B w0 H w) : c.In w.heap.size w [] :=
  ⟨h.rt.here hw, fun r hr => (h.rw_ r hr).here hw, h.bd.here hw, h.ws.here hw, h.st.here hw, fun r hr => (h.sw r hr).here hw, h.ln, h.rl, h.sl⟩
theorem CIn.here {c : List ClM} {A : Option Addr} {B : Nat} {w0 w : World} {H : List HP} (h : CIn B w0 H A c) (hw : St B w0 H w) : CIn w.heap.size w [] A c := ⟨h.rd.here hw, fun x hx => (h.x x hx).here hw, h.ln⟩
structure PrM where
  i : Nat
  A : Option Addr
  cap : Nat
set_option maxRecDepth 10000 in
set_option maxHeartbeats 8000000 in
theorem YeL (c : List ClM) {A : Option Addr} {cap B : Nat} {w0 : World} {w : World} (ht : TabsB B w0) (hc : CIn B w0 [] A c) (hw : St B w0 [] w) :
    Calls Tryz.prog 25 [.slice A c.length cap].toArray w (Post B w0 fun v _ => v = .tuple #[strV (Vz (c.map ClM.clm)).1, .int .i64 (Vz (c.map ClM.clm)).2]) := by
  refine Yc Tryz.func25 Tryz.ntmps25 rfl rfl hw ?_
  have p1 := fun {H' : List HP} {w : World} (hc : CIn B w0 H' A c) (hw : St B w0 H' w) => QP c (cap := cap) hc hw
  have hcr := hc.rd
  cases hf : J9 (c.map ClM.clm) with
  | false =>
    rw [hf] at p1
    repeat' (first | ((first | apply Ya en75 | apply Yb en75); exact za; exact rfl; exact fun _ hw => (p1 (hc.mono zk) hw)) | apply (zs1 ?_) | apply (zs2 ?_) | (apply zg20; refine zs48 ?_) | apply (zs65 ?_) | apply (zs68 ?_) | apply (zs69 ?_) | apply (zs70 ?_) | (apply zg27; refine zs71 ?_) | apply (zs74 ?_) | apply (zs77 ?_) | fail)
    apply Yt; exact rfl; exact rfl; exact rfl
    rw [Vz, if_pos hf]
  | true =>
    rw [hf] at p1
    obtain ⟨h16, hfd⟩ := Ydc hf
    rw [List.length_map] at h16
    repeat' (first | ((first | apply Ya en75 | apply Yb en75); exact za; exact rfl; exact fun _ hw => (p1 (hc.mono zk) hw)) | apply (zs1 ?_) | apply (zs2 ?_) | (apply zg4; refine zs9 ?_) | (apply zg20; refine zs47 ?_) | (apply zg24; (refine zs54 ?_; intro _)) | apply (zs65 ?_) | apply (zs68 ?_) | apply (zs69 ?_) | apply (zs70 ?_) | (apply zg27; refine zs72 ?_) | apply (zs73 ?_) | apply (zs76 ?_) | fail)
    rename_i gb
    refine Yk (fun z : PrM => [(14, .int .i64 (z.i : Nat)), (13, .int .i64 c.length), (12, .slice A c.length cap), (4, .pointer (some ⟨gb, 0, none⟩))]) (fun z => bdP gb (if z.i = 0 then .pointer none else .pointer (some ⟨gb, 0, none⟩)) z.A z.cap (X4 (c.map ClM.clm) z.i) []) (fun z => z.i ≤ c.length) (fun z => c.length - z.i) ⟨0, none, 0⟩ (Nat.zero_le _) ?_ ?_ ?_
    · exact zu
    · intro w hw
      have h5 : St B w0 [blk gb (.cells (Value.agg #[.pointer none, .slice none 0 0]).cells 132 (0, 0))] w := hw
      exact (h5.nilSlice 5 1).perm (.swap _ _ _)
    rintro ⟨k, A1, cap1⟩ hk K hK
    dsimp only at hk ⊢
    have htl := YaC hfd k (by rw [List.length_map]; exact hk)
    by_cases hlt : k < c.length
    rotate_left
    · obtain rfl : k = c.length := by omega
      obtain ⟨p, hp⟩ : ∃ p, (if c.length = 0 then Value.pointer none else .pointer (some ⟨gb, 0, none⟩)) = p := ⟨_, rfl⟩
      have hp2 : p = .pointer none ∨ p = .pointer (some ⟨gb, 0, none⟩) := by rw [← hp]; split <;> simp
      rw [hp]
      clear hK
      repeat' (first | (apply (zs17 ?_ ?_) <;> intro _ <;> try (exfalso; omega)) | apply (zs65 ?_) | apply (zs68 ?_) | apply (zs69 ?_) | apply (zs70 ?_) | (apply zg27; refine zs72 ?_) | apply (zs75 ?_) | apply (zs80 ?_) | apply (zs81 ?_) | fail)
      apply Yn _ en78
      exact za
      exact rfl
      exact fun _ hw => (W0 (l := X4 (c.map ClM.clm) c.length) hp2 (hw))
      rintro _ _ ⟨rfl, rfl⟩
      repeat' (first | apply (zs2 ?_) | apply (zs65 ?_) | apply (zs68 ?_) | apply (zs74 ?_) | fail)
      apply Yt; exact rfl; exact rfl; exact rfl
      rw [Vz, if_neg (by rw [hf]; decide), YeK hfd, List.length_map]
    obtain ⟨x, hx⟩ : ∃ x, c[k]? = some x := ⟨_, List.getElem?_eq_getElem hlt⟩
    have hxm := List.mem_of_getElem? hx
    have hxd := hfd x.clm (List.mem_map_of_mem hxm)
    have hxi := hc.x x hxm
    obtain ⟨p, hp⟩ : ∃ p, (if k = 0 then Value.pointer none else .pointer (some ⟨gb, 0, none⟩)) = p := ⟨_, rfl⟩
    have hp2 : p = .pointer none ∨ p = .pointer (some ⟨gb, 0, none⟩) := by rw [← hp]; split <;> simp
    rw [hp]
    unfold bdP
    repeat' (first | (apply zg2; refine zs6 ?_) | (apply zg3; first | refine zs7 ?_ | refine zs61 ?_) | (apply zg5; refine zs57 ?_) | (apply (zs17 ?_ ?_) <;> intro _ <;> try (exfalso; omega)) | (apply zg22; refine zs51 ?_) | (apply zg24; (refine zs54 ?_; intro _)) | (apply zg26; (refine zs56 ?_; intro _)) | apply (zs65 ?_) | apply (zs68 ?_) | apply (zs69 ?_) | apply (zs70 ?_) | (apply zg27; refine zs71 ?_) | apply (zs73 ?_) | apply (zs76 ?_) | fail)
    rename_i gx gl
    have hlen1 : x.clm.routes.length = x.rs.length := by show (x.rs.map (·.xs)).length = _; rw [List.length_map]
    have hxn := hxd.n
    rw [hlen1] at hxn
    have hbl : x.bs.length = x.rs.length := by have := hxd.b; rw [hlen1] at this; exact this
    have hwl : x.ws.length = x.rs.length := by have := hxd.w; rw [hlen1] at this; exact this
    have hsl : x.ss.length = x.rs.length := by have := hxd.s; rw [hlen1] at this; rw [← this]; show _ = (x.ss.map (·.xs)).length; rw [List.length_map]
    have hrl : ∀ X, Rd B w0 (blk gl (.cells #[.int .i64 x.flow] 3 (0, 0)) :: X) (some ⟨gl, 0, none⟩) ([x.flow].flatMap numF) := fun X => Rd.blk (cs := #[.int .i64 x.flow]) (.head _)
    have hfl : ∀ n ∈ [x.flow], 0 ≤ n ∧ n < 10000 := fun n hn => by
      have := hxd.f
      rw [List.mem_singleton.1 hn]
      exact ⟨this.1, by have := this.2; show x.clm.flow < _; omega⟩
    have hfl2 := XY (w := wordF) hfl
    have e1 : wordF.length = 4 := rfl
    simp only [List.length_cons, List.length_nil] at hfl2
    first | apply Ya en77 | apply Yb en77
    exact za
    exact rfl
    exact fun _ hw => (JI wordF [x.flow] hfl (by show 1 ≤ 100; decide) (by decide) ht (hrl _) hw)
    apply YaF (bdP gb p A1 cap1 (X4 (c.map ClM.clm) k) [clA gx x])
    · unfold bdP
      exact zk
    apply Yn _ en76
    exact za
    exact rfl
    exact fun _ hw => (JJ gb p hp2 A1 cap1 (X4 (c.map ClM.clm) k) (Xo wordF [x.flow]) (by omega) (hw))
    rintro _ _ ⟨rfl, A2, cap2, rfl⟩
    unfold bdP
    repeat' (first | apply (zs1 ?_) | (apply zg2; refine zs6 ?_) | (apply zg3; refine zs7 ?_) | (apply zg4; refine zs9 ?_) | apply (zs65 ?_) | apply (zs68 ?_) | apply (zs69 ?_) | apply (zs70 ?_) | apply (zs73 ?_) | fail)
    refine Yk (fun z : PrM => [(26, .int .i64 (z.i : Nat)), (25, .int .i64 x.rs.length), (24, .slice x.rA x.rs.length x.rcap), (6, .pointer (some ⟨gx, 0, none⟩)), (14, .int .i64 (k : Nat)), (13, .int .i64 c.length), (12, .slice A c.length cap), (4, .pointer (some ⟨gb, 0, none⟩))]) (fun z => bdP gb (.pointer (some ⟨gb, 0, none⟩)) z.A z.cap (X4 (c.map ClM.clm) k ++ clT x.clm z.i) [clA gx x]) (fun z => z.i ≤ x.rs.length) (fun z => x.rs.length - z.i) ⟨0, A2, cap2⟩ (Nat.zero_le _) ?_ ?_ ?_
    · exact zu
    · have e0 : clT x.clm 0 = Xo wordF [x.flow] := by unfold clT; simp; rfl
      rw [e0]
      unfold bdP
      exact fun w hw => hw
    rintro ⟨j, A3, cap3⟩ hj K2 hK2
    dsimp only at hj ⊢
    have hcl2 := Ybb hxd j (by rw [hlen1]; exact hj)
    unfold bdP
    by_cases hjl : j < x.rs.length
    rotate_left
    · obtain rfl : j = x.rs.length := by omega
      clear hK2
      have hst : X4 (c.map ClM.clm) (k + 1) = X4 (c.map ClM.clm) k ++ clT x.clm x.rs.length := by
        rw [YaB (x := x.clm) (by rw [List.getElem?_map, hx]; rfl), hlen1]
      rw [← hst]
      repeat' (first | apply (zs1 ?_) | (apply (zs17 ?_ ?_) <;> intro _ <;> try (exfalso; omega)) | (apply zg13; refine zs30 ?_) | apply (zs65 ?_) | apply (zs68 ?_) | apply (zs69 ?_) | apply (zs70 ?_) | (apply zg27; refine zs72 ?_) | apply (zs75 ?_) | apply (zs79 ?_) | apply (zs80 ?_) | apply (zs81 ?_) | fail)
      apply hK ⟨k + 1, A3, cap3⟩
      · show k + 1 ≤ c.length
        omega
      · dsimp only; omega
      · exact zu
      · dsimp only
        rw [if_neg (Nat.succ_ne_zero k)]
        unfold bdP
        exact zk
    obtain ⟨r, hr⟩ : ∃ r, x.rs[j]? = some r := ⟨_, List.getElem?_eq_getElem hjl⟩
    obtain ⟨z, hz⟩ : ∃ z, x.ss[j]? = some z := ⟨_, List.getElem?_eq_getElem (by omega)⟩
    obtain ⟨bv, hbv⟩ : ∃ b, x.bs[j]? = some b := ⟨_, List.getElem?_eq_getElem (by omega)⟩
    obtain ⟨wv, hwv⟩ : ∃ b, x.ws[j]? = some b := ⟨_, List.getElem?_eq_getElem (by omega)⟩
    have hrm := List.mem_of_getElem? hr
    have hzm := List.mem_of_getElem? hz
    have hjc : j < x.clm.routes.length := by omega
    have g1 : rtAt x.clm.routes j = r.xs := VS hr
    have g2 : rtAt x.clm.slots j = z.xs := VS hz
    have g3 : x.clm.bounds.getD j 0 = bv := by show x.bs.getD j 0 = bv; rw [List.getD_eq_getElem?_getD, hbv]; rfl
    have g4 : x.clm.worst.getD j 0 = wv := by show x.ws.getD j 0 = wv; rw [List.getD_eq_getElem?_getD, hwv]; rfl
    have n1 := hxd.rs j hjc
    have n2 := hxd.ls j hjc
    have n3 := YaI hxd hjc
    have hr3 := Yep hxd hjc
    have hst := Yda x.clm j
    unfold rt3 at hr3 hst
    rw [g1, g2, g3, g4] at hr3 hst
    rw [g1] at n1
    rw [g2] at n2
    rw [g3, g4] at n3
    have m1 := JG (b := 31) (by decide) n1.2.2
    have m2 := JG (b := 511) (by decide) n2.2.2
    have m3 := YaH n3.1 n3.2
    have l1 := fun {H' : List HP} {w : World} (hr : Rd B w0 H' r.A (r.xs.flatMap numF)) (hw : St B w0 H' w) => JI wordR r.xs m1 (by omega) (by decide) (cap := r.cap) ht hr hw
    have l2 := fun {g : Nat} {cap : Nat} {H' : List HP} {w : World} (hm : blk g (.cells #[.int .i64 bv, .int .i64 wv] 3 (0, 0)) ∈ H') (hw : St B w0 H' w) => JI wordB [bv, wv] m3 (by show 2 ≤ 100; decide) (by decide) (A := some ⟨g, 0, none⟩) (cap := cap) ht (show Rd B w0 H' _ ([bv, wv].flatMap numF) from Rd.blk hm) hw
    have l3 := fun {H' : List HP} {w : World} (hr : Rd B w0 H' z.A (z.xs.flatMap numF)) (hw : St B w0 H' w) => JI wordL z.xs m2 (by omega) (by decide) (cap := z.cap) ht hr hw
    obtain ⟨s1, hs1⟩ : ∃ s, Xo wordR r.xs = s := ⟨_, rfl⟩
    obtain ⟨s2, hs2⟩ : ∃ s, Xo wordB [bv, wv] = s := ⟨_, rfl⟩
    obtain ⟨s3, hs3⟩ : ∃ s, Xo wordL z.xs = s := ⟨_, rfl⟩
    rw [hs1] at l1 hr3 hst
    rw [hs2] at l2 hr3 hst
    rw [hs3] at l3 hr3 hst
    rw [List.length_append, List.length_append] at hr3
    have hrr := hxi.rt
    have hbr := hxi.bd
    have hwr := hxi.ws
    have hsr := hxi.st
    repeat' (first | apply (zs1 ?_) | apply (zs2 ?_) | (apply zg3; refine zs60 ?_) | (apply zg5; refine zs57 ?_) | (apply (zs17 ?_ ?_) <;> intro _ <;> try (exfalso; omega)) | apply (zs65 ?_) | apply (zs68 ?_) | apply (zs69 ?_) | apply (zs70 ?_) | (apply zg27; refine zs71 ?_) | apply (zs73 ?_) | apply (zs76 ?_) | fail)
    apply UI (.n1 0 (.n1 2 (.n1 3 (.n1 4 (.n1 5 (.n1 6 (.n1 7 (.n1 8 (.n1 9 (.n1 10 (.n1 11 (.n1 15 (.n1 16 (.n1 17 (.n1 18 (.n1 19 (.n2 1 (.n1 12 (.n1 13 (.n1 14 (.n1 20 (.n1 21 .done))))) 12 (.n1 1 (.n1 13 (.n1 14 (.n1 20 (.n1 21 .done)))))))))))))))))))))) [22] [false, false, true]
    kernel_rfl
    kernel_rfl
    exact zy
    (simp only [Yj, nthO]; rfl)
    repeat' (first | apply (zs1 ?_) | (apply zg2; refine zs6 ?_) | (apply zg3; first | refine zs7 ?_ | refine zs60 ?_) | (apply zg5; refine zs57 ?_) | (apply zg26; (refine zs56 ?_; intro _)) | apply (zs65 ?_) | (apply Yo; exact zp) | apply (zs87 ?_) | (apply Yl; (repeat (first | with_reducible exact Yh | (with_reducible apply Yg; (repeat (first | with_reducible exact Yf | with_reducible apply Ye)))))) | apply (zs90 ?_) | apply (zs91 ?_ ?_) | (apply XL; (repeat (first | with_reducible exact Yh | (with_reducible apply Yg; (repeat (first | with_reducible exact Yf | with_reducible apply Ye)))))) | fail)
    all_goals (
      first | apply Ya en77 | apply Yb en77
      exact za
      exact rfl
      exact fun _ hw => (l1 ((hxi.rw_ r hrm).mono zk) hw)
      repeat' (first | (apply zg26; (refine zs56 ?_; intro _)) | apply (zs65 ?_) | (apply Yo; exact zp) | apply (zs87 ?_) | (apply Yl; (repeat (first | with_reducible exact Yh | (with_reducible apply Yg; (repeat (first | with_reducible exact Yf | with_reducible apply Ye)))))) | apply (zs90 ?_) | (apply XL; (repeat (first | with_reducible exact Yh | (with_reducible apply Yg; (repeat (first | with_reducible exact Yf | with_reducible apply Ye)))))) | fail)
      first | apply Ya en77 | apply Yb en77
      exact za
      exact rfl
      exact fun _ hw => (l2 zm hw)
      repeat' (first | (apply Vk s1 s2; exact rfl; exact rfl; exact rfl; omega) | apply (zs65 ?_) | (apply Yo; exact zp) | apply (zs87 ?_) | (apply Yl; (repeat (first | with_reducible exact Yh | (with_reducible apply Yg; (repeat (first | with_reducible exact Yf | with_reducible apply Ye)))))) | apply (zs90 ?_) | (apply XL; (repeat (first | with_reducible exact Yh | (with_reducible apply Yg; (repeat (first | with_reducible exact Yf | with_reducible apply Ye)))))) | fail)
      first | apply Ya en77 | apply Yb en77
      exact za
      exact rfl
      exact fun _ hw => (l3 ((hxi.sw z hzm).mono zk) hw)
      repeat' (first | (apply Vk (s1 ++ s2) s3; exact rfl; exact rfl; exact rfl; (rw [List.length_append]; omega)) | apply (zs65 ?_) | (apply Yo; exact zp) | (apply Yl; (repeat (first | with_reducible exact Yh | (with_reducible apply Yg; (repeat (first | with_reducible exact Yf | with_reducible apply Ye)))))) | (apply UE; exact zp) | apply (zs90 ?_) | (apply XL; (repeat (first | with_reducible exact Yh | (with_reducible apply Yg; (repeat (first | with_reducible exact Yf | with_reducible apply Ye)))))) | apply (zs93 ?_) | fail)
      apply YaF (bdP gb (.pointer (some ⟨gb, 0, none⟩)) A3 cap3 (X4 (c.map ClM.clm) k ++ clT x.clm j) [clA gx x])
      · unfold bdP
        exact zk
      apply Yn _ en76
      exact za
      exact rfl
      exact fun _ hw => (JJ gb _ (.inr rfl) A3 cap3 (X4 (c.map ClM.clm) k ++ clT x.clm j) (s1 ++ s2 ++ s3) (by rw [List.length_append, List.length_append, List.length_append]; omega) (hw))
      rintro _ _ ⟨rfl, A4, cap4, rfl⟩
      repeat' (first | apply (zs1 ?_) | (apply zg13; refine zs30 ?_) | apply (zs65 ?_) | apply (zs68 ?_) | apply (zs70 ?_) | apply (zs79 ?_) | apply (zs94 ?_) | fail)
      apply hK2 ⟨j + 1, A4, cap4⟩
      · show j + 1 ≤ x.rs.length
        omega
      · dsimp only; omega
      · exact zu
      · dsimp only
        intro w hw
        rw [hst, show X4 (c.map ClM.clm) k ++ (clT x.clm j ++ (s1 ++ s2 ++ s3)) = X4 (c.map ClM.clm) k ++ clT x.clm j ++ (s1 ++ s2 ++ s3) from (List.append_assoc _ _ _).symm]
        exact hw)
theorem Yb6 (c : List ClM) {A : Option Addr} {cap B : Nat} {w0 : World} {H : List HP} {w : World} (ht : TabsB B w0) (hc : CIn B w0 H A c) (hw : St B w0 H w) :
    Calls Tryz.prog 25 [.slice A c.length cap].toArray w (Post B w0 fun v K => v = .tuple #[strV (Vz (c.map ClM.clm)).1, .int .i64 (Vz (c.map ClM.clm)).2] ∧ K = H) :=
  W5 hw (YeL c (ht.here hw) (hc.here hw) (St.start w))
end Go.Proofs.YtmalhidldgfeoaaGreatDoor
namespace Go.Eng
open Go.RowKit
section
variable {P : Program} {B : Nat} {w0 : World} {Q : Exit → Act → World → Prop} {env : Env} {H : List HP} {m : Mode} {n : Shp} {ops : Array Oper} {rest : List Oper} {d : Nat} {ty : TypeId} {pos : String} {after : Array Edge}
theorem Yx {t : Nat} {x y : Operand} {u v z : Value} (hx : evo env x = some u) (hy : evo env y = some v) (hn : Nat.ble (d + 1) n.k = true) (hr : ∀ w, (Instr.index t u v).run P w = .ok z w) (h : VL P m n B w0 ops Q rest ((d, z) :: env) H) :
    VL P m n B w0 ops Q (⟨some d, .index t x y, ty, pos, after, none⟩ :: rest) env H := by
  refine Yv rfl rfl hn rfl (fun a w ha hw => ?_) h
  simp [execOp, ha.eval hx, ha.eval hy, hr]
theorem Yz {t f : Nat} {x : Operand} {u z : Value} (hx : evo env x = some u) (hn : Nat.ble (d + 1) n.k = true) (hr : ∀ w, (Instr.field t u f).run P w = .ok z w) (h : VL P m n B w0 ops Q rest ((d, z) :: env) H) :
    VL P m n B w0 ops Q (⟨some d, .field t x f, ty, pos, after, none⟩ :: rest) env H := by
  refine Yv rfl rfl hn rfl (fun a w ha hw => ?_) h
  simp [execOp, ha.eval hx, hr]
end
end Go.Eng
namespace Go.Proofs.YtmalhidldgfeoaaGreatDoor
open Go.RowKit Go.Eng Go.Nw Go.Rt
def YfS (k : Nat) : Value := .agg #[strV (Xq k), .int .i64 (Ji k : Nat), .int .i64 (Vh k : Nat), .int .i64 (Y4 k : Nat)]
def Z5 : Value := .agg #[.string ⟨#[102, 108, 111, 119]⟩, .int .i64 1, .int .i64 1, .int .i64 3, .string ⟨#[114, 111, 117, 116, 101]⟩, .int .i64 2, .int .i64 9, .int .i64 0, .string ⟨#[98, 111, 117, 110, 100]⟩, .int .i64 2, .int .i64 2, .int .i64 1, .string ⟨#[115, 108, 111, 116, 115]⟩, .int .i64 1, .int .i64 64, .int .i64 2]
theorem Wz {B : Nat} {w0 : World} {H : List HP} {w : World} (hw : St B w0 H w) :
    Calls Tryz.prog 142 ([] : List Value).toArray w (Post B w0 fun v K => v = Z5 ∧ K = H) := by
  refine Yc Tryz.func142 Tryz.ntmps142 rfl rfl hw ?_
  repeat' (first | (apply zg22; refine zs51 ?_) | (apply zg24; (refine zs54 ?_; intro _)) | (apply zg25; refine zs55 ?_) | apply (zs65 ?_) | apply (zs68 ?_) | apply (zs69 ?_) | apply (zs70 ?_) | apply (zs74 ?_) | fail)
  (apply YcU T (H2 := H); exact rfl; exact rfl; exact zm; exact rfl; exact rfl; exact zk; exact ⟨rfl, rfl⟩)
theorem YeQ (w : World) : (Instr.index 213 Z5 (.int .i64 0)).run Tryz.prog w = .ok (.agg #[.string ⟨#[102, 108, 111, 119]⟩, .int .i64 1, .int .i64 1, .int .i64 3]) w := by kernel_rfl
theorem YeG (w : World) : (Instr.index 213 Z5 (.int .i64 1)).run Tryz.prog w = .ok (.agg #[.string ⟨#[114, 111, 117, 116, 101]⟩, .int .i64 2, .int .i64 9, .int .i64 0]) w := by kernel_rfl
theorem Yfi (w : World) : (Instr.index 213 Z5 (.int .i64 2)).run Tryz.prog w = .ok (.agg #[.string ⟨#[98, 111, 117, 110, 100]⟩, .int .i64 2, .int .i64 2, .int .i64 1]) w := by kernel_rfl
theorem YeX (w : World) : (Instr.index 213 Z5 (.int .i64 3)).run Tryz.prog w = .ok (.agg #[.string ⟨#[115, 108, 111, 116, 115]⟩, .int .i64 1, .int .i64 64, .int .i64 2]) w := by kernel_rfl
theorem Y0 {k : Nat} (hk : k < 4) (w : World) : (Instr.index 213 Z5 (.int .i64 (k : Nat))).run Tryz.prog w = .ok (YfS k) w := by
  match k, hk with
  | 0, _ => exact YeQ w
  | 1, _ => exact YeG w
  | 2, _ => exact Yfi w
  | 3, _ => exact YeX w
theorem Q6 (w : World) : (Instr.field 212 (.agg #[.string ⟨#[102, 108, 111, 119]⟩, .int .i64 1, .int .i64 1, .int .i64 3]) 3).run Tryz.prog w = .ok (.int .i64 3) w := by kernel_rfl
theorem Q7 (w : World) : (Instr.field 212 (.agg #[.string ⟨#[114, 111, 117, 116, 101]⟩, .int .i64 2, .int .i64 9, .int .i64 0]) 3).run Tryz.prog w = .ok (.int .i64 0) w := by kernel_rfl
theorem Yab (w : World) : (Instr.field 212 (.agg #[.string ⟨#[98, 111, 117, 110, 100]⟩, .int .i64 2, .int .i64 2, .int .i64 1]) 3).run Tryz.prog w = .ok (.int .i64 1) w := by kernel_rfl
theorem QZ (w : World) : (Instr.field 212 (.agg #[.string ⟨#[115, 108, 111, 116, 115]⟩, .int .i64 1, .int .i64 64, .int .i64 2]) 3).run Tryz.prog w = .ok (.int .i64 2) w := by kernel_rfl
theorem YA {k : Nat} (hk : k < 4) (w : World) : (Instr.field 212 (YfS k) 3).run Tryz.prog w = .ok (.int .i64 (Y4 k : Nat)) w := by
  match k, hk with
  | 0, _ => exact Q6 w
  | 1, _ => exact Q7 w
  | 2, _ => exact Yab w
  | 3, _ => exact QZ w
abbrev rdrA (g : Nat) (A : Option Addr) (cap : Nat) (C : List ClM) (last : Nat) : HP := blk g (.cells #[.slice A C.length cap, .int .i64 (last : Nat)] 144 (0, 0))
set_option maxRecDepth 10000 in
set_option maxHeartbeats 4000000 in
theorem YeC (g : Nat) (A : Option Addr) (cap : Nat) (C : List ClM) (last k : Nat) (hk : k < 4) (hl3 : last < 4) (hC : C.length ≤ 1000000) (hCr : ∀ c ∈ C, c.rs.length ≤ 1000000) {B : Nat} {w0 : World} {H : List HP} {w : World} (hm : rdrA g A cap C last ∈ H) (hr : Rd B w0 H A (C.flatMap clF)) (hw : St B w0 H w) :
    Calls Tryz.prog 144 [.pointer (some ⟨g, 0, none⟩), .int .i64 (k : Nat)].toArray w (Post B w0 fun v K => v = .bool (Zu ⟨C.map ClM.clm, last⟩ k) ∧ K = H) := by
  refine Yc Tryz.func144 Tryz.ntmps144 rfl rfl hw ?_
  have p1 := fun {w : World} (hw : St B w0 H w) => Wz hw
  obtain ⟨F, hF⟩ : ∃ F, Zu ⟨C.map ClM.clm, last⟩ k = F := ⟨_, rfl⟩
  rw [hF]
  have hFe : F = (decide (last = Y4 k) || (decide (k = 1) && decide (last = 3) && decide (0 < C.length) && decide ((WD (C.map ClM.clm)).routes.length < 2))) := by
    rw [← hF]; unfold Zu; simp only [List.length_map]
  clear hF
  cases hsec : (decide (k = 1) && decide (last = 3) && decide (0 < C.length) && decide ((WD (C.map ClM.clm)).routes.length < 2)) with
  | true =>
    rw [hsec, Bool.or_true] at hFe
    subst hFe
    simp only [Bool.and_eq_true, decide_eq_true_eq] at hsec
    obtain ⟨⟨⟨h1, h2⟩, h3⟩, h4⟩ := hsec
    obtain ⟨x, hx⟩ : ∃ x, C[C.length - 1]? = some x := ⟨_, List.getElem?_eq_getElem (by omega)⟩
    have hx2 : C[((C.length : Int) - 1).toNat]? = some x := by rw [show ((C.length : Int) - 1).toNat = C.length - 1 by omega]; exact hx
    have h5 : x.rs.length < 2 := by
      unfold WD at h4
      rw [List.length_map, X8 hx] at h4
      have : x.clm.routes.length = x.rs.length := by show (x.rs.map (·.xs)).length = _; rw [List.length_map]
      omega
    by_cases hb : last = Y4 k
    all_goals (
      repeat' (first | apply (zs1 ?_) | apply (zs2 ?_) | (apply zg1; refine zs4 ?_) | apply (zs5 ?_) | (apply zg2; first | refine zs6 ?_ | refine zs58 ?_) | (apply zg3; first | refine zs7 ?_ | refine zs59 ?_) | (apply zg4; refine zs9 ?_) | (apply zg5; refine zs57 ?_) | (apply zg6; refine zs11 ?_) | (apply zg7; (refine zs15 ?_ ?_ <;> intro _ <;> try (exfalso; omega))) | (apply (zs17 ?_ ?_) <;> intro _ <;> try (exfalso; omega)) | (apply (zs19 ?_ ?_) <;> intro _ <;> try (exfalso; omega)) | (apply zg14; refine zs31 ?_) | apply (zs65 ?_) | apply (zs66 ?_) | apply (zs68 ?_) | apply (zs69 ?_) | apply (zs70 ?_) | (apply zg28; refine zs83 ?_) | fail)
      apply Yw [0, 1, 2, 3, 5, 4, 6, 7, 8, 9, 10, 11, 12] []
      kernel_rfl
      kernel_rfl
      (simp only [Yj, nthO]; rfl)
      exact rfl
      repeat' (first | apply (zs1 ?_) | apply (zs5 ?_) | (apply zg2; refine zs6 ?_) | (apply zg3; refine zs7 ?_) | apply (zs87 ?_) | fail)
      first | apply Ya Zt | apply Yb Zt
      exact za
      exact rfl
      exact fun _ hw => (p1 hw)
      repeat' (first | (apply Yx; exact rfl; exact rfl; exact rfl; exact Y0 hk) | (apply Yz; exact rfl; exact rfl; exact YA hk) | apply (zs1 ?_) | apply (zs2 ?_) | (apply zg1; first | refine zs3 ?_ | refine zs4 ?_) | (apply zg6; first | refine zs11 ?_ | refine zs12 ?_) | (apply zg7; (refine zs15 ?_ ?_ <;> intro _ <;> try (exfalso; omega))) | apply (zs65 ?_) | (apply Yo; exact zp) | apply (zs68 ?_) | apply (zs74 ?_) | (apply Yl; (repeat (first | with_reducible exact Yh | (with_reducible apply Yg; (repeat (first | with_reducible exact Yf | with_reducible apply Ye)))))) | apply (zs93 ?_) | apply (zs94 ?_) | fail)
      · show Perm H (H ++ [])
        rw [List.append_nil]; exact Perm.refl _
      repeat' (first | (apply Yx; exact rfl; exact rfl; exact rfl; exact Y0 hk) | (apply Yz; exact rfl; exact rfl; exact YA hk) | fail)
      apply Yd; exact rfl; exact rfl; exact ⟨rfl, rfl⟩)
  | false =>
    rw [hsec, Bool.or_false] at hFe
    by_cases h1 : k = 1
    rotate_left
    · by_cases hb : last = Y4 k
      · rw [decide_eq_true hb] at hFe
        subst hFe
        repeat' (first | apply (zs1 ?_) | apply (zs2 ?_) | (apply zg1; refine zs3 ?_) | (apply zg6; refine zs12 ?_) | (apply zg7; (refine zs15 ?_ ?_ <;> intro _ <;> try (exfalso; omega))) | apply (zs65 ?_) | apply (zs66 ?_) | apply (zs68 ?_) | apply (zs69 ?_) | apply (zs70 ?_) | (apply zg28; refine zs83 ?_) | fail)
        apply Yw [0, 1, 2, 3, 5, 4, 6, 7, 8, 9, 10, 11, 12] []
        kernel_rfl
        kernel_rfl
        (simp only [Yj, nthO]; rfl)
        exact rfl
        repeat' (first | apply (zs1 ?_) | apply (zs5 ?_) | (apply zg2; refine zs6 ?_) | (apply zg3; refine zs7 ?_) | apply (zs87 ?_) | fail)
        first | apply Ya Zt | apply Yb Zt
        exact za
        exact rfl
        exact fun _ hw => (p1 hw)
        repeat' (first | (apply Yx; exact rfl; exact rfl; exact rfl; exact Y0 hk) | (apply Yz; exact rfl; exact rfl; exact YA hk) | apply (zs1 ?_) | apply (zs2 ?_) | (apply zg1; refine zs3 ?_) | (apply zg6; refine zs11 ?_) | (apply zg7; (refine zs15 ?_ ?_ <;> intro _ <;> try (exfalso; omega))) | apply (zs65 ?_) | (apply Yo; exact zp) | apply (zs68 ?_) | apply (zs74 ?_) | (apply Yl; (repeat (first | with_reducible exact Yh | (with_reducible apply Yg; (repeat (first | with_reducible exact Yf | with_reducible apply Ye)))))) | apply (zs93 ?_) | apply (zs94 ?_) | fail)
        · show Perm H (H ++ [])
          rw [List.append_nil]; exact Perm.refl _
        repeat' (first | (apply Yx; exact rfl; exact rfl; exact rfl; exact Y0 hk) | (apply Yz; exact rfl; exact rfl; exact YA hk) | fail)
        apply Yd; exact rfl; exact rfl; exact ⟨rfl, rfl⟩
      · rw [decide_eq_false hb] at hFe
        subst hFe
        repeat' (first | apply (zs1 ?_) | apply (zs2 ?_) | (apply zg1; refine zs3 ?_) | (apply zg6; refine zs12 ?_) | (apply zg7; (refine zs15 ?_ ?_ <;> intro _ <;> try (exfalso; omega))) | apply (zs65 ?_) | apply (zs66 ?_) | apply (zs68 ?_) | apply (zs69 ?_) | apply (zs70 ?_) | (apply zg28; refine zs83 ?_) | fail)
        apply Yw [0, 1, 2, 3, 5, 4, 6, 7, 8, 9, 10, 11, 12] []
        kernel_rfl
        kernel_rfl
        (simp only [Yj, nthO]; rfl)
        exact rfl
        repeat' (first | apply (zs1 ?_) | apply (zs5 ?_) | (apply zg2; refine zs6 ?_) | (apply zg3; refine zs7 ?_) | apply (zs87 ?_) | fail)
        first | apply Ya Zt | apply Yb Zt
        exact za
        exact rfl
        exact fun _ hw => (p1 hw)
        repeat' (first | (apply Yx; exact rfl; exact rfl; exact rfl; exact Y0 hk) | (apply Yz; exact rfl; exact rfl; exact YA hk) | apply (zs1 ?_) | apply (zs2 ?_) | (apply zg1; refine zs4 ?_) | (apply zg6; refine zs12 ?_) | (apply zg7; (refine zs15 ?_ ?_ <;> intro _ <;> try (exfalso; omega))) | apply (zs65 ?_) | (apply Yo; exact zp) | apply (zs68 ?_) | apply (zs74 ?_) | (apply Yl; (repeat (first | with_reducible exact Yh | (with_reducible apply Yg; (repeat (first | with_reducible exact Yf | with_reducible apply Ye)))))) | apply (zs93 ?_) | apply (zs94 ?_) | fail)
        · show Perm H (H ++ [])
          rw [List.append_nil]; exact Perm.refl _
        repeat' (first | (apply Yx; exact rfl; exact rfl; exact rfl; exact Y0 hk) | (apply Yz; exact rfl; exact rfl; exact YA hk) | fail)
        apply Yd; exact rfl; exact rfl; exact ⟨rfl, rfl⟩
    by_cases h2 : last = 3
    rotate_left
    · by_cases hb : last = Y4 k
      · rw [decide_eq_true hb] at hFe
        subst hFe
        repeat' (first | apply (zs1 ?_) | apply (zs2 ?_) | (apply zg1; first | refine zs3 ?_ | refine zs4 ?_) | apply (zs5 ?_) | (apply zg2; refine zs6 ?_) | (apply zg3; refine zs7 ?_) | (apply zg6; first | refine zs11 ?_ | refine zs12 ?_) | (apply zg7; (refine zs15 ?_ ?_ <;> intro _ <;> try (exfalso; omega))) | apply (zs65 ?_) | apply (zs66 ?_) | apply (zs68 ?_) | apply (zs69 ?_) | apply (zs70 ?_) | (apply zg28; refine zs83 ?_) | fail)
        apply Yw [0, 1, 2, 3, 5, 4, 6, 7, 8, 9, 10, 11, 12] []
        kernel_rfl
        kernel_rfl
        (simp only [Yj, nthO]; rfl)
        exact rfl
        repeat' (first | apply (zs1 ?_) | apply (zs5 ?_) | (apply zg2; refine zs6 ?_) | (apply zg3; refine zs7 ?_) | apply (zs87 ?_) | fail)
        first | apply Ya Zt | apply Yb Zt
        exact za
        exact rfl
        exact fun _ hw => (p1 hw)
        repeat' (first | (apply Yx; exact rfl; exact rfl; exact rfl; exact Y0 hk) | (apply Yz; exact rfl; exact rfl; exact YA hk) | apply (zs1 ?_) | apply (zs2 ?_) | (apply zg1; refine zs3 ?_) | (apply zg6; refine zs11 ?_) | (apply zg7; (refine zs15 ?_ ?_ <;> intro _ <;> try (exfalso; omega))) | apply (zs65 ?_) | (apply Yo; exact zp) | apply (zs68 ?_) | apply (zs74 ?_) | (apply Yl; (repeat (first | with_reducible exact Yh | (with_reducible apply Yg; (repeat (first | with_reducible exact Yf | with_reducible apply Ye)))))) | apply (zs93 ?_) | apply (zs94 ?_) | fail)
        · show Perm H (H ++ [])
          rw [List.append_nil]; exact Perm.refl _
        repeat' (first | (apply Yx; exact rfl; exact rfl; exact rfl; exact Y0 hk) | (apply Yz; exact rfl; exact rfl; exact YA hk) | fail)
        apply Yd; exact rfl; exact rfl; exact ⟨rfl, rfl⟩
      · rw [decide_eq_false hb] at hFe
        subst hFe
        repeat' (first | apply (zs1 ?_) | apply (zs2 ?_) | (apply zg1; first | refine zs3 ?_ | refine zs4 ?_) | apply (zs5 ?_) | (apply zg2; refine zs6 ?_) | (apply zg3; refine zs7 ?_) | (apply zg6; first | refine zs11 ?_ | refine zs12 ?_) | (apply zg7; (refine zs15 ?_ ?_ <;> intro _ <;> try (exfalso; omega))) | apply (zs65 ?_) | apply (zs66 ?_) | apply (zs68 ?_) | apply (zs69 ?_) | apply (zs70 ?_) | (apply zg28; refine zs83 ?_) | fail)
        apply Yw [0, 1, 2, 3, 5, 4, 6, 7, 8, 9, 10, 11, 12] []
        kernel_rfl
        kernel_rfl
        (simp only [Yj, nthO]; rfl)
        exact rfl
        repeat' (first | apply (zs1 ?_) | apply (zs5 ?_) | (apply zg2; refine zs6 ?_) | (apply zg3; refine zs7 ?_) | apply (zs87 ?_) | fail)
        first | apply Ya Zt | apply Yb Zt
        exact za
        exact rfl
        exact fun _ hw => (p1 hw)
        repeat' (first | (apply Yx; exact rfl; exact rfl; exact rfl; exact Y0 hk) | (apply Yz; exact rfl; exact rfl; exact YA hk) | apply (zs1 ?_) | apply (zs2 ?_) | (apply zg1; refine zs4 ?_) | (apply zg6; refine zs12 ?_) | (apply zg7; (refine zs15 ?_ ?_ <;> intro _ <;> try (exfalso; omega))) | apply (zs65 ?_) | (apply Yo; exact zp) | apply (zs68 ?_) | apply (zs74 ?_) | (apply Yl; (repeat (first | with_reducible exact Yh | (with_reducible apply Yg; (repeat (first | with_reducible exact Yf | with_reducible apply Ye)))))) | apply (zs93 ?_) | apply (zs94 ?_) | fail)
        · show Perm H (H ++ [])
          rw [List.append_nil]; exact Perm.refl _
        repeat' (first | (apply Yx; exact rfl; exact rfl; exact rfl; exact Y0 hk) | (apply Yz; exact rfl; exact rfl; exact YA hk) | fail)
        apply Yd; exact rfl; exact rfl; exact ⟨rfl, rfl⟩
    have hb : ¬ last = Y4 k := by subst h1; subst h2; decide
    rw [decide_eq_false hb] at hFe
    subst hFe
    by_cases h3 : 0 < C.length
    rotate_left
    · repeat' (first | apply (zs1 ?_) | apply (zs2 ?_) | (apply zg1; first | refine zs3 ?_ | refine zs4 ?_) | apply (zs5 ?_) | (apply zg2; refine zs6 ?_) | (apply zg3; refine zs7 ?_) | (apply zg4; refine zs9 ?_) | (apply zg6; first | refine zs11 ?_ | refine zs12 ?_) | (apply zg7; (refine zs15 ?_ ?_ <;> intro _ <;> try (exfalso; omega))) | (apply (zs19 ?_ ?_) <;> intro _ <;> try (exfalso; omega)) | apply (zs65 ?_) | apply (zs66 ?_) | apply (zs68 ?_) | apply (zs69 ?_) | apply (zs70 ?_) | (apply zg28; refine zs83 ?_) | fail)
      apply Yw [0, 1, 2, 3, 5, 4, 6, 7, 8, 9, 10, 11, 12] []
      kernel_rfl
      kernel_rfl
      (simp only [Yj, nthO]; rfl)
      exact rfl
      repeat' (first | apply (zs1 ?_) | apply (zs5 ?_) | (apply zg2; refine zs6 ?_) | (apply zg3; refine zs7 ?_) | apply (zs87 ?_) | fail)
      first | apply Ya Zt | apply Yb Zt
      exact za
      exact rfl
      exact fun _ hw => (p1 hw)
      repeat' (first | (apply Yx; exact rfl; exact rfl; exact rfl; exact Y0 hk) | (apply Yz; exact rfl; exact rfl; exact YA hk) | apply (zs1 ?_) | apply (zs2 ?_) | (apply zg1; refine zs4 ?_) | (apply zg6; refine zs12 ?_) | (apply zg7; (refine zs15 ?_ ?_ <;> intro _ <;> try (exfalso; omega))) | apply (zs65 ?_) | (apply Yo; exact zp) | apply (zs68 ?_) | apply (zs74 ?_) | (apply Yl; (repeat (first | with_reducible exact Yh | (with_reducible apply Yg; (repeat (first | with_reducible exact Yf | with_reducible apply Ye)))))) | apply (zs93 ?_) | apply (zs94 ?_) | fail)
      · show Perm H (H ++ [])
        rw [List.append_nil]; exact Perm.refl _
      repeat' (first | (apply Yx; exact rfl; exact rfl; exact rfl; exact Y0 hk) | (apply Yz; exact rfl; exact rfl; exact YA hk) | fail)
      apply Yd; exact rfl; exact rfl; exact ⟨rfl, rfl⟩
    obtain ⟨x, hx⟩ : ∃ x, C[C.length - 1]? = some x := ⟨_, List.getElem?_eq_getElem (by omega)⟩
    have hx2 : C[((C.length : Int) - 1).toNat]? = some x := by rw [show ((C.length : Int) - 1).toNat = C.length - 1 by omega]; exact hx
    rw [decide_eq_true h1, decide_eq_true h2, decide_eq_true h3, Bool.true_and, Bool.true_and, Bool.true_and] at hsec
    have h4 := of_decide_eq_false hsec
    have h5 : ¬ x.rs.length < 2 := by
      unfold WD at h4
      rw [List.length_map, X8 hx] at h4
      have : x.clm.routes.length = x.rs.length := by show (x.rs.map (·.xs)).length = _; rw [List.length_map]
      omega
    have h6 := hCr x (List.mem_of_getElem? hx)
    repeat' (first | apply (zs1 ?_) | apply (zs2 ?_) | (apply zg1; refine zs4 ?_) | apply (zs5 ?_) | (apply zg2; first | refine zs6 ?_ | refine zs58 ?_) | (apply zg3; first | refine zs7 ?_ | refine zs59 ?_) | (apply zg4; refine zs9 ?_) | (apply zg5; refine zs57 ?_) | (apply zg6; refine zs11 ?_) | (apply zg7; (refine zs15 ?_ ?_ <;> intro _ <;> try (exfalso; omega))) | (apply (zs17 ?_ ?_) <;> intro _ <;> try (exfalso; omega)) | (apply (zs19 ?_ ?_) <;> intro _ <;> try (exfalso; omega)) | (apply zg14; refine zs31 ?_) | apply (zs65 ?_) | apply (zs66 ?_) | apply (zs68 ?_) | apply (zs69 ?_) | apply (zs70 ?_) | (apply zg28; refine zs83 ?_) | fail)
    apply Yw [0, 1, 2, 3, 5, 4, 6, 7, 8, 9, 10, 11, 12] []
    kernel_rfl
    kernel_rfl
    (simp only [Yj, nthO]; rfl)
    exact rfl
    repeat' (first | apply (zs1 ?_) | apply (zs5 ?_) | (apply zg2; refine zs6 ?_) | (apply zg3; refine zs7 ?_) | apply (zs87 ?_) | fail)
    first | apply Ya Zt | apply Yb Zt
    exact za
    exact rfl
    exact fun _ hw => (p1 hw)
    repeat' (first | (apply Yx; exact rfl; exact rfl; exact rfl; exact Y0 hk) | (apply Yz; exact rfl; exact rfl; exact YA hk) | apply (zs1 ?_) | apply (zs2 ?_) | (apply zg1; refine zs4 ?_) | (apply zg6; refine zs12 ?_) | (apply zg7; (refine zs15 ?_ ?_ <;> intro _ <;> try (exfalso; omega))) | apply (zs65 ?_) | (apply Yo; exact zp) | apply (zs68 ?_) | apply (zs74 ?_) | (apply Yl; (repeat (first | with_reducible exact Yh | (with_reducible apply Yg; (repeat (first | with_reducible exact Yf | with_reducible apply Ye)))))) | apply (zs93 ?_) | apply (zs94 ?_) | fail)
    · show Perm H (H ++ [])
      rw [List.append_nil]; exact Perm.refl _
    repeat' (first | (apply Yx; exact rfl; exact rfl; exact rfl; exact Y0 hk) | (apply Yz; exact rfl; exact rfl; exact YA hk) | fail)
    apply Yd; exact rfl; exact rfl; exact ⟨rfl, rfl⟩
end Go.Proofs.YtmalhidldgfeoaaGreatDoor
namespace Go.Eng
open Go.RowKit
inductive OW where
  | done
  | z (i : Nat) (t : OW)
  | s (i : Nat) (t : OW)
  | e1 (i : Nat) (t : OW)
  | e2 (i : Nat) (t : OW) (j : Nat) (u : OW)
section
variable {P : Program} {n : Shp} {B : Nat} {w0 : World} {Q : Exit → Act → World → Prop} {env : Env} {H : List HP} {ops : Array Oper}
def ZO (P : Program) (ops : Array Oper) (Q : Exit → Act → World → Prop) (T : Nat → World → Prop) : Nat → Array Bool → Act → World → Prop
  | 0, listed, a, w => Region.ready .any ops listed = [] ∧ Q .normal a w
  | fuel + 1, listed, a, w =>
    (Region.ready .any ops listed = [] → Q .normal a w) ∧
    ∀ i ∈ Region.ready .any ops listed, wpOp P ops Q i (fun a' w' => T i w' ∧ ZO P ops Q T fuel (listed.setIfInBounds i true) a' w') a w
theorem OD {T : Nat → World → Prop} : ∀ (fuel : Nat) (listed : Array Bool) (a : Act) (w : World), ZO P ops Q T fuel listed a w → wpAny P .any ops Q fuel listed a w
  | 0, _, _, _, h => h
  | fuel + 1, _, _, _, h => ⟨h.1, fun i hi => wpOp_mono (fun a' w' h' => OD fuel _ a' w' h'.2) (h.2 i hi)⟩
theorem Uo {S : World → Prop} {T : Nat → World → Prop} {i : Nat} {oi : Oper} {v : Value} (hi : ops[i]? = some oi) (hsel : ∀ (j : Nat) (o : Oper) cs b, ops[j]? = some o → o.op ≠ .select cs b)
    (hQ : ∀ c (a : Act) (w : World), ¬ Q (.panic c) a w) :
    ∀ (fuel : Nat) (listed : Array Bool) (a : Act) (w : World), Closed ops listed → (∀ j, (∀ w, T j w → S w) ∨ listed.getD j false = true ∨ ∃ f, ancB ops f j i = true) →
      (∀ j oj, ops[j]? = some oj → j ≠ i → listed.getD j true = false → (∀ e ∈ oj.after, Region.binds .any e = true → e.on ≠ i) → oi.apart ops oj = true) →
      i ∈ Region.ready .any ops listed → YieldsIf P ops S oi v a → S w → T i w → (∀ w j, S w → T j w → T i w) →
      ZO P ops Q T fuel (listed.setIfInBounds i true) (a.put oi.dst v) w → ZO P ops Q T (fuel + 1) listed a w := by
  intro fuel
  induction fuel with
  | zero =>
    intro listed a w _ _ _ hr hy hS hT _ H
    refine ⟨fun h => (by rw [h] at hr; cases hr), fun j hj => ?_⟩
    by_cases hji : j = i
    · subst hji; exact hy.wpOp hi hS ⟨hT, H⟩
    · have := ready_mono hj hji
      rw [H.1] at this
      cases this
  | succ fuel ih =>
    intro listed a w hcl hlast hfree hr hy hS hT hTT H
    refine ⟨fun h => (by rw [h] at hr; cases hr), fun j hj => ?_⟩
    by_cases hji : j = i
    · subst hji; exact hy.wpOp hi hS ⟨hT, H⟩
    · have h1 := H.2 j (ready_mono hj hji)
      obtain ⟨hjun, oj, hoj, hall⟩ := mem_ready.1 hj
      have hun := (mem_ready.1 hr).1
      have hun' : listed.getD i false = false := by
        rcases Nat.lt_or_ge i listed.size with h' | h'
        · simp [h'] at hun ⊢; exact hun
        · simp [Array.getElem?_eq_none h'] at hun
      have hTS : ∀ w, T j w → S w := by
        rcases hlast j with h4 | h4 | ⟨f, hf⟩
        · exact h4
        · have h5 : listed.getD j true = true := by
            rcases Nat.lt_or_ge j listed.size with h' | h'
            · simp [h'] at h4 ⊢; exact h4
            · simp [Array.getElem?_eq_none h']
          rw [h5] at hjun; cases hjun
        · have := Uj hcl f j i (fun ok hk e he hb => by
            obtain rfl : ok = oj := Option.some.inj (hk.symm.trans hoj)
            exact hall e he hb) hf
          rw [hun'] at this
          cases this
      have hnot : ∀ e ∈ oj.after, Region.binds .any e = true → e.on ≠ i := fun e he hb heq => by
        have h2 := hall e he hb
        rw [heq, hun'] at h2
        cases h2
      have h2 := wpOp_putIf hoj (hfree j oj hoj hji hjun hnot) (fun cs b => hsel i oi cs b hi) (fun cs b => hsel j oj cs b hoj) (fun c a w h => (hQ c _ w h).elim) hy h1
      have hfree' : ∀ k ok, ops[k]? = some ok → k ≠ i → (listed.setIfInBounds j true).getD k true = false →
          (∀ e ∈ ok.after, Region.binds .any e = true → e.on ≠ i) → oi.apart ops ok = true := fun k ok hk hki hu hno => by
        refine hfree k ok hk hki ?_ hno
        by_cases hjk : j = k
        · subst hjk; exact hjun
        · rw [getD_set_ne true hjk] at hu; exact hu
      refine wpOp_mono (fun a' w' h3 => ⟨h3.2.1, ih (listed.setIfInBounds j true) a' w' (hcl.set hj) (fun k => ?_) hfree' (ready_mono hr (Ne.symm hji)) h3.1 (hTS w' h3.2.1) (hTT w' j (hTS w' h3.2.1) h3.2.1) hTT ?_⟩) h2
      · rcases hlast k with h4 | h4 | h4
        · exact .inl h4
        · right; left
          by_cases hjk : j = k
          · subst hjk
            rcases Nat.lt_or_ge j listed.size with h' | h'
            · simp [h']
            · simp [Array.getElem?_eq_none h'] at hjun
          · rw [getD_set_ne false hjk]; exact h4
        · exact .inr (.inr h4)
      · rw [Array.setIfInBounds_comm _ _ hji]
        exact h3.2.2
theorem Vr {T : Nat → World → Prop} (l : List Oper) (hl : ops = l.toArray) (hlo : ¬ LetsOut Q) :
    ∀ (o2 : List Nat) (listed : Array Bool) (a : Act) (w : World), (∀ j ∈ o2, (∃ o, ops[j]? = some o) ∧ ∀ w, T j w) → Zo ops o2 listed = true → wpList P ops Q (Yj l o2) a w → ZO P ops Q T o2.length listed a w
  | [], listed, a, w, _, hB, h => ⟨by simpa [Zo] using hB, h⟩
  | i :: rest, listed, a, w, hin, hB, h => by
    simp only [Zo, Bool.and_eq_true, decide_eq_true_eq] at hB
    obtain ⟨h1, h2⟩ := hB
    obtain ⟨⟨o, ho⟩, hT⟩ := hin i (by simp)
    have hget : nthO l i = o := YM hl ho
    simp only [Yj, hget] at h
    unfold wpList at h
    refine ⟨fun h0 => (by rw [h1] at h0; cases h0), fun k hk => ?_⟩
    rw [h1] at hk
    obtain rfl : k = i := by simpa using hk
    unfold wpOp
    simp only [ho]
    by_cases hw : Region.wanted o (yielded ops a.tmps) = true
    · rw [if_pos hw] at h ⊢
      rcases h with h | ⟨_, h⟩
      · exact .inl (Oper.wp_mono (fun a' w' h' => ⟨hT w', Vr l hl hlo rest _ a' w' (fun j hj => hin j (by simp [hj])) h2 h'⟩) h)
      · exact (hlo h).elim
    · rw [if_neg hw] at h ⊢
      exact ⟨hT w, Vr l hl hlo rest _ _ w (fun j hj => hin j (by simp [hj])) h2 h⟩
def Qc (P : Program) (ops : Array Oper) (l : List Oper) (Q : Exit → Act → World → Prop) (S0 : World → Prop) : List Nat → Act → World → Prop
  | [], a, w => Q .normal a w
  | i :: r, a, w => wpD P ops (fun a w => S0 w ∧ Qc P ops l Q S0 r a w) (nthO l i) a w
theorem YeV {T : Nat → World → Prop} {K : Act → World → Prop} {i k : Nat} {o : Oper} {listed : Array Bool} {a : Act} {w : World} (ho : ops[i]? = some o)
    (h : wpD P ops K o a w) (hk : ∀ a w, K a w → T i w ∧ ZO P ops Q T k (listed.setIfInBounds i true) a w) :
    wpOp P ops Q i (fun a' w' => T i w' ∧ ZO P ops Q T k (listed.setIfInBounds i true) a' w') a w := by
  unfold wpD at h
  unfold wpOp
  simp only [ho]
  by_cases hw : Region.wanted o (yielded ops a.tmps) = true
  · rw [if_pos hw] at h ⊢
    exact .inl (Oper.wp_mono_noQ (fun _ _ _ h => h) (by rintro ⟨_, _, h⟩; exact h) (Oper.wp_mono (fun a' w' h' => hk a' w' h') h))
  · rw [if_neg hw] at h ⊢
    exact hk _ w h
theorem OI {S0 : World → Prop} {T : Nat → World → Prop} {tail : List Nat} (l : List Oper) (hl : ops = l.toArray) (hlo : ¬ LetsOut Q) (ht : ∀ j ∈ tail, (∃ o, ops[j]? = some o) ∧ ∀ w, T j w) :
    ∀ (mid : List Nat) (listed : Array Bool) (a : Act) (w : World), (∀ j ∈ mid, (∃ o, ops[j]? = some o) ∧ ∀ w, S0 w → T j w) → Zo ops (mid ++ tail) listed = true → Qc P ops l (X3 P ops Q (Yj l tail)) S0 mid a w → ZO P ops Q T (mid ++ tail).length listed a w
  | [], listed, a, w, _, hB, h => Vr l hl hlo tail listed a w ht hB h
  | i :: rest, listed, a, w, hin, hB, h => by
    rw [List.cons_append] at hB
    simp only [Zo, Bool.and_eq_true, decide_eq_true_eq] at hB
    obtain ⟨h1, h2⟩ := hB
    obtain ⟨⟨o, ho⟩, hT⟩ := hin i (by simp)
    have hget : nthO l i = o := YM hl ho
    unfold Qc at h
    rw [hget] at h
    refine ⟨fun h0 => (by rw [h1] at h0; cases h0), fun k hk => ?_⟩
    rw [h1] at hk
    obtain rfl : k = i := by simpa using hk
    exact YeV ho h fun a w hh => ⟨hT w hh.1, OI l hl hlo ht rest _ a w (fun j hj => hin j (by simp [hj])) h2 hh.2⟩
def Y8 (P : Program) (ops : Array Oper) (l : List Oper) (Q : Exit → Act → World → Prop) (S0 S : World → Prop) (mid : List Nat) : OW → Act → World → Prop
  | .done, a, w => Qc P ops l Q S0 mid a w
  | .z i t, a, w => Ys P ops (fun e a w => match e with | .normal => Y8 P ops l Q S0 S mid t a w | _ => False) S0 [nthO l i] a w
  | .s i t, a, w => Ys P ops (fun e a w => match e with | .normal => Y8 P ops l Q S0 S mid t a w | _ => False) S [nthO l i] a w
  | .e1 i t, a, w => Ys P ops (fun e a w => match e with | .normal => Y8 P ops l Q S0 S mid t a w | _ => False) S [nthO l i] a w
  | .e2 i t j u, a, w => Ys P ops (fun e a w => match e with | .normal => Y8 P ops l Q S0 S mid t a w | _ => False) S [nthO l i] a w ∧ Ys P ops (fun e a w => match e with | .normal => Y8 P ops l Q S0 S mid u a w | _ => False) S [nthO l j] a w
def Ybt (ops : Array Oper) (listed : Array Bool) (i : Nat) : Bool := match ops[i]? with
  | some o => !eff o && ((Region.ready .any ops listed).contains i && Region.free .any ops listed i)
  | none => false
def ZX (ops : Array Oper) (zs mid tail : List Nat) : OW → Array Bool → Nat → Bool
  | .done, listed, 0 => Zo ops (mid ++ tail) listed
  | .z i t, listed, k + 1 => zs.contains i && (tail.all fun j => ancB ops ops.size j i) && Ybt ops listed i && ZX ops zs mid tail t (listed.setIfInBounds i true) k
  | .s i t, listed, k + 1 => ((zs ++ (mid ++ tail)).all fun j => listed.getD j false || ancB ops ops.size j i) && Ybt ops listed i && ZX ops zs mid tail t (listed.setIfInBounds i true) k
  | .e1 i t, listed, k + 1 => XW ops i && decide (Region.ready .any ops listed = [i]) && ZX ops zs mid tail t (listed.setIfInBounds i true) k
  | .e2 i t j u, listed, k + 1 => XW ops i && XW ops j && ((Region.ready .any ops listed).all fun x => x == i || x == j) && !(Region.ready .any ops listed).isEmpty && ZX ops zs mid tail t (listed.setIfInBounds i true) k && ZX ops zs mid tail u (listed.setIfInBounds j true) k
  | _, _, _ => false
def TW (S0 S : World → Prop) (zs mid tail : List Nat) (j : Nat) (w : World) : Prop := (tail.contains j = false → S0 w) ∧ (zs.contains j = false → (mid ++ tail).contains j = false → S w)
theorem Wn {S : World → Prop} {T : Nat → World → Prop} {Q1 : Exit → Act → World → Prop} {i k : Nat} {o : Oper} {listed : Array Bool} {a : Act} {w : World} (ho : ops[i]? = some o) (he : eff o = true) (hT : ∀ w, S w → T i w)
    (hQ1 : ∀ e a w, e ≠ .normal → ¬ Q1 e a w) (hS : S w) (h : Ys P ops Q1 S [o] a w)
    (hk : ∀ a w, S w → Q1 .normal a w → ZO P ops Q T k (listed.setIfInBounds i true) a w) :
    wpOp P ops Q i (fun a' w' => T i w' ∧ ZO P ops Q T k (listed.setIfInBounds i true) a' w') a w := by
  unfold Ys at h
  rw [if_pos he] at h
  unfold wpOp
  simp only [ho]
  by_cases hw : Region.wanted o (yielded ops a.tmps) = true
  · rw [if_pos hw] at h ⊢
    refine .inl (Oper.wp_mono_noQ (fun c a w => hQ1 _ a w (by intro h; cases h)) (by rintro ⟨a, w, h⟩; exact hQ1 _ _ _ (by intro h; cases h) h) (Oper.wp_mono (fun a' w' h' => ?_) h))
    exact ⟨hT _ h'.1, hk a' w' h'.1 h'.2⟩
  · rw [if_neg hw] at h ⊢
    exact ⟨hT _ hS, hk _ w hS h⟩
theorem OP {listed : Array Bool} {i : Nat} (h : Ybt ops listed i = true) : ∃ o, ops[i]? = some o ∧ eff o = false ∧ i ∈ Region.ready .any ops listed ∧ Region.free .any ops listed i = true := by
  unfold Ybt at h
  cases ho : ops[i]? with
  | none => rw [ho] at h; cases h
  | some o =>
    rw [ho] at h
    simp only [Bool.and_eq_true, Bool.not_eq_true'] at h
    exact ⟨o, rfl, h.1, by simpa using h.2.1, h.2.2⟩
theorem Ui {i : Nat} (h : XW ops i = true) : ∃ o, ops[i]? = some o ∧ eff o = true := by
  unfold XW at h
  cases ho : ops[i]? with
  | none => rw [ho] at h; cases h
  | some o => rw [ho] at h; exact ⟨o, rfl, h⟩
theorem OO {l : List Nat} {j : Nat} (h : j ∈ l) (h2 : l.contains j = false) : False := by
  rw [List.contains_iff_mem.2 h] at h2; cases h2
theorem XD {S0 S : World → Prop} {zs mid tail : List Nat} (hss : ∀ w, S w → S0 w) (hs : Region.noSelect ops = true) (hQ : ∀ c (a : Act) (w : World), ¬ Q (.panic c) a w) (hlo : ¬ LetsOut Q) (l : List Oper) (hl : ops = l.toArray)
    (hin : ∀ j ∈ mid ++ tail, ∃ o, ops[j]? = some o) :
    ∀ (t : OW) (k : Nat) (listed : Array Bool) (a : Act) (w : World), Closed ops listed → ZX ops zs mid tail t listed k = true → S w → Y8 P ops l (X3 P ops Q (Yj l tail)) S0 S mid t a w →
      ZO P ops Q (TW S0 S zs mid tail) (k + (mid ++ tail).length) listed a w
  | .done, 0, listed, a, w, _, hB, _, h => by
    rw [Nat.zero_add]
    exact OI l hl hlo (fun j hj => ⟨hin j (List.mem_append_right _ hj), fun w => ⟨fun h => (OO hj h).elim, fun _ h => (OO (List.mem_append_right mid hj) h).elim⟩⟩) mid listed a w (fun j hj => ⟨hin j (List.mem_append_left _ hj), fun w h0 => ⟨fun _ => h0, fun _ h => (OO (List.mem_append_left tail hj) h).elim⟩⟩) hB h
  | .done, _ + 1, _, _, _, _, hB, _, _ => by cases hB
  | .z _ _, 0, _, _, _, _, hB, _, _ => by cases hB
  | .s _ _, 0, _, _, _, _, hB, _, _ => by cases hB
  | .e1 _ _, 0, _, _, _, _, hB, _, _ => by cases hB
  | .e2 _ _ _ _, 0, _, _, _, _, hB, _, _ => by cases hB
  | .z i t, k + 1, listed, a, w, hcl, hB, hS, h => by
    simp only [ZX, Bool.and_eq_true] at hB
    obtain ⟨⟨⟨b1, b2⟩, b3⟩, b4⟩ := hB
    obtain ⟨o, ho, he, hr, hf⟩ := OP b3
    unfold Y8 at h
    rw [YM hl ho] at h
    unfold Ys at h
    rw [if_neg (by rw [he]; simp)] at h
    obtain ⟨v, hy, h3⟩ := h
    rw [Nat.add_right_comm]
    refine Uo (S := S0) ho (Region.noSelect_spec hs) hQ _ listed a w hcl (fun j => ?_) (Region.free_spec ho hf) hr hy (hss w hS) ⟨fun _ => hss w hS, fun h => (by rw [b1] at h; cases h)⟩ (fun w j h0 _ => ⟨fun _ => h0, fun h => (by rw [b1] at h; cases h)⟩) (XD hss hs hQ hlo l hl hin t k _ _ w (hcl.set hr) b4 hS h3)
    cases hj : tail.contains j with
    | false => exact .inl fun w hT => hT.1 hj
    | true => exact .inr (.inr ⟨_, List.all_eq_true.1 b2 j (List.contains_iff_mem.1 hj)⟩)
  | .s i t, k + 1, listed, a, w, hcl, hB, hS, h => by
    simp only [ZX, Bool.and_eq_true] at hB
    obtain ⟨⟨b2, b3⟩, b4⟩ := hB
    obtain ⟨o, ho, he, hr, hf⟩ := OP b3
    unfold Y8 at h
    rw [YM hl ho] at h
    unfold Ys at h
    rw [if_neg (by rw [he]; simp)] at h
    obtain ⟨v, hy, h3⟩ := h
    rw [Nat.add_right_comm]
    refine Uo (S := S) ho (Region.noSelect_spec hs) hQ _ listed a w hcl (fun j => ?_) (Region.free_spec ho hf) hr hy hS ⟨fun _ => hss w hS, fun _ _ => hS⟩ (fun w j h0 _ => ⟨fun _ => hss w h0, fun _ _ => h0⟩) (XD hss hs hQ hlo l hl hin t k _ _ w (hcl.set hr) b4 hS h3)
    have hmem : j ∈ zs ++ (mid ++ tail) → listed.getD j false = true ∨ ∃ f, ancB ops f j i = true := fun hj => by
      have := List.all_eq_true.1 b2 j hj
      rw [Bool.or_eq_true] at this
      rcases this with h | h
      · exact .inl h
      · exact .inr ⟨_, h⟩
    cases hj : zs.contains j with
    | true => exact .inr (hmem (List.mem_append_left _ (List.contains_iff_mem.1 hj)))
    | false =>
      cases hj2 : (mid ++ tail).contains j with
      | true => exact .inr (hmem (List.mem_append_right _ (List.contains_iff_mem.1 hj2)))
      | false => exact .inl fun w hT => hT.2 hj hj2
  | .e1 i t, k + 1, listed, a, w, hcl, hB, hS, h => by
    simp only [ZX, Bool.and_eq_true, decide_eq_true_eq] at hB
    obtain ⟨⟨b1, b2⟩, b3⟩ := hB
    obtain ⟨o, ho, he⟩ := Ui b1
    unfold Y8 at h
    rw [YM hl ho] at h
    rw [Nat.add_right_comm]
    refine ⟨fun h0 => (by rw [b2] at h0; cases h0), fun j hj => ?_⟩
    have hj' := hj
    rw [b2] at hj
    obtain rfl : j = i := by simpa using hj
    exact Wn ho he (fun w h => ⟨fun _ => hss w h, fun _ _ => h⟩) (fun e a w hne => by cases e <;> simp_all) hS h fun a w hS' h' => XD hss hs hQ hlo l hl hin t k _ a w (hcl.set hj') b3 hS' h'
  | .e2 i t j u, k + 1, listed, a, w, hcl, hB, hS, h => by
    simp only [ZX, Bool.and_eq_true] at hB
    obtain ⟨⟨⟨⟨⟨b1, b2⟩, b5⟩, b6⟩, b7⟩, b8⟩ := hB
    obtain ⟨o, ho, he⟩ := Ui b1
    obtain ⟨o', ho', he'⟩ := Ui b2
    unfold Y8 at h
    rw [YM hl ho, YM hl ho'] at h
    rw [Nat.add_right_comm]
    refine ⟨fun h0 => (by rw [h0] at b6; cases b6), fun x hx => ?_⟩
    have h5 := List.all_eq_true.1 b5 x hx
    simp only [Bool.or_eq_true, beq_iff_eq] at h5
    rcases h5 with rfl | rfl
    · exact Wn ho he (fun w h => ⟨fun _ => hss w h, fun _ _ => h⟩) (fun e a w hne => by cases e <;> simp_all) hS h.1 fun a w hS' h' => XD hss hs hQ hlo l hl hin t k _ a w (hcl.set hx) b7 hS' h'
    · exact Wn ho' he' (fun w h => ⟨fun _ => hss w h, fun _ _ => h⟩) (fun e a w hne => by cases e <;> simp_all) hS h.2 fun a w hS' h' => XD hss hs hQ hlo l hl hin u k _ a w (hcl.set hx) b8 hS' h'
structure VW (P : Program) (n : Shp) (B : Nat) (w0 : World) (ops : Array Oper) (l : List Oper) (Q : Exit → Act → World → Prop) (mid : List Nat) (t : OW) (env : Env) (Hz Hc F : List HP) : Prop where
  run : ∀ a, Fits n a env → ∀ w, St B w0 (Hc ++ F) w → Y8 P ops l Q (St B w0 Hz) (St B w0 Hc) mid t a w
structure VM (P : Program) (n : Shp) (B : Nat) (w0 : World) (ops : Array Oper) (l : List Oper) (Q : Exit → Act → World → Prop) (mid : List Nat) (env : Env) (Hz H : List HP) : Prop where
  run : ∀ a, Fits n a env → ∀ w, St B w0 H w → Qc P ops l Q (St B w0 Hz) mid a w
def Zp (P : Program) (B : Nat) (w0 : World) (ops : Array Oper) (l : List Oper) (Q : Exit → Act → World → Prop) (mid : List Nat) (Hz Hc : List HP) (t : OW) : Exit → Act → World → Prop
  | .normal, a, w => Y8 P ops l Q (St B w0 Hz) (St B w0 Hc) mid t a w
  | _, _, _ => False
def MidQ (P : Program) (B : Nat) (w0 : World) (ops : Array Oper) (l : List Oper) (Q : Exit → Act → World → Prop) (mid : List Nat) (Hz : List HP) : Exit → Act → World → Prop
  | .normal, a, w => St B w0 Hz w ∧ Qc P ops l Q (St B w0 Hz) mid a w
  | _, _, _ => False
theorem Jz {l : List Oper} {mid : List Nat} {Hz Hc : List HP} {t : OW} : Zp P B w0 ops l Q mid Hz Hc t = fun e a w => match e with | .normal => Y8 P ops l Q (St B w0 Hz) (St B w0 Hc) mid t a w | _ => False := by
  funext e a w
  cases e <;> rfl
theorem VW_z {l : List Oper} {mid : List Nat} {Hz Hc F HF Fz : List HP} {i : Nat} {t : OW} {o : Oper} (ho : nthO l i = o) (happ : App Hc F HF) (hp : Pull Hz HF Fz) (h : VL P (some (some Fz)) n B w0 ops (Zp P B w0 ops l Q mid Hz Hc t) [o] env Hz) : VW P n B w0 ops l Q mid (.z i t) env Hz Hc F := by
  refine ⟨fun a ha w hw => ?_⟩
  rw [← Un happ] at hw
  have h1 : Ys P ops (Zp P B w0 ops l Q mid Hz Hc t) (St B w0 Hz) [o] a w := h.run a ha w (hw.perm hp)
  unfold Y8
  rw [ho, ← Jz]
  exact h1
theorem VW_s {l : List Oper} {mid : List Nat} {Hz Hc F : List HP} {i : Nat} {t : OW} {o : Oper} (ho : nthO l i = o) (h : VL P (some (some F)) n B w0 ops (Zp P B w0 ops l Q mid Hz Hc t) [o] env Hc) : VW P n B w0 ops l Q mid (.s i t) env Hz Hc F := by
  refine ⟨fun a ha w hw => ?_⟩
  have h1 : Ys P ops (Zp P B w0 ops l Q mid Hz Hc t) (St B w0 Hc) [o] a w := h.run a ha w hw
  unfold Y8
  rw [ho, ← Jz]
  exact h1
theorem Yja {l : List Oper} {mid : List Nat} {Hz Hc F : List HP} {i : Nat} {t : OW} {o : Oper} (ho : nthO l i = o) (h : VL P (some (some F)) n B w0 ops (Zp P B w0 ops l Q mid Hz Hc t) [o] env Hc) : VW P n B w0 ops l Q mid (.e1 i t) env Hz Hc F := by
  refine ⟨fun a ha w hw => ?_⟩
  have h1 : Ys P ops (Zp P B w0 ops l Q mid Hz Hc t) (St B w0 Hc) [o] a w := h.run a ha w hw
  unfold Y8
  rw [ho, ← Jz]
  exact h1
theorem YiM {l : List Oper} {mid : List Nat} {Hz Hc F : List HP} {i j : Nat} {t u : OW} {o o' : Oper} (ho : nthO l i = o) (ho' : nthO l j = o') (h : VL P (some (some F)) n B w0 ops (Zp P B w0 ops l Q mid Hz Hc t) [o] env Hc)
    (h' : VL P (some (some F)) n B w0 ops (Zp P B w0 ops l Q mid Hz Hc u) [o'] env Hc) : VW P n B w0 ops l Q mid (.e2 i t j u) env Hz Hc F := by
  refine ⟨fun a ha w hw => ?_⟩
  have h1 : Ys P ops (Zp P B w0 ops l Q mid Hz Hc t) (St B w0 Hc) [o] a w := h.run a ha w hw
  have h2 : Ys P ops (Zp P B w0 ops l Q mid Hz Hc u) (St B w0 Hc) [o'] a w := h'.run a ha w hw
  unfold Y8
  rw [ho, ho', ← Jz, ← Jz]
  exact ⟨h1, h2⟩
theorem YhA {l : List Oper} {mid : List Nat} {Hz Hc F HF : List HP} (happ : App Hc F HF) (h : VM P n B w0 ops l Q mid env Hz HF) : VW P n B w0 ops l Q mid .done env Hz Hc F :=
  ⟨fun a ha w hw => by rw [← Un happ] at hw; exact h.run a ha w hw⟩
theorem YfY {l : List Oper} {mid : List Nat} {Hz Hc F H' : List HP} {t : OW} (hp : Pull Hc H' F) (h : VW P n B w0 ops l Q mid t env Hz Hc F) : VQ n B w0 (Zp P B w0 ops l Q mid Hz Hc t) .normal env H' :=
  ⟨fun a w ha hw => h.run a ha w (hw.perm hp)⟩
theorem Yg0 {l : List Oper} {Hz : List HP} (h : VQ n B w0 Q .normal env H) : VM P n B w0 ops l Q [] env Hz H := ⟨fun a ha w hw => h.run a w ha hw⟩
theorem YdY {l : List Oper} {mid : List Nat} {Hz : List HP} {i : Nat} {o : Oper} (ho : nthO l i = o) (h : VL P none n B w0 ops (MidQ P B w0 ops l Q mid Hz) [o] env H) : VM P n B w0 ops l Q (i :: mid) env Hz H := by
  refine ⟨fun a ha w hw => ?_⟩
  have h1 : wpList P ops (MidQ P B w0 ops l Q mid Hz) [o] a w := h.run a ha w hw
  have hno : ¬ LetsOut (MidQ P B w0 ops l Q mid Hz) := by rintro ⟨_, _, h⟩; exact h
  unfold Qc
  rw [ho]
  unfold wpList at h1
  unfold wpD
  by_cases hw : Region.wanted o (yielded ops a.tmps) = true
  · rw [if_pos hw] at h1 ⊢
    rcases h1 with h | ⟨_, h⟩
    · exact Oper.wp_mono_noQ (fun _ _ _ h => h) hno (Oper.wp_mono (fun a' w' h' => h') h)
    · exact (hno h).elim
  · rw [if_neg hw] at h1 ⊢
    exact h1
theorem Yf7 {l : List Oper} {mid : List Nat} {Hz F H' : List HP} (hp : Pull Hz H' F) (h : VM P n B w0 ops l Q mid env Hz H') : VQ n B w0 (MidQ P B w0 ops l Q mid Hz) .normal env H' :=
  ⟨fun a w ha hw => ⟨(hw.perm hp).prefix_, h.run a ha w hw⟩⟩
theorem YgM {id : Nat} {l : List Oper} (t : OW) (zs mid tail : List Nat) (mask maskz : List Bool) {Hc F Hz Fz : List HP} (hm : P.follows .mixedOrders = true)
    (hB : (Region.noSelect l.toArray && decide ((mid ++ tail).length ≤ l.toArray.size) && ((mid ++ tail).all fun j => decide (j < l.toArray.size)) && ZX l.toArray zs mid tail t (Array.replicate l.toArray.size false) (l.toArray.size - (mid ++ tail).length)) = true)
    (hsp : Split mask H Hc F) (hsz : Split maskz Hc Hz Fz) {l2 : List Oper} (hl2 : Yj l tail = l2) (h : VW P n B w0 l.toArray l (X3 P l.toArray (Only Q) l2) mid t env Hz Hc F) : VC P n B w0 (.region id l.toArray true) Q env H := by
  simp only [Bool.and_eq_true, decide_eq_true_eq] at hB
  obtain ⟨⟨⟨h1, h2⟩, h3⟩, h5⟩ := hB
  refine ⟨fun a w ha hw => Zh (Q := Only Q) ?_ fun e a w h => by cases e <;> first | exact h | cases h⟩
  have hst : St B w0 (Hc ++ F) w.drew := (hw.perm (Xi hsp)).drew
  have hr := h.run a ha w.drew hst
  rw [← hl2] at hr
  have := XD (S0 := St B w0 Hz) (S := St B w0 Hc) (zs := zs) (fun w hw => (hw.perm (Xi hsz)).prefix_) h1 (fun c a w h => h) (by rintro ⟨_, _, h⟩; exact h) l rfl (fun j hj => by
    have := List.all_eq_true.1 h3 j hj
    exact ⟨_, Array.getElem?_eq_getElem (of_decide_eq_true this)⟩) t _ _ a w.drew (XB _ _) h5 hst.prefix_ hr
  rw [Nat.sub_add_cancel h2] at this
  exact JL hm (OD _ _ _ _ this)
end
open Go.RowKit
theorem Xv {P : Program} {m : Mode} {n : Shp} {B d : Nat} {w0 : World} {ops : Array Oper} {Q : Exit → Act → World → Prop} {rest : List Oper} {env : Env} {H : List HP} {ty : TypeId} {pos : String} {after : Array Edge} {x : Operand} {a : Addr} {j : Nat} (hx : evo env x = some (sptr (some a) j)) (hn : Nat.ble (d + 1) n.k = true) (h : VL P m n B w0 ops Q rest ((d, sptr (some a) j) :: env) H) :
    VL P m n B w0 ops Q (⟨some d, .nilCheck x, ty, pos, after, none⟩ :: rest) env H := WF hx hn h
end Go.Eng
namespace Go.Proofs.YtmalhidldgfeoaaGreatDoor
open Go.RowKit Go.Eng Go.Nw Go.Rt
set_option maxHeartbeats 2000000 in
theorem YdV (ga g6 g5 i cap : Nat) (C : List ClM) (x : ClM) (hx : C[i]? = some x) (hxl : x.rs.length ≤ 1000) (lA : Option Addr) (lcap : Nat) (l : List Int) {B : Nat} {w0 : World} {H : List HP} {w : World}
    (hw : St B w0 (blk g6 (.cells #[sptr (some ⟨ga, 0, none⟩) (i * 5)] 249 (0, 0)) :: blk g5 (.cells #[.slice lA l.length lcap] 24 (0, 0)) :: sl 61 5 (some ⟨ga, 0, none⟩) C.length cap (C.flatMap clF) :: sl 72 1 x.rA x.rs.length x.rcap (x.rs.flatMap rowF) :: H) w) :
    Calls Tryz.prog 201 [.pointer (some ⟨g6, 0, none⟩), .pointer (some ⟨g5, 0, none⟩)].toArray w (Post B w0 fun v K => v = .tuple #[] ∧ ∃ A' cap', K = blk g6 (.cells #[sptr (some ⟨ga, 0, none⟩) (i * 5)] 249 (0, 0)) :: blk g5 (.cells #[.slice lA l.length lcap] 24 (0, 0)) :: sl 61 5 (some ⟨ga, 0, none⟩) C.length cap ((C.set i { x with rA := A', rcap := cap', rs := x.rs ++ [⟨lA, lcap, l⟩] }).flatMap clF) :: sl 72 1 A' (x.rs ++ [(⟨lA, lcap, l⟩ : RowM)]).length cap' ((x.rs ++ [(⟨lA, lcap, l⟩ : RowM)]).flatMap rowF) :: H) := by
  refine Yc Tryz.func201 Tryz.ntmps201 rfl rfl hw ?_
  have hi := (List.getElem?_eq_some_iff.1 hx).1
  repeat' (first | fail)
  apply Vq [0, 1, 2, 3, 4, 5, 6, 7] [8, 9, 10] [true, true, true]
  kernel_rfl
  kernel_rfl
  exact zy
  (simp only [Yj, nthO]; rfl)
  (simp only [Yj, nthO]; rfl)
  repeat' (first | (apply Xv; exact rfl; exact rfl) | (apply zg2; refine zs58 ?_) | (apply zg3; first | refine zs7 ?_ | refine zs59 ?_) | (apply zg21; (refine zs49 ?_; intro _ _)) | (apply zg26; (refine zs56 ?_; intro _)) | apply (zs65 ?_) | (apply Yo; exact zp) | apply (zs87 ?_) | (apply Yl; (repeat (first | with_reducible exact Yh | (with_reducible apply Yg; (repeat (first | with_reducible exact Yf | with_reducible apply Ye)))))) | apply (zs93 ?_) | fail)
  rename_i A' cap'
  apply XI T (f := clF) (l := C) (i := i) (q := 5) (o := 1) (b := x) (b' := { x with rA := A', rcap := cap', rs := x.rs ++ [⟨lA, lcap, l⟩] }); exact rfl; exact rfl; exact rfl; exact zd; exact hx; (simp [clF]); exact fun _ => rfl; exact rfl; exact rfl
  repeat' (first | apply (zs65 ?_) | apply (zs94 ?_) | fail)
  have q1 : sl 72 1 A' (x.rs.length + 1) cap' (x.rs.flatMap rowF ++ #[Value.slice lA l.length lcap].toList) = sl 72 1 A' (x.rs ++ [(⟨lA, lcap, l⟩ : RowM)]).length cap' ((x.rs ++ [(⟨lA, lcap, l⟩ : RowM)]).flatMap rowF) := Uw _ _ _ _ ⟨lA, lcap, l⟩
  rw [q1]
  apply Yi (blk g6 (.cells #[sptr (some ⟨ga, 0, none⟩) (i * 5)] 249 (0, 0)) :: blk g5 (.cells #[.slice lA l.length lcap] 24 (0, 0)) :: sl 61 5 (some ⟨ga, 0, none⟩) C.length cap ((C.set i { x with rA := A', rcap := cap', rs := x.rs ++ [⟨lA, lcap, l⟩] }).flatMap clF) :: sl 72 1 A' (x.rs ++ [(⟨lA, lcap, l⟩ : RowM)]).length cap' ((x.rs ++ [(⟨lA, lcap, l⟩ : RowM)]).flatMap rowF) :: H)
  · clear q1
    exact zk
  apply Zg; exact rfl
  exact ⟨rfl, A', cap', rfl⟩
set_option maxHeartbeats 2000000 in
theorem Yds (ga g6 g5 i cap : Nat) (C : List ClM) (x : ClM) (hx : C[i]? = some x) (hxl : x.ss.length ≤ 1000) (lA : Option Addr) (lcap : Nat) (l : List Int) {B : Nat} {w0 : World} {H : List HP} {w : World}
    (hw : St B w0 (blk g6 (.cells #[sptr (some ⟨ga, 0, none⟩) (i * 5)] 249 (0, 0)) :: blk g5 (.cells #[.slice lA l.length lcap] 24 (0, 0)) :: sl 61 5 (some ⟨ga, 0, none⟩) C.length cap (C.flatMap clF) :: sl 24 1 x.sA x.ss.length x.scap (x.ss.flatMap rowF) :: H) w) :
    Calls Tryz.prog 203 [.pointer (some ⟨g6, 0, none⟩), .pointer (some ⟨g5, 0, none⟩)].toArray w (Post B w0 fun v K => v = .tuple #[] ∧ ∃ A' cap', K = blk g6 (.cells #[sptr (some ⟨ga, 0, none⟩) (i * 5)] 249 (0, 0)) :: blk g5 (.cells #[.slice lA l.length lcap] 24 (0, 0)) :: sl 61 5 (some ⟨ga, 0, none⟩) C.length cap ((C.set i { x with sA := A', scap := cap', ss := x.ss ++ [⟨lA, lcap, l⟩] }).flatMap clF) :: sl 24 1 A' (x.ss ++ [(⟨lA, lcap, l⟩ : RowM)]).length cap' ((x.ss ++ [(⟨lA, lcap, l⟩ : RowM)]).flatMap rowF) :: H) := by
  refine Yc Tryz.func203 Tryz.ntmps203 rfl rfl hw ?_
  have hi := (List.getElem?_eq_some_iff.1 hx).1
  repeat' (first | fail)
  apply Vq [0, 1, 2, 3, 4, 5, 6, 7] [8, 9, 10] [true, true, true]
  kernel_rfl
  kernel_rfl
  exact zy
  (simp only [Yj, nthO]; rfl)
  (simp only [Yj, nthO]; rfl)
  repeat' (first | (apply Xv; exact rfl; exact rfl) | (apply zg2; refine zs58 ?_) | (apply zg3; first | refine zs7 ?_ | refine zs59 ?_) | (apply zg21; (refine zs49 ?_; intro _ _)) | (apply zg26; (refine zs56 ?_; intro _)) | apply (zs65 ?_) | (apply Yo; exact zp) | apply (zs87 ?_) | (apply Yl; (repeat (first | with_reducible exact Yh | (with_reducible apply Yg; (repeat (first | with_reducible exact Yf | with_reducible apply Ye)))))) | apply (zs93 ?_) | fail)
  rename_i A' cap'
  apply XI T (f := clF) (l := C) (i := i) (q := 5) (o := 4) (b := x) (b' := { x with sA := A', scap := cap', ss := x.ss ++ [⟨lA, lcap, l⟩] }); exact rfl; exact rfl; exact rfl; exact zd; exact hx; (simp [clF]); exact fun _ => rfl; exact rfl; exact rfl
  repeat' (first | apply (zs65 ?_) | apply (zs94 ?_) | fail)
  have q1 : sl 24 1 A' (x.ss.length + 1) cap' (x.ss.flatMap rowF ++ #[Value.slice lA l.length lcap].toList) = sl 24 1 A' (x.ss ++ [(⟨lA, lcap, l⟩ : RowM)]).length cap' ((x.ss ++ [(⟨lA, lcap, l⟩ : RowM)]).flatMap rowF) := Uw _ _ _ _ ⟨lA, lcap, l⟩
  rw [q1]
  apply Yi (blk g6 (.cells #[sptr (some ⟨ga, 0, none⟩) (i * 5)] 249 (0, 0)) :: blk g5 (.cells #[.slice lA l.length lcap] 24 (0, 0)) :: sl 61 5 (some ⟨ga, 0, none⟩) C.length cap ((C.set i { x with sA := A', scap := cap', ss := x.ss ++ [⟨lA, lcap, l⟩] }).flatMap clF) :: sl 24 1 A' (x.ss ++ [(⟨lA, lcap, l⟩ : RowM)]).length cap' ((x.ss ++ [(⟨lA, lcap, l⟩ : RowM)]).flatMap rowF) :: H)
  · clear q1
    exact zk
  apply Zg; exact rfl
  exact ⟨rfl, A', cap', rfl⟩
set_option maxRecDepth 10000 in
set_option maxHeartbeats 4000000 in
theorem Ydp (ga g6 g5 i cap : Nat) (C : List ClM) (x : ClM) (hx : C[i]? = some x) (hxl : x.bs.length ≤ 1000 ∧ x.ws.length ≤ 1000) (lA : Option Addr) (lcap : Nat) (l : List Int) (v0 v1 : Int) (h0 : l[0]? = some v0) (h1 : l[1]? = some v1) {B : Nat} {w0 : World} {H : List HP} {w : World}
    (hw : St B w0 (blk g6 (.cells #[sptr (some ⟨ga, 0, none⟩) (i * 5)] 249 (0, 0)) :: blk g5 (.cells #[.slice lA l.length lcap] 24 (0, 0)) :: sl 61 5 (some ⟨ga, 0, none⟩) C.length cap (C.flatMap clF) :: nrs x.bA x.bcap x.bs :: nrs x.wA x.wcap x.ws :: nrs lA lcap l :: H) w) :
    Calls Tryz.prog 202 [.pointer (some ⟨g6, 0, none⟩), .pointer (some ⟨g5, 0, none⟩)].toArray w (Post B w0 fun v K => v = .tuple #[] ∧ ∃ A1 c1 A2 c2, K = blk g6 (.cells #[sptr (some ⟨ga, 0, none⟩) (i * 5)] 249 (0, 0)) :: blk g5 (.cells #[.slice lA l.length lcap] 24 (0, 0)) :: sl 61 5 (some ⟨ga, 0, none⟩) C.length cap ((C.set i { x with bA := A1, bcap := c1, bs := x.bs ++ [v0], wA := A2, wcap := c2, ws := x.ws ++ [v1] }).flatMap clF) :: nrs A1 c1 (x.bs ++ [v0]) :: nrs A2 c2 (x.ws ++ [v1]) :: nrs lA lcap l :: H) := by
  refine Yc Tryz.func202 Tryz.ntmps202 rfl rfl hw ?_
  have hi := (List.getElem?_eq_some_iff.1 hx).1
  have hl := (List.getElem?_eq_some_iff.1 h1).1
  repeat' (first | fail)
  apply YgM (.z 1 (.s 0 (.s 2 (.s 3 (.s 4 (.s 5 (.s 6 (.s 7 (.s 8 (.s 11 (.s 12 (.s 13 (.s 14 (.s 15 (.s 16 (.s 17 (.e2 9 (.e2 10 (.e1 18 (.e1 19 .done)) 18 (.e1 10 (.e1 19 .done))) 18 (.e1 9 (.e1 10 (.e1 19 .done)))))))))))))))))))) [1] [20, 21, 22] [23, 24, 25] [true, true, true, false, false, true] [true, true, false, true]
  kernel_rfl
  kernel_rfl
  exact zy
  exact zy
  (simp only [Yj, nthO]; rfl)
  repeat' (first | (apply Xv; exact rfl; exact rfl) | (apply VW_z; (simp only [nthO]; rfl); exact zp; (repeat (first | with_reducible exact Yh | (with_reducible apply Yg; (repeat (first | with_reducible exact Yf | with_reducible apply Ye)))))) | (apply VW_s; (simp only [nthO]; rfl)) | (apply Yja; (simp only [nthO]; rfl)) | (apply YiM; (simp only [nthO]; rfl); (simp only [nthO]; rfl)) | (apply YfY; (repeat (first | with_reducible exact Yh | (with_reducible apply Yg; (repeat (first | with_reducible exact Yf | with_reducible apply Ye)))))) | (apply YhA; exact zp) | (apply YdY; (simp only [nthO]; rfl)) | (apply Yf7; (repeat (first | with_reducible exact Yh | (with_reducible apply Yg; (repeat (first | with_reducible exact Yf | with_reducible apply Ye)))))) | (apply Yg0) | (apply zg2; refine zs58 ?_) | (apply zg3; first | refine zs7 ?_ | refine zs59 ?_ | refine zs60 ?_) | (apply zg5; refine zs10 ?_) | (apply zg21; (refine zs49 ?_; intro _ _)) | (apply zg26; (refine zs56 ?_; intro _)) | apply (zs65 ?_) | (apply Yo; exact zp) | apply (zs87 ?_) | (apply Yl; (repeat (first | with_reducible exact Yh | (with_reducible apply Yg; (repeat (first | with_reducible exact Yf | with_reducible apply Ye)))))) | fail)
  all_goals (
    first
      | (rename_i A1 c1 g A2 c2; guard_hyp g : Nat; guard_hyp A1 : Option Addr)
      | (rename_i A1 c1 A2 c2; guard_hyp A1 : Option Addr)
    apply XI T (f := clF) (l := C) (i := i) (q := 5) (o := 2) (b := x) (b' := { x with bA := A1, bcap := c1, bs := x.bs ++ [v0] }); exact rfl; exact rfl; exact rfl; exact zd; exact hx; (simp [clF]); exact fun _ => rfl; exact rfl; exact rfl
    obtain ⟨C2, hC2⟩ : ∃ C2, C.set i { x with bA := A1, bcap := c1, bs := x.bs ++ [v0] } = C2 := ⟨_, rfl⟩
    have hl2 : C2.length = C.length := by rw [← hC2, List.length_set]
    have hx2 : C2[i]? = some { x with bA := A1, bcap := c1, bs := x.bs ++ [v0] } := by rw [← hC2, List.getElem?_set_self hi]
    rw [hC2]
    repeat' (first | (apply Xv; exact rfl; exact rfl) | (apply YdY; (simp only [nthO]; rfl)) | (apply Yf7; (repeat (first | with_reducible exact Yh | (with_reducible apply Yg; (repeat (first | with_reducible exact Yf | with_reducible apply Ye)))))) | (apply Yg0) | (apply zg2; refine zs58 ?_) | apply (zs65 ?_) | apply (zs93 ?_) | fail)
    apply XI T (f := clF) (l := C2) (i := i) (q := 5) (o := 3) (b := { x with bA := A1, bcap := c1, bs := x.bs ++ [v0] }) (b' := { x with bA := A1, bcap := c1, bs := x.bs ++ [v0], wA := A2, wcap := c2, ws := x.ws ++ [v1] }); exact rfl; exact rfl; exact rfl; exact zd; exact hx2; (simp [clF]); exact fun _ => rfl; exact rfl; exact rfl
    repeat' (first | apply (zs65 ?_) | apply (zs94 ?_) | fail)
    rw [Zk, Zk, ← hC2, List.set_set]
    apply Yi (blk g6 (.cells #[sptr (some ⟨ga, 0, none⟩) (i * 5)] 249 (0, 0)) :: blk g5 (.cells #[.slice lA l.length lcap] 24 (0, 0)) :: sl 61 5 (some ⟨ga, 0, none⟩) C.length cap ((C.set i { x with bA := A1, bcap := c1, bs := x.bs ++ [v0], wA := A2, wcap := c2, ws := x.ws ++ [v1] }).flatMap clF) :: nrs A1 c1 (x.bs ++ [v0]) :: nrs A2 c2 (x.ws ++ [v1]) :: nrs lA lcap l :: H)
    · exact zk
    apply Zg; exact rfl
    exact ⟨rfl, A1, c1, A2, c2, rfl⟩)
open Go.RowKit Go.Eng Go.Nw Go.Rt
theorem Vx {α : Type} (f : α → HP) (l : List α) (r : α) (H : List HP) : Perm (many ((l ++ [r]).map f) :: H) (f r :: many (l.map f) :: H) := by
  have := Perm.pull (f r) (l.map f) [] H
  rw [List.append_nil] at this
  rw [List.map_append]
  exact this
def Few2 (x : Clm) : Prop := x.routes.length ≤ 2 ∧ x.bounds.length ≤ 2 ∧ x.worst.length ≤ 2 ∧ x.slots.length ≤ 2
theorem Yhg {p : Pst} (h : Rdr p) : ∀ x ∈ p.c, Few2 x := by
  intro x hx
  obtain ⟨i, hi⟩ := List.mem_iff_getElem?.1 hx
  have hl := (List.getElem?_eq_some_iff.1 hi).1
  by_cases hi2 : i + 1 < p.c.length
  · have := h.full i x hi hi2
    unfold Few2
    omega
  · obtain ⟨cs, y, hc⟩ := UC (l := p.c) (fun e => by rw [e] at hl; simp at hl)
    have hcl : p.c.length = cs.length + 1 := by rw [hc]; simp
    have e : x = y := by
      rw [hc, List.getElem?_append_right (by omega), show i - cs.length = 0 by omega] at hi
      exact (Option.some.inj hi).symm
    subst e
    unfold Few2
    rcases h.at_ cs x hc with h | h | h | h
    · obtain ⟨_, h1, h2, h3, h4⟩ := h
      rw [h1, h2, h3, h4]
      simp
    · omega
    · omega
    · omega
theorem YhN {p : Pst} (h : Rdr p) {k : Nat} (hk : k ≠ 0) (hk4 : k < 4) (hf : Zu p k = true) : p.c ≠ [] := by
  intro e
  have h3 := h.some_ e
  unfold Zu Y4 at hf
  rw [e, h3] at hf
  simp [hk] at hf
  omega
theorem Yfy (k : Nat) (l : List Int) (c : List Clm) : (Zm k l c).length ≤ c.length + 1 := by
  unfold Zm Ot
  split
  · simp
  · rw [List.length_append, List.length_take, List.length_singleton]; omega
theorem Yco : ∀ (ls : List (List UInt8)) {p p' : Pst}, runL ls p = some p' → p'.c.length ≤ p.c.length + ls.length
  | [], p, p', h => by cases h; simp
  | x :: ls, p, p', h => by
    unfold runL at h
    split at h
    · cases h
    rename_i q hq
    have h1 := Yco ls h
    obtain ⟨k, l, _, _, _, _, _, rfl⟩ := YaE hq
    have h2 := Yfy k l p.c
    rw [List.length_cons]
    dsimp only at h1
    omega
theorem Yhz {k : Nat} : Vh k ≤ 64 := by unfold Vh; split; omega; split; omega; split <;> omega
open Go.RowKit Go.Eng Go.Nw Go.Rt
theorem Yej {C : List ClM} {last : Nat} (h : Rdr ⟨C.map ClM.clm, last⟩) : ∀ c ∈ C, c.rs.length ≤ 2 ∧ c.bs.length ≤ 2 ∧ c.ws.length ≤ 2 ∧ c.ss.length ≤ 2 := fun c hc => by
  have h1 := Yhg h c.clm (List.mem_map_of_mem hc)
  unfold Few2 ClM.clm at h1
  simp only [List.length_map] at h1
  exact h1
def Za (C : List ClM) : Prop := ∀ c ∈ C, (∀ r ∈ c.rs, r.xs.length ≤ 64) ∧ ∀ r ∈ c.ss, r.xs.length ≤ 64
def UT (H : List HP) (g last k : Nat) (l : List Int) (C : List ClM) (v : Value) (K : List HP) : Prop := v = .tuple #[] ∧ ∃ A' cap' C', C'.map ClM.clm = Zm k l (C.map ClM.clm) ∧ Za C' ∧ K = rdrA g A' cap' C' last :: clsP A' cap' C' :: many (C'.map clQ) :: H
theorem Wd (Cs : List ClM) (x y : ClM) : (Cs ++ [x]).set Cs.length y = Cs ++ [y] := by simp
theorem Wm {Cs : List ClM} {x : ClM} (h : Za (Cs ++ [x])) (y : ClM) (hy : (∀ r ∈ y.rs, r.xs.length ≤ 64) ∧ ∀ r ∈ y.ss, r.xs.length ≤ 64) : Za (Cs ++ [y]) := fun c hc => by
  rcases List.mem_append.1 hc with h1 | h1
  · exact h c (List.mem_append_left _ h1)
  · rw [List.mem_singleton.1 h1]; exact hy
theorem YcX {l : List RowM} {r : RowM} (h : ∀ x ∈ l, x.xs.length ≤ 64) (hr : r.xs.length ≤ 64) : ∀ x ∈ l ++ [r], x.xs.length ≤ 64 := fun x hx => by
  rcases List.mem_append.1 hx with h1 | h1
  · exact h x h1
  · rw [List.mem_singleton.1 h1]; exact hr
theorem Wh {k : Nat} (hk : k ≠ 0) (l : List Int) (Cs : List ClM) (x y : ClM) (h : y.clm = YP k l x.clm) : (Cs ++ [y]).map ClM.clm = Zm k l ((Cs ++ [x]).map ClM.clm) := by
  unfold Zm
  rw [if_neg hk, List.map_append, List.map_append, List.map_singleton, List.map_singleton, (YU _ _).1, (YU _ _).2, h]
set_option maxHeartbeats 2000000 in
theorem Ydr (g : Nat) (A : Option Addr) (cap : Nat) (C : List ClM) (last : Nat) (lA : Option Addr) (lcap : Nat) (l : List Int) (v0 : Int) (h0 : l[0]? = some v0) (hC : C.length ≤ 1000000) (hrow : Za C) {B : Nat} {w0 : World} {H : List HP} {w : World}
    (hw : St B w0 (rdrA g A cap C last :: clsP A cap C :: many (C.map clQ) :: nrs lA lcap l :: H) w) :
    Calls Tryz.prog 145 [.pointer (some ⟨g, 0, none⟩), .int .i64 (0 : Nat), .slice lA l.length lcap].toArray w (Post B w0 (UT H g last 0 l C)) := by
  refine Yc Tryz.func145 Tryz.ntmps145 rfl rfl hw ?_
  have hl1 := (List.getElem?_eq_some_iff.1 h0).1
  repeat' (first | apply (zs1 ?_) | (apply zg7; (refine zs15 ?_ ?_ <;> intro _ <;> try (exfalso; omega))) | (apply zg23; (refine zs53 ?_; intro _)) | apply (zs65 ?_) | apply (zs68 ?_) | apply (zs69 ?_) | apply (zs70 ?_) | (apply zg27; refine zs71 ?_) | fail)
  apply Vq [0, 1, 2, 3, 4, 5, 6, 7, 8, 9, 10] [11, 12, 13] [true, true, false, false, true]
  kernel_rfl
  kernel_rfl
  exact zy
  (simp only [Yj, nthO]; rfl)
  (simp only [Yj, nthO]; rfl)
  repeat' (first | (apply Xv; exact rfl; exact rfl) | apply (zs1 ?_) | apply (zs5 ?_) | (apply zg2; refine zs6 ?_) | (apply zg3; first | refine zs7 ?_ | refine zs60 ?_) | (apply zg5; refine zs10 ?_) | (apply zg21; (refine zs49 ?_; intro _ _)) | (apply zg22; refine zs50 ?_) | (apply zg25; refine zs55 ?_) | (apply zg26; (refine zs56 ?_; intro _)) | apply (zs65 ?_) | (apply Yo; exact zp) | apply (zs68 ?_) | apply (zs74 ?_) | apply (zs77 ?_) | apply (zs87 ?_) | (apply Yl; (repeat (first | with_reducible exact Yh | (with_reducible apply Yg; (repeat (first | with_reducible exact Yf | with_reducible apply Ye)))))) | apply (zs93 ?_) | apply (zs94 ?_) | fail)
  rename_i A' cap'
  have q1 : sl 61 5 A' (C.length + 1) cap' (C.flatMap clF ++ #[Value.int .i64 v0, .slice none 0 0, .slice none 0 0, .slice none 0 0, .slice none 0 0].toList) = clsP A' cap' (C ++ [nilC v0]) := Ycl _ _ _ (nilC v0)
  rw [q1, show C.length + 1 = (C ++ [nilC v0]).length by simp]
  apply Yi (rdrA g A' cap' (C ++ [nilC v0]) last :: clsP A' cap' (C ++ [nilC v0]) :: many ((C ++ [nilC v0]).map clQ) :: H)
  · clear q1
    intro w hw
    have h5 : St B w0 (many (C.map clQ) :: rdrA g A' cap' (C ++ [nilC v0]) last :: clsP A' cap' (C ++ [nilC v0]) :: H) w := by
      revert w
      exact zk
    have h6 := (Qz v0 h5).perm (ZQ clQ C (nilC v0) _)
    exact h6.perm ((Perm.swap _ _ _).trans (.cons _ (.swap _ _ _)))
  apply US; exact rfl
  refine ⟨rfl, A', cap', C ++ [nilC v0], ?_, ?_, rfl⟩
  · rw [List.map_append]
    unfold Zm
    rw [if_pos rfl, List.getD_eq_getElem?_getD, h0]
    rfl
  · intro c hc
    rcases List.mem_append.1 hc with h1 | h1
    · exact hrow c h1
    · rw [List.mem_singleton.1 h1]
      unfold nilC
      simp
set_option maxHeartbeats 4000000 in
theorem YbM (g : Nat) (A : Option Addr) (cap : Nat) (Cs : List ClM) (x : ClM) (last : Nat) (lA : Option Addr) (lcap : Nat) (l : List Int) (hC : (Cs ++ [x]).length ≤ 1000000) (hx : x.rs.length ≤ 1000) (hrow : Za (Cs ++ [x])) (hl : l.length ≤ 64) {B : Nat} {w0 : World} {H : List HP} {w : World}
    (hw : St B w0 (rdrA g A cap (Cs ++ [x]) last :: clsP A cap (Cs ++ [x]) :: many ((Cs ++ [x]).map clQ) :: nrs lA lcap l :: H) w) :
    Calls Tryz.prog 145 [.pointer (some ⟨g, 0, none⟩), .int .i64 (1 : Nat), .slice lA l.length lcap].toArray w (Post B w0 (UT H g last 1 l (Cs ++ [x]))) := by
  refine Yc Tryz.func145 Tryz.ntmps145 rfl rfl hw ?_
  refine Ybc (e := 61) (size := 5) (A := A) (k := (Cs ++ [x]).length) (cap := cap) (xs := (Cs ++ [x]).flatMap clF) zm (by simp) ?_
  rintro ga rfl
  have hrx := hrow x (by simp)
  obtain ⟨C, hCe⟩ : ∃ C, Cs ++ [x] = C := ⟨_, rfl⟩
  have hn : C.length = Cs.length + 1 := by rw [← hCe]; simp
  have hxi : C[Cs.length]? = some x := by rw [← hCe]; simp
  rw [hCe] at hC ⊢
  repeat' (first | apply (zs1 ?_) | (apply zg7; (refine zs15 ?_ ?_ <;> intro _ <;> try (exfalso; omega))) | (apply zg23; (refine zs53 ?_; intro _)) | apply (zs65 ?_) | apply (zs68 ?_) | apply (zs69 ?_) | apply (zs70 ?_) | (apply zg27; refine zs72 ?_) | apply (zs76 ?_) | fail)
  apply ZA [0, 1, 2, 3, 4, 5, 6, 7, 8, 9, 10, 11] [12] [true, true, true, false, false]
  kernel_rfl
  kernel_rfl
  exact zy
  (simp only [Yj, nthO]; rfl)
  (simp only [Yj, nthO]; rfl)
  repeat' (first | (apply JM T; exact rfl; exact rfl; exact rfl; exact rfl; omega) | apply (zs1 ?_) | apply (zs5 ?_) | (apply zg2; refine zs6 ?_) | (apply zg3; refine zs7 ?_) | (apply zg4; refine zs9 ?_) | (apply zg5; refine zs10 ?_) | (apply zg14; refine zs31 ?_) | (apply zg22; first | refine zs50 ?_ | refine zs51 ?_) | (apply zg24; (refine zs54 ?_; intro _)) | (apply zg25; refine zs55 ?_) | apply (zs65 ?_) | (apply Yo; exact zp) | apply (zs68 ?_) | apply (zs69 ?_) | apply (zs70 ?_) | (apply zg29; (apply Yq; exact za ; exact rfl)) | apply (zs87 ?_) | (apply Yl; (repeat (first | with_reducible exact Yh | (with_reducible apply Yg; (repeat (first | with_reducible exact Yf | with_reducible apply Ye)))))) | apply (zs93 ?_) | apply (zs94 ?_) | fail)
  rename_i g5 _ g6 g7
  apply UF _ (cs := [.pointer (some ⟨g6, 0, none⟩), .pointer (some ⟨g5, 0, none⟩)])
  exact rfl
  exact YiU
  exact za
  exact rfl
  · intro w hw
    have h5 : St B w0 (many (C.map clQ) :: blk g6 (.cells #[sptr (some ⟨ga, 0, none⟩) (Cs.length * 5)] 249 (0, 0)) :: blk g5 (.cells #[.slice lA l.length lcap] 24 (0, 0)) :: clsP (some ⟨ga, 0, none⟩) cap C :: rdrA g (some ⟨ga, 0, none⟩) cap C last :: nrs lA lcap l :: H) w := by
      rw [show ((C.length : Int) - 1).toNat = Cs.length by omega] at hw
      revert w
      exact zk
    have h6 : St B w0 (many (clP x) :: many (Cs.map clQ) :: blk g6 (.cells #[sptr (some ⟨ga, 0, none⟩) (Cs.length * 5)] 249 (0, 0)) :: blk g5 (.cells #[.slice lA l.length lcap] 24 (0, 0)) :: clsP (some ⟨ga, 0, none⟩) cap C :: rdrA g (some ⟨ga, 0, none⟩) cap C last :: nrs lA lcap l :: H) w := by
      rw [← hCe] at h5 ⊢
      exact h5.perm (Vx clQ Cs x _)
    have h7 := h6.perm (.open_ (clP x) _)
    refine YdV ga g6 g5 Cs.length cap C x hxi hx lA lcap l (H := many (x.rs.map rowQ) :: nrs x.bA x.bcap x.bs :: nrs x.wA x.wcap x.ws :: sl 24 1 x.sA x.ss.length x.scap (x.ss.flatMap rowF) :: many (x.ss.map rowQ) :: many (Cs.map clQ) :: rdrA g (some ⟨ga, 0, none⟩) cap C last :: nrs lA lcap l :: H) ?_
    unfold clP at h7
    dsimp only [List.cons_append, List.nil_append] at h7
    clear h5 h6 hw
    revert w
    exact zk
  rintro _ _ ⟨rfl, A', cap', rfl⟩
  obtain ⟨x', hx'⟩ : ∃ x' : ClM, { x with rA := A', rcap := cap', rs := x.rs ++ [⟨lA, lcap, l⟩] } = x' := ⟨_, rfl⟩
  have hset : C.set Cs.length x' = Cs ++ [x'] := by rw [← hCe]; exact Wd _ _ _
  have hn' : C.length = (Cs ++ [x']).length := by rw [hn]; simp
  rw [hx', hset]
  repeat' (first | apply (zs65 ?_) | fail)
  apply Yi (rdrA g (some ⟨ga, 0, none⟩) cap (Cs ++ [x']) last :: clsP (some ⟨ga, 0, none⟩) cap (Cs ++ [x']) :: many ((Cs ++ [x']).map clQ) :: H)
  · intro w hw
    have h5 : St B w0 (sl 72 1 A' (x.rs ++ [(⟨lA, lcap, l⟩ : RowM)]).length cap' ((x.rs ++ [(⟨lA, lcap, l⟩ : RowM)]).flatMap rowF) :: nrs lA lcap l :: many (x.rs.map rowQ) :: nrs x.bA x.bcap x.bs :: nrs x.wA x.wcap x.ws :: sl 24 1 x.sA x.ss.length x.scap (x.ss.flatMap rowF) :: many (x.ss.map rowQ) :: many (Cs.map clQ) :: rdrA g (some ⟨ga, 0, none⟩) cap (Cs ++ [x']) last :: clsP (some ⟨ga, 0, none⟩) cap (Cs ++ [x']) :: H) w := by
      unfold rdrA clsP
      rw [← hn']
      clear hn' hset
      revert w
      exact zk
    have h6 := h5.perm (.cons _ (VJ rowQ x.rs ⟨lA, lcap, l⟩ _))
    have h7 : St B w0 (clQ x' :: many (Cs.map clQ) :: rdrA g (some ⟨ga, 0, none⟩) cap (Cs ++ [x']) last :: clsP (some ⟨ga, 0, none⟩) cap (Cs ++ [x']) :: H) w := by
      have h8 := h6.perm (.close [_, _, _, _, _, _] _)
      rw [← hx'] at h8 ⊢
      exact h8
    exact (h7.perm (ZQ clQ Cs x' _)).perm ((Perm.swap _ _ _).trans (.cons _ (.swap _ _ _)))
  apply Zg; exact rfl
  rw [← hCe]
  exact ⟨rfl, _, _, Cs ++ [x'], Wh (by decide) l Cs x x' (by rw [← hx']; unfold ClM.clm YP; simp), Wm hrow x' (by rw [← hx']; exact ⟨YcX hrx.1 hl, hrx.2⟩), rfl⟩
set_option maxHeartbeats 4000000 in
theorem Yb3 (g : Nat) (A : Option Addr) (cap : Nat) (Cs : List ClM) (x : ClM) (last : Nat) (lA : Option Addr) (lcap : Nat) (l : List Int) (hC : (Cs ++ [x]).length ≤ 1000000) (hx : x.bs.length ≤ 1000 ∧ x.ws.length ≤ 1000) (v0 v1 : Int) (h0 : l[0]? = some v0) (h1 : l[1]? = some v1) (hrow : Za (Cs ++ [x])) (_hl : l.length ≤ 64) {B : Nat} {w0 : World} {H : List HP} {w : World}
    (hw : St B w0 (rdrA g A cap (Cs ++ [x]) last :: clsP A cap (Cs ++ [x]) :: many ((Cs ++ [x]).map clQ) :: nrs lA lcap l :: H) w) :
    Calls Tryz.prog 145 [.pointer (some ⟨g, 0, none⟩), .int .i64 (2 : Nat), .slice lA l.length lcap].toArray w (Post B w0 (UT H g last 2 l (Cs ++ [x]))) := by
  refine Yc Tryz.func145 Tryz.ntmps145 rfl rfl hw ?_
  refine Ybc (e := 61) (size := 5) (A := A) (k := (Cs ++ [x]).length) (cap := cap) (xs := (Cs ++ [x]).flatMap clF) zm (by simp) ?_
  rintro ga rfl
  have hrx := hrow x (by simp)
  obtain ⟨C, hCe⟩ : ∃ C, Cs ++ [x] = C := ⟨_, rfl⟩
  have hn : C.length = Cs.length + 1 := by rw [← hCe]; simp
  have hxi : C[Cs.length]? = some x := by rw [← hCe]; simp
  rw [hCe] at hC ⊢
  repeat' (first | apply (zs1 ?_) | (apply zg7; (refine zs15 ?_ ?_ <;> intro _ <;> try (exfalso; omega))) | (apply zg23; (refine zs53 ?_; intro _)) | apply (zs65 ?_) | apply (zs68 ?_) | apply (zs69 ?_) | apply (zs70 ?_) | (apply zg27; refine zs72 ?_) | apply (zs76 ?_) | fail)
  apply ZA [0, 1, 2, 3, 4, 5, 6, 7, 8, 9, 10, 11] [12] [true, true, true, false, false]
  kernel_rfl
  kernel_rfl
  exact zy
  (simp only [Yj, nthO]; rfl)
  (simp only [Yj, nthO]; rfl)
  repeat' (first | (apply JM T; exact rfl; exact rfl; exact rfl; exact rfl; omega) | apply (zs1 ?_) | apply (zs5 ?_) | (apply zg2; refine zs6 ?_) | (apply zg3; refine zs7 ?_) | (apply zg4; refine zs9 ?_) | (apply zg5; refine zs10 ?_) | (apply zg14; refine zs31 ?_) | (apply zg22; first | refine zs50 ?_ | refine zs51 ?_) | (apply zg24; (refine zs54 ?_; intro _)) | (apply zg25; refine zs55 ?_) | apply (zs65 ?_) | (apply Yo; exact zp) | apply (zs68 ?_) | apply (zs69 ?_) | apply (zs70 ?_) | (apply zg29; (apply Yq; exact za ; exact rfl)) | apply (zs87 ?_) | (apply Yl; (repeat (first | with_reducible exact Yh | (with_reducible apply Yg; (repeat (first | with_reducible exact Yf | with_reducible apply Ye)))))) | apply (zs93 ?_) | apply (zs94 ?_) | fail)
  rename_i g5 _ g6 g7
  apply UF _ (cs := [.pointer (some ⟨g6, 0, none⟩), .pointer (some ⟨g5, 0, none⟩)])
  exact rfl
  exact Yjc
  exact za
  exact rfl
  · intro w hw
    have h5 : St B w0 (many (C.map clQ) :: blk g6 (.cells #[sptr (some ⟨ga, 0, none⟩) (Cs.length * 5)] 249 (0, 0)) :: blk g5 (.cells #[.slice lA l.length lcap] 24 (0, 0)) :: clsP (some ⟨ga, 0, none⟩) cap C :: rdrA g (some ⟨ga, 0, none⟩) cap C last :: nrs lA lcap l :: H) w := by
      rw [show ((C.length : Int) - 1).toNat = Cs.length by omega] at hw
      revert w
      exact zk
    have h6 : St B w0 (many (clP x) :: many (Cs.map clQ) :: blk g6 (.cells #[sptr (some ⟨ga, 0, none⟩) (Cs.length * 5)] 249 (0, 0)) :: blk g5 (.cells #[.slice lA l.length lcap] 24 (0, 0)) :: clsP (some ⟨ga, 0, none⟩) cap C :: rdrA g (some ⟨ga, 0, none⟩) cap C last :: nrs lA lcap l :: H) w := by
      rw [← hCe] at h5 ⊢
      exact h5.perm (Vx clQ Cs x _)
    have h7 := h6.perm (.open_ (clP x) _)
    refine Ydp ga g6 g5 Cs.length cap C x hxi hx lA lcap l v0 v1 h0 h1 (H := sl 72 1 x.rA x.rs.length x.rcap (x.rs.flatMap rowF) :: many (x.rs.map rowQ) :: sl 24 1 x.sA x.ss.length x.scap (x.ss.flatMap rowF) :: many (x.ss.map rowQ) :: many (Cs.map clQ) :: rdrA g (some ⟨ga, 0, none⟩) cap C last :: H) ?_
    unfold clP at h7
    dsimp only [List.cons_append, List.nil_append] at h7
    clear h5 h6 hw
    revert w
    exact zk
  rintro _ _ ⟨rfl, A1, c1, A2, c2, rfl⟩
  obtain ⟨x', hx'⟩ : ∃ x' : ClM, { x with bA := A1, bcap := c1, bs := x.bs ++ [v0], wA := A2, wcap := c2, ws := x.ws ++ [v1] } = x' := ⟨_, rfl⟩
  have hset : C.set Cs.length x' = Cs ++ [x'] := by rw [← hCe]; exact Wd _ _ _
  have hn' : C.length = (Cs ++ [x']).length := by rw [hn]; simp
  rw [hx', hset]
  repeat' (first | apply (zs65 ?_) | fail)
  apply Yi (rdrA g (some ⟨ga, 0, none⟩) cap (Cs ++ [x']) last :: clsP (some ⟨ga, 0, none⟩) cap (Cs ++ [x']) :: many ((Cs ++ [x']).map clQ) :: H)
  · intro w hw
    have h5 : St B w0 (sl 72 1 x.rA x.rs.length x.rcap (x.rs.flatMap rowF) :: many (x.rs.map rowQ) :: nrs A1 c1 (x.bs ++ [v0]) :: nrs A2 c2 (x.ws ++ [v1]) :: sl 24 1 x.sA x.ss.length x.scap (x.ss.flatMap rowF) :: many (x.ss.map rowQ) :: many (Cs.map clQ) :: rdrA g (some ⟨ga, 0, none⟩) cap (Cs ++ [x']) last :: clsP (some ⟨ga, 0, none⟩) cap (Cs ++ [x']) :: H) w := by
      unfold rdrA clsP
      rw [← hn']
      clear hn' hset
      revert w
      exact zk
    have h6 := h5
    have h7 : St B w0 (clQ x' :: many (Cs.map clQ) :: rdrA g (some ⟨ga, 0, none⟩) cap (Cs ++ [x']) last :: clsP (some ⟨ga, 0, none⟩) cap (Cs ++ [x']) :: H) w := by
      have h8 := h6.perm (.close [_, _, _, _, _, _] _)
      rw [← hx'] at h8 ⊢
      exact h8
    exact (h7.perm (ZQ clQ Cs x' _)).perm ((Perm.swap _ _ _).trans (.cons _ (.swap _ _ _)))
  apply Zg; exact rfl
  rw [← hCe]
  exact ⟨rfl, _, _, Cs ++ [x'], Wh (by decide) l Cs x x' (by rw [← hx']; unfold ClM.clm YP; simp [List.getD_eq_getElem?_getD, h0, h1]), Wm hrow x' (by rw [← hx']; exact hrx), rfl⟩
set_option maxHeartbeats 4000000 in
theorem Yca (g : Nat) (A : Option Addr) (cap : Nat) (Cs : List ClM) (x : ClM) (last : Nat) (lA : Option Addr) (lcap : Nat) (l : List Int) (hC : (Cs ++ [x]).length ≤ 1000000) (hx : x.ss.length ≤ 1000) (hrow : Za (Cs ++ [x])) (hl : l.length ≤ 64) {B : Nat} {w0 : World} {H : List HP} {w : World}
    (hw : St B w0 (rdrA g A cap (Cs ++ [x]) last :: clsP A cap (Cs ++ [x]) :: many ((Cs ++ [x]).map clQ) :: nrs lA lcap l :: H) w) :
    Calls Tryz.prog 145 [.pointer (some ⟨g, 0, none⟩), .int .i64 (3 : Nat), .slice lA l.length lcap].toArray w (Post B w0 (UT H g last 3 l (Cs ++ [x]))) := by
  refine Yc Tryz.func145 Tryz.ntmps145 rfl rfl hw ?_
  refine Ybc (e := 61) (size := 5) (A := A) (k := (Cs ++ [x]).length) (cap := cap) (xs := (Cs ++ [x]).flatMap clF) zm (by simp) ?_
  rintro ga rfl
  have hrx := hrow x (by simp)
  obtain ⟨C, hCe⟩ : ∃ C, Cs ++ [x] = C := ⟨_, rfl⟩
  have hn : C.length = Cs.length + 1 := by rw [← hCe]; simp
  have hxi : C[Cs.length]? = some x := by rw [← hCe]; simp
  rw [hCe] at hC ⊢
  repeat' (first | apply (zs1 ?_) | (apply zg7; (refine zs15 ?_ ?_ <;> intro _ <;> try (exfalso; omega))) | (apply zg23; (refine zs53 ?_; intro _)) | apply (zs65 ?_) | apply (zs68 ?_) | apply (zs69 ?_) | apply (zs70 ?_) | (apply zg27; refine zs72 ?_) | apply (zs76 ?_) | fail)
  apply ZA [0, 1, 2, 3, 4, 5, 6, 7, 8, 9, 10, 11] [12] [true, true, true, false, false]
  kernel_rfl
  kernel_rfl
  exact zy
  (simp only [Yj, nthO]; rfl)
  (simp only [Yj, nthO]; rfl)
  repeat' (first | (apply JM T; exact rfl; exact rfl; exact rfl; exact rfl; omega) | apply (zs1 ?_) | apply (zs5 ?_) | (apply zg2; refine zs6 ?_) | (apply zg3; refine zs7 ?_) | (apply zg4; refine zs9 ?_) | (apply zg5; refine zs10 ?_) | (apply zg14; refine zs31 ?_) | (apply zg22; first | refine zs50 ?_ | refine zs51 ?_) | (apply zg24; (refine zs54 ?_; intro _)) | (apply zg25; refine zs55 ?_) | apply (zs65 ?_) | (apply Yo; exact zp) | apply (zs68 ?_) | apply (zs69 ?_) | apply (zs70 ?_) | (apply zg29; (apply Yq; exact za ; exact rfl)) | apply (zs87 ?_) | (apply Yl; (repeat (first | with_reducible exact Yh | (with_reducible apply Yg; (repeat (first | with_reducible exact Yf | with_reducible apply Ye)))))) | apply (zs93 ?_) | apply (zs94 ?_) | fail)
  rename_i g5 _ g6 g7
  apply UF _ (cs := [.pointer (some ⟨g6, 0, none⟩), .pointer (some ⟨g5, 0, none⟩)])
  exact rfl
  exact YiZ
  exact za
  exact rfl
  · intro w hw
    have h5 : St B w0 (many (C.map clQ) :: blk g6 (.cells #[sptr (some ⟨ga, 0, none⟩) (Cs.length * 5)] 249 (0, 0)) :: blk g5 (.cells #[.slice lA l.length lcap] 24 (0, 0)) :: clsP (some ⟨ga, 0, none⟩) cap C :: rdrA g (some ⟨ga, 0, none⟩) cap C last :: nrs lA lcap l :: H) w := by
      rw [show ((C.length : Int) - 1).toNat = Cs.length by omega] at hw
      revert w
      exact zk
    have h6 : St B w0 (many (clP x) :: many (Cs.map clQ) :: blk g6 (.cells #[sptr (some ⟨ga, 0, none⟩) (Cs.length * 5)] 249 (0, 0)) :: blk g5 (.cells #[.slice lA l.length lcap] 24 (0, 0)) :: clsP (some ⟨ga, 0, none⟩) cap C :: rdrA g (some ⟨ga, 0, none⟩) cap C last :: nrs lA lcap l :: H) w := by
      rw [← hCe] at h5 ⊢
      exact h5.perm (Vx clQ Cs x _)
    have h7 := h6.perm (.open_ (clP x) _)
    refine Yds ga g6 g5 Cs.length cap C x hxi hx lA lcap l (H := sl 72 1 x.rA x.rs.length x.rcap (x.rs.flatMap rowF) :: many (x.rs.map rowQ) :: nrs x.bA x.bcap x.bs :: nrs x.wA x.wcap x.ws :: many (x.ss.map rowQ) :: many (Cs.map clQ) :: rdrA g (some ⟨ga, 0, none⟩) cap C last :: nrs lA lcap l :: H) ?_
    unfold clP at h7
    dsimp only [List.cons_append, List.nil_append] at h7
    clear h5 h6 hw
    revert w
    exact zk
  rintro _ _ ⟨rfl, A', cap', rfl⟩
  obtain ⟨x', hx'⟩ : ∃ x' : ClM, { x with sA := A', scap := cap', ss := x.ss ++ [⟨lA, lcap, l⟩] } = x' := ⟨_, rfl⟩
  have hset : C.set Cs.length x' = Cs ++ [x'] := by rw [← hCe]; exact Wd _ _ _
  have hn' : C.length = (Cs ++ [x']).length := by rw [hn]; simp
  rw [hx', hset]
  repeat' (first | apply (zs65 ?_) | fail)
  apply Yi (rdrA g (some ⟨ga, 0, none⟩) cap (Cs ++ [x']) last :: clsP (some ⟨ga, 0, none⟩) cap (Cs ++ [x']) :: many ((Cs ++ [x']).map clQ) :: H)
  · intro w hw
    have h5 : St B w0 (sl 72 1 x.rA x.rs.length x.rcap (x.rs.flatMap rowF) :: many (x.rs.map rowQ) :: nrs x.bA x.bcap x.bs :: nrs x.wA x.wcap x.ws :: sl 24 1 A' (x.ss ++ [(⟨lA, lcap, l⟩ : RowM)]).length cap' ((x.ss ++ [(⟨lA, lcap, l⟩ : RowM)]).flatMap rowF) :: nrs lA lcap l :: many (x.ss.map rowQ) :: many (Cs.map clQ) :: rdrA g (some ⟨ga, 0, none⟩) cap (Cs ++ [x']) last :: clsP (some ⟨ga, 0, none⟩) cap (Cs ++ [x']) :: H) w := by
      unfold rdrA clsP
      rw [← hn']
      clear hn' hset
      revert w
      exact zk
    have h6 := h5.perm (.cons _ (.cons _ (.cons _ (.cons _ (.cons _ (VJ rowQ x.ss ⟨lA, lcap, l⟩ _))))))
    have h7 : St B w0 (clQ x' :: many (Cs.map clQ) :: rdrA g (some ⟨ga, 0, none⟩) cap (Cs ++ [x']) last :: clsP (some ⟨ga, 0, none⟩) cap (Cs ++ [x']) :: H) w := by
      have h8 := h6.perm (.close [_, _, _, _, _, _] _)
      rw [← hx'] at h8 ⊢
      exact h8
    exact (h7.perm (ZQ clQ Cs x' _)).perm ((Perm.swap _ _ _).trans (.cons _ (.swap _ _ _)))
  apply Zg; exact rfl
  rw [← hCe]
  exact ⟨rfl, _, _, Cs ++ [x'], Wh (by decide) l Cs x x' (by rw [← hx']; unfold ClM.clm YP; simp), Wm hrow x' (by rw [← hx']; exact ⟨hrx.1, YcX hrx.2 hl⟩), rfl⟩
theorem Ye5 (g : Nat) (A : Option Addr) (cap : Nat) (C : List ClM) (last k : Nat) (hk : k < 4) (lA : Option Addr) (lcap : Nat) (l : List Int) (hC : C.length ≤ 1000000) (hf : ∀ c ∈ C, c.rs.length ≤ 2 ∧ c.bs.length ≤ 2 ∧ c.ws.length ≤ 2 ∧ c.ss.length ≤ 2) (hrow : Za C) (hl1 : Ji k ≤ l.length) (hl : l.length ≤ 64) (hne : k ≠ 0 → C ≠ []) {B : Nat} {w0 : World} {H : List HP} {w : World}
    (hw : St B w0 (rdrA g A cap C last :: clsP A cap C :: many (C.map clQ) :: nrs lA lcap l :: H) w) :
    Calls Tryz.prog 145 [.pointer (some ⟨g, 0, none⟩), .int .i64 (k : Nat), .slice lA l.length lcap].toArray w (Post B w0 (UT H g last k l C)) := by
  match k, hk, hl1, hne with
  | 0, _, hl1, _ =>
    have hl1 : 1 ≤ l.length := hl1
    exact Ydr g A cap C last lA lcap l _ (List.getElem?_eq_getElem (by omega)) hC hrow hw
  | k + 1, hk, hl1, hne =>
    obtain ⟨Cs, x, rfl⟩ := UC (hne (by omega))
    have hx := hf x (by simp)
    match k, hk, hl1 with
    | 0, _, _ => exact YbM g A cap Cs x last lA lcap l hC (by omega) hrow hl hw
    | 1, _, hl1 =>
      have hl1 : 2 ≤ l.length := hl1
      exact Yb3 g A cap Cs x last lA lcap l hC (by omega) _ _ (List.getElem?_eq_getElem (by omega)) (List.getElem?_eq_getElem (by omega)) hrow hl hw
    | 2, _, _ => exact Yca g A cap Cs x last lA lcap l hC (by omega) hrow hl hw
open Go.RowKit Go.Eng Go.Nw Go.Rt
theorem Yfe {k : Nat} (hk : k < 4) (w : World) : (Instr.index 213 Z5 (.int .i64 (k : Nat))).run Tryz.prog w = .ok (.agg #[strV (Xq k), .int .i64 (Ji k : Nat), .int .i64 (Vh k : Nat), .int .i64 (Y4 k : Nat)]) w := Y0 hk w
def Oq (H : List HP) (g last : Nat) (C : List ClM) (s : List UInt8) (v : Value) (K : List HP) : Prop :=
  match XO ⟨C.map ClM.clm, last⟩ s with
  | none => v = .bool false ∧ K = H
  | some p => v = .bool true ∧ ∃ A' cap' C', C'.map ClM.clm = p.c ∧ Za C' ∧ K = rdrA g A' cap' C' p.last :: clsP A' cap' C' :: many (C'.map clQ) :: H
theorem YeH {w : List UInt8} {k : Nat} (hk : k < 4) (h : w = Xq k) : JP w = some k := by rw [h]; exact (O7 hk).1
theorem Yfc {w : List UInt8} (h : ∀ j, j < 4 → w ≠ Xq j) : JP w = none := by
  unfold JP
  have h0 : w ≠ wordF := h 0 (by omega)
  have h1 : w ≠ wordR := h 1 (by omega)
  have h2 : w ≠ wordB := h 2 (by omega)
  have h3 : w ≠ wordL := h 3 (by omega)
  rw [if_neg h0, if_neg h1, if_neg h2, if_neg h3]
set_option maxRecDepth 10000 in
set_option maxHeartbeats 4000000 in
theorem YdO (g : Nat) (A : Option Addr) (cap : Nat) (C : List ClM) (last : Nat) (hl3 : last < 4) (s : List UInt8) (hs : s.length ≤ 100000) (hC : C.length ≤ 1000000) (hrd : Rdr ⟨C.map ClM.clm, last⟩) (hrow : Za C) {B : Nat} {w0 : World} {H : List HP} {w : World} (ht : TabsB B w0)
    (hw : St B w0 (rdrA g A cap C last :: clsP A cap C :: many (C.map clQ) :: H) w) :
    Calls Tryz.prog 82 [.pointer (some ⟨g, 0, none⟩), strV s].toArray w (Post B w0 (Oq H g last C s)) := by
  refine Yc Tryz.func82 Tryz.ntmps82 rfl rfl hw ?_
  obtain ⟨R, hR⟩ : ∃ R, XO ⟨C.map ClM.clm, last⟩ s = R := ⟨_, rfl⟩
  have hout : ∀ v K, (match R with | none => v = .bool false ∧ K = H | some p => v = .bool true ∧ ∃ A' cap' C', C'.map ClM.clm = p.c ∧ Za C' ∧ K = rdrA g A' cap' C' p.last :: clsP A' cap' C' :: many (C'.map clQ) :: H) → Oq H g last C s v K := fun v K h => by
    unfold Oq
    rw [hR]
    exact h
  have hlen2 := Yej hrd
  repeat' (first | apply (zs1 ?_) | apply (zs2 ?_) | apply (zs65 ?_) | apply (zs68 ?_) | apply (zs69 ?_) | apply (zs70 ?_) | fail)
  apply Yn _ en81
  exact za
  exact rfl
  exact fun _ hw => (Qv s 32 (by omega) ht (hw))
  rintro _ _ ⟨gs, rfl, rfl⟩
  obtain ⟨ps, hps⟩ : ∃ ps, cutC 32 s = ps := ⟨_, rfl⟩
  have hne : ps ≠ [] := hps ▸ U6 32 s
  have hp0 : 1 ≤ ps.length := List.length_pos_iff.2 hne
  have hpl : ps.length ≤ 100001 := by have := Wq (c := 32) s; rw [hps] at this; omega
  have hrp : ∀ {L : List HP}, blk gs (.cells (ps.map strV).toArray 9 (0, 0)) ∈ L → Rd B w0 L (some ⟨gs, 0, none⟩) (ps.flatMap strL) := fun h => by
    rw [← YaL]
    exact Rd.blk (cs := (ps.map strV).toArray) h
  have h0 : ps[0]? = some (ps.headD []) := by
    cases ps with
    | nil => exact absurd rfl hne
    | cons p ps => rfl
  obtain ⟨wd, hwd⟩ : ∃ wd, ps.headD [] = wd := ⟨_, rfl⟩
  rw [hwd] at h0
  have hlN : JP wd = none → R = none := fun e => by rw [← hR]; unfold XO; rw [hps, hwd, e]
  have hlS : ∀ k, JP wd = some k → R = Qn ⟨C.map ClM.clm, last⟩ s k := fun k e => by rw [← hR]; unfold XO; rw [hps, hwd, e]
  rw [hps]
  have p1 := fun {H' : List HP} {w : World} (hw : St B w0 H' w) => Wz hw
  repeat' (first | apply (zs2 ?_) | apply (zs65 ?_) | apply (zs68 ?_) | apply (zs69 ?_) | apply (zs70 ?_) | fail)
  first | apply Ya Zt | apply Yb Zt
  exact za
  exact rfl
  exact fun _ hw => (p1 hw)
  repeat' (first | apply (zs1 ?_) | apply (zs65 ?_) | apply (zs68 ?_) | apply (zs73 ?_) | fail)
  refine Yk (fun z : Nat => [(13, .int .i64 (z : Nat)), (12, Z5), (4, .bool false), (5, .slice (some ⟨gs, 0, none⟩) ps.length ps.length), (1, strV s), (0, .pointer (some ⟨g, 0, none⟩))])
    (fun _ => blk gs (.cells (ps.map strV).toArray 9 (0, 0)) :: rdrA g A cap C last :: clsP A cap C :: many (C.map clQ) :: H) (fun z => z ≤ 4 ∧ ∀ j, j < z → wd ≠ Xq j) (fun z => 4 - z) 0 ⟨Nat.zero_le _, fun k hk => absurd hk (Nat.not_lt_zero _)⟩ ?_ (fun w hw => hw) ?_
  · exact zu
  rintro k ⟨hk, hall⟩ K hK
  by_cases hlt : k < 4
  rotate_left
  · obtain rfl : k = 4 := by omega
    have hRn := hlN (Yfc hall)
    repeat' (first | apply (zs2 ?_) | (apply (zs17 ?_ ?_) <;> intro _ <;> try (exfalso; omega)) | apply (zs65 ?_) | apply (zs68 ?_) | apply (zs69 ?_) | apply (zs70 ?_) | (apply zg27; refine zs72 ?_) | apply (zs74 ?_) | apply (zs75 ?_) | apply (zs80 ?_) | apply (zs81 ?_) | fail)
    apply Yi H
    · exact zk
    apply Yd; exact rfl; exact rfl
    apply hout
    rw [hRn]
    exact ⟨rfl, rfl⟩
  have hrp' : ∀ X, Rd B w0 (X :: blk gs (.cells (ps.map strV).toArray 9 (0, 0)) :: rdrA g A cap C last :: clsP A cap C :: many (C.map clQ) :: H) (some ⟨gs, 0, none⟩) (ps.flatMap strL) := fun X => hrp (.tail _ (.head _))
  repeat' (first | (apply Yx; exact rfl; exact rfl; exact rfl; exact Yfe hlt) | apply (zs1 ?_) | apply (zs2 ?_) | (apply zg2; refine zs6 ?_) | (apply zg3; refine zs7 ?_) | (apply (zs17 ?_ ?_) <;> intro _ <;> try (exfalso; omega)) | (apply zg22; refine zs51 ?_) | (apply zg24; (refine zs54 ?_; intro _)) | apply (zs65 ?_) | apply (zs68 ?_) | apply (zs69 ?_) | apply (zs70 ?_) | (apply zg27; refine zs71 ?_) | apply (zs73 ?_) | apply (zs76 ?_) | (apply zg28; refine zs83 ?_) | fail)
  rename_i g7
  have hr5 := hrp' (blk g7 (.cells #[strV (Xq k), .int .i64 (Ji k : Nat), .int .i64 (Vh k : Nat), .int .i64 (Y4 k : Nat)] 212 (0, 0)))
  repeat' (first | (apply Ybe (Xq k) wd; exact rfl; exact rfl; exact rfl; all_goals intro hwk) | apply (zs1 ?_) | (apply zg3; refine zs60 ?_) | (apply zg5; refine zs57 ?_) | (apply zg13; refine zs30 ?_) | apply (zs65 ?_) | apply (zs66 ?_) | apply (zs68 ?_) | apply (zs69 ?_) | apply (zs70 ?_) | (apply zg27; first | refine zs71 ?_ | refine zs72 ?_) | apply (zs75 ?_) | apply (zs76 ?_) | apply (zs80 ?_) | apply (zs81 ?_) | fail)
  · apply hK (k + 1)
    · exact ⟨by omega, fun j hj => by
        by_cases e : j = k
        · subst e; exact fun e2 => hwk e2.symm
        · exact hall j (by omega)⟩
    · omega
    · exact zu
    · exact zk
  have hRk := hlS k (YeH hlt hwk.symm)
  obtain ⟨ws, hws⟩ : ∃ ws, ps.tail = ws := ⟨_, rfl⟩
  have hwl : ws.length = ps.length - 1 := by rw [← hws, List.length_tail]
  have hwm : ∀ p ∈ ws, p.length ≤ 100000 := fun p hp => by
    have h1 := Ybr (c := 32) (l := s) p (by rw [hps]; exact List.mem_of_mem_tail (hws ▸ hp))
    omega
  apply Je T (n' := ws.length); exact rfl; exact rfl; exact rfl; exact rfl; omega; (rw [hwl]; rfl)
  have hrw : ∀ {L : List HP}, blk gs (.cells (ps.map strV).toArray 9 (0, 0)) ∈ L → Rd B w0 L (subA (some ⟨gs, 0, none⟩) 1 ps.length 1) (ws.flatMap strL) := fun h => by
    have h1 := Rd.sub (q := 1) (o := 1) (k := ws.length) (cap := ps.length) (fun _ => rfl) (hrp h) (by omega)
    rw [List.drop_one, hws, List.take_length] at h1
    exact h1
  rw [show (1 : Int).toNat = 1 from rfl]
  obtain ⟨A0, hA0⟩ : ∃ A0, subA (some ⟨gs, 0, none⟩) 1 ps.length 1 = A0 := ⟨_, rfl⟩
  rw [hA0] at hrw ⊢
  repeat' (first | fail)
  apply Yn _ Yjd
  exact za
  exact rfl
  exact fun _ hw => (Yaa ws (by omega) hwm ht (hrw zm) (hw))
  intro v K2 hv
  cases hn : Js ws with
  | none =>
    rw [hn] at hv
    obtain ⟨rfl, rfl⟩ := hv
    have hRn : R = none := by rw [hRk]; unfold Qn; rw [hps, hws, hn]
    repeat' (first | apply (zs1 ?_) | apply (zs2 ?_) | (apply zg1; refine zs3 ?_) | (apply zg6; refine zs11 ?_) | apply (zs13 ?_) | (apply zg20; refine zs48 ?_) | apply (zs65 ?_) | apply (zs68 ?_) | apply (zs69 ?_) | apply (zs70 ?_) | (apply zg27; refine zs71 ?_) | apply (zs74 ?_) | apply (zs77 ?_) | apply (zs78 ?_) | fail)
    apply Yi H
    · exact zk
    apply Yd; exact rfl; exact rfl
    apply hout
    rw [hRn]
    exact ⟨rfl, rfl⟩
  | some l =>
    rw [hn] at hv
    obtain ⟨lA, lcap, rfl, rfl⟩ := hv
    have hRl : R = if Ji k ≤ l.length ∧ l.length ≤ Vh k ∧ Zu ⟨C.map ClM.clm, last⟩ k = true then some ⟨Zm k l (C.map ClM.clm), k⟩ else none := by rw [hRk]; unfold Qn; rw [hps, hws, hn]
    have hll : l.length = ws.length := by
      unfold Js at hn
      split at hn
      · cases hn
      · rw [← Option.some.inj hn, List.length_map]
    by_cases h1 : Ji k ≤ l.length ∧ l.length ≤ Vh k
    rotate_left
    · have hRn : R = none := by rw [hRl, if_neg fun e => h1 ⟨e.1, e.2.1⟩]
      by_cases h2 : Ji k ≤ l.length
      · have h3 : ¬ l.length ≤ Vh k := fun e => h1 ⟨h2, e⟩
        repeat' (first | apply (zs1 ?_) | apply (zs2 ?_) | (apply zg1; first | refine zs3 ?_ | refine zs4 ?_) | (apply zg2; refine zs6 ?_) | (apply zg3; refine zs7 ?_) | (apply zg4; refine zs9 ?_) | (apply zg6; first | refine zs11 ?_ | refine zs12 ?_) | apply (zs13 ?_) | (apply (zs17 ?_ ?_) <;> intro _ <;> try (exfalso; omega)) | (apply (zs19 ?_ ?_) <;> intro _ <;> try (exfalso; omega)) | (apply zg20; refine zs47 ?_) | apply (zs65 ?_) | apply (zs68 ?_) | apply (zs69 ?_) | apply (zs70 ?_) | (apply zg27; refine zs71 ?_) | apply (zs74 ?_) | apply (zs77 ?_) | apply (zs78 ?_) | fail)
        apply Yi H
        · exact zk
        apply Yd; exact rfl; exact rfl
        apply hout
        rw [hRn]
        exact ⟨rfl, rfl⟩
      · repeat' (first | apply (zs1 ?_) | apply (zs2 ?_) | (apply zg1; first | refine zs3 ?_ | refine zs4 ?_) | (apply zg2; refine zs6 ?_) | (apply zg3; refine zs7 ?_) | (apply zg4; refine zs9 ?_) | (apply zg6; first | refine zs11 ?_ | refine zs12 ?_) | apply (zs13 ?_) | (apply (zs17 ?_ ?_) <;> intro _ <;> try (exfalso; omega)) | (apply zg20; refine zs47 ?_) | apply (zs65 ?_) | apply (zs68 ?_) | apply (zs69 ?_) | apply (zs70 ?_) | (apply zg27; refine zs71 ?_) | apply (zs74 ?_) | apply (zs77 ?_) | apply (zs78 ?_) | fail)
        apply Yi H
        · exact zk
        apply Yd; exact rfl; exact rfl
        apply hout
        rw [hRn]
        exact ⟨rfl, rfl⟩
    obtain ⟨h1, h2⟩ := h1
    have hm4 := Yhz (k := k)
    have p2 := fun {H' : List HP} {w : World} (hm : rdrA g A cap C last ∈ H') (hr : Rd B w0 H' A (C.flatMap clF)) (hw : St B w0 H' w) => YeC g A cap C last k hlt hl3 hC (fun c hc => by have := hlen2 c hc; omega) hm hr hw
    cases hfit : Zu ⟨C.map ClM.clm, last⟩ k with
    | false =>
      have hRn : R = none := by rw [hRl, if_neg fun e => by rw [hfit] at e; exact Bool.false_ne_true e.2.2]
      rw [hfit] at p2
      repeat' (first | ((first | apply Ya Yd8 | apply Yb Yd8); exact za; exact rfl; exact fun _ hw => (p2 zm (.sl zm) hw)) | apply (zs1 ?_) | apply (zs2 ?_) | (apply zg1; refine zs4 ?_) | (apply zg2; refine zs6 ?_) | (apply zg3; refine zs7 ?_) | (apply zg4; refine zs9 ?_) | (apply zg6; refine zs12 ?_) | apply (zs13 ?_) | (apply (zs17 ?_ ?_) <;> intro _ <;> try (exfalso; omega)) | (apply (zs19 ?_ ?_) <;> intro _ <;> try (exfalso; omega)) | (apply zg20; first | refine zs47 ?_ | refine zs48 ?_) | apply (zs65 ?_) | apply (zs68 ?_) | apply (zs69 ?_) | apply (zs70 ?_) | (apply zg27; refine zs71 ?_) | apply (zs74 ?_) | apply (zs77 ?_) | apply (zs78 ?_) | fail)
      apply Yi H
      · exact zk
      apply Yd; exact rfl; exact rfl
      apply hout
      rw [hRn]
      exact ⟨rfl, rfl⟩
    | true =>
      have hRs : R = some ⟨Zm k l (C.map ClM.clm), k⟩ := by rw [hRl, if_pos ⟨h1, h2, hfit⟩]
      have hne : k ≠ 0 → C ≠ [] := fun hk0 e => YhN hrd hk0 hlt hfit (by rw [e]; rfl)
      rw [hfit] at p2
      repeat' (first | ((first | apply Ya Yd8 | apply Yb Yd8); exact za; exact rfl; exact fun _ hw => (p2 zm (.sl zm) hw)) | apply (zs1 ?_) | apply (zs2 ?_) | (apply zg1; refine zs4 ?_) | (apply zg2; refine zs6 ?_) | (apply zg3; refine zs7 ?_) | (apply zg4; refine zs9 ?_) | (apply zg6; refine zs12 ?_) | apply (zs13 ?_) | (apply (zs17 ?_ ?_) <;> intro _ <;> try (exfalso; omega)) | (apply (zs19 ?_ ?_) <;> intro _ <;> try (exfalso; omega)) | (apply zg20; refine zs47 ?_) | apply (zs65 ?_) | apply (zs68 ?_) | apply (zs69 ?_) | apply (zs70 ?_) | (apply zg27; refine zs72 ?_) | apply (zs76 ?_) | fail)
      apply Yn _ Yi6
      exact za
      exact rfl
      · intro w hw
        refine Ye5 g A cap C last k hlt lA lcap l hC hlen2 hrow h1 (by omega) hne (H := H) ?_
        revert w
        exact zk
      rintro _ _ ⟨rfl, A', cap', C', hC', hrow', rfl⟩
      repeat' (first | apply (zs1 ?_) | apply (zs2 ?_) | apply (zs5 ?_) | (apply zg2; refine zs6 ?_) | (apply zg22; refine zs50 ?_) | apply (zs65 ?_) | apply (zs68 ?_) | apply (zs69 ?_) | apply (zs70 ?_) | apply (zs74 ?_) | apply (zs77 ?_) | apply (zs78 ?_) | fail)
      apply Yi (rdrA g A' cap' C' k :: clsP A' cap' C' :: many (C'.map clQ) :: H)
      · exact zk
      apply Yd; exact rfl; exact rfl
      apply hout
      rw [hRs]
      exact ⟨rfl, A', cap', C', hC', hrow', rfl⟩
open Go.RowKit Go.Eng Go.Nw Go.Rt
structure PsM where
  i : Nat
  A : Option Addr
  cap : Nat
  C : List ClM
  last : Nat
theorem Yhd {C : List ClM} (h : Za C) (h2 : ∀ c ∈ C, c.rs.length ≤ 2 ∧ c.bs.length ≤ 2 ∧ c.ws.length ≤ 2 ∧ c.ss.length ≤ 2) : ∀ c ∈ C, c.lens := fun c hc => by
  have h3 := h2 c hc
  exact ⟨by omega, fun r hr => by have := (h c hc).1 r hr; omega, fun r hr => by have := (h c hc).2 r hr; omega⟩
theorem YfC {ls : List (List UInt8)} {k : Nat} {p : Pst} (h : Jb ls k = some p) : Rdr p ∧ p.c.length ≤ k := by
  unfold Jb at h
  have h1 := Yco _ h
  rw [List.length_take] at h1
  have h2 : startP.c.length = 0 := rfl
  exact ⟨(Yee _ Rdr.start h).1, by omega⟩
theorem Yge {p : Pst} (h : Rdr p) : p.last < 4 := by
  by_cases hc : p.c = []
  · have := h.some_ hc; omega
  · obtain ⟨cs, x, hx⟩ := UC hc
    rcases h.at_ cs x hx with h | h | h | h <;> omega
set_option maxRecDepth 10000 in
set_option maxHeartbeats 4000000 in
theorem YcY (text : List UInt8) (hl : text.length ≤ 100000) {B : Nat} {w0 : World} {H : List HP} {w : World} (ht : TabsB B w0) (hw : St B w0 H w) :
    Calls Tryz.prog 27 [strV text].toArray w (Post B w0 (OutC H (Wa text))) := by
  refine Yc Tryz.func27 Tryz.ntmps27 rfl rfl hw ?_
  repeat' (first | apply (zs1 ?_) | apply (zs2 ?_) | apply (zs65 ?_) | apply (zs68 ?_) | apply (zs69 ?_) | apply (zs70 ?_) | fail)
  apply Yn _ en81
  exact za
  exact rfl
  exact fun _ hw => (Qv text 10 (by omega) ht (hw))
  rintro _ _ ⟨gs, rfl, rfl⟩
  obtain ⟨ls, hls⟩ : ∃ ls, cutC 10 text = ls := ⟨_, rfl⟩
  have hpe : Wa text = UN ls := by unfold Wa; rw [hls]
  have hlc : ls.length ≤ 100001 := by have := Wq (c := 10) text; rw [hls] at this; omega
  have hl1 : 1 ≤ ls.length := List.length_pos_iff.2 (hls ▸ U6 10 text)
  have hll : ∀ p ∈ ls, p.length ≤ 100000 := fun p hp => by have := Ybr (c := 10) (l := text) p (hls ▸ hp); omega
  have hrp : ∀ {L : List HP}, blk gs (.cells (ls.map strV).toArray 9 (0, 0)) ∈ L → Rd B w0 L (some ⟨gs, 0, none⟩) (ls.flatMap strL) := fun h => by
    rw [← YaL]
    exact Rd.blk (cs := (ls.map strV).toArray) h
  rw [hls, hpe]
  repeat' (first | apply (zs1 ?_) | apply (zs2 ?_) | (apply zg4; refine zs9 ?_) | (apply zg14; refine zs31 ?_) | (apply zg23; (refine zs52 ?_; intro _)) | (apply zg25; refine zs55 ?_) | apply (zs65 ?_) | apply (zs68 ?_) | apply (zs69 ?_) | apply (zs70 ?_) | fail)
  rename_i gr
  obtain ⟨m, hm⟩ : ∃ m, ls.length = m + 1 := ⟨ls.length - 1, by omega⟩
  rw [show ((ls.length : Nat) : Int) - 1 = (m : Int) by omega]
  apply XT T (l := ls) (n' := (ls.take m).length); exact rfl; exact rfl; exact rfl; exact rfl; omega; exact Nat.le_refl _; (rw [List.length_take]; omega)
  rw [QF]
  repeat' (first | apply (zs1 ?_) | (apply zg4; refine zs9 ?_) | apply (zs65 ?_) | apply (zs68 ?_) | apply (zs73 ?_) | fail)
  have hlt : (ls.take m).length = m := by rw [List.length_take]; omega
  have hrt : ∀ {L : List HP}, blk gs (.cells (ls.map strV).toArray 9 (0, 0)) ∈ L → Rd B w0 L (some ⟨gs, 0, none⟩) ((ls.take m).flatMap strL) := fun h => Rd.take (q := 1) m (fun _ => rfl) (hrp h)
  have hpl : UN ls = if (Yu (badL ls) m 0).2 ≠ 0 then ([], Yu (badL ls) m 0)
    else if Xm ls m ≠ [] ∨ (Uz ls m).last ≠ 3 then ([], ((m : Int), 3))
    else if J9 (Uz ls m).c = false then ([], (-1, 1)) else ((Uz ls m).c, (-1, 0)) := by
    unfold UN
    rw [show ls.length - 1 = m by omega]
  refine Yk (fun (z : PsM) => [(21, .int .i64 z.i), (20, .int .i64 (ls.take m).length), (19, .slice (some ⟨gs, 0, none⟩) (ls.take m).length ls.length), (5, .slice (some ⟨gs, 0, none⟩) ls.length ls.length), (6, .int .i64 m), (7, .pointer (some ⟨gr, 0, none⟩))])
    (fun z => rdrA gr z.A z.cap z.C z.last :: clsP z.A z.cap z.C :: many (z.C.map clQ) :: blk gs (.cells (ls.map strV).toArray 9 (0, 0)) :: H) (fun z => z.i ≤ m ∧ Jb ls z.i = some ⟨z.C.map ClM.clm, z.last⟩ ∧ Za z.C) (fun z => m - z.i) ⟨0, none, 0, [], 3⟩ ⟨Nat.zero_le _, rfl, fun c hc => by cases hc⟩ ?_ (fun w hw => ?_) ?_
  · exact zu
  · have h4 : St B w0 (blk gr (.cells #[.slice none 0 0, .int .i64 3] 144 (0, 0)) :: blk gs (.cells (ls.map strV).toArray 9 (0, 0)) :: H) w := by
      revert w
      exact zk
    have h5 : St B w0 (rdrA gr none 0 [] 3 :: blk gs (.cells (ls.map strV).toArray 9 (0, 0)) :: H) w := h4
    exact (JN h5).perm ((Perm.cons _ (.swap _ _ _)).trans (.swap _ _ _))
  rintro ⟨i, A, cap, C, last⟩ ⟨hi, hp, hrow⟩ K hK
  dsimp only at hi hp hrow ⊢
  obtain ⟨hrd, hcl⟩ := YfC hp
  have hl3 := Yge hrd
  have hlen2 := Yej hrd
  dsimp only at hcl hl3
  rw [List.length_map] at hcl
  have hz : ∀ k, k < i → badL ls k = 0 := fun k hk => by
    unfold badL
    have h1 : Jb ls (k + 1) ≠ none := fun e => by
      have h2 : runL (ls.take (k + 1) ++ (ls.take i).drop (k + 1)) startP = some ⟨C.map ClM.clm, last⟩ := by
        rw [show ls.take (k + 1) = (ls.take i).take (k + 1) by rw [List.take_take, Nat.min_eq_left (by omega)], List.take_append_drop]
        exact hp
      rw [Jv] at h2
      unfold Jb at e
      rw [e] at h2
      cases h2
    cases hc : Jb ls (k + 1) with
    | none => exact absurd hc h1
    | some p => rfl
  by_cases hlti : i < m
  · have hrt' : Rd B w0 (rdrA gr A cap C last :: clsP A cap C :: many (C.map clQ) :: blk gs (.cells (ls.map strV).toArray 9 (0, 0)) :: H) (some ⟨gs, 0, none⟩) ((ls.take m).flatMap strL) := hrt zm
    have hget : (ls.take m)[i]? = some (Xm ls i) := by
      rw [List.getElem?_take, if_pos hlti]
      unfold Xm
      rw [List.getD_eq_getElem?_getD, List.getElem?_eq_getElem (by omega)]
      rfl
    have hlm : (Xm ls i).length ≤ 100000 := hll _ (List.mem_of_mem_take (List.mem_of_getElem? hget))
    have hst := Ygs (by omega) hp
    repeat' (first | apply (zs1 ?_) | apply (zs2 ?_) | (apply zg3; refine zs60 ?_) | (apply zg5; refine zs57 ?_) | (apply (zs17 ?_ ?_) <;> intro _ <;> try (exfalso; omega)) | apply (zs65 ?_) | apply (zs68 ?_) | apply (zs69 ?_) | apply (zs70 ?_) | (apply zg27; refine zs71 ?_) | apply (zs73 ?_) | apply (zs76 ?_) | fail)
    apply Yn _ en82
    exact za
    exact rfl
    exact fun _ hw => (YdO gr A cap C last hl3 (Xm ls i) hlm (by omega) hrd hrow ht (hw))
    intro v9 K9 hr9
    unfold Oq at hr9
    cases hrow9 : XO ⟨C.map ClM.clm, last⟩ (Xm ls i) with
    | none =>
      rw [hrow9] at hr9 hst
      obtain ⟨rfl, rfl⟩ := hr9
      have hbr : badL ls i = 3 := by unfold badL; rw [hst]; rfl
      have hfa := Y3 (f := badL ls) (r := m) (i0 := 0) (i := i) (fun k _ hk => hz k hk) (Nat.zero_le _) (by omega) (by rw [hbr]; decide)
      repeat' (first | apply (zs1 ?_) | apply (zs2 ?_) | (apply zg20; refine zs48 ?_) | apply (zs65 ?_) | apply (zs68 ?_) | apply (zs69 ?_) | apply (zs70 ?_) | (apply zg27; refine zs71 ?_) | apply (zs74 ?_) | apply (zs77 ?_) | apply (zs78 ?_) | fail)
      apply Yi (clsP none 0 [] :: many (([] : List ClM).map clQ) :: H)
      · intro w hw
        have h5 : St B w0 H w := by
          revert w
          exact zk
        exact JN h5
      apply XS; exact rfl; exact rfl; exact rfl; exact rfl
      rw [hpl, hfa, hbr, if_pos (by show (3 : Int) ≠ 0; decide)]
      exact JY rfl rfl
    | some p =>
      rw [hrow9] at hr9 hst
      obtain ⟨rfl, A', cap', C', hC', hrow', rfl⟩ := hr9
      repeat' (first | apply (zs1 ?_) | (apply zg13; refine zs30 ?_) | (apply zg20; refine zs47 ?_) | apply (zs65 ?_) | apply (zs68 ?_) | apply (zs70 ?_) | (apply zg27; refine zs72 ?_) | apply (zs76 ?_) | apply (zs79 ?_) | fail)
      apply hK ⟨i + 1, A', cap', C', p.last⟩
      · exact ⟨by dsimp only; omega, by dsimp only; rw [hst, hC'], hrow'⟩
      · dsimp only; omega
      · exact zu
      · exact zk
  · obtain rfl : i = m := by omega
    have hrp' : Rd B w0 (rdrA gr A cap C last :: clsP A cap C :: many (C.map clQ) :: blk gs (.cells (ls.map strV).toArray 9 (0, 0)) :: H) (some ⟨gs, 0, none⟩) (ls.flatMap strL) := hrp zm
    have hzz : Yu (badL ls) i 0 = (-1, 0) := Xj fun k _ hk => hz k (by omega)
    have hgm : ls[(i : Int).toNat]? = some (Xm ls i) := by
      unfold Xm
      rw [List.getD_eq_getElem?_getD, Int.toNat_natCast, List.getElem?_eq_getElem (by omega)]
      rfl
    have hpat : Uz ls i = ⟨C.map ClM.clm, last⟩ := by unfold Uz; rw [hp]; rfl
    rw [hpl, hzz, if_neg (by simp), hpat]
    dsimp only
    clear hK
    repeat' (first | (apply Ybe (Xm ls i) []; exact rfl; exact rfl; exact rfl; all_goals intro hwd) | apply (zs1 ?_) | apply (zs2 ?_) | (apply zg1; first | refine zs3 ?_ | refine zs4 ?_) | apply (zs5 ?_) | (apply zg2; refine zs6 ?_) | (apply zg3; first | refine zs7 ?_ | refine zs60 ?_) | (apply zg5; refine zs57 ?_) | (apply zg6; first | refine zs11 ?_ | refine zs12 ?_) | (apply zg8; (refine zs16 ?_ ?_ <;> intro _ <;> try (exfalso; omega))) | (apply (zs17 ?_ ?_) <;> intro _ <;> try (exfalso; omega)) | apply (zs65 ?_) | apply (zs68 ?_) | apply (zs69 ?_) | apply (zs70 ?_) | (apply zg27; first | refine zs71 ?_ | refine zs72 ?_) | apply (zs74 ?_) | apply (zs75 ?_) | apply (zs76 ?_) | apply (zs77 ?_) | apply (zs80 ?_) | apply (zs81 ?_) | fail)
    · apply Yi (clsP none 0 [] :: many (([] : List ClM).map clQ) :: H)
      · intro w hw
        have h5 : St B w0 H w := by
          revert w
          exact zk
        exact JN h5
      apply XS; exact rfl; exact rfl; exact rfl; exact rfl
      rw [if_pos (.inl hwd)]
      exact JY rfl rfl
    · have hl9 : last ≠ 3 := by omega
      apply Yi (clsP none 0 [] :: many (([] : List ClM).map clQ) :: H)
      · intro w hw
        have h5 : St B w0 H w := by
          revert w
          exact zk
        exact JN h5
      apply XS; exact rfl; exact rfl; exact rfl; exact rfl
      rw [if_pos (.inr hl9)]
      exact JY rfl rfl
    have hl9 : last = 3 := by omega
    rw [if_neg (by rintro (h | h); exact h hwd; exact h hl9)]
    have hlens := Yhd hrow hlen2
    have hcin : CIn B w0 (rdrA gr A cap C last :: clsP A cap C :: many (C.map clQ) :: blk gs (.cells (ls.map strV).toArray 9 (0, 0)) :: H) A C := ⟨.sl (cap := cap) (.tail _ (.head _)), fun x hx => Jj (.tail _ (.tail _ (.head _))) hx (hlens x hx), by omega⟩
    have p3 := fun {H' : List HP} {w : World} (hc : CIn B w0 H' A C) (hw : St B w0 H' w) => QP C (cap := cap) hc hw
    cases hf : J9 (C.map ClM.clm) with
    | false =>
      rw [hf] at p3
      repeat' (first | ((first | apply Ya en75 | apply Yb en75); exact za; exact rfl; exact fun _ hw => (p3 hcin hw)) | apply (zs2 ?_) | (apply zg20; refine zs48 ?_) | apply (zs65 ?_) | apply (zs68 ?_) | apply (zs69 ?_) | apply (zs70 ?_) | (apply zg27; refine zs71 ?_) | apply (zs74 ?_) | apply (zs77 ?_) | fail)
      apply Yi (clsP none 0 [] :: many (([] : List ClM).map clQ) :: H)
      · intro w hw
        have h5 : St B w0 H w := by
          revert w
          exact zk
        exact JN h5
      apply XS; exact rfl; exact rfl; exact rfl; exact rfl
      rw [if_pos rfl]
      exact JY rfl rfl
    | true =>
      rw [hf] at p3
      repeat' (first | ((first | apply Ya en75 | apply Yb en75); exact za; exact rfl; exact fun _ hw => (p3 hcin hw)) | apply (zs1 ?_) | apply (zs2 ?_) | apply (zs5 ?_) | (apply zg2; refine zs6 ?_) | (apply zg3; refine zs7 ?_) | (apply zg20; refine zs47 ?_) | apply (zs65 ?_) | apply (zs68 ?_) | apply (zs69 ?_) | apply (zs70 ?_) | (apply zg27; refine zs72 ?_) | apply (zs74 ?_) | apply (zs76 ?_) | fail)
      apply Yi (clsP A cap C :: many (C.map clQ) :: H)
      · exact zk
      apply XS; exact rfl; exact rfl; exact rfl; exact rfl
      exact ⟨A, cap, C, rfl, rfl, hlens, rfl⟩
open Go.RowKit Go.Eng Go.Nw Go.Rt
set_option maxRecDepth 10000 in
set_option maxHeartbeats 4000000 in
theorem W9 (c d : ClM) {B : Nat} {w0 : World} {H : List HP} {w : World} (hc : c.In B w0 H) (hd : d.In B w0 H) (hw : St B w0 H w) :
    Calls Tryz.prog 73 [clV c, clV d].toArray w (Post B w0 fun u K => u = .bool (decide (c.clm = d.clm)) ∧ K = H) := by
  refine Yc Tryz.func73 Tryz.ntmps73 rfl rfl hw ?_
  have hcl := hc.ln
  have hdl := hd.ln
  have p1 := fun {H' : List HP} {w : World} (hc : c.In B w0 H') (hd : d.In B w0 H') (hw : St B w0 H' w) => Ob c.rs d.rs (cap := c.rcap) (cap2 := d.rcap) hcl.1 hdl.1 hc.rl hd.rl hc.rt hd.rt hc.rw_ hd.rw_ hw
  have p2 := fun {H' : List HP} {w : World} (hc : c.In B w0 H') (hd : d.In B w0 H') (hw : St B w0 H' w) => XJ c.bs d.bs (cap := c.bcap) (cap2 := d.bcap) (by omega) (by omega) hc.bd hd.bd hw
  have p3 := fun {H' : List HP} {w : World} (hc : c.In B w0 H') (hd : d.In B w0 H') (hw : St B w0 H' w) => XJ c.ws d.ws (cap := c.wcap) (cap2 := d.wcap) (by omega) (by omega) hc.ws hd.ws hw
  have hce := @Yf2 c d
  unfold clV
  by_cases h1 : c.flow = d.flow
  rotate_left
  · rw [decide_eq_false (fun h => h1 (hce.1 h).1)]
    repeat' (first | apply (zs1 ?_) | apply (zs2 ?_) | (apply zg1; refine zs3 ?_) | (apply zg2; refine zs6 ?_) | (apply zg3; refine zs7 ?_) | (apply zg6; refine zs11 ?_) | (apply zg8; (refine zs16 ?_ ?_ <;> intro _ <;> try (exfalso; omega))) | (apply zg23; (refine zs52 ?_; intro _)) | apply (zs65 ?_) | apply (zs68 ?_) | apply (zs69 ?_) | apply (zs70 ?_) | (apply zg27; refine zs71 ?_) | apply (zs74 ?_) | apply (zs77 ?_) | fail)
    apply Yi H
    · exact zk
    apply Yd; exact rfl; exact rfl; exact ⟨rfl, rfl⟩
  by_cases h2 : c.rs.map (·.xs) = d.rs.map (·.xs)
  rotate_left
  · rw [decide_eq_false (fun h => h2 (hce.1 h).2.1)]
    rw [decide_eq_false h2] at p1
    repeat' (first | apply (zs1 ?_) | apply (zs2 ?_) | (apply zg1; refine zs4 ?_) | (apply zg2; refine zs6 ?_) | (apply zg3; refine zs7 ?_) | (apply zg8; (refine zs16 ?_ ?_ <;> intro _ <;> try (exfalso; omega))) | (apply zg23; (refine zs52 ?_; intro _)) | apply (zs65 ?_) | apply (zs68 ?_) | apply (zs69 ?_) | apply (zs70 ?_) | fail)
    first | apply Ya V3 | apply Yb V3
    exact za
    exact rfl
    exact fun _ hw => (p1 (hc.mono zk) (hd.mono zk) hw)
    repeat' (first | apply (zs1 ?_) | apply (zs2 ?_) | (apply zg1; first | refine zs3 ?_ | refine zs4 ?_) | (apply zg6; first | refine zs11 ?_ | refine zs12 ?_) | (apply zg20; refine zs48 ?_) | apply (zs65 ?_) | apply (zs68 ?_) | apply (zs69 ?_) | apply (zs70 ?_) | (apply zg27; refine zs71 ?_) | apply (zs74 ?_) | apply (zs77 ?_) | fail)
    apply Yi H
    · exact zk
    apply Yd; exact rfl; exact rfl; exact ⟨rfl, rfl⟩
  rw [decide_eq_true h2] at p1
  by_cases h3 : c.bs = d.bs
  rotate_left
  · rw [decide_eq_false (fun h => h3 (hce.1 h).2.2.1)]
    rw [decide_eq_false h3] at p2
    repeat' (first | apply (zs1 ?_) | apply (zs2 ?_) | (apply zg1; refine zs4 ?_) | (apply zg2; refine zs6 ?_) | (apply zg3; refine zs7 ?_) | (apply zg8; (refine zs16 ?_ ?_ <;> intro _ <;> try (exfalso; omega))) | (apply zg23; (refine zs52 ?_; intro _)) | apply (zs65 ?_) | apply (zs68 ?_) | apply (zs69 ?_) | apply (zs70 ?_) | fail)
    first | apply Ya V3 | apply Yb V3
    exact za
    exact rfl
    exact fun _ hw => (p1 (hc.mono zk) (hd.mono zk) hw)
    repeat' (first | apply (zs1 ?_) | (apply zg1; refine zs4 ?_) | (apply zg2; refine zs6 ?_) | (apply zg3; refine zs7 ?_) | (apply zg6; refine zs12 ?_) | (apply zg20; refine zs47 ?_) | fail)
    first | apply Ya Xp | apply Yb Xp
    exact za
    exact rfl
    exact fun _ hw => (p2 (hc.mono zk) (hd.mono zk) hw)
    repeat' (first | apply (zs1 ?_) | apply (zs2 ?_) | (apply zg1; first | refine zs3 ?_ | refine zs4 ?_) | (apply zg6; first | refine zs11 ?_ | refine zs12 ?_) | (apply zg20; refine zs48 ?_) | apply (zs65 ?_) | apply (zs68 ?_) | apply (zs69 ?_) | apply (zs70 ?_) | (apply zg27; refine zs71 ?_) | apply (zs74 ?_) | apply (zs77 ?_) | fail)
    apply Yi H
    · exact zk
    apply Yd; exact rfl; exact rfl; exact ⟨rfl, rfl⟩
  rw [decide_eq_true h3] at p2
  by_cases h4 : c.ws = d.ws
  rotate_left
  · rw [decide_eq_false (fun h => h4 (hce.1 h).2.2.2.1)]
    rw [decide_eq_false h4] at p3
    repeat' (first | apply (zs1 ?_) | apply (zs2 ?_) | (apply zg1; refine zs4 ?_) | (apply zg2; refine zs6 ?_) | (apply zg3; refine zs7 ?_) | (apply zg8; (refine zs16 ?_ ?_ <;> intro _ <;> try (exfalso; omega))) | (apply zg23; (refine zs52 ?_; intro _)) | apply (zs65 ?_) | apply (zs68 ?_) | apply (zs69 ?_) | apply (zs70 ?_) | fail)
    first | apply Ya V3 | apply Yb V3
    exact za
    exact rfl
    exact fun _ hw => (p1 (hc.mono zk) (hd.mono zk) hw)
    repeat' (first | apply (zs1 ?_) | (apply zg1; refine zs4 ?_) | (apply zg2; refine zs6 ?_) | (apply zg3; refine zs7 ?_) | (apply zg6; refine zs12 ?_) | (apply zg20; refine zs47 ?_) | fail)
    first | apply Ya Xp | apply Yb Xp
    exact za
    exact rfl
    exact fun _ hw => (p2 (hc.mono zk) (hd.mono zk) hw)
    repeat' (first | apply (zs1 ?_) | (apply zg1; refine zs4 ?_) | (apply zg2; refine zs6 ?_) | (apply zg3; refine zs7 ?_) | (apply zg6; refine zs12 ?_) | (apply zg20; refine zs47 ?_) | fail)
    first | apply Ya Xp | apply Yb Xp
    exact za
    exact rfl
    exact fun _ hw => (p3 (hc.mono zk) (hd.mono zk) hw)
    repeat' (first | apply (zs1 ?_) | apply (zs2 ?_) | (apply zg1; first | refine zs3 ?_ | refine zs4 ?_) | (apply zg6; first | refine zs11 ?_ | refine zs12 ?_) | (apply zg20; refine zs48 ?_) | apply (zs65 ?_) | apply (zs68 ?_) | apply (zs69 ?_) | apply (zs70 ?_) | (apply zg27; refine zs71 ?_) | apply (zs74 ?_) | apply (zs77 ?_) | fail)
    apply Yi H
    · exact zk
    apply Yd; exact rfl; exact rfl; exact ⟨rfl, rfl⟩
  rw [decide_eq_true h4] at p3
  have h5 : decide (c.clm = d.clm) = decide (c.ss.map (·.xs) = d.ss.map (·.xs)) := decide_eq_decide.2 ⟨fun h => (hce.1 h).2.2.2.2, fun h => hce.2 ⟨h1, h2, h3, h4, h⟩⟩
  rw [h5]
  by_cases h6 : c.ss.length = d.ss.length
  rotate_left
  · rw [decide_eq_false (fun e => h6 (by have := congrArg List.length e; rwa [List.length_map, List.length_map] at this))]
    repeat' (first | apply (zs1 ?_) | apply (zs2 ?_) | (apply zg1; refine zs4 ?_) | (apply zg2; refine zs6 ?_) | (apply zg3; refine zs7 ?_) | (apply zg8; (refine zs16 ?_ ?_ <;> intro _ <;> try (exfalso; omega))) | (apply zg23; (refine zs52 ?_; intro _)) | apply (zs65 ?_) | apply (zs68 ?_) | apply (zs69 ?_) | apply (zs70 ?_) | fail)
    first | apply Ya V3 | apply Yb V3
    exact za
    exact rfl
    exact fun _ hw => (p1 (hc.mono zk) (hd.mono zk) hw)
    repeat' (first | apply (zs1 ?_) | (apply zg1; refine zs4 ?_) | (apply zg2; refine zs6 ?_) | (apply zg3; refine zs7 ?_) | (apply zg6; refine zs12 ?_) | (apply zg20; refine zs47 ?_) | fail)
    first | apply Ya Xp | apply Yb Xp
    exact za
    exact rfl
    exact fun _ hw => (p2 (hc.mono zk) (hd.mono zk) hw)
    repeat' (first | apply (zs1 ?_) | (apply zg1; refine zs4 ?_) | (apply zg2; refine zs6 ?_) | (apply zg3; refine zs7 ?_) | (apply zg6; refine zs12 ?_) | (apply zg20; refine zs47 ?_) | fail)
    first | apply Ya Xp | apply Yb Xp
    exact za
    exact rfl
    exact fun _ hw => (p3 (hc.mono zk) (hd.mono zk) hw)
    repeat' (first | apply (zs1 ?_) | apply (zs2 ?_) | (apply zg1; refine zs4 ?_) | (apply zg2; refine zs6 ?_) | (apply zg3; refine zs7 ?_) | (apply zg4; refine zs9 ?_) | (apply zg6; refine zs12 ?_) | (apply zg8; (refine zs16 ?_ ?_ <;> intro _ <;> try (exfalso; omega))) | (apply zg20; refine zs47 ?_) | apply (zs65 ?_) | apply (zs68 ?_) | apply (zs69 ?_) | apply (zs70 ?_) | (apply zg27; refine zs71 ?_) | apply (zs74 ?_) | apply (zs77 ?_) | fail)
    apply Yi H
    · exact zk
    apply Yd; exact rfl; exact rfl; exact ⟨rfl, rfl⟩
  repeat' (first | apply (zs1 ?_) | apply (zs2 ?_) | (apply zg1; refine zs4 ?_) | (apply zg2; refine zs6 ?_) | (apply zg3; refine zs7 ?_) | (apply zg8; (refine zs16 ?_ ?_ <;> intro _ <;> try (exfalso; omega))) | (apply zg23; (refine zs52 ?_; intro _)) | apply (zs65 ?_) | apply (zs68 ?_) | apply (zs69 ?_) | apply (zs70 ?_) | fail)
  first | apply Ya V3 | apply Yb V3
  exact za
  exact rfl
  exact fun _ hw => (p1 (hc.mono zk) (hd.mono zk) hw)
  repeat' (first | apply (zs1 ?_) | (apply zg1; refine zs4 ?_) | (apply zg2; refine zs6 ?_) | (apply zg3; refine zs7 ?_) | (apply zg6; refine zs12 ?_) | (apply zg20; refine zs47 ?_) | fail)
  first | apply Ya Xp | apply Yb Xp
  exact za
  exact rfl
  exact fun _ hw => (p2 (hc.mono zk) (hd.mono zk) hw)
  repeat' (first | apply (zs1 ?_) | (apply zg1; refine zs4 ?_) | (apply zg2; refine zs6 ?_) | (apply zg3; refine zs7 ?_) | (apply zg6; refine zs12 ?_) | (apply zg20; refine zs47 ?_) | fail)
  first | apply Ya Xp | apply Yb Xp
  exact za
  exact rfl
  exact fun _ hw => (p3 (hc.mono zk) (hd.mono zk) hw)
  repeat' (first | apply (zs1 ?_) | apply (zs2 ?_) | (apply zg1; refine zs4 ?_) | (apply zg2; refine zs6 ?_) | (apply zg3; refine zs7 ?_) | (apply zg4; refine zs9 ?_) | (apply zg6; refine zs12 ?_) | (apply zg8; (refine zs16 ?_ ?_ <;> intro _ <;> try (exfalso; omega))) | (apply zg20; refine zs47 ?_) | apply (zs65 ?_) | apply (zs68 ?_) | apply (zs69 ?_) | apply (zs70 ?_) | (apply zg27; refine zs72 ?_) | apply (zs73 ?_) | apply (zs76 ?_) | fail)
  rename_i g2 g3 _ _
  refine Yk (fun k : Nat => [(5, .int .i64 (k : Nat)), (3, .pointer (some ⟨g3, 0, none⟩)), (2, .pointer (some ⟨g2, 0, none⟩))]) (fun _ => clA g3 d :: clA g2 c :: H) (fun k => k ≤ c.ss.length ∧ (c.ss.take k).map (·.xs) = (d.ss.take k).map (·.xs)) (fun k => c.ss.length - k) 0 ⟨Nat.zero_le _, by simp⟩ ?_ (fun w hw => hw) ?_
  · exact zu
  rintro k ⟨hk, hz⟩ K hK
  have hcs : Rd B w0 (clA g3 d :: clA g2 c :: H) c.sA (c.ss.flatMap rowF) := hc.st.cons.cons
  have hds : Rd B w0 (clA g3 d :: clA g2 c :: H) d.sA (d.ss.flatMap rowF) := hd.st.cons.cons
  by_cases hlt : k < c.ss.length
  · obtain ⟨a, ha⟩ : ∃ a, c.ss[k]? = some a := ⟨_, List.getElem?_eq_getElem hlt⟩
    obtain ⟨b, hb⟩ : ∃ b, d.ss[k]? = some b := ⟨_, List.getElem?_eq_getElem (by omega)⟩
    have ham := List.mem_of_getElem? ha
    have hbm := List.mem_of_getElem? hb
    have p4 := fun {H' : List HP} {w : World} (hc : c.In B w0 H') (hd : d.In B w0 H') (hw : St B w0 H' w) => XJ a.xs b.xs (cap := a.cap) (cap2 := b.cap) (hc.sl a ham) (hd.sl b hbm) (hc.sw a ham) (hd.sw b hbm) hw
    by_cases he : a.xs = b.xs
    · rw [decide_eq_true he] at p4
      repeat' (first | apply (zs1 ?_) | (apply zg2; refine zs6 ?_) | (apply zg3; refine zs7 ?_) | (apply zg4; refine zs9 ?_) | (apply (zs17 ?_ ?_) <;> intro _ <;> try (exfalso; omega)) | apply (zs65 ?_) | apply (zs68 ?_) | apply (zs69 ?_) | apply (zs70 ?_) | (apply zg27; refine zs71 ?_) | apply (zs73 ?_) | apply (zs76 ?_) | fail)
      apply Yw [0, 1, 2, 3, 4, 5, 6, 7, 8, 9, 10, 11] []
      kernel_rfl
      kernel_rfl
      (simp only [Yj, nthO]; rfl)
      exact rfl
      repeat' (first | apply (zs1 ?_) | (apply zg2; refine zs6 ?_) | (apply zg3; first | refine zs7 ?_ | refine zs60 ?_) | (apply zg5; refine zs57 ?_) | apply (zs87 ?_) | fail)
      first | apply Ya Xp | apply Yb Xp
      exact za
      exact rfl
      exact fun _ hw => (p4 (hc.mono zk) (hd.mono zk) hw)
      repeat' (first | apply (zs1 ?_) | apply (zs2 ?_) | (apply zg13; refine zs30 ?_) | (apply zg20; refine zs47 ?_) | apply (zs65 ?_) | (apply Yo; exact zp) | apply (zs68 ?_) | apply (zs70 ?_) | (apply zg27; refine zs72 ?_) | apply (zs76 ?_) | apply (zs79 ?_) | (apply Yl; (repeat (first | with_reducible exact Yh | (with_reducible apply Yg; (repeat (first | with_reducible exact Yf | with_reducible apply Ye)))))) | apply (zs93 ?_) | apply (zs94 ?_) | fail)
      · show Perm H (H ++ [])
        rw [List.append_nil]; exact Perm.refl _
      repeat' (first | fail)
      apply hK (k + 1)
      · exact ⟨by omega, by rw [List.take_add_one, List.take_add_one, ha, hb, List.map_append, List.map_append, hz]; simp [he]⟩
      · omega
      · exact zu
      · exact fun w hw => hw
    · rw [decide_eq_false he] at p4
      have hne : ¬ (c.ss.map (·.xs) = d.ss.map (·.xs)) := fun e => by
        have h1 : (c.ss.map (·.xs))[k]? = (d.ss.map (·.xs))[k]? := by rw [e]
        rw [List.getElem?_map, List.getElem?_map, ha, hb] at h1
        exact he (Option.some.inj h1)
      rw [decide_eq_false hne]
      clear hK
      repeat' (first | apply (zs1 ?_) | (apply zg2; refine zs6 ?_) | (apply zg3; refine zs7 ?_) | (apply zg4; refine zs9 ?_) | (apply (zs17 ?_ ?_) <;> intro _ <;> try (exfalso; omega)) | apply (zs65 ?_) | apply (zs68 ?_) | apply (zs69 ?_) | apply (zs70 ?_) | (apply zg27; refine zs71 ?_) | apply (zs73 ?_) | apply (zs76 ?_) | fail)
      apply Yw [0, 1, 2, 3, 4, 5, 6, 7, 8, 9, 10, 11] []
      kernel_rfl
      kernel_rfl
      (simp only [Yj, nthO]; rfl)
      exact rfl
      repeat' (first | apply (zs1 ?_) | (apply zg2; refine zs6 ?_) | (apply zg3; first | refine zs7 ?_ | refine zs60 ?_) | (apply zg5; refine zs57 ?_) | apply (zs87 ?_) | fail)
      first | apply Ya Xp | apply Yb Xp
      exact za
      exact rfl
      exact fun _ hw => (p4 (hc.mono zk) (hd.mono zk) hw)
      repeat' (first | apply (zs2 ?_) | (apply zg20; refine zs48 ?_) | apply (zs65 ?_) | (apply Yo; exact zp) | apply (zs68 ?_) | apply (zs69 ?_) | apply (zs70 ?_) | (apply zg27; refine zs71 ?_) | apply (zs74 ?_) | apply (zs77 ?_) | apply (zs78 ?_) | (apply Yl; (repeat (first | with_reducible exact Yh | (with_reducible apply Yg; (repeat (first | with_reducible exact Yf | with_reducible apply Ye)))))) | apply (zs93 ?_) | apply (zs94 ?_) | fail)
      · show Perm H (H ++ [])
        rw [List.append_nil]; exact Perm.refl _
      repeat' (first | fail)
      apply Yi H
      · exact zk
      apply Yd; exact rfl; exact rfl; exact ⟨rfl, rfl⟩
  · rw [List.take_of_length_le (by omega), List.take_of_length_le (by omega)] at hz
    rw [decide_eq_true hz]
    clear hK
    repeat' (first | apply (zs1 ?_) | apply (zs2 ?_) | (apply zg2; refine zs6 ?_) | (apply zg3; refine zs7 ?_) | (apply zg4; refine zs9 ?_) | (apply (zs17 ?_ ?_) <;> intro _ <;> try (exfalso; omega)) | apply (zs65 ?_) | apply (zs68 ?_) | apply (zs69 ?_) | apply (zs70 ?_) | (apply zg27; refine zs72 ?_) | apply (zs74 ?_) | apply (zs75 ?_) | apply (zs80 ?_) | apply (zs81 ?_) | fail)
    apply Yi H
    · exact zk
    apply Yd; exact rfl; exact rfl; exact ⟨rfl, rfl⟩
set_option maxRecDepth 10000 in
set_option maxHeartbeats 2000000 in
theorem OV (c d : List ClM) {A A2 : Option Addr} {cap cap2 B : Nat} {w0 : World} {H : List HP} {w : World} (hc : CIn B w0 H A c) (hd : CIn B w0 H A2 d) (hw : St B w0 H w) :
    Calls Tryz.prog 21 [.slice A c.length cap, .slice A2 d.length cap2].toArray w (Post B w0 fun u K => u = .bool (decide (c.map ClM.clm = d.map ClM.clm)) ∧ K = H) := by
  refine Yc Tryz.func21 Tryz.ntmps21 rfl rfl hw ?_
  have hcl := hc.ln
  have hdl := hd.ln
  have hcr := hc.rd
  have hdr := hd.rd
  by_cases h6 : c.length = d.length
  rotate_left
  · rw [decide_eq_false (fun e => h6 (by have := congrArg List.length e; rwa [List.length_map, List.length_map] at this))]
    repeat' (first | apply (zs1 ?_) | apply (zs2 ?_) | (apply zg4; refine zs9 ?_) | (apply zg8; (refine zs16 ?_ ?_ <;> intro _ <;> try (exfalso; omega))) | apply (zs65 ?_) | apply (zs68 ?_) | apply (zs69 ?_) | apply (zs70 ?_) | (apply zg27; refine zs71 ?_) | apply (zs74 ?_) | apply (zs77 ?_) | fail)
    apply Yd; exact rfl; exact rfl; exact ⟨rfl, rfl⟩
  repeat' (first | apply (zs1 ?_) | apply (zs2 ?_) | (apply zg4; refine zs9 ?_) | (apply zg8; (refine zs16 ?_ ?_ <;> intro _ <;> try (exfalso; omega))) | apply (zs65 ?_) | apply (zs68 ?_) | apply (zs69 ?_) | apply (zs70 ?_) | (apply zg27; refine zs72 ?_) | apply (zs73 ?_) | apply (zs76 ?_) | fail)
  refine Yk (fun k : Nat => [(5, .int .i64 (k : Nat)), (0, .slice A c.length cap), (1, .slice A2 d.length cap2)]) (fun _ => H) (fun k => k ≤ c.length ∧ (c.take k).map ClM.clm = (d.take k).map ClM.clm) (fun k => c.length - k) 0 ⟨Nat.zero_le _, by simp⟩ ?_ (fun w hw => hw) ?_
  · exact zu
  rintro k ⟨hk, hz⟩ K hK
  by_cases hlt : k < c.length
  · obtain ⟨a, ha⟩ : ∃ a, c[k]? = some a := ⟨_, List.getElem?_eq_getElem hlt⟩
    obtain ⟨b, hb⟩ : ∃ b, d[k]? = some b := ⟨_, List.getElem?_eq_getElem (by omega)⟩
    have hax := hc.x a (List.mem_of_getElem? ha)
    have hbx := hd.x b (List.mem_of_getElem? hb)
    have p2 := fun {H' : List HP} {w : World} (hx : a.In B w0 H') (hy : b.In B w0 H') (hw : St B w0 H' w) => W9 a b hx hy hw
    by_cases he : a.clm = b.clm
    · rw [decide_eq_true he] at p2
      repeat' (first | apply (zs1 ?_) | (apply zg4; refine zs9 ?_) | (apply (zs17 ?_ ?_) <;> intro _ <;> try (exfalso; omega)) | apply (zs65 ?_) | apply (zs68 ?_) | apply (zs69 ?_) | apply (zs70 ?_) | (apply zg27; refine zs71 ?_) | apply (zs73 ?_) | apply (zs76 ?_) | fail)
      apply Yw [0, 1, 2, 3, 4, 5, 6, 7, 8, 9] []
      kernel_rfl
      kernel_rfl
      (simp only [Yj, nthO]; rfl)
      exact rfl
      repeat' (first | apply (zs1 ?_) | (apply zg3; refine zs61 ?_) | (apply zg5; refine zs57 ?_) | apply (zs87 ?_) | fail)
      first | apply Ya en73 | apply Yb en73
      exact za
      exact rfl
      exact fun _ hw => (p2 hax hbx hw)
      repeat' (first | apply (zs1 ?_) | apply (zs2 ?_) | (apply zg13; refine zs30 ?_) | (apply zg20; refine zs47 ?_) | apply (zs65 ?_) | (apply Yo; exact zp) | apply (zs68 ?_) | apply (zs70 ?_) | (apply zg27; refine zs72 ?_) | apply (zs76 ?_) | apply (zs79 ?_) | (apply Yl; (repeat (first | with_reducible exact Yh | (with_reducible apply Yg; (repeat (first | with_reducible exact Yf | with_reducible apply Ye)))))) | apply (zs93 ?_) | apply (zs94 ?_) | fail)
      · show Perm H (H ++ [])
        rw [List.append_nil]; exact Perm.refl _
      repeat' (first | fail)
      apply hK (k + 1)
      · exact ⟨by omega, by rw [List.take_add_one, List.take_add_one, ha, hb, List.map_append, List.map_append, hz]; simp [he]⟩
      · omega
      · exact zu
      · exact fun w hw => hw
    · rw [decide_eq_false he] at p2
      have hne : ¬ (c.map ClM.clm = d.map ClM.clm) := fun e => by
        have h1 : (c.map ClM.clm)[k]? = (d.map ClM.clm)[k]? := by rw [e]
        rw [List.getElem?_map, List.getElem?_map, ha, hb] at h1
        exact he (Option.some.inj h1)
      rw [decide_eq_false hne]
      clear hK
      repeat' (first | apply (zs1 ?_) | (apply zg4; refine zs9 ?_) | (apply (zs17 ?_ ?_) <;> intro _ <;> try (exfalso; omega)) | apply (zs65 ?_) | apply (zs68 ?_) | apply (zs69 ?_) | apply (zs70 ?_) | (apply zg27; refine zs71 ?_) | apply (zs73 ?_) | apply (zs76 ?_) | fail)
      apply Yw [0, 1, 2, 3, 4, 5, 6, 7, 8, 9] []
      kernel_rfl
      kernel_rfl
      (simp only [Yj, nthO]; rfl)
      exact rfl
      repeat' (first | apply (zs1 ?_) | (apply zg3; refine zs61 ?_) | (apply zg5; refine zs57 ?_) | apply (zs87 ?_) | fail)
      first | apply Ya en73 | apply Yb en73
      exact za
      exact rfl
      exact fun _ hw => (p2 hax hbx hw)
      repeat' (first | apply (zs2 ?_) | (apply zg20; refine zs48 ?_) | apply (zs65 ?_) | (apply Yo; exact zp) | apply (zs68 ?_) | apply (zs69 ?_) | apply (zs70 ?_) | (apply zg27; refine zs71 ?_) | apply (zs74 ?_) | apply (zs77 ?_) | apply (zs78 ?_) | (apply Yl; (repeat (first | with_reducible exact Yh | (with_reducible apply Yg; (repeat (first | with_reducible exact Yf | with_reducible apply Ye)))))) | apply (zs93 ?_) | apply (zs94 ?_) | fail)
      · show Perm H (H ++ [])
        rw [List.append_nil]; exact Perm.refl _
      repeat' (first | fail)
      apply Yd; exact rfl; exact rfl; exact ⟨rfl, rfl⟩
  · rw [List.take_of_length_le (by omega), List.take_of_length_le (by omega)] at hz
    rw [decide_eq_true hz]
    repeat' (first | apply (zs1 ?_) | apply (zs2 ?_) | (apply zg4; refine zs9 ?_) | (apply (zs17 ?_ ?_) <;> intro _ <;> try (exfalso; omega)) | apply (zs65 ?_) | apply (zs68 ?_) | apply (zs69 ?_) | apply (zs70 ?_) | (apply zg27; refine zs72 ?_) | apply (zs74 ?_) | apply (zs75 ?_) | apply (zs80 ?_) | apply (zs81 ?_) | fail)
    apply Yd; exact rfl; exact rfl; exact ⟨rfl, rfl⟩
end Go.Proofs.YtmalhidldgfeoaaGreatDoor
namespace Go.Eng
open Go.RowKit
section
variable {P : Program} {B : Nat} {w0 : World} {Q : Exit → Act → World → Prop} {env : Env} {H : List HP} {m : Mode} {n : Shp} {ops : Array Oper} {rest : List Oper} {d : Nat} {ty : TypeId} {pos : String} {after : Array Edge}
theorem Yix {tx : Array TypeId} {x y : Operand} {a b : Int} {k k' : IntKind} (hx : evo env x = some (.int k a)) (hy : evo env y = some (.int k' b)) (hn : Nat.ble (d + 1) n.k = true) (h : VL P m n B w0 ops Q rest ((d, .int k (if b < a then b else a)) :: env) H) :
    VL P m n B w0 ops Q (⟨some d, .call ⟨.builtin .min, #[x, y], tx⟩, ty, pos, after, none⟩ :: rest) env H :=
  Yv rfl rfl hn rfl (fun f w ha _ => by simp [execOp, resolve, invoke, builtin, ha.eval hx, ha.eval hy, run_min_int2]) h
end
end Go.Eng
namespace Go.Proofs.YtmalhidldgfeoaaGreatDoor
open Go.RowKit Go.Eng Go.Nw Go.Rt
def Jm (id : Int) (x : Clm) : Bool := decide (x.flow = id) && decide (0 < x.bounds.length)
theorem Ybn (x : ClM) (id : Int) (g : Nat) {B : Nat} {w0 : World} {H : List HP} {w : World} (hl : x.bs.length ≤ 1000000000000) (hm : blk g (.cells #[.int .i64 id] 3 (0, 0)) ∈ H) (hw : St B w0 H w) :
    Calls Tryz.prog 90 [clV x, .pointer (some ⟨g, 0, none⟩)].toArray w (Post B w0 fun v K => v = .bool (Jm id x.clm) ∧ K = H) := by
  refine Yc Tryz.func90 Tryz.ntmps90 rfl rfl hw ?_
  have e1 : Jm id x.clm = (decide (x.flow = id) && decide (0 < x.bs.length)) := rfl
  unfold clV
  by_cases h1 : x.flow = id
  · by_cases h2 : 0 < x.bs.length
    · rw [e1, decide_eq_true h1, decide_eq_true h2]
      repeat' (first | apply (zs1 ?_) | apply (zs2 ?_) | (apply zg1; refine zs4 ?_) | (apply zg2; refine zs6 ?_) | (apply zg3; refine zs7 ?_) | (apply zg4; refine zs9 ?_) | (apply zg6; refine zs11 ?_) | (apply zg7; (refine zs15 ?_ ?_ <;> intro _ <;> try (exfalso; omega))) | (apply (zs19 ?_ ?_) <;> intro _ <;> try (exfalso; omega)) | (apply zg23; (refine zs52 ?_; intro _)) | apply (zs65 ?_) | apply (zs68 ?_) | apply (zs69 ?_) | apply (zs70 ?_) | apply (zs74 ?_) | fail)
      apply Yi H
      · exact zk
      apply Yd; exact rfl; exact rfl; exact ⟨rfl, rfl⟩
    · rw [e1, decide_eq_true h1, decide_eq_false h2]
      repeat' (first | apply (zs1 ?_) | apply (zs2 ?_) | (apply zg1; refine zs4 ?_) | (apply zg2; refine zs6 ?_) | (apply zg3; refine zs7 ?_) | (apply zg4; refine zs9 ?_) | (apply zg6; refine zs11 ?_) | (apply zg7; (refine zs15 ?_ ?_ <;> intro _ <;> try (exfalso; omega))) | (apply (zs19 ?_ ?_) <;> intro _ <;> try (exfalso; omega)) | (apply zg23; (refine zs52 ?_; intro _)) | apply (zs65 ?_) | apply (zs68 ?_) | apply (zs69 ?_) | apply (zs70 ?_) | apply (zs74 ?_) | fail)
      apply Yi H
      · exact zk
      apply Yd; exact rfl; exact rfl; exact ⟨rfl, rfl⟩
  · rw [e1, decide_eq_false h1]
    repeat' (first | apply (zs1 ?_) | apply (zs2 ?_) | (apply zg1; refine zs3 ?_) | (apply zg2; refine zs6 ?_) | (apply zg3; refine zs7 ?_) | (apply zg6; refine zs12 ?_) | (apply zg7; (refine zs15 ?_ ?_ <;> intro _ <;> try (exfalso; omega))) | (apply zg23; (refine zs52 ?_; intro _)) | apply (zs65 ?_) | apply (zs68 ?_) | apply (zs69 ?_) | apply (zs70 ?_) | apply (zs74 ?_) | fail)
    apply Yi H
    · exact zk
    apply Yd; exact rfl; exact rfl; exact ⟨rfl, rfl⟩
def idxC (P : Clm → Bool) (c : List Clm) : Int := match c.findIdx? P with | none => -1 | some i => (i : Nat)
theorem VP {P : Clm → Bool} {c : List Clm} (h : ∀ x ∈ c, P x = false) : idxC P c = -1 := by
  have : c.findIdx? P = none := by rw [List.findIdx?_eq_none_iff]; exact h
  unfold idxC; rw [this]
theorem JE {P : Clm → Bool} {c : List Clm} {i : Nat} {x : Clm} (h0 : ∀ y ∈ c.take i, P y = false) (hx : c[i]? = some x) (hp : P x = true) : idxC P c = (i : Nat) ∧ c.find? P = some x := by
  have hc : c = c.take i ++ (x :: c.drop (i + 1)) := by
    have hi := (List.getElem?_eq_some_iff.1 hx)
    obtain ⟨hi, e⟩ := hi
    rw [← e, List.getElem_cons_drop, List.take_append_drop]
  have hl : (c.take i).length = i := by
    have hi := (List.getElem?_eq_some_iff.1 hx).1
    rw [List.length_take]; omega
  have h1 : c.findIdx? P = some i := by
    rw [hc, List.findIdx?_append]
    have : (c.take i).findIdx? P = none := by rw [List.findIdx?_eq_none_iff]; exact h0
    rw [this]
    simp [List.findIdx?_cons, hp, hl]
  refine ⟨by unfold idxC; rw [h1], ?_⟩
  rw [hc, List.find?_append]
  have : (c.take i).find? P = none := by rw [List.find?_eq_none]; exact fun y hy => by rw [h0 y hy]; decide
  rw [this]
  simp [hp]
set_option maxRecDepth 10000 in
set_option maxHeartbeats 2000000 in
theorem Yb2 (c : List ClM) (id : Int) (g : Nat) {A : Option Addr} {cap B : Nat} {w0 : World} {H : List HP} {w : World} (hc : CIn B w0 H A c) (hm : blk g (.cells #[.int .i64 id] 3 (0, 0)) ∈ H) (hw : St B w0 H w) :
    Calls Tryz.prog 87 [.slice A c.length cap, .func (.func 90) #[] #[.pointer (some ⟨g, 0, none⟩)]].toArray w (Post B w0 fun v K => v = .int .i64 (idxC (Jm id) (c.map ClM.clm)) ∧ K = H) := by
  refine Yc Tryz.func87 Tryz.ntmps87 rfl rfl hw ?_
  have hcl := hc.ln
  have hcr := hc.rd
  repeat' (first | apply (zs1 ?_) | apply (zs2 ?_) | (apply zg4; refine zs9 ?_) | apply (zs65 ?_) | apply (zs68 ?_) | apply (zs69 ?_) | apply (zs70 ?_) | apply (zs73 ?_) | fail)
  refine Yk (fun k : Nat => [(8, .int .i64 (k : Nat)), (7, .int .i64 c.length), (6, .slice A c.length cap), (0, .slice A c.length cap), (1, .func (.func 90) #[] #[.pointer (some ⟨g, 0, none⟩)])]) (fun _ => H) (fun k => k ≤ c.length ∧ ∀ y ∈ (c.map ClM.clm).take k, Jm id y = false) (fun k => c.length - k) 0 ⟨Nat.zero_le _, by simp⟩ ?_ (fun w hw => hw) ?_
  · exact zu
  rintro k ⟨hk, hz⟩ K hK
  by_cases hlt : k < c.length
  · obtain ⟨x, hx⟩ : ∃ x, c[k]? = some x := ⟨_, List.getElem?_eq_getElem hlt⟩
    have hxm : (c.map ClM.clm)[k]? = some x.clm := by rw [List.getElem?_map, hx]; rfl
    have hxi := hc.x x (List.mem_of_getElem? hx)
    have p1 := fun {w : World} (hw : St B w0 H w) => Ybn x id g hxi.ln.2.1 hm hw
    cases hb : Jm id x.clm with
    | true =>
      rw [hb] at p1
      have hi := (JE hz hxm hb).1
      rw [hi]
      clear hK
      repeat' (first | ((first | apply YC (cs := [.pointer (some ⟨g, 0, none⟩)]) | apply YX (cs := [.pointer (some ⟨g, 0, none⟩)])); exact rfl; exact en90; exact za; exact rfl; exact fun _ hw => (p1 hw)) | apply (zs1 ?_) | apply (zs2 ?_) | (apply zg3; refine zs61 ?_) | (apply zg5; refine zs57 ?_) | (apply (zs17 ?_ ?_) <;> intro _ <;> try (exfalso; omega)) | apply (zs65 ?_) | apply (zs68 ?_) | apply (zs69 ?_) | apply (zs70 ?_) | (apply zg27; refine zs71 ?_) | apply (zs73 ?_) | apply (zs74 ?_) | apply (zs76 ?_) | apply (zs77 ?_) | apply (zs78 ?_) | fail)
      apply Yd; exact rfl; exact rfl; exact ⟨rfl, rfl⟩
    | false =>
      rw [hb] at p1
      repeat' (first | ((first | apply YC (cs := [.pointer (some ⟨g, 0, none⟩)]) | apply YX (cs := [.pointer (some ⟨g, 0, none⟩)])); exact rfl; exact en90; exact za; exact rfl; exact fun _ hw => (p1 hw)) | apply (zs1 ?_) | apply (zs2 ?_) | (apply zg3; refine zs61 ?_) | (apply zg5; refine zs57 ?_) | (apply (zs17 ?_ ?_) <;> intro _ <;> try (exfalso; omega)) | (apply zg13; refine zs30 ?_) | apply (zs65 ?_) | apply (zs68 ?_) | apply (zs69 ?_) | apply (zs70 ?_) | (apply zg27; first | refine zs71 ?_ | refine zs72 ?_) | apply (zs73 ?_) | apply (zs76 ?_) | apply (zs79 ?_) | fail)
      apply hK (k + 1)
      · exact ⟨by omega, fun y hy => by
          rw [List.take_add_one, hxm, Option.toList_some] at hy
          rcases List.mem_append.1 hy with h | h
          · exact hz y h
          · rw [List.mem_singleton.1 h]; exact hb⟩
      · omega
      · exact zu
      · exact fun w hw => hw
  · rw [List.take_of_length_le (by rw [List.length_map]; omega)] at hz
    rw [VP hz]
    repeat' (first | apply (zs2 ?_) | (apply (zs17 ?_ ?_) <;> intro _ <;> try (exfalso; omega)) | apply (zs65 ?_) | apply (zs68 ?_) | apply (zs69 ?_) | apply (zs70 ?_) | (apply zg27; refine zs72 ?_) | apply (zs74 ?_) | apply (zs75 ?_) | apply (zs80 ?_) | apply (zs81 ?_) | fail)
    apply Yd; exact rfl; exact rfl; exact ⟨rfl, rfl⟩
theorem Ygm {l : List Int} {k : Nat} {y : Int} (h0 : 1 ≤ k) (h : l[k]? = some y) : minI (l.take (k + 1)) = if y < minI (l.take k) then y else minI (l.take k) := by
  rw [List.take_add_one, h, Option.toList_some]
  cases l with
  | nil => cases h
  | cons a l =>
    obtain ⟨k, rfl⟩ : ∃ j, k = j + 1 := ⟨k - 1, by omega⟩
    rw [List.take_succ_cons]
    show List.foldl (fun x y => if y < x then y else x) a (l.take k ++ [y]) = _
    rw [List.foldl_append]
    rfl
set_option maxRecDepth 10000 in
set_option maxHeartbeats 2000000 in
theorem YeD (l : List Int) (hlen : l.length ≤ 1000000000000) (h0 : 1 ≤ l.length) {A : Option Addr} {cap B : Nat} {w0 : World} {H : List HP} {w : World} (hr : Rd B w0 H A (l.flatMap numF)) (hw : St B w0 H w) :
    Calls Tryz.prog 91 [.slice A l.length cap].toArray w (Post B w0 fun v K => v = .int .i64 (minI l) ∧ K = H) := by
  refine Yc Tryz.func91 Tryz.ntmps91 rfl rfl hw ?_
  obtain ⟨a, ha⟩ : ∃ a, l[0]? = some a := ⟨_, List.getElem?_eq_getElem (by omega)⟩
  have ha2 : l[(0 : Int).toNat]? = some a := ha
  have hm1 : minI (l.take 1) = a := by
    cases l with
    | nil => cases ha
    | cons b l => exact Option.some.inj ha
  repeat' (first | apply (zs1 ?_) | apply (zs2 ?_) | (apply zg3; refine zs60 ?_) | (apply zg4; refine zs9 ?_) | (apply zg5; refine zs57 ?_) | (apply (zs17 ?_ ?_) <;> intro _ <;> try (exfalso; omega)) | apply (zs65 ?_) | apply (zs68 ?_) | apply (zs69 ?_) | apply (zs70 ?_) | (apply zg27; refine zs72 ?_) | apply (zs73 ?_) | apply (zs76 ?_) | fail)
  refine Yk (fun k : Nat => [(4, .int .i64 (k : Nat)), (3, .int .i64 (minI (l.take k))), (0, .slice A l.length cap)]) (fun _ => H) (fun k => 1 ≤ k ∧ k ≤ l.length) (fun k => l.length - k) 1 ⟨Nat.le_refl _, h0⟩ ?_ (fun w hw => hw) ?_
  · rw [hm1]
    exact zu
  rintro k ⟨hk1, hk⟩ K hK
  by_cases hlt : k < l.length
  · obtain ⟨y, hy⟩ : ∃ y, l[k]? = some y := ⟨_, List.getElem?_eq_getElem hlt⟩
    repeat' (first | (apply Yix; exact rfl; exact rfl; exact rfl) | apply (zs1 ?_) | apply (zs2 ?_) | (apply zg3; refine zs60 ?_) | (apply zg4; refine zs9 ?_) | (apply zg5; refine zs57 ?_) | (apply (zs17 ?_ ?_) <;> intro _ <;> try (exfalso; omega)) | (apply zg13; refine zs30 ?_) | apply (zs65 ?_) | apply (zs68 ?_) | apply (zs69 ?_) | apply (zs70 ?_) | (apply zg27; refine zs71 ?_) | apply (zs73 ?_) | apply (zs76 ?_) | apply (zs79 ?_) | fail)
    apply hK (k + 1)
    · exact ⟨by omega, by omega⟩
    · omega
    · rw [Ygm hk1 hy]
      exact zu
    · exact fun w hw => hw
  · rw [show l.take k = l from List.take_of_length_le (by omega)]
    repeat' (first | apply (zs1 ?_) | apply (zs2 ?_) | (apply zg4; refine zs9 ?_) | (apply (zs17 ?_ ?_) <;> intro _ <;> try (exfalso; omega)) | apply (zs65 ?_) | apply (zs68 ?_) | apply (zs69 ?_) | apply (zs70 ?_) | (apply zg27; refine zs72 ?_) | apply (zs74 ?_) | apply (zs75 ?_) | apply (zs80 ?_) | apply (zs81 ?_) | fail)
    apply Yd; exact rfl; exact rfl; exact ⟨rfl, rfl⟩
set_option maxRecDepth 10000 in
set_option maxHeartbeats 2000000 in
theorem Wu (c : List ClM) (id : Int) {A : Option Addr} {cap B : Nat} {w0 : World} {H : List HP} {w : World} (hc : CIn B w0 H A c) (hw : St B w0 H w) :
    Calls Tryz.prog 37 [.slice A c.length cap, .int .i64 id].toArray w (Post B w0 fun v K => v = .tuple #[.int .i64 (bndE (c.map ClM.clm) id).1, .bool (bndE (c.map ClM.clm) id).2] ∧ K = H) := by
  refine Yc Tryz.func37 Tryz.ntmps37 rfl rfl hw ?_
  have hcl := hc.ln
  have hcr := hc.rd
  repeat' (first | apply (zs1 ?_) | apply (zs2 ?_) | (apply zg23; (refine zs53 ?_; intro _)) | apply (zs65 ?_) | apply (zs68 ?_) | apply (zs69 ?_) | apply (zs70 ?_) | (apply zg29; (apply Yq; exact za ; exact rfl)) | fail)
  rename_i g
  have p1 := fun {H' : List HP} {w : World} (hc : CIn B w0 H' A c) (hm : blk g (.cells #[.int .i64 id] 3 (0, 0)) ∈ H') (hw : St B w0 H' w) => Yb2 c id g (cap := cap) hc hm hw
  by_cases hex : ∃ i x, (c.map ClM.clm)[i]? = some x ∧ Jm id x = true ∧ ∀ y ∈ (c.map ClM.clm).take i, Jm id y = false
  · obtain ⟨i, x, hx, hb, hz⟩ := hex
    obtain ⟨h1, h2⟩ := JE hz hx hb
    have hbe : bndE (c.map ClM.clm) id = (minI x.bounds, true) := by
      unfold bndE
      rw [show (c.map ClM.clm).find? (fun x => decide (x.flow = id) && decide (0 < x.bounds.length)) = some x from h2]
    rw [List.getElem?_map] at hx
    obtain ⟨y, hy, rfl⟩ : ∃ y, c[i]? = some y ∧ y.clm = x := by
      cases hc0 : c[i]? with
      | none => rw [hc0] at hx; cases hx
      | some y => rw [hc0] at hx; exact ⟨y, rfl, Option.some.inj hx⟩
    have hyi := hc.x y (List.mem_of_getElem? hy)
    have hi := (List.getElem?_eq_some_iff.1 hy).1
    have hpos : 1 ≤ y.bs.length := by
      unfold Jm at hb
      rw [Bool.and_eq_true, decide_eq_true_eq, decide_eq_true_eq] at hb
      exact hb.2
    rw [h1] at p1
    rw [hbe]
    have p2 := fun {H' : List HP} {w : World} (hr : Rd B w0 H' y.bA (y.bs.flatMap numF)) (hw : St B w0 H' w) => YeD y.bs hyi.ln.2.1 hpos (cap := y.bcap) hr hw
    have hcr2 : Rd B w0 (blk g (.cells #[.int .i64 id] 3 (0, 0)) :: H) A (c.flatMap clF) := hcr.cons
    first | apply Ya en87 | apply Yb en87
    exact za
    exact rfl
    exact fun _ hw => (p1 hc.cons (.head _) hw)
    repeat' (first | apply (zs1 ?_) | apply (zs2 ?_) | (apply zg2; refine zs58 ?_) | (apply zg3; refine zs59 ?_) | (apply zg5; refine zs57 ?_) | (apply (zs17 ?_ ?_) <;> intro _ <;> try (exfalso; omega)) | apply (zs65 ?_) | apply (zs68 ?_) | apply (zs69 ?_) | apply (zs70 ?_) | (apply zg27; refine zs72 ?_) | apply (zs76 ?_) | fail)
    first | apply Ya en91 | apply Yb en91
    exact za
    exact rfl
    exact fun _ hw => (p2 hyi.bd.cons hw)
    repeat' (first | apply (zs2 ?_) | apply (zs65 ?_) | apply (zs68 ?_) | apply (zs74 ?_) | fail)
    apply Yi H
    · exact zk
    apply Yt; exact rfl; exact rfl; exact rfl; exact ⟨rfl, rfl⟩
  · have hall : ∀ y ∈ c.map ClM.clm, Jm id y = false := by
      intro y hy
      cases hb : Jm id y with
      | false => rfl
      | true =>
        exfalso
        have hsm : ((c.map ClM.clm).find? (Jm id)).isSome = true := by
          rw [List.find?_isSome]; exact ⟨y, hy, hb⟩
        have hsi : ((c.map ClM.clm).findIdx? (Jm id)).isSome = true := by
          rw [List.findIdx?_isSome, List.any_eq_true]; exact ⟨y, hy, hb⟩
        obtain ⟨i, hi⟩ := Option.isSome_iff_exists.1 hsi
        rw [List.findIdx?_eq_some_iff_getElem] at hi
        obtain ⟨hlt, hpi, hno⟩ := hi
        refine hex ⟨i, _, List.getElem?_eq_getElem hlt, hpi, fun z hz => ?_⟩
        obtain ⟨j, hj⟩ := List.mem_iff_getElem?.1 hz
        rw [List.getElem?_take] at hj
        split at hj
        · rename_i hji
          obtain ⟨hj1, hj2⟩ := List.getElem?_eq_some_iff.1 hj
          have := hno j hji
          rw [hj2] at this
          simpa using this
        · cases hj
    have hbe : bndE (c.map ClM.clm) id = (0, false) := by
      unfold bndE
      have : (c.map ClM.clm).find? (Jm id) = none := by rw [List.find?_eq_none]; exact fun y hy => by rw [hall y hy]; decide
      rw [show (c.map ClM.clm).find? (fun x => decide (x.flow = id) && decide (0 < x.bounds.length)) = none from this]
    rw [VP hall] at p1
    rw [hbe]
    first | apply Ya en87 | apply Yb en87
    exact za
    exact rfl
    exact fun _ hw => (p1 hc.cons (.head _) hw)
    repeat' (first | apply (zs1 ?_) | apply (zs2 ?_) | (apply (zs17 ?_ ?_) <;> intro _ <;> try (exfalso; omega)) | apply (zs65 ?_) | apply (zs68 ?_) | apply (zs69 ?_) | apply (zs70 ?_) | (apply zg27; refine zs71 ?_) | apply (zs74 ?_) | apply (zs77 ?_) | fail)
    apply Yi H
    · exact zk
    apply Yt; exact rfl; exact rfl; exact rfl; exact ⟨rfl, rfl⟩
open Go.RowKit Go.Eng Go.Nw Go.Rt
structure ClM.Bg (B : Nat) (w0 : World) (H : List HP) (c : ClM) : Prop where
  rt : Rd B w0 H c.rA (c.rs.flatMap rowF)
  rw_ : ∀ r ∈ c.rs, Rd B w0 H r.A (r.xs.flatMap numF)
  bd : Rd B w0 H c.bA (c.bs.flatMap numF)
  ws : Rd B w0 H c.wA (c.ws.flatMap numF)
  st : Rd B w0 H c.sA (c.ss.flatMap rowF)
  sw : ∀ r ∈ c.ss, Rd B w0 H r.A (r.xs.flatMap numF)
  ln : c.rs.length ≤ 9223372036854775807 ∧ c.bs.length ≤ 9223372036854775807 ∧ c.ws.length ≤ 9223372036854775807 ∧ c.ss.length ≤ 9223372036854775807
  rl : ∀ r ∈ c.rs, r.xs.length ≤ 9223372036854775807
  sl : ∀ r ∈ c.ss, r.xs.length ≤ 9223372036854775807
structure CBg (B : Nat) (w0 : World) (H : List HP) (A : Option Addr) (c : List ClM) : Prop where
  rd : Rd B w0 H A (c.flatMap clF)
  x : ∀ x ∈ c, x.Bg B w0 H
  ln : c.length ≤ 9223372036854775807
def FewX (x : ClM) : Prop := x.rs.length ≤ 3 ∧ x.bs.length ≤ 8 ∧ x.ws.length ≤ 8 ∧ x.ss.length ≤ 8 ∧ (∀ r ∈ x.rs, r.xs.length ≤ 12) ∧ ∀ r ∈ x.ss, r.xs.length ≤ 70
def FewC (c : List ClM) : Prop := c.length ≤ 17 ∧ ∀ x ∈ c, FewX x
theorem CBg.small {B : Nat} {w0 : World} {H : List HP} {A : Option Addr} {c : List ClM} (h : CBg B w0 H A c) (hf : FewC c) : CIn B w0 H A c := by
  refine ⟨h.rd, fun x hx => ?_, by have := hf.1; omega⟩
  have h1 := h.x x hx
  obtain ⟨f1, f2, f3, f4, f5, f6⟩ := hf.2 x hx
  exact ⟨h1.rt, h1.rw_, h1.bd, h1.ws, h1.st, h1.sw, by omega, fun r hr => by have := f5 r hr; omega, fun r hr => by have := f6 r hr; omega⟩
theorem Ydg {α : Type} {P : α → Prop} {l : List α} {k : Nat} {x : α} (h : ∀ y ∈ l.take k, P y) (hx : l[k]? = some x) (hp : P x) : ∀ y ∈ l.take (k + 1), P y := fun y hy => by
  rw [List.take_add_one, hx, Option.toList_some] at hy
  rcases List.mem_append.1 hy with h1 | h1
  · exact h y h1
  · rw [List.mem_singleton.1 h1]; exact hp
theorem Yd7 {α : Type} {P : α → Prop} {l : List α} {k : Nat} (h : ∀ y ∈ l.take k, P y) (hk : ¬ k < l.length) : ∀ y ∈ l, P y := by
  rw [List.take_of_length_le (by omega)] at h
  exact h
open Go.RowKit Go.Eng Go.Nw
def Yby (n : Net) : Bool := decide ((∀ r ∈ n.power, r.length ≤ 40) ∧ n.power.length ≤ 8 ∧ n.links.length ≤ 60 ∧ n.margin.length ≤ 60)
theorem OZ (n : NetM) {B : Nat} {w0 : World} {H : List HP} {w : World} (hin : n.In B w0 H) (hw : St B w0 H w) :
    Calls Tryz.prog 12 [n.val].toArray w (Post B w0 fun v K => v = .bool (Yby n.net) ∧ K = H) := by
  refine Yc Tryz.func12 Tryz.ntmps12 rfl rfl hw ?_
  obtain ⟨hpw, hrw, hlk, hmg, hs1, hs2, hs3, hs4⟩ := id hin
  have e1 : (∀ r ∈ n.net.power, r.length ≤ 40) ↔ ∀ r ∈ n.rows, r.xs.length ≤ 40 := by simp [NetM.net]
  have e2 : n.net.power.length = n.rows.length := by simp [NetM.net]
  have e3 : n.net.links = n.links := rfl
  have e4 : n.net.margin = n.margin := rfl
  unfold Yby
  rw [e2, e3, e4]
  (apply Jk; apply X9; apply Xx; exact rfl; exact rfl; intro g)
  repeat' (first | apply (zs2 ?_) | apply (zs65 ?_) | apply (zs68 ?_) | apply (zs69 ?_) | apply (zs70 ?_) | apply (zs73 ?_) | fail)
  refine Yk (fun (a : Nat) => [(3, .int .i64 a), (1, .pointer (some ⟨g, 0, none⟩))]) (fun _ => netN g n :: H) (fun a => a ≤ n.rows.length ∧ ∀ j r, j < a → n.rows[j]? = some r → r.xs.length ≤ 40) (fun a => n.rows.length - a) 0 ⟨Nat.zero_le _, by intro j r hj; omega⟩ ?_ (fun w hw => hw) ?_
  · exact zu
  rintro a ⟨ha, hai⟩ K hK
  unfold netN
  by_cases hlt : a < n.rows.length
  · obtain ⟨r, hr⟩ : ∃ r, n.rows[a]? = some r := ⟨_, List.getElem?_eq_getElem hlt⟩
    have hs2r := hs2 r (List.mem_of_getElem? hr)
    repeat' (first | apply (zs1 ?_) | apply (zs2 ?_) | (apply zg2; refine zs6 ?_) | (apply zg3; first | refine zs7 ?_ | refine zs60 ?_) | (apply zg4; refine zs9 ?_) | (apply zg5; refine zs57 ?_) | (apply (zs17 ?_ ?_) <;> intro _ <;> try (exfalso; omega)) | (apply (zs19 ?_ ?_) <;> intro _ <;> try (exfalso; omega)) | (apply zg13; refine zs30 ?_) | apply (zs65 ?_) | apply (zs68 ?_) | apply (zs69 ?_) | apply (zs70 ?_) | (apply zg27; first | refine zs71 ?_ | refine zs72 ?_) | apply (zs73 ?_) | apply (zs74 ?_) | apply (zs76 ?_) | apply (zs77 ?_) | apply (zs78 ?_) | apply (zs79 ?_) | fail)
    · rename_i h
      apply Yp; apply Yd; exact rfl; exact rfl
      exact ⟨by rw [decide_eq_false fun hc => by have := e1.1 hc.1 r (List.mem_of_getElem? hr); omega], rfl⟩
    · rename_i h
      apply hK (a + 1)
      · refine ⟨by omega, fun j q hj hq => ?_⟩
        by_cases e : j = a
        · subst e; rw [hr] at hq; rw [← Option.some.inj hq]; omega
        · exact hai j q (by omega) hq
      · omega
      · exact zu
      · exact fun w hw => hw
  obtain rfl : a = n.rows.length := by omega
  have hall : ∀ r ∈ n.rows, r.xs.length ≤ 40 := fun r hr => by
    obtain ⟨j, hj⟩ := List.getElem?_of_mem hr
    exact hai j r (List.getElem?_eq_some_iff.1 hj).1 hj
  repeat' (first | apply (zs1 ?_) | apply (zs2 ?_) | (apply zg1; first | refine zs3 ?_ | refine zs4 ?_) | (apply zg2; refine zs6 ?_) | (apply zg3; refine zs7 ?_) | (apply zg4; refine zs9 ?_) | (apply zg6; first | refine zs11 ?_ | refine zs12 ?_) | (apply (zs17 ?_ ?_) <;> intro _ <;> try (exfalso; omega)) | (apply (zs18 ?_ ?_) <;> intro _ <;> try (exfalso; omega)) | apply (zs65 ?_) | apply (zs68 ?_) | apply (zs69 ?_) | apply (zs70 ?_) | (apply zg27; refine zs72 ?_) | apply (zs74 ?_) | apply (zs75 ?_) | apply (zs80 ?_) | apply (zs81 ?_) | fail)
  · apply Yp; apply Yd; exact rfl; exact rfl
    exact ⟨by rw [decide_eq_true ⟨e1.2 hall, by omega, by omega, by omega⟩], rfl⟩
  all_goals (apply Yp; apply Yd; exact rfl; exact rfl; exact ⟨by rw [decide_eq_false fun hc => by omega], rfl⟩)
open Go.RowKit Go.Eng Go.Nw Go.Rt
structure RqM.Bg (B : Nat) (w0 : World) (H : List HP) (x : RqM) : Prop where
  rt : Rd B w0 H x.A (x.rows.flatMap rowF)
  rw_ : ∀ r ∈ x.rows, Rd B w0 H r.A (r.xs.flatMap numF)
  ln : x.rows.length ≤ 9223372036854775807
  rl : ∀ r ∈ x.rows, r.xs.length ≤ 9223372036854775807 ∧ r.xs.length ≤ r.cap
structure QBg (B : Nat) (w0 : World) (H : List HP) (A : Option Addr) (q : List RqM) : Prop where
  rd : Rd B w0 H A (q.flatMap rqF)
  x : ∀ x ∈ q, x.Bg B w0 H
  ln : q.length ≤ 9223372036854775807
theorem RqM.Bg.mono {B : Nat} {w0 : World} {H H' : List HP} {x : RqM} (h : x.Bg B w0 H) (hH : ∀ w, St B w0 H' w → St B w0 H w) : x.Bg B w0 H' := ⟨h.rt.mono hH, fun r hr => (h.rw_ r hr).mono hH, h.ln, h.rl⟩
theorem QBg.mono {B : Nat} {w0 : World} {H H' : List HP} {A : Option Addr} {q : List RqM} (h : QBg B w0 H A q) (hH : ∀ w, St B w0 H' w → St B w0 H w) : QBg B w0 H' A q := ⟨h.rd.mono hH, fun x hx => (h.x x hx).mono hH, h.ln⟩
def FewR (l : List RowM) : Prop := l.length ≤ 3 ∧ ∀ r ∈ l, r.xs.length ≤ 12
def FewQ (q : List RqM) (s : SchM) : Prop := q.length ≤ 4 ∧ s.cells.length ≤ 30 ∧ ∀ x ∈ q, FewR x.rows
theorem QBg.small {B : Nat} {w0 : World} {H : List HP} {A : Option Addr} {q : List RqM} {s : SchM} (h : QBg B w0 H A q) (hf : FewQ q s) : QIn B w0 H A q := by
  refine ⟨h.rd, fun x hx => ?_, by have := hf.1; omega⟩
  have h1 := h.x x hx
  obtain ⟨f1, f2⟩ := hf.2.2 x hx
  exact ⟨h1.rt, h1.rw_, by omega, fun r hr => ⟨by have := f2 r hr; omega, (h1.rl r hr).2⟩⟩
theorem Yfw {W : World} {s : SlM RqM} {K : List HP} (h : SlG W rqF (RqG W) s) : QBg W.heap.size W K s.A s.xs :=
  ⟨h.old.rd, fun x hx => ⟨(h.good x hx).old.rd, fun r hr => ((h.good x hx).good r hr).old.rd, (h.good x hx).len, fun r hr => ⟨((h.good x hx).good r hr).len, ((h.good x hx).good r hr).cap⟩⟩, Nat.le_trans h.len maxL⟩
set_option maxRecDepth 10000 in
set_option maxHeartbeats 2000000 in
theorem Ydk (n : NetM) (s : SchM) (l : List RowM) {A : Option Addr} {cap B : Nat} {w0 : World} {H : List HP} {w : World} (hin : n.In B w0 H) (hr : Rd B w0 H A (l.flatMap rowF)) (hll : l.length ≤ 9223372036854775807) (_hsl : s.cells.length ≤ 9223372036854775807) (hlr : ∀ r ∈ l, r.xs.length ≤ 9223372036854775807) (hw : St B w0 H w) :
    Calls Tryz.prog 66 [n.val, s.val, .slice A l.length cap].toArray w (Post B w0 fun v K => (∃ b, v = .bool b ∧ (b = true → FewR l)) ∧ K = H) := by
  refine Yc Tryz.func66 Tryz.ntmps66 rfl rfl hw ?_
  unfold NetM.val SchM.val
  have p1 := fun {H' : List HP} {w : World} (hin : n.In B w0 H') (hw : St B w0 H' w) => OZ n hin hw
  unfold NetM.val at p1
  repeat' (first | apply (zs2 ?_) | (apply zg23; (refine zs52 ?_; intro _)) | apply (zs65 ?_) | apply (zs68 ?_) | apply (zs69 ?_) | apply (zs70 ?_) | apply (zs73 ?_) | fail)
  rename_i g3 g4
  refine Yk (fun k : Nat => [(7, .int .i64 (k : Nat)), (2, .slice A l.length cap), (4, .pointer (some ⟨g4, 0, none⟩)), (3, .pointer (some ⟨g3, 0, none⟩))]) (fun _ => schA g4 s :: netA g3 n :: H) (fun k => k ≤ l.length ∧ ∀ r ∈ l.take k, r.xs.length ≤ 12) (fun k => l.length - k) 0 ⟨Nat.zero_le _, by simp⟩ ?_ (fun w hw => hw) ?_
  · exact zu
  rintro k ⟨hk, hz⟩ K hK
  have hr2 : Rd B w0 (schA g4 s :: netA g3 n :: H) A (l.flatMap rowF) := hr.cons.cons
  by_cases hlt : k < l.length
  · obtain ⟨r, hx⟩ : ∃ r, l[k]? = some r := ⟨_, List.getElem?_eq_getElem hlt⟩
    have hrl := hlr r (List.mem_of_getElem? hx)
    repeat' (first | apply (zs1 ?_) | apply (zs2 ?_) | (apply zg3; refine zs60 ?_) | (apply zg4; refine zs9 ?_) | (apply zg5; refine zs57 ?_) | (apply (zs17 ?_ ?_) <;> intro _ <;> try (exfalso; omega)) | (apply (zs19 ?_ ?_) <;> intro _ <;> try (exfalso; omega)) | (apply zg13; refine zs30 ?_) | apply (zs65 ?_) | apply (zs68 ?_) | apply (zs69 ?_) | apply (zs70 ?_) | (apply zg27; first | refine zs71 ?_ | refine zs72 ?_) | apply (zs73 ?_) | apply (zs74 ?_) | apply (zs76 ?_) | apply (zs77 ?_) | apply (zs78 ?_) | apply (zs79 ?_) | fail)
    · apply Yi H
      · exact zk
      apply Yd; exact rfl; exact rfl; exact ⟨⟨_, rfl, fun h => by cases h⟩, rfl⟩
    · apply hK (k + 1)
      · exact ⟨by omega, Ydg hz hx (by omega)⟩
      · omega
      · exact zu
      · exact fun w hw => hw
  · have hz := Yd7 hz hlt
    clear hK
    cases hb : Yby n.net <;> (
      rw [hb] at p1
      repeat' (first | apply (zs1 ?_) | (apply zg3; refine zs8 ?_) | (apply zg4; refine zs9 ?_) | (apply (zs17 ?_ ?_) <;> intro _ <;> try (exfalso; omega)) | apply (zs65 ?_) | apply (zs68 ?_) | apply (zs69 ?_) | apply (zs70 ?_) | (apply zg27; refine zs72 ?_) | apply (zs75 ?_) | apply (zs80 ?_) | apply (zs81 ?_) | fail)
      first | apply Ya en12 | apply Yb en12
      exact za
      exact rfl
      exact fun _ hw => (p1 (hin.mono zk) hw)
      repeat' (first | apply (zs1 ?_) | apply (zs2 ?_) | (apply zg1; first | refine zs3 ?_ | refine zs4 ?_) | (apply zg2; refine zs6 ?_) | (apply zg3; refine zs7 ?_) | (apply zg4; refine zs9 ?_) | (apply zg6; first | refine zs11 ?_ | refine zs12 ?_) | (apply (zs18 ?_ ?_) <;> intro _ <;> try (exfalso; omega)) | apply (zs65 ?_) | apply (zs68 ?_) | apply (zs74 ?_) | fail)
      all_goals (
        apply Yi H
        · exact zk
        apply Yd; exact rfl; exact rfl
        exact ⟨⟨_, rfl, fun h => by first | (exact absurd h (by decide)) | (rw [decide_eq_true_eq] at h; exact ⟨by omega, hz⟩) | exact ⟨by omega, hz⟩⟩, rfl⟩))
set_option maxRecDepth 10000 in
set_option maxHeartbeats 2000000 in
theorem O1 (n : NetM) (q : List RqM) (s : SchM) {A : Option Addr} {cap B : Nat} {w0 : World} {H : List HP} {w : World} (hin : n.In B w0 H) (hq : QBg B w0 H A q) (hsl : s.cells.length ≤ 9223372036854775807) (hw : St B w0 H w) :
    Calls Tryz.prog 18 [n.val, .slice A q.length cap, s.val].toArray w (Post B w0 fun v K => (∃ b, v = .bool b ∧ (b = true → FewQ q s)) ∧ K = H) := by
  refine Yc Tryz.func18 Tryz.ntmps18 rfl rfl hw ?_
  unfold NetM.val SchM.val
  have p1 := fun {H' : List HP} {w : World} (hin : n.In B w0 H') (hw : St B w0 H' w) => OZ n hin hw
  have p2 := fun {x : RqM} {H' : List HP} {w : World} (hin : n.In B w0 H') (hx : x.Bg B w0 H') (hw : St B w0 H' w) => Ydk n ⟨0, 0, none, 0, []⟩ x.rows (cap := x.cap) hin hx.rt hx.ln (by simp) (fun r hr => (hx.rl r hr).1) hw
  unfold NetM.val at p1 p2
  have hql := hq.ln
  repeat' (first | apply (zs2 ?_) | (apply zg23; (refine zs52 ?_; intro _)) | apply (zs65 ?_) | apply (zs68 ?_) | apply (zs69 ?_) | apply (zs70 ?_) | apply (zs73 ?_) | fail)
  rename_i g3 g4
  refine Yk (fun k : Nat => [(7, .int .i64 (k : Nat)), (1, .slice A q.length cap), (5, .pointer (some ⟨g4, 0, none⟩)), (3, .pointer (some ⟨g3, 0, none⟩))]) (fun _ => schA g4 s :: netA g3 n :: H) (fun k => k ≤ q.length ∧ ∀ x ∈ q.take k, FewR x.rows) (fun k => q.length - k) 0 ⟨Nat.zero_le _, by simp⟩ ?_ (fun w hw => hw) ?_
  · exact zu
  rintro k ⟨hk, hz⟩ K hK
  have hr2 : Rd B w0 (schA g4 s :: netA g3 n :: H) A (q.flatMap rqF) := hq.rd.cons.cons
  by_cases hlt : k < q.length
  · obtain ⟨x, hx⟩ : ∃ x, q[k]? = some x := ⟨_, List.getElem?_eq_getElem hlt⟩
    have hxb := hq.x x (List.mem_of_getElem? hx)
    repeat' (first | apply (zs1 ?_) | (apply zg4; refine zs9 ?_) | (apply (zs17 ?_ ?_) <;> intro _ <;> try (exfalso; omega)) | apply (zs65 ?_) | apply (zs68 ?_) | apply (zs69 ?_) | apply (zs70 ?_) | (apply zg27; refine zs71 ?_) | apply (zs73 ?_) | apply (zs76 ?_) | fail)
    apply Yw [0, 1, 2, 3, 4, 5, 6, 7, 8] []
    kernel_rfl
    kernel_rfl
    (simp only [Yj, nthO]; rfl)
    exact rfl
    repeat' (first | apply (zs1 ?_) | (apply zg2; refine zs58 ?_) | (apply zg3; first | refine zs8 ?_ | refine zs59 ?_) | (apply zg5; refine zs57 ?_) | (apply zg25; refine zs55 ?_) | apply (zs87 ?_) | fail)
    apply Yn _ en66
    exact za
    exact rfl
    exact fun _ hw => (p2 (hin.mono zk) (hxb.mono zk) (hw))
    rintro _ _ ⟨⟨b, rfl, hb⟩, hK0⟩
    rw [hK0]
    cases b with
    | false =>
      repeat' (first | apply (zs2 ?_) | (apply zg20; refine zs48 ?_) | apply (zs65 ?_) | (apply Yo; exact zp) | apply (zs68 ?_) | apply (zs69 ?_) | apply (zs70 ?_) | (apply zg27; refine zs71 ?_) | apply (zs74 ?_) | apply (zs77 ?_) | apply (zs78 ?_) | (apply Yl; (repeat (first | with_reducible exact Yh | (with_reducible apply Yg; (repeat (first | with_reducible exact Yf | with_reducible apply Ye)))))) | apply (zs93 ?_) | apply (zs94 ?_) | fail)
      · show Perm H (H ++ [])
        rw [List.append_nil]; exact Perm.refl _
      repeat' (first | fail)
      apply Yi H
      · exact zk
      apply Yd; exact rfl; exact rfl; exact ⟨⟨_, rfl, fun h => by cases h⟩, rfl⟩
    | true =>
      have hb := hb rfl
      repeat' (first | apply (zs1 ?_) | apply (zs2 ?_) | (apply zg13; refine zs30 ?_) | (apply zg20; refine zs47 ?_) | apply (zs65 ?_) | (apply Yo; exact zp) | apply (zs68 ?_) | apply (zs70 ?_) | (apply zg27; refine zs72 ?_) | apply (zs76 ?_) | apply (zs79 ?_) | (apply Yl; (repeat (first | with_reducible exact Yh | (with_reducible apply Yg; (repeat (first | with_reducible exact Yf | with_reducible apply Ye)))))) | apply (zs93 ?_) | apply (zs94 ?_) | fail)
      · show Perm H (H ++ [])
        rw [List.append_nil]; exact Perm.refl _
      repeat' (first | fail)
      apply hK (k + 1)
      · exact ⟨by omega, Ydg hz hx hb⟩
      · omega
      · exact zu
      · exact fun w hw => hw
  · have hz := Yd7 hz hlt
    clear hK
    cases hb : Yby n.net <;> (
      rw [hb] at p1
      repeat' (first | apply (zs1 ?_) | (apply zg3; refine zs8 ?_) | (apply zg4; refine zs9 ?_) | (apply (zs17 ?_ ?_) <;> intro _ <;> try (exfalso; omega)) | apply (zs65 ?_) | apply (zs68 ?_) | apply (zs69 ?_) | apply (zs70 ?_) | (apply zg27; refine zs72 ?_) | apply (zs75 ?_) | apply (zs80 ?_) | apply (zs81 ?_) | fail)
      first | apply Ya en12 | apply Yb en12
      exact za
      exact rfl
      exact fun _ hw => (p1 (hin.mono zk) hw)
      repeat' (first | apply (zs1 ?_) | apply (zs2 ?_) | (apply zg1; first | refine zs3 ?_ | refine zs4 ?_) | (apply zg2; refine zs6 ?_) | (apply zg3; refine zs7 ?_) | (apply zg4; refine zs9 ?_) | (apply zg6; first | refine zs11 ?_ | refine zs12 ?_) | (apply (zs18 ?_ ?_) <;> intro _ <;> try (exfalso; omega)) | apply (zs65 ?_) | apply (zs68 ?_) | apply (zs74 ?_) | fail)
      all_goals (
        apply Yi H
        · exact zk
        apply Yd; exact rfl; exact rfl
        exact ⟨⟨_, rfl, fun h => by first | (exact absurd h (by decide)) | (rw [decide_eq_true_eq] at h; exact ⟨by omega, by omega, hz⟩) | exact ⟨by omega, by omega, hz⟩⟩, rfl⟩))
open Go.RowKit Go.Eng Go.Nw Go.Rt
theorem Yef {S : Int → Option (List Int)} {len per : Int} (hl : len ≤ 512) (hp : 1 ≤ per) (hS : ∀ a l, S a = some l → 0 ≤ Zx l - a + 1 ∧ Zx l - a + 1 ≤ 513) : ∀ {k : Nat} {rel : Int} {b0 b : Int × Int × List Int}, 0 ≤ rel → (0 ≤ b0.1 ∧ b0.1 ≤ 513 ∧ 0 ≤ b0.2.1 ∧ b0.2.1 ≤ 513) → Ja S len per k rel b0 = some b → 0 ≤ b.1 ∧ b.1 ≤ 513 ∧ 0 ≤ b.2.1 ∧ b.2.1 ≤ 513
  | 0, rel, b0, b, _, h0, h => by
    unfold Ja at h
    rw [← Option.some.inj h]; exact h0
  | k + 1, rel, b0, b, hr, h0, h => by
    unfold Ja at h
    split at h
    · rw [← Option.some.inj h]; exact h0
    rename_i hlr
    cases hs : S rel with
    | none => rw [hs] at h; cases h
    | some l =>
      rw [hs] at h
      refine Yef hl hp hS (by omega) ?_ h
      split
      · have := hS _ _ hs
        exact ⟨this.1, this.2, hr, by show rel ≤ 513; omega⟩
      · exact h0
theorem Ygb {x : WayM} (hok : Z1 x) {b : Int × Int × List Int} (h : Xs x.n.net x.s.sch x.f x.r = some b) : 0 ≤ b.1 ∧ b.1 ≤ 513 ∧ 0 ≤ b.2.1 ∧ b.2.1 ≤ 513 := by
  have h1 := hok.per
  have h2 := hok.ph
  have h3 := hok.slen
  refine Yef (len := x.s.sch.len) (per := x.f.2.2.2.1) (by show x.s.len ≤ 512; omega) h1.1 (fun a l hs => ?_) h2.1 (by decide) h
  have := OE hok hs
  omega
structure YiT (c : Clm) : Prop where
  flow : 0 ≤ c.flow ∧ c.flow ≤ 255
  some_ : 1 ≤ c.routes.length ∧ c.routes.length ≤ 2
  bl : c.bounds.length = c.routes.length
  wl : c.worst.length = c.routes.length
  sl : c.slots.length = c.routes.length
  bb : ∀ b ∈ c.bounds, 0 ≤ b ∧ b ≤ 513
  wb : ∀ b ∈ c.worst, 0 ≤ b ∧ b ≤ 513
theorem Yhe {n : NetM} {s : SchM} {q : List Rqs} (h : (YJ n.net q s.sch).2.2 = 0) : ∀ c ∈ (YJ n.net q s.sch).1, YiT c := by
  rw [Ya6 h]
  intro c hc
  obtain ⟨x, hx, rfl⟩ := List.mem_map.1 hc
  have hw := (Qy.1 h).2 x hx
  unfold Vv at hw
  rw [Bool.and_eq_true, decide_eq_true_eq] at hw
  have hl := hw.2
  simp only [Bool.not_eq_true'] at hl
  have hlen : 1 ≤ x.2.length ∧ x.2.length ≤ 2 := by rcases hw.1 with h1 | h1 <;> omega
  have hall : ∀ r ∈ x.2, 0 ≤ (YD n.net s.sch x.1 r).1.1 ∧ (YD n.net s.sch x.1 r).1.1 ≤ 513 ∧ 0 ≤ (YD n.net s.sch x.1 r).1.2.1 ∧ (YD n.net s.sch x.1 r).1.2.1 ≤ 513 := fun r hr => by
    obtain ⟨h1, b, hb, hre⟩ := Vd (Of hl hr).1
    rw [hre]
    exact Ygb (x := ⟨n, s, x.1, none, 0, r⟩) (UB h1) hb
  refine ⟨?_, ?_, ?_, ?_, ?_, ?_, ?_⟩
  · have hm : x.2.length ≠ 0 := by omega
    obtain ⟨r, hr⟩ : ∃ r, r ∈ x.2 := List.exists_mem_of_length_pos (by omega)
    have h2 := (Ybk (Vd (Of hl hr).1).1).2.2.1
    unfold Xt at h2
    split at h2
    · cases h2
    · show 0 ≤ x.1.1 ∧ x.1.1 ≤ 255
      omega
  · exact hlen
  · show (x.2.map _).length = x.2.length
    rw [List.length_map]
  · show (x.2.map _).length = x.2.length
    rw [List.length_map]
  · show (x.2.map _).length = x.2.length
    rw [List.length_map]
  · intro b hb
    obtain ⟨r, hr, rfl⟩ := List.mem_map.1 hb
    have := hall r hr
    exact ⟨this.1, this.2.1⟩
  · intro b hb
    obtain ⟨r, hr, rfl⟩ := List.mem_map.1 hb
    have := hall r hr
    exact ⟨this.2.2.1, this.2.2.2⟩
theorem YfR {n : Net} {q : List Rqs} {s : Sch} (h : (YJ n q s).2.2 = 0) : chkE n q s (YJ n q s).1 = (-1, 0) := by
  unfold chkE
  rw [if_neg (fun e => e h), if_neg (fun e => e rfl)]
  exact Xj fun k _ _ => if_pos rfl
theorem YeJ {n : Net} {q : List Rqs} {s : Sch} {d : List Clm} (h : (YJ n q s).2.2 = 0) (hd : d.length ≠ (YJ n q s).1.length) : chkE n q s d = (-1, 11) := by
  unfold chkE
  rw [if_neg (fun e => e h), if_pos hd]
theorem YdN {n : Net} {q : List Rqs} {s : Sch} {k : Nat} {y : Clm} (h : (YJ n q s).2.2 = 0) (hk : k < (YJ n q s).1.length) (hy : y ≠ YZ (YJ n q s).1 k) : chkE n q s ((YJ n q s).1.set k y) = ((k : Int), 20) := by
  unfold chkE
  rw [if_neg (fun e => e h), if_neg (fun e => e (List.length_set ..))]
  obtain ⟨C, hC⟩ : ∃ C, (YJ n q s).1 = C := ⟨_, rfl⟩
  rw [hC] at hk hy ⊢
  have hat : ∀ j, YZ (C.set k y) j = if k = j then y else YZ C j := fun j => by
    unfold YZ
    rw [List.getD_eq_getElem?_getD, List.getD_eq_getElem?_getD, List.getElem?_set]
    by_cases e : k = j
    · subst e
      rw [if_pos rfl, if_pos hk, if_pos rfl]; rfl
    · rw [if_neg e, if_neg e]
  have e0 : ∀ j, j < k → YZ (C.set k y) j = YZ C j := fun j hj => by rw [hat, if_neg (by omega)]
  have e1 : YZ (C.set k y) k = y := by rw [hat, if_pos rfl]
  have e2 : (if YZ (C.set k y) k = YZ C k then (0 : Int) else 20) = 20 := by rw [e1, if_neg hy]
  have := Y3 (f := fun i => if YZ (C.set k y) i = YZ C i then (0 : Int) else 20) (r := (C.set k y).length) (i0 := 0) (i := k) (fun j _ hj => if_pos (e0 j hj)) (Nat.zero_le _) (by rw [List.length_set]; omega) (by
    show (if YZ (C.set k y) k = YZ C k then (0 : Int) else 20) ≠ 0
    rw [e2]; decide)
  rw [this]
  show ((k : Int), (if YZ (C.set k y) k = YZ C k then (0 : Int) else 20)) = _
  rw [e2]
theorem YgD {l : List Int} {j : Nat} {a b : Int} (h : l[j]? = some a) (hb : b ≠ a) : l.set j b ≠ l := fun e => by
  have hj := (List.getElem?_eq_some_iff.1 h).1
  have h1 : (l.set j b)[j]? = some b := by rw [List.getElem?_set, if_pos rfl, if_pos hj]
  rw [e, h] at h1
  exact hb (Option.some.inj h1).symm
open Go.RowKit Go.Eng Go.Nw
theorem Jt {n : Int} (h : 0 ≤ n ∧ n < 10) : Lib.itoa n = [UInt8.ofNat (48 + n.toNat)] := by
  rw [Jw h.1, Lib.decDigits_one (by omega)]
end Go.Proofs.YtmalhidldgfeoaaGreatDoor
namespace Go.Eng
open Go.RowKit
theorem YeZ {P : Program} {B : Nat} {w0 : World} {env : Env} {H : List HP} {n : Nat} (T : Tab P) {fn : Func} {Φ : Value → List HP → Prop} {p g k u p2 g2 k2 rt rt2 : Nat} {x : Value} {cs cs2 : Array Value} {tt tt2 : TypeId} {fr fr2 : Nat × Nat} (hr : fn.results = #[.cell p rt, .tmp u, .cell p2 rt2]) (hp : get env p = some (.pointer (some ⟨g, 0, none⟩))) (hu : get env u = some x) (hp2 : get env p2 = some (.pointer (some ⟨g2, 0, none⟩)))
    (hm : blk g (.cells cs tt fr) ∈ H) (hm2 : blk g2 (.cells cs2 tt2 fr2) ∈ H) (ht : look T.ag rt = some k) (ht2 : look T.ag rt2 = some k2) (hk : cs.size = k) (hk2 : cs2.size = k2) {H2 : List HP} (hH : ∀ w, St B w0 H w → St B w0 H2 w) (h : Φ (.tuple #[.agg cs, x, .agg cs2]) H2) : VQ ⟨n, [], none⟩ B w0 (bodyPost P fn (Post B w0 Φ)) .ret env H := by
  refine ⟨fun a w ha hw => bodyPost_ret (v := .tuple #[.agg cs, x, .agg cs2]) ?_ ha.defers ⟨_, H2, rfl, hH w hw, h⟩⟩
  have hp' := ha.slot p _ hp
  have hp2' := ha.slot p2 _ hp2
  simp [results, hr, Array.getD_eq_getD_getElem?, hp', hp2', ha.slot u _ hu, asAddr, ZD T (hw.blk hm).1 ht hk, ZD T (hw.blk hm2).1 ht2 hk2]
end Go.Eng
namespace Go.Proofs.YtmalhidldgfeoaaGreatDoor
open Go.RowKit Go.Eng Go.Nw Go.Rt
def exN8 : Net := ⟨3, [[0, 9, 9], [9, 0, 9], [9, 9, 0]], 1, 1000, [(0, 1, 1), (1, 0, 0), (1, 2, 1), (2, 1, 0)], [9, 9, 9, 9]⟩
def exQ : List Rqs := [((3, 0, 2, 6, 0, 6), [[0, 1, 2]])]
def exZ : Sch := ⟨6, 1, [(0, 0, 0, 1, 3), (1, 0, 1, 2, 3), (2, 0, 0, 1, 3), (3, 0, 1, 2, 3), (4, 0, 1, 2, 3)]⟩
set_option maxRecDepth 10000 in
set_option maxHeartbeats 4000000 in
theorem YdS {B : Nat} {w0 : World} {H : List HP} {w : World} (hw : St B w0 H w) :
    Calls Tryz.prog 65 [].toArray w (Post B w0 fun v K => ∃ (n : NetM) (A : Option Addr) (cap : Nat) (q : List RqM) (s : SchM), v = .tuple #[n.val, .slice A q.length cap, s.val] ∧ n.net = exN8 ∧ q.map RqM.rq = exQ ∧ s.sch = exZ ∧ n.In B w0 K ∧ QIn B w0 K A q ∧ Rd B w0 K s.A (s.cells.flatMap celF) ∧ ∀ w, St B w0 K w → St B w0 H w) := by
  refine Yc Tryz.func65 Tryz.ntmps65 rfl rfl hw ?_
  repeat' (first | apply (zs2 ?_) | (apply zg2; refine zs6 ?_) | (apply zg22; first | refine zs50 ?_ | refine zs51 ?_) | (apply zg24; (refine zs54 ?_; intro _)) | (apply zg25; refine zs55 ?_) | (apply zg26; (refine zs56 ?_; intro _)) | apply (zs65 ?_) | apply (zs68 ?_) | apply (zs69 ?_) | apply (zs70 ?_) | fail)
  rename_i g0 g2 r5 r6 r7 gp gm g3 gl gc g4
  apply UI (.n1 0 (.n1 1 (.n1 6 (.n2 2 (.n2 3 (.n1 4 (.n2 5 (.n1 7 (.n1 8 .done)) 7 (.n1 5 (.n1 8 .done)))) 7 (.n1 3 (.n1 4 (.n1 5 (.n1 8 .done))))) 7 (.n1 2 (.n1 3 (.n1 4 (.n1 5 (.n1 8 .done))))))))) [9] [true, false, false, true]
  kernel_rfl
  kernel_rfl
  exact zy
  (simp only [Yj, nthO]; rfl)
  repeat' (first | apply (zs2 ?_) | (apply zg3; refine zs8 ?_) | (apply zg22; refine zs51 ?_) | (apply zg25; refine zs55 ?_) | (apply zg26; (refine zs56 ?_; intro _)) | apply (zs65 ?_) | (apply Yo; exact zp) | apply (zs68 ?_) | apply (zs74 ?_) | apply (zs87 ?_) | (apply Yl; (repeat (first | with_reducible exact Yh | (with_reducible apply Yg; (repeat (first | with_reducible exact Yf | with_reducible apply Ye)))))) | (apply UE; exact zp) | apply (zs90 ?_) | apply (zs91 ?_ ?_) | (apply XL; (repeat (first | with_reducible exact Yh | (with_reducible apply Yg; (repeat (first | with_reducible exact Yf | with_reducible apply Ye)))))) | apply (zs93 ?_) | apply (zs94 ?_) | fail)
  all_goals (
    rename_i gi gr gq
    apply YeZ T; exact rfl; exact rfl; exact rfl; exact rfl; exact zm; exact zm; exact rfl; exact rfl; exact rfl; exact rfl; exact fun w hw => hw
    refine ⟨⟨3, (some ⟨gp, 0, none⟩), 3, [⟨(some ⟨r5, 0, none⟩), 3, [0, 9, 9]⟩, ⟨(some ⟨r6, 0, none⟩), 3, [9, 0, 9]⟩, ⟨(some ⟨r7, 0, none⟩), 3, [9, 9, 0]⟩], 1, 1000, (some ⟨gl, 0, none⟩), 4, [(0, 1, 1), (1, 0, 0), (1, 2, 1), (2, 1, 0)], (some ⟨gm, 0, none⟩), 4, [9, 9, 9, 9]⟩, (some ⟨gq, 0, none⟩), 1, [⟨(3, 0, 2, 6, 0, 6), (some ⟨gr, 0, none⟩), 1, [⟨(some ⟨gi, 0, none⟩), 3, [0, 1, 2]⟩]⟩], ⟨6, 1, (some ⟨gc, 0, none⟩), 5, exZ.cells⟩, rfl, rfl, rfl, rfl, ?_, ?_, ?_, ?_⟩
    · refine ⟨Rd.blk (cs := #[.slice (some ⟨r5, 0, none⟩) 3 3, .slice (some ⟨r6, 0, none⟩) 3 3, .slice (some ⟨r7, 0, none⟩) 3 3]) (t := 24) (fr := (0, 0)) zm, fun r hr => ?_, Rd.blk (cs := #[.int .i64 0, .int .i64 1, .int .i64 1, .int .i64 1, .int .i64 0, .int .i64 0, .int .i64 1, .int .i64 2, .int .i64 1, .int .i64 2, .int .i64 1, .int .i64 0]) (t := 172) (fr := (0, 0)) zm, Rd.blk (cs := #[.int .i64 9, .int .i64 9, .int .i64 9, .int .i64 9]) (t := 3) (fr := (0, 0)) zm, by show 3 ≤ _; omega, fun r hr => ?_, by show 4 ≤ _; omega, by show 4 ≤ _; omega⟩
      · simp only [List.mem_cons, List.not_mem_nil, or_false] at hr
        rcases hr with rfl | rfl | rfl
        · exact Rd.blk (cs := #[.int .i64 0, .int .i64 9, .int .i64 9]) (t := 3) (fr := (0, 0)) zm
        · exact Rd.blk (cs := #[.int .i64 9, .int .i64 0, .int .i64 9]) (t := 3) (fr := (0, 0)) zm
        · exact Rd.blk (cs := #[.int .i64 9, .int .i64 9, .int .i64 0]) (t := 3) (fr := (0, 0)) zm
      · simp only [List.mem_cons, List.not_mem_nil, or_false] at hr
        rcases hr with rfl | rfl | rfl <;> (show 3 ≤ _; omega)
    · refine ⟨Rd.blk (cs := #[.int .i64 3, .int .i64 0, .int .i64 2, .int .i64 6, .int .i64 0, .int .i64 6, .slice (some ⟨gr, 0, none⟩) 1 1]) (t := 70) (fr := (0, 0)) zm, fun x hx => ?_, by show 1 ≤ _; omega⟩
      obtain rfl := List.mem_singleton.1 hx
      refine ⟨Rd.blk (cs := #[.slice (some ⟨gi, 0, none⟩) 3 3]) (t := 72) (fr := (0, 0)) zm, fun r hr => ?_, by show 1 ≤ _; omega, fun r hr => ?_⟩
      · obtain rfl := List.mem_singleton.1 hr
        exact Rd.blk (cs := #[.int .i64 0, .int .i64 1, .int .i64 2]) (t := 3) (fr := (0, 0)) zm
      · obtain rfl := List.mem_singleton.1 hr
        exact ⟨by show 3 ≤ _; omega, by show 3 ≤ 3; omega⟩
    · exact Rd.blk (cs := #[.int .i64 0, .int .i64 0, .int .i64 0, .int .i64 1, .int .i64 3, .int .i64 1, .int .i64 0, .int .i64 1, .int .i64 2, .int .i64 3, .int .i64 2, .int .i64 0, .int .i64 0, .int .i64 1, .int .i64 3, .int .i64 3, .int .i64 0, .int .i64 1, .int .i64 2, .int .i64 3, .int .i64 4, .int .i64 0, .int .i64 1, .int .i64 2, .int .i64 3]) (t := 40) (fr := (0, 0)) zm
    · exact zk)
open Go.RowKit Go.Eng Go.Nw Go.Rt
def exK : Clm := ⟨3, [[0, 1, 2]], [5], [0], [[0, 2, 3, 4]]⟩
theorem Yet : YJ exN8 exQ exZ = ([exK], (-1, 0)) := by decide
theorem Yaq : J9 [exK] = true := by decide
theorem Yf1 : bndE [exK] 3 = (5, true) := by decide
def O2 : List UInt8 := [102, 108, 111, 119, 32, 51, 10, 114, 111, 117, 116, 101, 32, 48, 32, 49, 32, 50, 10, 98, 111, 117, 110, 100, 32, 53, 32, 48, 10, 115, 108, 111, 116, 115, 32, 48, 32, 50, 32, 51, 32, 52, 10]
theorem Yap : WB [exK] = O2 := by
  have h0 : Lib.itoa 0 = [48] := Jt (by omega)
  have h1 : Lib.itoa 1 = [49] := Jt (by omega)
  have h2 : Lib.itoa 2 = [50] := Jt (by omega)
  have h3 : Lib.itoa 3 = [51] := Jt (by omega)
  have h4 : Lib.itoa 4 = [52] := Jt (by omega)
  have h5 : Lib.itoa 5 = [53] := Jt (by omega)
  unfold WB X0 exK
  simp only [List.flatMap_cons, List.flatMap_nil, List.length_cons, List.length_nil, show List.range (0 + 1) = [0] from rfl]
  unfold YbF YE rtAt
  simp [h0, h1, h2, h3, h4, h5, O2, wordF, wordR, wordB, wordL]
set_option maxRecDepth 10000 in
set_option maxHeartbeats 4000000 in
theorem WZ {B : Nat} {w0 : World} {H : List HP} {w : World} (ht : TabsB B w0) (hw : St B w0 H w) :
    Calls Tryz.prog 17 [].toArray w (Post B w0 fun v K => v = .bool true ∧ K = H) := by
  refine Yc Tryz.func17 Tryz.ntmps17 rfl rfl hw ?_
  have hpr : Vz [exK] = (O2, 0) := by unfold Vz; rw [Yaq, if_neg (by decide), Yap]
  have hpa : Wa O2 = ([exK], (-1, 0)) := by rw [← Yap]; exact Ybu Yaq
  repeat' (first | apply (zs2 ?_) | apply (zs65 ?_) | apply (zs68 ?_) | apply (zs69 ?_) | apply (zs70 ?_) | fail)
  apply Yn _ en65
  exact za
  exact rfl
  exact fun _ hw => (YdS (hw))
  rintro _ K0 ⟨n, A, cap, q, s, rfl, hn, hq, hs, hin, hqin, hrs, hback⟩
  have hsl : s.cells.length ≤ 1000000000000 := by
    have h1 : s.sch.cells.length = 5 := by rw [hs]; rfl
    have h2 : s.cells.length = 5 := h1
    omega
  have p1 : ∀ {H' : List HP} {w : World}, n.In B w0 H' → QIn B w0 H' A q → Rd B w0 H' s.A (s.cells.flatMap celF) → St B w0 H' w → Calls Tryz.prog 19 [n.val, .slice A q.length cap, s.val].toArray w (Post B w0 (OutC H' ([exK], (-1, 0)))) := fun hin hqin hrs hw => by
    have h := VI n q s (cap := cap) ht hin hqin hrs hsl hw
    rw [hn, hq, hs, Yet] at h
    exact h
  have hchk : chkE exN8 exQ exZ [exK] = (-1, 0) := by unfold chkE; rw [Yet]; decide
  unfold NetM.val SchM.val
  unfold NetM.val SchM.val at p1
  repeat' (first | apply (zs1 ?_) | apply (zs2 ?_) | (apply zg3; refine zs8 ?_) | apply (zs13 ?_) | (apply zg22; refine zs51 ?_) | (apply zg24; (refine zs54 ?_; intro _)) | apply (zs65 ?_) | apply (zs68 ?_) | apply (zs69 ?_) | apply (zs70 ?_) | fail)
  apply Yn _ en19
  exact za
  exact rfl
  exact fun _ hw => (p1 (hin.mono zk) (hqin.mono zk) (hrs.mono zk) (hw))
  rintro _ _ ⟨A2, cap2, C, rfl, hC, hCl, rfl⟩
  have hC : C.map ClM.clm = [exK] := hC
  have hCn : C.length = 1 := by have := congrArg List.length hC; rwa [List.length_map] at this
  have hcin : ∀ {H' : List HP}, clsP A2 cap2 C ∈ H' → many (C.map clQ) ∈ H' → CIn B w0 H' A2 C := fun h1 h2 => ⟨.sl h1, fun x hx => Jj h2 hx (hCl x hx), by omega⟩
  have p2 : ∀ {H' : List HP} {w : World}, CIn B w0 H' A2 C → St B w0 H' w → Calls Tryz.prog 25 [.slice A2 C.length cap2].toArray w (Post B w0 fun v K => v = .tuple #[strV O2, .int .i64 0] ∧ K = H') := fun hc hw => by
    have h := Yb6 C (cap := cap2) ht hc hw
    rw [hC, hpr] at h
    exact h
  have p3 : ∀ {H' : List HP} {w : World}, n.In B w0 H' → QIn B w0 H' A q → Rd B w0 H' s.A (s.cells.flatMap celF) → CIn B w0 H' A2 C → St B w0 H' w → Calls Tryz.prog 23 [n.val, .slice A q.length cap, s.val, .slice A2 C.length cap2].toArray w (Post B w0 fun v K => v = .tuple #[.int .i64 (-1), .int .i64 0] ∧ K = H') := fun hin hqin hrs hc hw => by
    have h := Zz n q s C (cap := cap) (cap1 := cap2) ht hin hqin hrs hsl hc hw
    rw [hn, hq, hs, hC, hchk] at h
    exact h
  have p4 : ∀ {H' : List HP} {w : World}, St B w0 H' w → Calls Tryz.prog 27 [strV O2].toArray w (Post B w0 (OutC H' ([exK], (-1, 0)))) := fun hw => by
    have h := YcY O2 (by decide) ht hw
    rw [hpa] at h
    exact h
  have p5 : ∀ {H' : List HP} {w : World}, CIn B w0 H' A2 C → St B w0 H' w → Calls Tryz.prog 37 [.slice A2 C.length cap2, .int .i64 3].toArray w (Post B w0 fun v K => v = .tuple #[.int .i64 5, .bool true] ∧ K = H') := fun hc hw => by
    have h := Wu C 3 (cap := cap2) hc hw
    rw [hC, Yf1] at h
    exact h
  unfold NetM.val SchM.val at p3
  repeat' (first | apply (zs1 ?_) | apply (zs2 ?_) | apply (zs13 ?_) | apply (zs65 ?_) | apply (zs68 ?_) | apply (zs69 ?_) | apply (zs70 ?_) | fail)
  first | apply Ya en25 | apply Yb en25
  exact za
  exact rfl
  exact fun _ hw => (p2 (hcin zm zm) hw)
  repeat' (first | apply (zs1 ?_) | apply (zs2 ?_) | (apply zg3; refine zs8 ?_) | apply (zs13 ?_) | apply (zs65 ?_) | apply (zs68 ?_) | apply (zs69 ?_) | apply (zs70 ?_) | fail)
  first | apply Ya en23 | apply Yb en23
  exact za
  exact rfl
  exact fun _ hw => (p3 (hin.mono zk) (hqin.mono zk) (hrs.mono zk) (hcin zm zm) hw)
  repeat' (first | apply (zs1 ?_) | apply (zs2 ?_) | apply (zs13 ?_) | apply (zs65 ?_) | apply (zs68 ?_) | apply (zs69 ?_) | apply (zs70 ?_) | fail)
  apply Yn _ en27
  exact za
  exact rfl
  exact fun _ hw => (p4 (hw))
  rintro _ _ ⟨A3, cap3, C3, rfl, hC3, hCl3, rfl⟩
  have hC3 : C3.map ClM.clm = [exK] := hC3
  have hCn3 : C3.length = 1 := by have := congrArg List.length hC3; rwa [List.length_map] at this
  have hcin3 : ∀ {H' : List HP}, clsP A3 cap3 C3 ∈ H' → many (C3.map clQ) ∈ H' → CIn B w0 H' A3 C3 := fun h1 h2 => ⟨.sl h1, fun x hx => Jj h2 hx (hCl3 x hx), by omega⟩
  have p6 : ∀ {H' : List HP} {w : World}, CIn B w0 H' A2 C → CIn B w0 H' A3 C3 → St B w0 H' w → Calls Tryz.prog 21 [.slice A2 C.length cap2, .slice A3 C3.length cap3].toArray w (Post B w0 fun v K => v = .bool true ∧ K = H') := fun hc hd hw => by
    have h := OV C C3 (cap := cap2) (cap2 := cap3) hc hd hw
    rw [hC, hC3, decide_eq_true rfl] at h
    exact h
  dsimp only
  repeat' (first | apply (zs1 ?_) | apply (zs2 ?_) | apply (zs13 ?_) | apply (zs65 ?_) | apply (zs68 ?_) | apply (zs69 ?_) | apply (zs70 ?_) | fail)
  first | apply Ya en37 | apply Yb en37
  exact za
  exact rfl
  exact fun _ hw => (p5 (hcin zm zm) hw)
  repeat' (first | (apply Yhm; exact rfl; exact rfl; exact rfl; all_goals (intro hE; try (exact absurd rfl hE))) | apply (zs1 ?_) | apply (zs2 ?_) | (apply zg1; refine zs4 ?_) | (apply zg6; refine zs11 ?_) | apply (zs13 ?_) | (apply zg7; (refine zs15 ?_ ?_ <;> intro _ <;> try (exfalso; omega))) | apply (zs65 ?_) | apply (zs68 ?_) | apply (zs69 ?_) | apply (zs70 ?_) | fail)
  first | apply Ya en21 | apply Yb en21
  exact za
  exact rfl
  exact fun _ hw => (p6 (hcin zm zm) (hcin3 zm zm) hw)
  repeat' (first | apply (zs1 ?_) | apply (zs2 ?_) | (apply zg1; refine zs4 ?_) | (apply zg6; refine zs11 ?_) | (apply zg7; (refine zs15 ?_ ?_ <;> intro _ <;> try (exfalso; omega))) | apply (zs65 ?_) | apply (zs68 ?_) | apply (zs74 ?_) | fail)
  apply Yi H
  · intro w hw
    refine hback w ?_
    revert w
    exact zk
  apply Yd; exact rfl; exact rfl
  exact ⟨rfl, rfl⟩
end Go.Proofs.YtmalhidldgfeoaaGreatDoor
namespace Go.Eng
open Go.RowKit
theorem Xz (H : List HP) : Perm H (H ++ []) := by rw [List.append_nil]; exact Perm.refl _
section
variable {P : Program} {B : Nat} {w0 : World} {Q : Exit → Act → World → Prop} {env : Env} {H : List HP} {m : Mode} {n : Shp} {ops : Array Oper} {rest : List Oper} {d : Nat} {ty : TypeId} {pos : String} {after : Array Edge} {xt yt : TypeId} {x y : Operand} {k : IntKind} {a b : Int}
theorem Yg7 (hx : evo env x = some (.int k a)) (hy : evo env y = some (.int k b)) (hn : Nat.ble (d + 1) n.k = true) (h : VL P m n B w0 ops Q rest ((d, .bool (decide (a = b))) :: env) H) :
    VL P m n B w0 ops Q (⟨some d, .binOp .eql xt x y yt, ty, pos, after, none⟩ :: rest) env H := by
  refine YgP hx hy hn (fun e => ?_) (fun e => ?_)
  · rwa [decide_eq_true e] at h
  · rwa [decide_eq_false e] at h
theorem Yi5 {c : Code} {e size k cap : Nat} {A : Option Addr} {xs : List Value} (hm : sl e size A k cap xs ∈ H) (h : k ≤ cap → VC P n B w0 c Q env H) : VC P n B w0 c Q env H := by
  refine ⟨fun a w ha hw => ?_⟩
  rcases J6 (hw.sl hm) with ⟨_, e1, e2, _⟩ | ⟨g, _, rfl, _, e1, _⟩
  · exact (h (by omega)).run a w ha hw
  · exact (h e1).run a w ha hw
theorem QN (T : Tab P) {α : Type} {f : α → List Value} {l : List α} {t i q o k : Nat} {b : α} {x : Operand} {A : Option Addr} {vs : List Value} (hx : evo env x = some (sptr A (i * q + o))) (hr : Rd B w0 H A (l.flatMap f)) (hb : l[i]? = some b) (hq : ∀ a, (f a).length = q)
    (ht : look T.ag t = some k) (ho : Nat.ble (o + k) q = true) (h0 : Nat.blt 0 k = true) (hv : subL o k (f b) = vs) (hk : Nat.beq vs.length k = true) (hn : Nat.ble (d + 1) n.k = true)
    (h : VL P m n B w0 ops Q rest ((d, .agg vs.toArray) :: env) H) : VL P m n B w0 ops Q (⟨some d, .load t x, ty, pos, after, none⟩ :: rest) env H := by
  refine Yv rfl rfl hn rfl (fun a w ha hw => ?_) h
  have hk := Nat.eq_of_beq_eq_true hk
  have hk0 : 0 < k := by simpa using h0
  have hok : o + k ≤ q := Nat.le_of_ble_eq_true ho
  have hget : ∀ j v, vs[j]? = some v → (l.flatMap f)[i * q + o + j]? = some v := fun j v hj => by
    have hlt : j < k := by have := (List.getElem?_eq_some_iff.1 hj).1; rwa [hk] at this
    rw [Nat.add_assoc, Vn hq l i (o + j) b hb (by omega)]
    rw [← hv, subL, List.getElem?_take, if_pos hlt, List.getElem?_drop] at hj
    exact hj
  obtain ⟨g, u, rfl, _⟩ := hr w hw _ _ (hget 0 _ (List.getElem?_eq_getElem (by rw [hk]; exact hk0)))
  have hl := run_loadCells_list (P := P) w ⟨g, u + (i * q + o), none⟩ vs (fun j v hj => by
    obtain ⟨g', u', e1, hc⟩ := hr w hw _ _ (hget j v hj)
    injection e1 with e1
    injection e1 with e1 e2
    subst e1 e2
    rw [Addr.add_lit, Nat.add_assoc]; exact hc)
  rw [hk] at hl
  simp [execOp, ha.eval hx, sptr, Instr.loadAt, Instr.sureAddr, loadVar, Xn (T.aggs ht), Xh (Zb (T.aggs ht)), Addr.add_lit, hl]
end
end Go.Eng
namespace Go.Proofs.YtmalhidldgfeoaaGreatDoor
open Go.RowKit Go.Eng Go.Nw Go.Rt
set_option maxRecDepth 10000 in
set_option maxHeartbeats 8000000 in
theorem Yba (n : NetM) (q : List RqM) (s : SchM) (wh wr ad : Int) {A : Option Addr} {cap B : Nat} {w0 : World} {H : List HP} {w : World} (ht : TabsB B w0) (hin : n.In B w0 H) (hqb : QBg B w0 H A q) (hrs : Rd B w0 H s.A (s.cells.flatMap celF)) (hsl : s.cells.length ≤ 9223372036854775807) (h1 : 0 ≤ wh ∧ wh ≤ 255) (h2 : 0 ≤ wr ∧ wr ≤ 255) (h3 : 0 ≤ ad ∧ ad ≤ 255) (hw : St B w0 H w) :
    Calls Tryz.prog 7 [n.val, .slice A q.length cap, s.val, .int .u8 wh, .int .u8 wr, .int .u8 ad].toArray w (Post B w0 fun v K => v = .bool true ∧ K = H) := by
  refine Yc Tryz.func7 Tryz.ntmps7 rfl rfl hw ?_
  have p0 := fun {H' : List HP} {w : World} (hin : n.In B w0 H') (hqb : QBg B w0 H' A q) (hw : St B w0 H' w) => O1 n q s (cap := cap) hin hqb hsl hw
  unfold NetM.val SchM.val
  unfold NetM.val SchM.val at p0
  repeat' (first | apply (zs2 ?_) | (apply zg23; (refine zs52 ?_; intro _)) | apply (zs65 ?_) | apply (zs68 ?_) | apply (zs69 ?_) | apply (zs70 ?_) | fail)
  rename_i g6 g8
  first | apply Ya en17 | apply Yb en17
  exact za
  exact rfl
  exact fun _ hw => (WZ ht hw)
  repeat' (first | apply (zs1 ?_) | (apply zg3; refine zs8 ?_) | (apply zg20; refine zs47 ?_) | apply (zs65 ?_) | apply (zs68 ?_) | apply (zs69 ?_) | apply (zs70 ?_) | (apply zg27; refine zs72 ?_) | apply (zs76 ?_) | fail)
  apply Yn _ en18
  exact za
  exact rfl
  exact fun _ hw => (p0 (hin.mono zk) (hqb.mono zk) (hw))
  rintro _ _ ⟨⟨b, rfl, hfew⟩, hK0⟩
  rw [hK0]
  have hql := hqb.ln
  cases b with
  | false =>
    repeat' (first | apply (zs1 ?_) | apply (zs2 ?_) | (apply zg1; refine zs3 ?_) | (apply zg6; refine zs11 ?_) | (apply zg20; refine zs48 ?_) | apply (zs65 ?_) | apply (zs68 ?_) | apply (zs69 ?_) | apply (zs70 ?_) | (apply zg27; refine zs71 ?_) | apply (zs74 ?_) | apply (zs77 ?_) | fail)
    apply Yi H
    · exact zk
    apply Yd; exact rfl; exact rfl; exact ⟨rfl, rfl⟩
  | true =>
  have hfew := hfew rfl
  have hq := hqb.small hfew
  have hsl2 : s.cells.length ≤ 1000000000000 := by have := hfew.2.1; omega
  have hq4 := hfew.1
  by_cases hq0 : q.length = 0
  · repeat' (first | apply (zs1 ?_) | apply (zs2 ?_) | (apply zg1; refine zs4 ?_) | (apply zg4; refine zs9 ?_) | (apply zg6; refine zs12 ?_) | (apply zg7; (refine zs15 ?_ ?_ <;> intro _ <;> try (exfalso; omega))) | (apply zg20; refine zs47 ?_) | apply (zs65 ?_) | apply (zs68 ?_) | apply (zs69 ?_) | apply (zs70 ?_) | (apply zg27; refine zs71 ?_) | apply (zs74 ?_) | apply (zs77 ?_) | fail)
    apply Yi H
    · exact zk
    apply Yd; exact rfl; exact rfl; exact ⟨rfl, rfl⟩
  obtain ⟨⟨RC, ri, re⟩, hR⟩ : ∃ R, YJ n.net (q.map RqM.rq) s.sch = R := ⟨_, rfl⟩
  have p1 := fun {H' : List HP} {w : World} (hin : n.In B w0 H') (hq : QIn B w0 H' A q) (hrs : Rd B w0 H' s.A (s.cells.flatMap celF)) (hw : St B w0 H' w) => VI n q s (cap := cap) ht hin hq hrs hsl2 hw
  rw [hR] at p1
  unfold OutC NetM.val SchM.val at p1
  dsimp only at p1
  by_cases he : re = 0
  rotate_left
  · have hb := (YcC (n := n.net) (q := q.map RqM.rq) (s := s.sch) (by rw [hR]; exact he)).1
    rw [hR] at hb
    have hb : RC = [] := hb
    repeat' (first | apply (zs1 ?_) | (apply zg1; refine zs4 ?_) | (apply zg3; refine zs8 ?_) | (apply zg4; refine zs9 ?_) | (apply zg6; refine zs12 ?_) | (apply zg7; (refine zs15 ?_ ?_ <;> intro _ <;> try (exfalso; omega))) | (apply zg20; refine zs47 ?_) | apply (zs65 ?_) | apply (zs68 ?_) | apply (zs69 ?_) | apply (zs70 ?_) | (apply zg27; refine zs72 ?_) | apply (zs76 ?_) | fail)
    apply Yn _ en19
    exact za
    exact rfl
    exact fun _ hw => (p1 (hin.mono zk) (hq.mono zk) (hrs.mono zk) (hw))
    rintro _ _ ⟨A2, cap2, C, rfl, hC, hCl, rfl⟩
    have hnil : C.length = 0 := by have := congrArg List.length hC; rw [hb, List.length_map] at this; exact this
    repeat' (first | apply (zs1 ?_) | apply (zs2 ?_) | (apply zg4; refine zs9 ?_) | apply (zs13 ?_) | (apply zg7; (refine zs15 ?_ ?_ <;> intro _ <;> try (exfalso; omega))) | (apply zg8; (refine zs16 ?_ ?_ <;> intro _ <;> try (exfalso; omega))) | apply (zs65 ?_) | apply (zs68 ?_) | apply (zs69 ?_) | apply (zs70 ?_) | (apply zg27; refine zs71 ?_) | apply (zs74 ?_) | apply (zs77 ?_) | fail)
    apply Yi H
    · exact zk
    apply Yd; exact rfl; exact rfl; exact ⟨rfl, rfl⟩
  subst he
  have hok : (YJ n.net (q.map RqM.rq) s.sch).2.2 = 0 := by rw [hR]
  have hce := Ya6 hok
  have hbd := Yhe hok
  have hself := YfR hok
  have hshort := fun {d : List Clm} (hd : d.length ≠ (YJ n.net (q.map RqM.rq) s.sch).1.length) => YeJ hok hd
  have hforg := fun {k : Nat} {y : Clm} (hk : k < (YJ n.net (q.map RqM.rq) s.sch).1.length) (hy : y ≠ YZ (YJ n.net (q.map RqM.rq) s.sch).1 k) => YdN hok hk hy
  rw [hR] at hce hbd hself hshort hforg
  dsimp only at hbd hself hshort hforg
  obtain ⟨hRl, rfl⟩ : RC.length = q.length ∧ ri = -1 := by
    injection hce with e1 e2
    injection e2 with e2 _
    exact ⟨by rw [e1, List.length_map, List.length_map], e2⟩
  clear hce
  repeat' (first | apply (zs1 ?_) | (apply zg1; refine zs4 ?_) | (apply zg3; refine zs8 ?_) | (apply zg4; refine zs9 ?_) | (apply zg6; refine zs12 ?_) | (apply zg7; (refine zs15 ?_ ?_ <;> intro _ <;> try (exfalso; omega))) | (apply zg20; refine zs47 ?_) | apply (zs65 ?_) | apply (zs68 ?_) | apply (zs69 ?_) | apply (zs70 ?_) | (apply zg27; refine zs72 ?_) | apply (zs76 ?_) | fail)
  apply Yn _ en19
  exact za
  exact rfl
  exact fun _ hw => (p1 (hin.mono zk) (hq.mono zk) (hrs.mono zk) (hw))
  rintro _ _ ⟨A2, cap2, C, rfl, hC, hCl, rfl⟩
  have hCn : C.length = q.length := by have := congrArg List.length hC; rw [List.length_map] at this; omega
  have hcin : ∀ {H' : List HP}, clsP A2 cap2 C ∈ H' → many (C.map clQ) ∈ H' → CIn B w0 H' A2 C := fun h1 h2 => ⟨.sl h1, fun x hx => Jj h2 hx (hCl x hx), by omega⟩
  have p2 : ∀ {H' : List HP} {w : World}, n.In B w0 H' → QIn B w0 H' A q → Rd B w0 H' s.A (s.cells.flatMap celF) → CIn B w0 H' A2 C → St B w0 H' w → Calls Tryz.prog 23 [n.val, .slice A q.length cap, s.val, .slice A2 C.length cap2].toArray w (Post B w0 fun v K => v = .tuple #[.int .i64 (-1), .int .i64 0] ∧ K = H') := fun hin hq hrs hc hw => by
    have h := Zz n q s C (cap := cap) (cap1 := cap2) ht hin hq hrs hsl2 hc hw
    rw [hC, hself] at h
    exact h
  have p3 : ∀ {H' : List HP} {w : World}, n.In B w0 H' → QIn B w0 H' A q → Rd B w0 H' s.A (s.cells.flatMap celF) → CIn B w0 H' (subA A2 1 cap2 5) (C.drop 1) → St B w0 H' w → Calls Tryz.prog 23 [n.val, .slice A q.length cap, s.val, .slice (subA A2 1 cap2 5) (C.drop 1).length (cap2 - 1)].toArray w (Post B w0 fun v K => v = .tuple #[.int .i64 (-1), .int .i64 11] ∧ K = H') := fun hin hq hrs hc hw => by
    have h := Zz n q s (C.drop 1) (cap := cap) (cap1 := cap2 - 1) ht hin hq hrs hsl2 hc hw
    rw [hshort (by rw [List.length_map, List.length_drop]; omega)] at h
    exact h
  unfold NetM.val SchM.val at p2 p3
  repeat' (first | apply (zs1 ?_) | apply (zs2 ?_) | (apply zg3; refine zs8 ?_) | apply (zs13 ?_) | (apply zg8; (refine zs16 ?_ ?_ <;> intro _ <;> try (exfalso; omega))) | apply (zs65 ?_) | apply (zs68 ?_) | apply (zs69 ?_) | apply (zs70 ?_) | (apply zg27; refine zs72 ?_) | apply (zs76 ?_) | fail)
  first | apply Ya en23 | apply Yb en23
  exact za
  exact rfl
  exact fun _ hw => (p2 (hin.mono zk) (hq.mono zk) (hrs.mono zk) (hcin zm zm) hw)
  repeat' (first | apply (zs1 ?_) | apply (zs2 ?_) | (apply zg1; refine zs4 ?_) | (apply zg4; refine zs9 ?_) | (apply zg6; refine zs12 ?_) | apply (zs13 ?_) | (apply zg8; (refine zs16 ?_ ?_ <;> intro _ <;> try (exfalso; omega))) | apply (zs65 ?_) | apply (zs68 ?_) | apply (zs69 ?_) | apply (zs70 ?_) | (apply zg27; refine zs72 ?_) | apply (zs76 ?_) | fail)
  refine Yi5 (e := 61) (size := 5) (A := A2) (k := C.length) (cap := cap2) (xs := C.flatMap clF) zm fun hcap => ?_
  have hcdr : ∀ {H' : List HP}, clsP A2 cap2 C ∈ H' → many (C.map clQ) ∈ H' → CIn B w0 H' (subA A2 1 cap2 5) (C.drop 1) := fun h1 h2 => ⟨by
    have := Rd.sub (B := B) (w0 := w0) (o := 1) (k := C.length) (q := 5) (fun _ => rfl) (Rd.sl h1) hcap
    rwa [List.take_of_length_le (by rw [List.length_drop]; omega)] at this, fun x hx => Jj h2 (List.mem_of_mem_drop hx) (hCl x (List.mem_of_mem_drop hx)), by rw [List.length_drop]; omega⟩
  apply Yw [0, 1, 2, 3, 4, 5, 6, 7, 8, 9, 10] []
  kernel_rfl
  kernel_rfl
  (simp only [Yj, nthO]; rfl)
  exact rfl
  repeat' (first | (apply Je T (n' := (C.drop 1).length); exact rfl; exact rfl; exact rfl; exact rfl; omega; (rw [List.length_drop]; rfl)) | apply (zs1 ?_) | (apply zg3; refine zs8 ?_) | apply (zs87 ?_) | fail)
  first | apply Ya en23 | apply Yb en23
  exact za
  exact rfl
  exact fun _ hw => (p3 (hin.mono zk) (hq.mono zk) (hrs.mono zk) (hcdr zm zm) hw)
  have hk0 : 0 ≤ wh % (C.length : Int) ∧ wh % (C.length : Int) < C.length := ⟨Int.emod_nonneg _ (by omega), Int.emod_lt_of_pos _ (by omega)⟩
  obtain ⟨x, hx⟩ : ∃ x, C[(wh % (C.length : Int)).toNat]? = some x := ⟨_, List.getElem?_eq_getElem (by omega)⟩
  have hxm := List.mem_of_getElem? hx
  have hxo := hbd x.clm (by rw [← hC]; exact List.mem_map_of_mem hxm)
  have hxr : 1 ≤ x.rs.length ∧ x.rs.length ≤ 2 := by have := hxo.some_; unfold ClM.clm at this; simpa using this
  have hxb : x.bs.length = x.rs.length := by have := hxo.bl; unfold ClM.clm at this; simpa using this
  have hxw : x.ws.length = x.rs.length := by have := hxo.wl; unfold ClM.clm at this; simpa using this
  have hxs : x.ss.length = x.rs.length := by have := hxo.sl; unfold ClM.clm at this; simpa using this
  have hxf : 0 ≤ x.flow ∧ x.flow ≤ 255 := hxo.flow
  have hj0 : 0 ≤ wr / 8 % (x.rs.length : Int) ∧ wr / 8 % (x.rs.length : Int) < x.rs.length := ⟨Int.emod_nonneg _ (by omega), Int.emod_lt_of_pos _ (by omega)⟩
  obtain ⟨bv, hbv⟩ : ∃ v, x.bs[(wr / 8 % (x.rs.length : Int)).toNat]? = some v := ⟨_, List.getElem?_eq_getElem (by omega)⟩
  obtain ⟨wv, hwv⟩ : ∃ v, x.ws[(wr / 8 % (x.rs.length : Int)).toNat]? = some v := ⟨_, List.getElem?_eq_getElem (by omega)⟩
  obtain ⟨sv, hsv⟩ : ∃ v, x.ss[(wr / 8 % (x.rs.length : Int)).toNat]? = some v := ⟨_, List.getElem?_eq_getElem (by omega)⟩
  have hbb : 0 ≤ bv ∧ bv ≤ 513 := hxo.bb bv (List.mem_of_getElem? hbv)
  have hwb : 0 ≤ wv ∧ wv ≤ 513 := hxo.wb wv (List.mem_of_getElem? hwv)
  have hsvm := List.mem_of_getElem? hsv
  have hxl := hCl x hxm
  have hsl72 := hxl.2.2 sv hsvm
  have hxin : ∀ {H' : List HP}, many (C.map clQ) ∈ H' → x.In B w0 H' := fun h => Jj h hxm hxl
  have hall : ∀ {H' : List HP}, many (C.map clQ) ∈ H' → Rd B w0 H' sv.A (sv.xs.flatMap numF) := fun h => (hxin h).sw sv hsvm
  have pc := fun {H' : List HP} {w : World} (h1 : clsP A2 cap2 C ∈ H') (hw : St B w0 H' w) => OA C (by omega) (cap := cap2) (Rd.sl h1) hw
  have pd : ∀ (y : ClM), y.clm ≠ x.clm → ∀ (A6 : Option Addr) (cap6 : Nat) {H' : List HP} {w : World}, n.In B w0 H' → QIn B w0 H' A q → Rd B w0 H' s.A (s.cells.flatMap celF) → sl 61 5 A6 C.length cap6 ((C.set (wh % (C.length : Int)).toNat y).flatMap clF) ∈ H' → many (C.map clQ) ∈ H' → y.In B w0 H' → St B w0 H' w → Calls Tryz.prog 23 [n.val, .slice A q.length cap, s.val, .slice A6 C.length cap6].toArray w (Post B w0 fun v K => v = .tuple #[.int .i64 ((wh % (C.length : Int)).toNat : Nat), .int .i64 20] ∧ K = H') := fun y hy A6 cap6 {H' w} hin hq hrs h1 h2 h3 hw => by
    have hci : CIn B w0 H' A6 (C.set (wh % (C.length : Int)).toNat y) := ⟨.sl h1, fun z hz => by
      rcases List.mem_or_eq_of_mem_set hz with h | rfl
      · exact Jj h2 h (hCl z h)
      · exact h3, by rw [List.length_set]; omega⟩
    have h := Zz n q s (C.set (wh % (C.length : Int)).toNat y) (cap := cap) (cap1 := cap6) ht hin hq hrs hsl2 hci hw
    rw [List.length_set, List.map_set, hC, hforg (by omega) (by rw [← hC, X8 hx]; exact hy)] at h
    exact h
  unfold NetM.val SchM.val at pd
  repeat' (first | apply (zs1 ?_) | apply (zs2 ?_) | (apply zg1; refine zs4 ?_) | (apply zg2; refine zs6 ?_) | (apply zg3; first | refine zs7 ?_ | refine zs61 ?_) | (apply zg4; refine zs9 ?_) | (apply zg5; refine zs10 ?_) | (apply zg6; refine zs12 ?_) | apply (zs13 ?_) | (apply zg7; (refine zs15 ?_ ?_ <;> intro _ <;> try (exfalso; omega))) | (apply zg8; (refine zs16 ?_ ?_ <;> intro _ <;> try (exfalso; omega))) | (apply zg13; refine zs30 ?_) | (apply zg16; refine zs36 ?_) | (apply zg17; refine zs37 ?_) | (apply zg19; refine zs44 ?_) | (apply zg22; first | refine zs50 ?_ | refine zs51 ?_) | (apply zg24; (refine zs54 ?_; intro _)) | apply (zs65 ?_) | (apply Yo; exact zp) | apply (zs68 ?_) | apply (zs69 ?_) | apply (zs70 ?_) | (apply zg27; first | refine zs71 ?_ | refine zs72 ?_) | apply (zs73 ?_) | apply (zs76 ?_) | apply (zs79 ?_) | (apply Yl; (repeat (first | with_reducible exact Yh | (with_reducible apply Yg; (repeat (first | with_reducible exact Yf | with_reducible apply Ye)))))) | apply (zs93 ?_) | apply (zs94 ?_) | fail)
  · exact Xz _
  repeat' (first | fail)
  · have hle : x.bs.length ≤ 1000 := by omega
    apply Yn _ en29
    exact za
    exact rfl
    exact fun _ hw => (Zn x.bs hle (hxin zm).bd (hw))
    rintro _ _ ⟨A5, cap5, rfl, rfl⟩
    repeat' (first | (apply JH T (f := numF) (l := x.bs) (i := (wr / 8 % (x.rs.length : Int)).toNat) (a := bv + (1 + ad % 9)); exact rfl; exact rfl; exact rfl; exact zd; exact rfl; exact fun _ => rfl; exact rfl; omega) | apply (zs1 ?_) | (apply zg2; refine zs6 ?_) | (apply zg3; first | refine zs7 ?_ | refine zs60 ?_) | (apply zg5; refine zs10 ?_) | (apply zg13; refine zs30 ?_) | (apply zg22; refine zs50 ?_) | apply (zs65 ?_) | apply (zs68 ?_) | apply (zs69 ?_) | apply (zs70 ?_) | apply (zs79 ?_) | fail)
    obtain ⟨L5, hL5⟩ : ∃ l, x.bs.set (wr / 8 % (x.rs.length : Int)).toNat (bv + (1 + ad % 9)) = l := ⟨_, rfl⟩
    have hLl : x.bs.length = L5.length := by rw [← hL5, List.length_set]
    have hLn : L5 ≠ x.bs := by rw [← hL5]; exact YgD hbv (by omega)
    rw [hL5, hLl]
    have hyne : (⟨x.flow, x.rA, x.rcap, x.rs, A5, cap5, L5, x.wA, x.wcap, x.ws, x.sA, x.scap, x.ss⟩ : ClM).clm ≠ x.clm := fun e => hLn (congrArg Clm.bounds e)
    have hyin : ∀ {H' : List HP}, nrs A5 cap5 L5 ∈ H' → many (C.map clQ) ∈ H' → (⟨x.flow, x.rA, x.rcap, x.rs, A5, cap5, L5, x.wA, x.wcap, x.ws, x.sA, x.scap, x.ss⟩ : ClM).In B w0 H' := fun h1 h2 => let o := hxin h2; ⟨o.rt, o.rw_, Rd.sl h1, o.ws, o.st, o.sw, ⟨o.ln.1, by show L5.length ≤ _; omega, o.ln.2.2.1, o.ln.2.2.2⟩, o.rl, o.sl⟩
    have pe := fun (A6 : Option Addr) (cap6 : Nat) {H' : List HP} {w : World} => @pd ⟨x.flow, x.rA, x.rcap, x.rs, A5, cap5, L5, x.wA, x.wcap, x.ws, x.sA, x.scap, x.ss⟩ hyne A6 cap6 H' w
    apply Yn _ en31
    exact za
    exact rfl
    exact fun _ hw => (pc zm (hw))
    rintro _ _ ⟨A6, cap6, rfl, rfl⟩
    have pf := fun {H' : List HP} {w : World} => @pe A6 cap6 H' w
    repeat' (first | (apply Xu T (f := clF) (l := C) (i := (wh % (C.length : Int)).toNat) (a := ⟨x.flow, x.rA, x.rcap, x.rs, A5, cap5, L5, x.wA, x.wcap, x.ws, x.sA, x.scap, x.ss⟩); exact rfl; exact rfl; exact rfl; exact zd; exact fun _ => rfl; exact rfl; exact rfl; exact rfl; omega) | apply (zs1 ?_) | apply (zs2 ?_) | (apply zg3; refine zs8 ?_) | (apply zg5; refine zs10 ?_) | apply (zs65 ?_) | apply (zs68 ?_) | apply (zs69 ?_) | apply (zs70 ?_) | fail)
    first | apply Ya en23 | apply Yb en23
    exact za
    exact rfl
    exact fun _ hw => (pf (hin.mono zk) (hq.mono zk) (hrs.mono zk) zm zm (hyin zm zm) hw)
    repeat' (first | apply (zs1 ?_) | apply (zs2 ?_) | (apply zg1; refine zs4 ?_) | (apply zg6; refine zs11 ?_) | apply (zs13 ?_) | (apply zg7; (refine zs15 ?_ ?_ <;> intro _ <;> try (exfalso; omega))) | apply (zs65 ?_) | apply (zs68 ?_) | apply (zs69 ?_) | apply (zs70 ?_) | apply (zs74 ?_) | fail)
    apply Yi H
    · exact zk
    apply Yd; exact rfl; exact rfl; exact ⟨rfl, rfl⟩
  · have hle : x.ws.length ≤ 1000 := by omega
    apply Yn _ en29
    exact za
    exact rfl
    exact fun _ hw => (Zn x.ws hle (hxin zm).ws (hw))
    rintro _ _ ⟨A5, cap5, rfl, rfl⟩
    repeat' (first | (apply JH T (f := numF) (l := x.ws) (i := (wr / 8 % (x.rs.length : Int)).toNat) (a := wv + (1 + ad % 9)); exact rfl; exact rfl; exact rfl; exact zd; exact rfl; exact fun _ => rfl; exact rfl; omega) | apply (zs1 ?_) | (apply zg2; refine zs6 ?_) | (apply zg3; first | refine zs7 ?_ | refine zs60 ?_) | (apply zg5; refine zs10 ?_) | (apply zg13; refine zs30 ?_) | (apply zg22; refine zs50 ?_) | apply (zs65 ?_) | apply (zs68 ?_) | apply (zs69 ?_) | apply (zs70 ?_) | apply (zs79 ?_) | fail)
    obtain ⟨L5, hL5⟩ : ∃ l, x.ws.set (wr / 8 % (x.rs.length : Int)).toNat (wv + (1 + ad % 9)) = l := ⟨_, rfl⟩
    have hLl : x.ws.length = L5.length := by rw [← hL5, List.length_set]
    have hLn : L5 ≠ x.ws := by rw [← hL5]; exact YgD hwv (by omega)
    rw [hL5, hLl]
    have hyne : (⟨x.flow, x.rA, x.rcap, x.rs, x.bA, x.bcap, x.bs, A5, cap5, L5, x.sA, x.scap, x.ss⟩ : ClM).clm ≠ x.clm := fun e => hLn (congrArg Clm.worst e)
    have hyin : ∀ {H' : List HP}, nrs A5 cap5 L5 ∈ H' → many (C.map clQ) ∈ H' → (⟨x.flow, x.rA, x.rcap, x.rs, x.bA, x.bcap, x.bs, A5, cap5, L5, x.sA, x.scap, x.ss⟩ : ClM).In B w0 H' := fun h1 h2 => let o := hxin h2; ⟨o.rt, o.rw_, o.bd, Rd.sl h1, o.st, o.sw, ⟨o.ln.1, o.ln.2.1, by show L5.length ≤ _; omega, o.ln.2.2.2⟩, o.rl, o.sl⟩
    have pe := fun (A6 : Option Addr) (cap6 : Nat) {H' : List HP} {w : World} => @pd ⟨x.flow, x.rA, x.rcap, x.rs, x.bA, x.bcap, x.bs, A5, cap5, L5, x.sA, x.scap, x.ss⟩ hyne A6 cap6 H' w
    apply Yn _ en31
    exact za
    exact rfl
    exact fun _ hw => (pc zm (hw))
    rintro _ _ ⟨A6, cap6, rfl, rfl⟩
    have pf := fun {H' : List HP} {w : World} => @pe A6 cap6 H' w
    repeat' (first | (apply Xu T (f := clF) (l := C) (i := (wh % (C.length : Int)).toNat) (a := ⟨x.flow, x.rA, x.rcap, x.rs, x.bA, x.bcap, x.bs, A5, cap5, L5, x.sA, x.scap, x.ss⟩); exact rfl; exact rfl; exact rfl; exact zd; exact fun _ => rfl; exact rfl; exact rfl; exact rfl; omega) | apply (zs1 ?_) | apply (zs2 ?_) | (apply zg3; refine zs8 ?_) | (apply zg5; refine zs10 ?_) | apply (zs65 ?_) | apply (zs68 ?_) | apply (zs69 ?_) | apply (zs70 ?_) | fail)
    first | apply Ya en23 | apply Yb en23
    exact za
    exact rfl
    exact fun _ hw => (pf (hin.mono zk) (hq.mono zk) (hrs.mono zk) zm zm (hyin zm zm) hw)
    repeat' (first | apply (zs1 ?_) | apply (zs2 ?_) | (apply zg1; refine zs4 ?_) | (apply zg6; refine zs11 ?_) | apply (zs13 ?_) | (apply zg7; (refine zs15 ?_ ?_ <;> intro _ <;> try (exfalso; omega))) | apply (zs65 ?_) | apply (zs68 ?_) | apply (zs69 ?_) | apply (zs70 ?_) | apply (zs74 ?_) | fail)
    apply Yi H
    · exact zk
    apply Yd; exact rfl; exact rfl; exact ⟨rfl, rfl⟩
  · have hle : x.ss.length ≤ 1000 := by omega
    apply Yn _ en30
    exact za
    exact rfl
    exact fun _ hw => (W7 x.ss hle (hxin zm).st (hw))
    rintro _ _ ⟨A5, cap5, rfl, rfl⟩
    repeat' (first | (apply zg2; refine zs6 ?_) | (apply zg22; refine zs50 ?_) | apply (zs65 ?_) | apply (zs68 ?_) | fail)
    apply UI (.n1 0 (.n1 1 (.n1 2 (.n1 3 (.n1 4 (.n1 5 (.n1 6 (.n1 7 (.n1 9 (.n2 8 (.n1 10 (.n1 11 (.n1 12 .done))) 10 (.n1 8 (.n1 11 (.n1 12 .done))))))))))))) [13] [true, true, true, true, true, true]
    kernel_rfl
    kernel_rfl
    exact zy
    (simp only [Yj, nthO]; rfl)
    repeat' (first | ((apply Yn _ en29); exact za; exact rfl; exact fun _ hw => Zn sv.xs hsl72 (hall zm) hw; rintro _ _ ⟨A7, cap7, rfl, rfl⟩) | apply (zs1 ?_) | (apply zg2; refine zs6 ?_) | (apply zg3; first | refine zs7 ?_ | refine zs60 ?_) | (apply zg5; refine zs10 ?_) | (apply zg21; (refine zs49 ?_; intro _ _)) | (apply zg26; (refine zs56 ?_; intro _)) | apply (zs65 ?_) | (apply Yo; exact zp) | apply (zs87 ?_) | (apply Yl; (repeat (first | with_reducible exact Yh | (with_reducible apply Yg; (repeat (first | with_reducible exact Yf | with_reducible apply Ye)))))) | (apply UE; exact zp) | apply (zs90 ?_) | apply (zs91 ?_ ?_) | (apply XL; (repeat (first | with_reducible exact Yh | (with_reducible apply Yg; (repeat (first | with_reducible exact Yf | with_reducible apply Ye)))))) | apply (zs93 ?_) | fail)
    all_goals (
      rename_i A8 cap8
      rw [Zk, show sv.xs.length + 1 = (sv.xs ++ [(1 + ad % 9)]).length by simp]
      obtain ⟨rw8, hrw8⟩ : ∃ r : RowM, (⟨A8, cap8, sv.xs ++ [(1 + ad % 9)]⟩ : RowM) = r := ⟨_, rfl⟩
      have e8 : rw8.xs = sv.xs ++ [(1 + ad % 9)] := by rw [← hrw8]
      have e9 : rowF rw8 = [.slice A8 (sv.xs ++ [(1 + ad % 9)]).length cap8] := by rw [← hrw8]; rfl
      have e10 : ∀ {H' : List HP}, nrs A8 cap8 (sv.xs ++ [(1 + ad % 9)]) ∈ H' → Rd B w0 H' rw8.A (rw8.xs.flatMap numF) := fun h => by rw [← hrw8]; exact Rd.sl h
      repeat' (first | (apply JH T (f := rowF) (l := x.ss) (i := (wr / 8 % (x.rs.length : Int)).toNat) (a := rw8); exact rfl; exact rfl; exact rfl; exact zd; exact e9; exact fun _ => rfl; exact rfl; omega) | apply (zs1 ?_) | apply (zs65 ?_) | apply (zs68 ?_) | apply (zs69 ?_) | apply (zs70 ?_) | apply (zs79 ?_) | apply (zs94 ?_) | fail)
      obtain ⟨L5, hL5⟩ : ∃ l, x.ss.set (wr / 8 % (x.rs.length : Int)).toNat rw8 = l := ⟨_, rfl⟩
      have hLl : x.ss.length = L5.length := by rw [← hL5, List.length_set]
      have hLm : ∀ r ∈ L5, r ∈ x.ss ∨ r = rw8 := fun r hr => by rw [← hL5] at hr; exact List.mem_or_eq_of_mem_set hr
      have hLn : L5.map (·.xs) ≠ x.ss.map (·.xs) := fun e => by
        have k1 : (L5.map (·.xs))[(wr / 8 % (x.rs.length : Int)).toNat]? = some rw8.xs := by rw [← hL5, List.getElem?_map, List.getElem?_set, if_pos rfl, if_pos (by omega)]; rfl
        rw [e, List.getElem?_map, hsv] at k1
        have k2 := congrArg List.length (Option.some.inj k1)
        rw [e8, List.length_append] at k2
        have k3 : sv.xs.length = sv.xs.length + 1 := k2
        omega
      have hL8 : rw8.xs.length ≤ 1000000000000 := by rw [e8, List.length_append]; show sv.xs.length + 1 ≤ _; omega
      rw [hL5, hLl]
      have hyne : (⟨x.flow, x.rA, x.rcap, x.rs, x.bA, x.bcap, x.bs, x.wA, x.wcap, x.ws, A5, cap5, L5⟩ : ClM).clm ≠ x.clm := fun e => hLn (congrArg Clm.slots e)
      have hyin : ∀ {H' : List HP}, sl 24 1 A5 L5.length cap5 (L5.flatMap rowF) ∈ H' → nrs A8 cap8 (sv.xs ++ [(1 + ad % 9)]) ∈ H' → many (C.map clQ) ∈ H' → (⟨x.flow, x.rA, x.rcap, x.rs, x.bA, x.bcap, x.bs, x.wA, x.wcap, x.ws, A5, cap5, L5⟩ : ClM).In B w0 H' := fun h1 h3 h2 => let o := hxin h2; ⟨o.rt, o.rw_, o.bd, o.ws, Rd.sl h1, fun r hr => by
        rcases hLm r hr with h | rfl
        · exact o.sw r h
        · exact e10 h3, ⟨o.ln.1, o.ln.2.1, o.ln.2.2.1, by show L5.length ≤ _; omega⟩, o.rl, fun r hr => by
        rcases hLm r hr with h | rfl
        · exact o.sl r h
        · exact hL8⟩
      have pe := fun (A6 : Option Addr) (cap6 : Nat) {H' : List HP} {w : World} => @pd ⟨x.flow, x.rA, x.rcap, x.rs, x.bA, x.bcap, x.bs, x.wA, x.wcap, x.ws, A5, cap5, L5⟩ hyne A6 cap6 H' w
      apply Yn _ en31
      exact za
      exact rfl
      exact fun _ hw => (pc zm (hw))
      rintro _ _ ⟨A6, cap6, rfl, rfl⟩
      have pf := fun {H' : List HP} {w : World} => @pe A6 cap6 H' w
      repeat' (first | (apply Xu T (f := clF) (l := C) (i := (wh % (C.length : Int)).toNat) (a := ⟨x.flow, x.rA, x.rcap, x.rs, x.bA, x.bcap, x.bs, x.wA, x.wcap, x.ws, A5, cap5, L5⟩); exact rfl; exact rfl; exact rfl; exact zd; exact fun _ => rfl; exact rfl; exact rfl; exact rfl; omega) | apply (zs1 ?_) | apply (zs2 ?_) | (apply zg3; refine zs8 ?_) | (apply zg5; refine zs10 ?_) | apply (zs65 ?_) | apply (zs68 ?_) | apply (zs69 ?_) | apply (zs70 ?_) | fail)
      first | apply Ya en23 | apply Yb en23
      exact za
      exact rfl
      exact fun _ hw => (pf (hin.mono zk) (hq.mono zk) (hrs.mono zk) zm zm (hyin zm zm zm) hw)
      repeat' (first | apply (zs1 ?_) | apply (zs2 ?_) | (apply zg1; refine zs4 ?_) | (apply zg6; refine zs11 ?_) | apply (zs13 ?_) | (apply zg7; (refine zs15 ?_ ?_ <;> intro _ <;> try (exfalso; omega))) | apply (zs65 ?_) | apply (zs68 ?_) | apply (zs69 ?_) | apply (zs70 ?_) | apply (zs74 ?_) | fail)
      apply Yi H
      · exact zk
      apply Yd; exact rfl; exact rfl; exact ⟨rfl, rfl⟩)
  · skip
    have hyne : (⟨x.flow + (1 + ad % 9), x.rA, x.rcap, x.rs, x.bA, x.bcap, x.bs, x.wA, x.wcap, x.ws, x.sA, x.scap, x.ss⟩ : ClM).clm ≠ x.clm := fun e => absurd (congrArg Clm.flow e) (by show ¬ x.flow + (1 + ad % 9) = x.flow; omega)
    have hyin : ∀ {H' : List HP}, many (C.map clQ) ∈ H' → (⟨x.flow + (1 + ad % 9), x.rA, x.rcap, x.rs, x.bA, x.bcap, x.bs, x.wA, x.wcap, x.ws, x.sA, x.scap, x.ss⟩ : ClM).In B w0 H' := fun h2 => let o := hxin h2; ⟨o.rt, o.rw_, o.bd, o.ws, o.st, o.sw, o.ln, o.rl, o.sl⟩
    have pe := fun (A6 : Option Addr) (cap6 : Nat) {H' : List HP} {w : World} => @pd ⟨x.flow + (1 + ad % 9), x.rA, x.rcap, x.rs, x.bA, x.bcap, x.bs, x.wA, x.wcap, x.ws, x.sA, x.scap, x.ss⟩ hyne A6 cap6 H' w
    apply Yn _ en31
    exact za
    exact rfl
    exact fun _ hw => (pc zm (hw))
    rintro _ _ ⟨A6, cap6, rfl, rfl⟩
    have pf := fun {H' : List HP} {w : World} => @pe A6 cap6 H' w
    repeat' (first | (apply Xu T (f := clF) (l := C) (i := (wh % (C.length : Int)).toNat) (a := ⟨x.flow + (1 + ad % 9), x.rA, x.rcap, x.rs, x.bA, x.bcap, x.bs, x.wA, x.wcap, x.ws, x.sA, x.scap, x.ss⟩); exact rfl; exact rfl; exact rfl; exact zd; exact fun _ => rfl; exact rfl; exact rfl; exact rfl; omega) | apply (zs1 ?_) | apply (zs2 ?_) | (apply zg3; refine zs8 ?_) | (apply zg5; refine zs10 ?_) | apply (zs65 ?_) | apply (zs68 ?_) | apply (zs69 ?_) | apply (zs70 ?_) | fail)
    first | apply Ya en23 | apply Yb en23
    exact za
    exact rfl
    exact fun _ hw => (pf (hin.mono zk) (hq.mono zk) (hrs.mono zk) zm zm (hyin zm) hw)
    repeat' (first | apply (zs1 ?_) | apply (zs2 ?_) | (apply zg1; refine zs4 ?_) | (apply zg6; refine zs11 ?_) | apply (zs13 ?_) | (apply zg7; (refine zs15 ?_ ?_ <;> intro _ <;> try (exfalso; omega))) | apply (zs65 ?_) | apply (zs68 ?_) | apply (zs69 ?_) | apply (zs70 ?_) | apply (zs74 ?_) | fail)
    apply Yi H
    · exact zk
    apply Yd; exact rfl; exact rfl; exact ⟨rfl, rfl⟩
open Go.ChangeShapes Go.WideShapes Go.ChangeAt Go.RowKit
section
variable {H : Type} {enc : TypeId × Value → H} {P : Program} {w : World} {base : Nat} {spare : Nat → Bool} {held : Bool}
theorem Ydd {t t1 t2 t3 t4 t5 : TypeId} {args : Array Value} {ds : List (DataW H)} {ps : List MemPlace} (h : DataW.TrodAll enc P w base spare held [t, t1, t2, t3, t4, t5] args.toList ds ps) :
    ∃ v v1 v2 v3 v4 v5 d d1 d2 d3 d4 d5 p p1 p2 p3 p4 p5, args = #[v, v1, v2, v3, v4, v5] ∧ ds = [d, d1, d2, d3, d4, d5] ∧ ps = p ++ p1 ++ p2 ++ p3 ++ p4 ++ p5 ∧ DataW.Trod enc P w base spare held t v d p ∧ DataW.Trod enc P w base spare held t1 v1 d1 p1 ∧ DataW.Trod enc P w base spare held t2 v2 d2 p2 ∧ DataW.Trod enc P w base spare held t3 v3 d3 p3 ∧ DataW.Trod enc P w base spare held t4 v4 d4 p4 ∧ DataW.Trod enc P w base spare held t5 v5 d5 p5 := by
  obtain ⟨v, vs, d, ds', p, q, hargs, rfl, rfl, hd, hrest⟩ := trodAll_cons h
  obtain ⟨v1, vs1, d1, ds1, p1, q1, rfl, rfl, rfl, hd1, hrest1⟩ := trodAll_cons hrest
  obtain ⟨v2, vs2, d2, ds2, p2, q2, rfl, rfl, rfl, hd2, hrest2⟩ := trodAll_cons hrest1
  obtain ⟨v3, vs3, d3, ds3, p3, q3, rfl, rfl, rfl, hd3, hrest3⟩ := trodAll_cons hrest2
  obtain ⟨v4, vs4, d4, ds4, p4, q4, rfl, rfl, rfl, hd4, hrest4⟩ := trodAll_cons hrest3
  obtain ⟨v5, vs5, d5, ds5, p5, q5, rfl, rfl, rfl, hd5, hrest5⟩ := trodAll_cons hrest4
  obtain ⟨rfl, rfl, rfl⟩ := trodAll_nil hrest5
  exact ⟨v, v1, v2, v3, v4, v5, d, d1, d2, d3, d4, d5, p, p1, p2, p3, p4, p5, by cases args; simp_all, rfl, by simp, hd, hd1, hd2, hd3, hd4, hd5⟩
end
open Go.ChangeShapes Go.WideShapes Go.ChangeAt Go.RowKit Go.Eng
section
variable {H : Type} {enc : TypeId × Value → H}
theorem Jh {a : Assume} {C : Checked} {os : Os} {f : FuncId} {fn : Func} {s : ChangeSpec} {conds : List PathCond} {apart fresh handsOn again : Bool} {X : World → Prop} (hX : ∀ w w' : World, w.heap = w'.heap → X w → X w')
    (own : ownKnob C.prog.godebug = none) (started : os.Started) (noInit : C.prog.inits.idxOf? f = none) (hfn : C.prog.funcs[f]? = some fn)
    (witness : ∃ (w : World) (tape : Tape) (i : Input), w.os = os ∧ (w.forCall tape i).Shaped C.prog ∧ i.vars = [] ∧ Input.okWide C.prog (w.forCall tape i) .any w.heap.size f i ∧
      ((s.pre enc C.prog fn conds apart (w.forCall tape i).memory i.args ∧ X (w.forCall tape i).memory) ∧ sizedMet enc C.prog fn (OpenSpec.ofChange s) apart (w.forCall tape i).memory i.args) ∧ a.holds C.prog (lone (Frame.enter C.prog f i.args .normal) [] (w.forCall tape i)))
    (contract : ∀ (W : World) (base : Nat) (args : Array Value) (ds gs : List (DataW H)) (before : List MemPlace),
      (∀ (j : Nat) t v, fn.params[j]? = some t → args[j]? = some v → Value.okWide C.prog W .any base t v) →
      DataW.Whole enc C.prog fn.params.toList s.vars apart W args.toList ds gs before → X W → W.ShapedOpen C.prog →
      Calls C.prog f args W fun e W' => ∃ v, e = .returned v ∧ s.post enc C.prog fn apart fresh handsOn again W args v W') :
    ReturnsInHanded a C os f .any (fun w args => (s.pre enc C.prog fn conds apart w args ∧ X w) ∧ sizedMet enc C.prog fn (OpenSpec.ofChange s) apart w args) (s.post enc C.prog fn apart fresh handsOn again) := by
  refine returnsInHanded_of_calls own started noInit witness ?_
  intro w tape i _ hsh _ hok hpre _
  obtain ⟨_, _, _, fn', hfn', _, _, _, _, hval⟩ := hok
  have e : fn' = fn := Option.some.inj (hfn'.symm.trans hfn)
  subst e
  obtain ⟨⟨⟨ds, gs, before, hw, _⟩, hx⟩, _⟩ := hpre
  have hw' := DataW.Whole.of_heap (w' := w.forCall tape i) (by rfl) hw
  refine (contract (w.forCall tape i) w.heap.size i.args ds gs before hval hw' (hX _ _ (by rfl) hx) hsh).mono fun e W' ⟨v, he, hp⟩ => ?_
  subst he
  exact ChangeSpec.post_blind hp
end
def JA : List (String × DataW Unit) := [("math/bits.deBruijn32tab", Rows.laid_math_bits_deBruijn32tab), ("math/bits.deBruijn64tab", Rows.laid_math_bits_deBruijn64tab), ("internal/strconv.uint64pow10", Rows.laid_internal_strconv_uint64pow10), ("unicode/utf8.acceptRanges", Rows.laid_unicode_utf8_acceptRanges), ("strconv.ErrRange", Rows.laid_strconv_ErrRange), ("strconv.ErrSyntax", Rows.laid_strconv_ErrSyntax), ("unicode/utf8.first", Rows.laid_unicode_utf8_first)]
def litV : DataW Unit → Value
  | .lit (.int k z) => .int k z
  | _ => .bool false
def YiN : DataW Unit → List Value
  | .agg l => l.map litV
  | _ => []
noncomputable def VG (os : Os) : World :=
  let w0 := World.doorLaid Tryz.prog 72 os
  { w0 with heap := w0.heap.modify ((Tryz.prog.globalNamed "unicode/utf8.first").getD 0) fun
      | .cells _ t frozen => .cells (YiN Go.Pinned.utf8First).toArray t frozen
      | o => o }
theorem Wx (w : World) : laidMetH Tryz.prog JA w = laidMet Tryz.prog JA w := MakeChecks.laidMetH_plain _ _ _ (by kernel_rfl)
theorem V9 (os : Os) (args : Array Value) : laidMetH Tryz.prog JA ((VG os).forCall (fun _ _ => 0) ⟨#[], args, []⟩).memory := by
  rw [Wx]
  exact laidMet_of_run3 8 (by kernel_rfl) (by kernel_rfl) (by kernel_rfl)
theorem Jp (os : Os) (args : Array Value) : ((VG os).forCall (fun _ _ => 0) ⟨#[], args, []⟩).Shaped Tryz.prog := World.shaped_of_RefB (by kernel_rfl) (by kernel_rfl)
theorem Wf {W w : World} {n : String} {cs : Array Value} (h : W.var? Tryz.prog n = some cs) (hb : Below W.heap.size W w) : w.var? Tryz.prog n = some cs := by
  unfold World.var? at h ⊢
  cases hg : Tryz.prog.globalNamed n with
  | none => rw [hg] at h; cases h
  | some g =>
    rw [hg] at h
    simp only [Option.bind_some] at h ⊢
    rcases Nat.lt_or_ge g W.heap.size with hlt | hge
    · rw [hb.block g hlt]; exact h
    · rw [Array.getElem?_eq_none hge] at h; cases h
theorem Yc8 {W : World} {n : String} {s : String} {d : DataW Unit} (hT : (Tryz.prog.globalNamed n).bind (fun g => (Tryz.prog.globals[g]?).map (·.type)) = some 134) (h : Lib.VarReads Tryz.prog W n (.iface s d)) : ∃ tp p, W.var? Tryz.prog n = some #[.iface tp p] := by
  obtain ⟨g, t, cs, fuel, p, h1, h2, h3, h4⟩ := h
  rw [h1] at hT
  obtain rfl : t = 134 := Option.some.inj (h2.symm.trans hT)
  obtain ⟨_, u, v, e, _⟩ := iface_of_trod Tryz.underlying134 h4
  refine ⟨u, v, ?_⟩
  rw [h3, Array.eq_one_of_toList e]
theorem Yd6 {W : World} (hL : laidMetH Tryz.prog JA W) (hsh : W.ShapedOpen Tryz.prog) : TabsB W.heap.size W := by
  rw [Wx] at hL
  have hpow : Lib.TabIs Tryz.prog W "internal/strconv.uint64pow10" .u64 Lib.pow10Tab := by
    obtain ⟨g, t, cs, fuel, p, h1, h2, h3, h4⟩ := Lib.laidMet.reads hL (n := "internal/strconv.uint64pow10") (d := Rows.laid_internal_strconv_uint64pow10) (by unfold JA; simp)
    have hT : (Tryz.prog.globalNamed "internal/strconv.uint64pow10").bind (fun g => (Tryz.prog.globals[g]?).map (·.type)) = some 334 := by kernel_rfl
    rw [h1] at hT
    obtain rfl : t = 334 := Option.some.inj (h2.symm.trans hT)
    have h5 : Rows.laid_internal_strconv_uint64pow10 (H := Unit) = Lib.tabData .u64 Lib.pow10Tab := by kernel_rfl
    rw [h5] at h4
    have h6 := Lib.cells_of_tab Tryz.underlying334 Tryz.underlying277 (by kernel_rfl) (by kernel_rfl) h4
    unfold Lib.TabIs
    rw [h3, ← h6]
  obtain ⟨tp1, p1, hsy⟩ := Yc8 (n := "strconv.ErrSyntax") (by kernel_rfl) (Lib.laidMet.reads hL (n := "strconv.ErrSyntax") (d := Rows.laid_strconv_ErrSyntax) (by unfold JA; simp))
  obtain ⟨tp2, p2, hrg⟩ := Yc8 (n := "strconv.ErrRange") (by kernel_rfl) (Lib.laidMet.reads hL (n := "strconv.ErrRange") (d := Rows.laid_strconv_ErrRange) (by unfold JA; simp))
  obtain ⟨m, hm⟩ := Go.Proofs.cell_of_shapedOpen_int (P := Tryz.prog) (g := 0) (k := .i64) (zero := #[.int .i64 0]) (t := 3) hsh (of_decide_eq_true (by kernel_rfl)) (by kernel_rfl) rfl (by kernel_rfl) (by kernel_rfl) Tryz.underlying3
  intro w hb
  refine ⟨Wf hpow hb, ⟨tp1, p1, Wf hsy hb⟩, ⟨tp2, p2, Wf hrg hb⟩, m, ?_⟩
  have hlt : 0 < W.heap.size := by
    rcases Nat.eq_zero_or_pos W.heap.size with h | h
    · simp [World.cell?, Array.getElem?_eq_none (show W.heap.size ≤ 0 by omega)] at hm
    · exact h
  exact (hb.cell (p := ⟨0, 0, none⟩) hlt).trans hm
theorem Tryz.own : ownKnob Tryz.prog.godebug = none := by kernel_rfl
theorem Tryz.laidOut : laidOutB Tryz.prog = true := by kernel_rfl
end Go.Proofs.YtmalhidldgfeoaaGreatDoor
