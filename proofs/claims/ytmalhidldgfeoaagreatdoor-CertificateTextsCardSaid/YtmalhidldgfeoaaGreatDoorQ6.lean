/- Lemmas for the claim, part 6. -/
import Derived.Test.YtmalhidldgfeoaaGreatDoorRows
import Derived.Lib.LaidU8
import Derived.LaidMore
import Derived.Deep.DeepLaidRun
import Derived.Stop.Joined
import Derived.Test.YtmalhidldgfeoaaGreatDoorQ5

namespace Go.Proofs.YtmalhidldgfeoaaGreatDoor
open Go.RowKit Go.Eng Go.Nw Go.Rt
theorem Ygm (line : List UInt8) : (∀ j, j < 4 → YZ line j = none) ∨ ∃ k l, k < 4 ∧ YZ line k = some l ∧ ∀ j, j < 4 → j ≠ k → YZ line j = none := by
  by_cases h : ∀ j, j < 4 → YZ line j = none
  · exact .inl h
  · right
    obtain ⟨k, hk⟩ := Classical.not_forall.1 h
    obtain ⟨hk4, hk⟩ := Classical.not_imp.1 hk
    obtain ⟨l, hl⟩ := Option.ne_none_iff_exists'.1 hk
    refine ⟨k, l, hk4, hl, fun j hj hjk => ?_⟩
    cases hjl : YZ line j with
    | none => rfl
    | some m =>
      have h1 := (V3 hl).1
      have h2 := (V3 hjl).1
      have h3 := (Jl hk4).1
      have h4 := (Jl hj).1
      rw [← h1, h2, h4] at h3
      exact absurd (Option.some.inj h3) hjk
set_option maxRecDepth 10000 in
set_option maxHeartbeats 16000000 in
theorem Yab (text : List UInt8) (hl : text.length ≤ 100000) {B : Nat} {w0 : World} {H : List HP} {w : World} (hw : St B w0 H w) :
    Calls Tryz.prog 28 [strV text].toArray w (Post B w0 (OutC H (ZF text))) := by
  refine Yd Tryz.func28 Tryz.ntmps28 rfl rfl hw ?_
  repeat' (first | apply (zs1 ?_) | apply (zs2 ?_) | apply (zs65 ?_) | apply (zs68 ?_) | apply (zs69 ?_) | apply (zs70 ?_) | fail)
  apply Yo _ en83
  exact za
  exact rfl
  exact fun _ hw => (YcX text hl (hw))
  rintro _ _ ⟨A0, cap0, rfl, rfl⟩
  obtain ⟨ls, hls⟩ : ∃ ls, cutC 10 text = ls := ⟨_, rfl⟩
  have hpe : ZF text = Zu ls := by unfold ZF; rw [hls]
  have hlc : ls.length ≤ 100001 := by have := Xw (c := 10) text; rw [hls] at this; omega
  have hl1 : 1 ≤ ls.length := List.length_pos_iff.2 (hls ▸ JC 10 text)
  have hll : ∀ p ∈ ls, p.length ≤ 100000 := fun p hp => by have := JX (c := 10) (l := text) p (hls ▸ hp); omega
  obtain ⟨m, hm⟩ : ∃ m, ls.length = m + 1 := ⟨ls.length - 1, by omega⟩
  obtain ⟨⟨L, wh⟩, hLw⟩ : ∃ z, Up text = z := ⟨_, rfl⟩
  have hcase : (wh = true ∧ L = ls.take m ∧ YJ ls m = []) ∨ (wh = false ∧ L = ls ∧ YJ ls m ≠ []) := by
    unfold Up at hLw
    rw [hls, show ls.length - 1 = m by omega] at hLw
    split at hLw
    · rename_i h
      injection hLw with e1 e2
      exact .inl ⟨e2.symm, e1.symm, h⟩
    · rename_i h
      injection hLw with e1 e2
      exact .inr ⟨e2.symm, e1.symm, h⟩
  have hLl : L.length = if wh = true then m else m + 1 := by
    rcases hcase with ⟨e1, e2, _⟩ | ⟨e1, e2, _⟩
    · rw [e1, e2, if_pos rfl, List.length_take]; omega
    · rw [e1, e2, if_neg (by decide)]; exact hm
  have hLg : ∀ i, i < L.length → L[i]? = some (YJ ls i) := fun i hi => by
    have h0 : ls[i]? = some (YJ ls i) := by
      unfold YJ
      rw [List.getD_eq_getElem?_getD, List.getElem?_eq_getElem (by split at hLl <;> omega)]; rfl
    rcases hcase with ⟨e1, e2, _⟩ | ⟨e1, e2, _⟩
    · rw [e1, if_pos rfl] at hLl
      rw [e2, List.getElem?_take, if_pos (by omega)]; exact h0
    · rw [e2]; exact h0
  rw [hLw, hpe]
  dsimp only
  have hpl : Zu ls = if (Yx (badL ls) m 0).2 ≠ 0 then ([], Yx (badL ls) m 0)
    else if YJ ls m ≠ [] ∨ (Jd ls m).last ≠ 3 then ([], ((m : Int), 3))
    else if Zg (Jd ls m).c = false then ([], (-1, 1)) else ((Jd ls m).c, (-1, 0)) := by
    unfold Zu
    rw [show ls.length - 1 = m by omega]
  repeat' (first | (apply Y8 T; exact rfl; exact rfl; intro gO) | apply (zs1 ?_) | apply (zs2 ?_) | apply (zs13 ?_) | apply (zs65 ?_) | apply (zs68 ?_) | apply (zs69 ?_) | apply (zs70 ?_) | apply (zs73 ?_) | fail)
  refine Yk (fun (z : PsM) => [(9, .int .i64 (z.i : Nat)), (5, .slice A0 L.length cap0), (6, .bool wh), (7, .slice z.A z.C.length z.cap), (8, .int .i64 (Xs ⟨z.C.map ClM.clm, z.last⟩ : Nat))])
    (fun z => clsP z.A z.cap z.C :: many (z.C.map clQ) :: strs A0 cap0 L :: H) (fun z => z.i ≤ m ∧ Xt ls z.i = some ⟨z.C.map ClM.clm, z.last⟩ ∧ Xo z.C) (fun z => m + 1 - z.i) ⟨0, some ⟨gO, 0, none⟩, 0, [], 3⟩ ⟨Nat.zero_le _, rfl, fun c hc => by cases hc⟩ ?_ (fun w hw => ?_) ?_
  · exact zu
  · have h4 : St B w0 (sl 61 5 (some ⟨gO, 0, none⟩) 0 0 [] :: strs A0 cap0 L :: H) w := by
      revert w
      exact zk
    exact h4.perm (.cons _ (.noMany _))
  rintro ⟨i, A, cap, C, last⟩ ⟨hi, hp, hrow⟩ K hK
  dsimp only at hi hp hrow ⊢
  obtain ⟨hrd, hcl⟩ := Qy hp
  have hl3 := UW hrd
  have hlen2 := Ybo hrd
  have hnend := Ygq hrd
  dsimp only at hcl hl3 hnend
  rw [List.length_map] at hcl
  have hz : ∀ k, k < i → badL ls k = 0 := fun k hk => by
    unfold badL
    have h1 : Xt ls (k + 1) ≠ none := fun e => by
      have h2 : runL (ls.take (k + 1) ++ (ls.take i).drop (k + 1)) startP = some ⟨C.map ClM.clm, last⟩ := by
        rw [show ls.take (k + 1) = (ls.take i).take (k + 1) by rw [List.take_take, Nat.min_eq_left (by omega)], List.take_append_drop]
        exact hp
      rw [Jf] at h2
      unfold Xt at e
      rw [e] at h2
      cases h2
    cases hc : Xt ls (k + 1) with
    | none => exact absurd hc h1
    | some p => rfl
  have hr9 : Rd B w0 (clsP A cap C :: many (C.map clQ) :: strs A0 cap0 L :: H) A0 (L.flatMap strL) := Rd.sl (.tail _ (.tail _ (.head _)))
  by_cases him : i = m
  · subst him
    have hzz : Yx (badL ls) i 0 = (-1, 0) := Xx fun k _ hk => hz k (by omega)
    have hpat : Jd ls i = ⟨C.map ClM.clm, last⟩ := by unfold Jd; rw [hp]; rfl
    rw [hpl, hzz, if_neg (by simp), hpat]
    dsimp only
    clear hK
    rcases hcase with ⟨rfl, e2, e3⟩ | ⟨rfl, e2, e3⟩
    rotate_left
    · rw [if_neg (by decide)] at hLl
      repeat' (first | apply (zs1 ?_) | apply (zs2 ?_) | (apply zg1; refine zs4 ?_) | (apply zg4; refine zs9 ?_) | (apply zg6; refine zs11 ?_) | (apply zg7; (refine zs15 ?_ ?_ <;> intro _ <;> try (exfalso; omega))) | (apply (zs17 ?_ ?_) <;> intro _ <;> try (exfalso; omega)) | (apply zg14; refine zs31 ?_) | (apply zg20; refine zs48 ?_) | apply (zs65 ?_) | apply (zs68 ?_) | apply (zs69 ?_) | apply (zs70 ?_) | (apply zg27; refine zs71 ?_) | apply (zs73 ?_) | apply (zs74 ?_) | apply (zs76 ?_) | apply (zs77 ?_) | apply (zs78 ?_) | fail)
      apply Yi (clsP none 0 [] :: many (([] : List ClM).map clQ) :: H)
      · intro w hw
        have h5 : St B w0 H w := by
          revert w
          exact zk
        exact Zn h5
      apply Y6; exact rfl; exact rfl; exact rfl; exact rfl
      rw [if_pos (.inl e3)]
      exact X6 rfl rfl
    rw [if_pos rfl] at hLl
    by_cases hl9 : last = 3
    rotate_left
    · have hnx : Xs ⟨C.map ClM.clm, last⟩ ≠ 0 ∧ Xs ⟨C.map ClM.clm, last⟩ ≠ 4 := by
        constructor
        · exact fun h => hl9 (hnend.1 (.inl h))
        · exact fun h => hl9 (hnend.1 (.inr h))
      repeat' (first | apply (zs1 ?_) | apply (zs2 ?_) | (apply zg1; refine zs4 ?_) | (apply zg4; refine zs9 ?_) | (apply zg6; refine zs11 ?_) | (apply zg8; (refine zs16 ?_ ?_ <;> intro _ <;> try (exfalso; omega))) | (apply (zs17 ?_ ?_) <;> intro _ <;> try (exfalso; omega)) | apply (zs65 ?_) | apply (zs68 ?_) | apply (zs69 ?_) | apply (zs70 ?_) | (apply zg27; first | refine zs71 ?_ | refine zs72 ?_) | apply (zs74 ?_) | apply (zs75 ?_) | apply (zs77 ?_) | apply (zs80 ?_) | apply (zs81 ?_) | fail)
      apply Yi (clsP none 0 [] :: many (([] : List ClM).map clQ) :: H)
      · intro w hw
        have h5 : St B w0 H w := by
          revert w
          exact zk
        exact Zn h5
      apply Y6; exact rfl; exact rfl; exact rfl; exact rfl
      rw [if_pos (.inr hl9), hLl]
      exact X6 rfl rfl
    have hnx : Xs ⟨C.map ClM.clm, last⟩ = 0 ∨ Xs ⟨C.map ClM.clm, last⟩ = 4 := hnend.2 hl9
    rw [if_neg (by rintro (h | h); exact h e3; exact h hl9)]
    have hlens := Yel hrow hlen2
    have hcin : ∀ {H' : List HP}, clsP A cap C ∈ H' → many (C.map clQ) ∈ H' → CIn B w0 H' A C := fun h1 h2 => ⟨.sl h1, fun x hx => VE h2 hx (hlens x hx), by omega⟩
    have p3 := fun {H' : List HP} {w : World} (hc : CIn B w0 H' A C) (hw : St B w0 H' w) => VI C (cap := cap) hc hw
    cases hf : Zg (C.map ClM.clm) with
    | false =>
      rw [hf] at p3
      rcases hnx with hnx | hnx
      all_goals (
        rw [hnx]
        repeat' (first | apply (zs1 ?_) | (apply zg1; first | refine zs3 ?_ | refine zs4 ?_) | (apply zg4; refine zs9 ?_) | (apply zg6; first | refine zs11 ?_ | refine zs12 ?_) | (apply zg8; (refine zs16 ?_ ?_ <;> intro _ <;> try (exfalso; omega))) | (apply (zs17 ?_ ?_) <;> intro _ <;> try (exfalso; omega)) | apply (zs65 ?_) | apply (zs68 ?_) | apply (zs69 ?_) | apply (zs70 ?_) | (apply zg27; refine zs72 ?_) | apply (zs75 ?_) | apply (zs76 ?_) | apply (zs80 ?_) | apply (zs81 ?_) | fail)
        first | apply Ya en79 | apply Yb en79
        exact za
        exact rfl
        exact fun _ hw => (p3 (hcin zm zm) hw)
        repeat' (first | apply (zs2 ?_) | (apply zg20; refine zs48 ?_) | apply (zs65 ?_) | apply (zs68 ?_) | apply (zs69 ?_) | apply (zs70 ?_) | (apply zg27; refine zs71 ?_) | apply (zs74 ?_) | apply (zs77 ?_) | fail)
        apply Yi (clsP none 0 [] :: many (([] : List ClM).map clQ) :: H)
        · intro w hw
          have h5 : St B w0 H w := by
            revert w
            exact zk
          exact Zn h5
        apply Y6; exact rfl; exact rfl; exact rfl; exact rfl
        rw [if_pos rfl]
        exact X6 rfl rfl)
    | true =>
      rw [hf] at p3
      rcases hnx with hnx | hnx
      all_goals (
        rw [hnx]
        repeat' (first | apply (zs1 ?_) | (apply zg1; first | refine zs3 ?_ | refine zs4 ?_) | (apply zg4; refine zs9 ?_) | (apply zg6; first | refine zs11 ?_ | refine zs12 ?_) | (apply zg8; (refine zs16 ?_ ?_ <;> intro _ <;> try (exfalso; omega))) | (apply (zs17 ?_ ?_) <;> intro _ <;> try (exfalso; omega)) | apply (zs65 ?_) | apply (zs68 ?_) | apply (zs69 ?_) | apply (zs70 ?_) | (apply zg27; refine zs72 ?_) | apply (zs75 ?_) | apply (zs76 ?_) | apply (zs80 ?_) | apply (zs81 ?_) | fail)
        first | apply Ya en79 | apply Yb en79
        exact za
        exact rfl
        exact fun _ hw => (p3 (hcin zm zm) hw)
        repeat' (first | apply (zs1 ?_) | apply (zs2 ?_) | (apply zg20; refine zs47 ?_) | apply (zs65 ?_) | apply (zs68 ?_) | apply (zs69 ?_) | apply (zs70 ?_) | (apply zg27; refine zs72 ?_) | apply (zs74 ?_) | apply (zs76 ?_) | fail)
        apply Yi (clsP A cap C :: many (C.map clQ) :: H)
        · exact zk
        apply Y6; exact rfl; exact rfl; exact rfl; exact rfl
        exact ⟨A, cap, C, rfl, rfl, hlens, rfl⟩)
  have hlti : i < m := by omega
  have hiL : i < L.length := by split at hLl <;> omega
  have hget := hLg i hiL
  obtain ⟨line, hline⟩ : ∃ z, YJ ls i = z := ⟨_, rfl⟩
  rw [hline] at hget
  have hlm : line.length ≤ 100000 := hll _ (by rw [← hline]; unfold YJ; rw [List.getD_eq_getElem?_getD, List.getElem?_eq_getElem (by omega)]; exact List.getElem_mem _)
  have hst := YcU (by omega) hp
  rw [hline] at hst
  have hgo7 : wh = true ∨ ((i : Nat) : Int) ≠ (L.length : Nat) - 1 := by
    rcases hcase with ⟨e1, _⟩ | ⟨e1, e2, _⟩
    · exact .inl e1
    · rw [e1, if_neg (by decide)] at hLl
      exact .inr (by omega)
  have q := fun (k : Nat) (hk : k < 4) {H' : List HP} {w : World} (hw : St B w0 H' w) => YbF line (YU k) (Xi k) (X4 k) hlm (by unfold Xi; split <;> omega) (by have := @Ybw k; omega) hw
  have hsome := fun {k : Nat} {l : List Int} (hk : k < 4) (hr : YZ line k = some l) (hn : JD k (Xs ⟨C.map ClM.clm, last⟩)) => YeZ hrd hk hr hn
  have hnone := fun (hn : ∀ k, k < 4 → YZ line k = none ∨ ¬ JD k (Xs ⟨C.map ClM.clm, last⟩)) => YeY hrd hn
  have herr : Xm ⟨C.map ClM.clm, last⟩ line = none → Zu ls = ([], ((i : Int), 3)) := fun h => by
    rw [h] at hst
    have hbr : badL ls i = 3 := by unfold badL; rw [hst]; rfl
    have hfa := Xb (f := badL ls) (r := m) (i0 := 0) (i := i) (fun k _ hk => hz k hk) (Nat.zero_le _) (by omega) (by rw [hbr]; decide)
    rw [hpl, hfa, hbr, if_pos (by show (3 : Int) ≠ 0; decide)]
  obtain ⟨nx, hnx⟩ : ∃ nx, Xs ⟨C.map ClM.clm, last⟩ = nx := ⟨_, rfl⟩
  rw [hnx] at hsome hnone ⊢
  clear hpl hLg hll hnend
  obtain ⟨R0, hR0⟩ : ∃ R, YZ line 0 = R := ⟨_, rfl⟩
  obtain ⟨l0, hl0⟩ : ∃ l, Qr R0 = l := ⟨_, rfl⟩
  obtain ⟨o0, ho0⟩ : ∃ o, R0.isSome = o := ⟨_, rfl⟩
  have q0 : ∀ {H' : List HP} {w : World}, St B w0 H' w → Calls Tryz.prog 84 [strV line, strV wordF, .int .i64 1, .int .i64 1].toArray w (Post B w0 fun v K => ∃ A cap, v = .tuple #[.slice A l0.length cap, .bool o0] ∧ K = nrs A cap l0 :: H') := fun {H' w} hw => by
    have h := q 0 (by omega) hw
    rw [show Vf line (YU 0) (Xi 0) (X4 0) = R0 from hR0, hl0, ho0] at h
    exact h
  obtain ⟨R1, hR1⟩ : ∃ R, YZ line 1 = R := ⟨_, rfl⟩
  obtain ⟨l1, hl1⟩ : ∃ l, Qr R1 = l := ⟨_, rfl⟩
  obtain ⟨o1, ho1⟩ : ∃ o, R1.isSome = o := ⟨_, rfl⟩
  have q1 : ∀ {H' : List HP} {w : World}, St B w0 H' w → Calls Tryz.prog 84 [strV line, strV wordR, .int .i64 2, .int .i64 9].toArray w (Post B w0 fun v K => ∃ A cap, v = .tuple #[.slice A l1.length cap, .bool o1] ∧ K = nrs A cap l1 :: H') := fun {H' w} hw => by
    have h := q 1 (by omega) hw
    rw [show Vf line (YU 1) (Xi 1) (X4 1) = R1 from hR1, hl1, ho1] at h
    exact h
  obtain ⟨R2, hR2⟩ : ∃ R, YZ line 2 = R := ⟨_, rfl⟩
  obtain ⟨l2, hl2⟩ : ∃ l, Qr R2 = l := ⟨_, rfl⟩
  obtain ⟨o2, ho2⟩ : ∃ o, R2.isSome = o := ⟨_, rfl⟩
  have q2 : ∀ {H' : List HP} {w : World}, St B w0 H' w → Calls Tryz.prog 84 [strV line, strV wordB, .int .i64 2, .int .i64 2].toArray w (Post B w0 fun v K => ∃ A cap, v = .tuple #[.slice A l2.length cap, .bool o2] ∧ K = nrs A cap l2 :: H') := fun {H' w} hw => by
    have h := q 2 (by omega) hw
    rw [show Vf line (YU 2) (Xi 2) (X4 2) = R2 from hR2, hl2, ho2] at h
    exact h
  obtain ⟨R3, hR3⟩ : ∃ R, YZ line 3 = R := ⟨_, rfl⟩
  obtain ⟨l3, hl3⟩ : ∃ l, Qr R3 = l := ⟨_, rfl⟩
  obtain ⟨o3, ho3⟩ : ∃ o, R3.isSome = o := ⟨_, rfl⟩
  have q3 : ∀ {H' : List HP} {w : World}, St B w0 H' w → Calls Tryz.prog 84 [strV line, strV wordL, .int .i64 1, .int .i64 64].toArray w (Post B w0 fun v K => ∃ A cap, v = .tuple #[.slice A l3.length cap, .bool o3] ∧ K = nrs A cap l3 :: H') := fun {H' w} hw => by
    have h := q 3 (by omega) hw
    rw [show Vf line (YU 3) (Xi 3) (X4 3) = R3 from hR3, hl3, ho3] at h
    exact h
  clear q
  have hLb : L.length ≤ 100001 := by rw [hLl]; split <;> omega
  iterate 15 (first | apply (zs1 ?_) | (apply zg4; refine zs9 ?_) | (apply (zs17 ?_ ?_) <;> intro _ <;> try (exfalso; omega)) | apply (zs65 ?_) | apply (zs68 ?_) | apply (zs69 ?_) | apply (zs70 ?_) | (apply zg27; refine zs71 ?_) | apply (zs73 ?_) | apply (zs76 ?_) | fail)
  refine Om (fun _ : Unit => [(9, .int .i64 (i : Nat)), (5, .slice A0 L.length cap0), (6, .bool wh), (7, .slice A C.length cap), (8, .int .i64 (nx : Nat))]) (fun _ => clsP A cap C :: many (C.map clQ) :: strs A0 cap0 L :: H) ?_ ?_
  · intro K2 hK2
    rcases hgo7 with rfl | h7
    all_goals (
      repeat' (first | apply (zs1 ?_) | (apply zg1; first | refine zs3 ?_ | refine zs4 ?_) | (apply zg4; refine zs9 ?_) | (apply zg6; first | refine zs11 ?_ | refine zs12 ?_) | (apply zg7; (refine zs15 ?_ ?_ <;> intro _ <;> try (exfalso; omega))) | (apply zg14; refine zs31 ?_) | (apply zg20; refine zs47 ?_) | apply (zs65 ?_) | apply (zs68 ?_) | apply (zs69 ?_) | apply (zs70 ?_) | (apply zg27; refine zs72 ?_) | apply (zs76 ?_) | fail)
      all_goals (
        apply hK2 ()
        · exact zu
        · exact fun w hw => hw))
  rintro ⟨⟩
  repeat' (first | apply (zs1 ?_) | (apply zg3; refine zs60 ?_) | (apply zg5; refine zs10 ?_) | apply (zs69 ?_) | apply (zs70 ?_) | fail)
  apply Yo _ en84
  exact za
  exact rfl
  exact fun _ hw => (q0 (hw))
  rintro _ _ ⟨B0, d0, rfl, rfl⟩
  repeat' (first | apply (zs1 ?_) | apply (zs2 ?_) | (apply zg3; refine zs60 ?_) | (apply zg5; refine zs10 ?_) | apply (zs13 ?_) | apply (zs65 ?_) | apply (zs68 ?_) | apply (zs69 ?_) | apply (zs70 ?_) | fail)
  apply Yo _ en84
  exact za
  exact rfl
  exact fun _ hw => (q1 (hw))
  rintro _ _ ⟨B1, d1, rfl, rfl⟩
  repeat' (first | apply (zs1 ?_) | apply (zs2 ?_) | (apply zg3; refine zs60 ?_) | (apply zg5; refine zs10 ?_) | apply (zs13 ?_) | apply (zs65 ?_) | apply (zs68 ?_) | apply (zs69 ?_) | apply (zs70 ?_) | fail)
  apply Yo _ en84
  exact za
  exact rfl
  exact fun _ hw => (q2 (hw))
  rintro _ _ ⟨B2, d2, rfl, rfl⟩
  repeat' (first | apply (zs1 ?_) | apply (zs2 ?_) | (apply zg3; refine zs60 ?_) | (apply zg5; refine zs10 ?_) | apply (zs13 ?_) | apply (zs65 ?_) | apply (zs68 ?_) | apply (zs69 ?_) | apply (zs70 ?_) | fail)
  apply Yo _ en84
  exact za
  exact rfl
  exact fun _ hw => (q3 (hw))
  rintro _ _ ⟨B3, d3, rfl, rfl⟩
  clear q0 q1 q2 q3
  have hkind : ∀ k l, k < 4 → YZ line k = some l → (∀ j, j < 4 → j ≠ k → YZ line j = none) → (o0 = decide (k = 0) ∧ o1 = decide (k = 1) ∧ o2 = decide (k = 2) ∧ o3 = decide (k = 3)) ∧ (k = 0 → l0 = l) ∧ (k = 1 → l1 = l) ∧ (k = 2 → l2 = l) ∧ (k = 3 → l3 = l) := fun k l hk hs ho => by
    have e : ∀ j, j < 4 → YZ line j = if j = k then some l else none := fun j hj => by
      by_cases h : j = k
      · rw [if_pos h, h]; exact hs
      · rw [if_neg h]; exact ho j hj h
    have e0 := e 0 (by omega)
    have e1 := e 1 (by omega)
    have e2 := e 2 (by omega)
    have e3 := e 3 (by omega)
    rw [hR0] at e0
    rw [hR1] at e1
    rw [hR2] at e2
    rw [hR3] at e3
    subst e0 e1 e2 e3
    have hk9 : k = 0 ∨ k = 1 ∨ k = 2 ∨ k = 3 := by omega
    rcases hk9 with rfl | rfl | rfl | rfl <;> subst ho0 ho1 ho2 ho3 hl0 hl1 hl2 hl3 <;> simp [Qr]
  have hcase2 : (Xm ⟨C.map ClM.clm, last⟩ line = none ∧ ((o0 = false ∧ o1 = false ∧ o2 = false ∧ o3 = false) ∨ (o0 = true ∧ o1 = false ∧ o2 = false ∧ o3 = false ∧ nx ≠ 0 ∧ nx ≠ 4) ∨ (o0 = false ∧ o1 = true ∧ o2 = false ∧ o3 = false ∧ nx ≠ 1 ∧ nx ≠ 4) ∨ (o0 = false ∧ o1 = false ∧ o2 = true ∧ o3 = false ∧ nx ≠ 2) ∨ (o0 = false ∧ o1 = false ∧ o2 = false ∧ o3 = true ∧ nx ≠ 3))) ∨ ∃ k l, k < 4 ∧ YZ line k = some l ∧ (∀ j, j < 4 → j ≠ k → YZ line j = none) ∧ JD k nx := by
    rcases Ygm line with hall | ⟨k, l, hk4, hlk, hoth⟩
    · refine .inl ⟨hnone fun k hk => .inl (hall k hk), .inl ?_⟩
      have e0 := hall 0 (by omega)
      have e1 := hall 1 (by omega)
      have e2 := hall 2 (by omega)
      have e3 := hall 3 (by omega)
      rw [hR0] at e0
      rw [hR1] at e1
      rw [hR2] at e2
      rw [hR3] at e3
      subst e0 e1 e2 e3
      exact ⟨ho0.symm, ho1.symm, ho2.symm, ho3.symm⟩
    · by_cases hn : JD k nx
      · exact .inr ⟨k, l, hk4, hlk, hoth, hn⟩
      · obtain ⟨⟨a0, a1, a2, a3⟩, -⟩ := hkind k l hk4 hlk hoth
        refine .inl ⟨hnone fun j hj => by
          by_cases e : j = k
          · subst e; exact .inr hn
          · exact .inl (hoth j hj e), .inr ?_⟩
        unfold JD at hn
        have hk9 : k = 0 ∨ k = 1 ∨ k = 2 ∨ k = 3 := by omega
        rcases hk9 with rfl | rfl | rfl | rfl
        · exact .inl ⟨a0, a1, a2, a3, by omega, by omega⟩
        · exact .inr (.inl ⟨a0, a1, a2, a3, by omega, by omega⟩)
        · exact .inr (.inr (.inl ⟨a0, a1, a2, a3, by omega⟩))
        · exact .inr (.inr (.inr ⟨a0, a1, a2, a3, by omega⟩))
  rcases hcase2 with ⟨hne, hc5⟩ | ⟨k, l, hk4, hlk, hoth, hn⟩
  · rw [herr hne]
    clear hK
    rcases hc5 with ⟨a0, a1, a2, a3⟩ | ⟨a0, a1, a2, a3, n1⟩ | ⟨a0, a1, a2, a3, n1⟩ | ⟨a0, a1, a2, a3, n1⟩ | ⟨a0, a1, a2, a3, n1⟩
    all_goals (
      clear ho0 ho1 ho2 ho3 hkind
      subst a0 a1 a2 a3
      repeat' (first | apply (zs1 ?_) | apply (zs2 ?_) | (apply zg1; first | refine zs3 ?_ | refine zs4 ?_) | (apply zg4; refine zs9 ?_) | (apply zg6; first | refine zs11 ?_ | refine zs12 ?_) | apply (zs13 ?_) | (apply zg7; (refine zs15 ?_ ?_ <;> intro _ <;> try (exfalso; omega))) | (apply zg14; refine zs31 ?_) | apply (zs65 ?_) | apply (zs68 ?_) | apply (zs69 ?_) | apply (zs70 ?_) | (apply zg27; refine zs72 ?_) | apply (zs74 ?_) | apply (zs77 ?_) | apply (zs78 ?_) | fail)
      apply Yi (clsP none 0 [] :: many (([] : List ClM).map clQ) :: H)
      · intro w hw
        have h5 : St B w0 H w := by
          revert w
          exact zk
        exact Zn h5
      apply Y6; exact rfl; exact rfl; exact rfl; exact rfl
      exact X6 rfl rfl)
  obtain ⟨_, hnl, hlo, hhi⟩ := V3 hlk
  have hk9 : k = 0 ∨ k = 1 ∨ k = 2 ∨ k = 3 := by omega
  have hl64 : l.length ≤ 64 := Nat.le_trans hhi Ybw
  obtain ⟨⟨a0, a1, a2, a3⟩, hw0, hw1, hw2, hw3⟩ := hkind k l hk4 hlk hoth
  clear ho0 ho1 ho2 ho3 hkind hl0 hl1 hl2 hl3
  have hnew := hsome hk4 hlk hn
  rw [hnew] at hst
  unfold JD at hn
  clear herr hnone hsome
  have hCl : C.length ≤ 100000 := by omega
  rcases hk9 with rfl | rfl | rfl | rfl
  · have e9 := (hw0 rfl).symm
    subst e9
    have a0 : o0 = true := a0
    have a1 : o1 = false := a1
    have a2 : o2 = false := a2
    have a3 : o3 = false := a3
    subst a0 a1 a2 a3
    have hlo : 1 ≤ l.length := hlo
    obtain ⟨v0, h0⟩ : ∃ v, l[0]? = some v := ⟨_, List.getElem?_eq_getElem (by omega)⟩
    have h0' : l[(0 : Int).toNat]? = some v0 := h0
    have hn2 : nx = 0 ∨ nx = 4 := by omega
    have hpn : Xt ls (i + 1) = some ⟨(C ++ [nilC v0]).map ClM.clm, 0⟩ := by
      rw [hst, List.map_append]
      unfold Zb
      rw [if_pos rfl, List.getD_eq_getElem?_getD, h0]
      rfl
    have hrn : Xo (C ++ [nilC v0]) := fun c hc => by
      rcases List.mem_append.1 hc with h1 | h1
      · exact hrow c h1
      · rw [List.mem_singleton.1 h1]
        unfold nilC
        simp
    rcases hn2 with hn2 | hn2
    all_goals (
      repeat' (first | apply (zs1 ?_) | apply (zs2 ?_) | (apply zg1; first | refine zs3 ?_ | refine zs4 ?_) | (apply zg3; refine zs60 ?_) | (apply zg4; refine zs9 ?_) | (apply zg5; refine zs10 ?_) | (apply zg6; first | refine zs11 ?_ | refine zs12 ?_) | apply (zs13 ?_) | (apply zg7; (refine zs15 ?_ ?_ <;> intro _ <;> try (exfalso; omega))) | (apply zg13; refine zs30 ?_) | (apply zg14; refine zs31 ?_) | (apply zg21; (refine zs49 ?_; intro _ _)) | (apply zg25; refine zs55 ?_) | (apply zg26; (refine zs56 ?_; intro _)) | apply (zs65 ?_) | apply (zs68 ?_) | apply (zs69 ?_) | apply (zs70 ?_) | (apply zg27; refine zs71 ?_) | apply (zs79 ?_) | fail)
      rename_i A' cap'
      have e5 : sl 61 5 A' (C.length + 1) cap' (C.flatMap clF ++ #[Value.int .i64 v0, .slice none 0 0, .slice none 0 0, .slice none 0 0, .slice none 0 0].toList) = clsP A' cap' (C ++ [nilC v0]) := O0 _ _ _ (nilC v0)
      rw [e5, show C.length + 1 = (C ++ [nilC v0]).length by simp]
      apply hK ⟨i + 1, A', cap', C ++ [nilC v0], 0⟩
      · exact ⟨by show i + 1 ≤ m; omega, hpn, hrn⟩
      · dsimp only; omega
      · dsimp only
        rw [Qv (by omega)]
        exact zu
      · intro w hw
        have h5 : St B w0 (many (C.map clQ) :: clsP A' cap' (C ++ [nilC v0]) :: strs A0 cap0 L :: H) w := by
          clear e5
          revert w
          exact zk
        have h6 := (UT v0 h5).perm (Xj clQ C (nilC v0) _)
        exact h6.perm (.swap _ _ _))
  · have e9 := (hw1 rfl).symm
    subst e9
    have a0 : o0 = false := a0
    have a1 : o1 = true := a1
    have a2 : o2 = false := a2
    have a3 : o3 = false := a3
    subst a0 a1 a2 a3
    have hne : C ≠ [] := fun e => by
      have h3 : last = 3 := hrd.some_ (by rw [e]; rfl)
      rw [e, h3] at hnx
      have h4 : Xs ⟨([] : List ClM).map ClM.clm, 3⟩ = 0 := rfl
      omega
    obtain ⟨Cs, x, hCe⟩ := Jy hne
    have hn1 : C.length = Cs.length + 1 := by rw [hCe]; simp
    have hxi : C[Cs.length]? = some x := by rw [hCe]; simp
    have hxi' : C[((C.length : Int) - 1).toNat]? = some x := by rw [show ((C.length : Int) - 1).toNat = Cs.length by omega]; exact hxi
    have hxm := List.mem_of_getElem? hxi
    have hx2 := hlen2 x hxm
    have hrx := hrow x hxm
    have hset : ∀ y, C.set ((C.length : Int) - 1).toNat y = Cs ++ [y] := fun y => by rw [show ((C.length : Int) - 1).toNat = Cs.length by omega, hCe]; exact ZV _ _ _
    refine Uv (nrs B3 d3 l3 :: nrs B2 d2 l2 :: nrs B1 d1 l :: nrs B0 d0 l0 :: clsP A cap C :: sl 72 1 x.rA x.rs.length x.rcap (x.rs.flatMap rowF) :: many (x.rs.map rowQ) :: nrs x.bA x.bcap x.bs :: nrs x.wA x.wcap x.ws :: sl 24 1 x.sA x.ss.length x.scap (x.ss.flatMap rowF) :: many (x.ss.map rowQ) :: many (Cs.map clQ) :: strs A0 cap0 L :: H) (fun w hw => ?_) ?_
    · have h5 : St B w0 (nrs B3 d3 l3 :: nrs B2 d2 l2 :: nrs B1 d1 l :: nrs B0 d0 l0 :: clsP A cap C :: many ((Cs ++ [x]).map clQ) :: strs A0 cap0 L :: H) w := by rw [← hCe]; exact hw
      exact (h5.perm (.cons _ (.cons _ (.cons _ (.cons _ (.cons _ (XN clQ Cs x _))))))).perm (.cons _ (.cons _ (.cons _ (.cons _ (.cons _ (.open_ (clP x) _))))))
    have hn2 : nx = 1 ∨ nx = 4 := by omega
    rcases hn2 with hn2 | hn2
    all_goals (
      repeat' (first | apply (zs1 ?_) | apply (zs2 ?_) | (apply zg1; first | refine zs3 ?_ | refine zs4 ?_) | (apply zg2; refine zs58 ?_) | (apply zg3; refine zs59 ?_) | (apply zg4; refine zs9 ?_) | (apply zg5; refine zs10 ?_) | (apply zg6; first | refine zs11 ?_ | refine zs12 ?_) | apply (zs13 ?_) | (apply zg7; (refine zs15 ?_ ?_ <;> intro _ <;> try (exfalso; omega))) | (apply zg14; refine zs31 ?_) | (apply zg21; (refine zs49 ?_; intro _ _)) | (apply zg26; (refine zs56 ?_; intro _)) | apply (zs65 ?_) | apply (zs68 ?_) | apply (zs69 ?_) | apply (zs70 ?_) | (apply zg27; first | refine zs71 ?_ | refine zs72 ?_) | fail)
      rename_i A' cap'
      apply YN T (f := clF) (l := C) (i := ((C.length : Int) - 1).toNat) (q := 5) (o := 1) (b := x) (b' := { x with rA := A', rcap := cap', rs := x.rs ++ [⟨B1, d1, l⟩] }); exact rfl; exact rfl; exact rfl; exact zd; exact hxi'; (simp [clF]); exact fun _ => rfl; exact rfl; exact rfl
      obtain ⟨x', hx'⟩ : ∃ x' : ClM, { x with rA := A', rcap := cap', rs := x.rs ++ [⟨B1, d1, l⟩] } = x' := ⟨_, rfl⟩
      rw [hx', hset]
      have e6 : sl 72 1 A' (x.rs.length + 1) cap' (x.rs.flatMap rowF ++ #[Value.slice B1 l.length d1].toList) = sl 72 1 A' (x.rs ++ [(⟨B1, d1, l⟩ : RowM)]).length cap' ((x.rs ++ [(⟨B1, d1, l⟩ : RowM)]).flatMap rowF) := JP _ _ _ _ ⟨B1, d1, l⟩
      rw [e6]
      have hlc9 : C.length = (Cs ++ [x']).length := by rw [hn1]; simp
      have hpn : Xt ls (i + 1) = some ⟨(Cs ++ [x']).map ClM.clm, 1⟩ := by
        rw [hst, hCe]
        exact congrArg (fun z => some (Pst.mk z 1)) (ZW (by decide) l Cs x x' (by rw [← hx']; unfold ClM.clm YH; simp)).symm
      have hrn : Xo (Cs ++ [x']) := ZU (hCe ▸ hrow) x' (by rw [← hx']; exact ⟨UY hrx.1 hl64, hrx.2⟩)
      have hstate : ∀ w, St B w0 (sl 72 1 A' (x.rs ++ [(⟨B1, d1, l⟩ : RowM)]).length cap' ((x.rs ++ [(⟨B1, d1, l⟩ : RowM)]).flatMap rowF) :: sl 3 1 B1 l.length d1 (l.flatMap numF) :: many (x.rs.map rowQ) :: nrs x.bA x.bcap x.bs :: nrs x.wA x.wcap x.ws :: sl 24 1 x.sA x.ss.length x.scap (x.ss.flatMap rowF) :: many (x.ss.map rowQ) :: many (Cs.map clQ) :: clsP A cap (Cs ++ [x']) :: strs A0 cap0 L :: H) w → St B w0 (clsP A cap (Cs ++ [x']) :: many ((Cs ++ [x']).map clQ) :: strs A0 cap0 L :: H) w := fun w h5 => by
        have h6 := h5.perm (.cons _ (ZT rowQ x.rs ⟨B1, d1, l⟩ _))
        have h7 : St B w0 (clQ x' :: many (Cs.map clQ) :: clsP A cap (Cs ++ [x']) :: strs A0 cap0 L :: H) w := by
          have h8 := h6.perm (.close [_, _, _, _, _, _] _)
          rw [← hx'] at h8 ⊢
          exact h8
        exact (h7.perm (Xj clQ Cs x' _)).perm (.swap _ _ _)
      rw [hlc9]
      repeat' (first | apply (zs1 ?_) | apply (zs2 ?_) | (apply zg13; refine zs30 ?_) | apply (zs65 ?_) | apply (zs68 ?_) | apply (zs70 ?_) | apply (zs79 ?_) | fail)
      apply hK ⟨i + 1, A, cap, Cs ++ [x'], 1⟩
      · exact ⟨by show i + 1 ≤ m; omega, hpn, hrn⟩
      · dsimp only; omega
      · dsimp only
        rw [Qv (by omega)]
        exact zu
      · intro w hw
        refine hstate w ?_
        clear e6 hstate hlc9 hset
        revert w
        exact zk)
  · have e9 := (hw2 rfl).symm
    subst e9
    have a0 : o0 = false := a0
    have a1 : o1 = false := a1
    have a2 : o2 = true := a2
    have a3 : o3 = false := a3
    subst a0 a1 a2 a3
    have hlo : 2 ≤ l.length := hlo
    obtain ⟨v0, h0⟩ : ∃ v, l[0]? = some v := ⟨_, List.getElem?_eq_getElem (by omega)⟩
    obtain ⟨v1, h1⟩ : ∃ v, l[1]? = some v := ⟨_, List.getElem?_eq_getElem (by omega)⟩
    have h0' : l[(0 : Int).toNat]? = some v0 := h0
    have h1' : l[(1 : Int).toNat]? = some v1 := h1
    have hne : C ≠ [] := fun e => by
      have h3 : last = 3 := hrd.some_ (by rw [e]; rfl)
      rw [e, h3] at hnx
      have h4 : Xs ⟨([] : List ClM).map ClM.clm, 3⟩ = 0 := rfl
      omega
    obtain ⟨Cs, x, hCe⟩ := Jy hne
    have hn1 : C.length = Cs.length + 1 := by rw [hCe]; simp
    have hxi : C[Cs.length]? = some x := by rw [hCe]; simp
    have hxi' : C[((C.length : Int) - 1).toNat]? = some x := by rw [show ((C.length : Int) - 1).toNat = Cs.length by omega]; exact hxi
    have hxm := List.mem_of_getElem? hxi
    have hx2 := hlen2 x hxm
    have hrx := hrow x hxm
    have hset : ∀ y, C.set ((C.length : Int) - 1).toNat y = Cs ++ [y] := fun y => by rw [show ((C.length : Int) - 1).toNat = Cs.length by omega, hCe]; exact ZV _ _ _
    refine Uv (nrs B3 d3 l3 :: nrs B2 d2 l :: nrs B1 d1 l1 :: nrs B0 d0 l0 :: clsP A cap C :: sl 72 1 x.rA x.rs.length x.rcap (x.rs.flatMap rowF) :: many (x.rs.map rowQ) :: nrs x.bA x.bcap x.bs :: nrs x.wA x.wcap x.ws :: sl 24 1 x.sA x.ss.length x.scap (x.ss.flatMap rowF) :: many (x.ss.map rowQ) :: many (Cs.map clQ) :: strs A0 cap0 L :: H) (fun w hw => ?_) ?_
    · have h5 : St B w0 (nrs B3 d3 l3 :: nrs B2 d2 l :: nrs B1 d1 l1 :: nrs B0 d0 l0 :: clsP A cap C :: many ((Cs ++ [x]).map clQ) :: strs A0 cap0 L :: H) w := by rw [← hCe]; exact hw
      exact (h5.perm (.cons _ (.cons _ (.cons _ (.cons _ (.cons _ (XN clQ Cs x _))))))).perm (.cons _ (.cons _ (.cons _ (.cons _ (.cons _ (.open_ (clP x) _))))))
    have hn2 : nx = 2 := by omega
    repeat' (first | apply (zs1 ?_) | apply (zs2 ?_) | (apply zg1; first | refine zs3 ?_ | refine zs4 ?_) | (apply zg4; refine zs9 ?_) | (apply zg6; first | refine zs11 ?_ | refine zs12 ?_) | apply (zs13 ?_) | (apply zg7; (refine zs15 ?_ ?_ <;> intro _ <;> try (exfalso; omega))) | (apply zg14; refine zs31 ?_) | apply (zs65 ?_) | apply (zs68 ?_) | apply (zs69 ?_) | apply (zs70 ?_) | (apply zg27; first | refine zs71 ?_ | refine zs72 ?_) | fail)
    apply YbQ (.z 2 (.z 3 (.s 0 (.s 1 (.s 4 (.s 5 (.s 6 (.s 7 (.s 8 (.s 9 (.s 10 (.s 11 (.s 14 (.s 15 (.s 16 (.s 17 (.s 18 (.s 19 (.s 20 (.s 21 (.e2 12 (.e2 13 (.e1 22 (.e1 23 .done)) 22 (.e1 13 (.e1 23 .done))) 22 (.e1 12 (.e1 13 (.e1 23 .done)))))))))))))))))))))))) [2, 3] [24, 25, 26] [27, 28, 29] [false, true, false, false, true] [true, false]
    kernel_rfl
    kernel_rfl
    exact zy
    exact zy
    (simp only [Yj, nthO]; rfl)
    repeat' (first | (apply VW_z; (simp only [nthO]; rfl); exact zp; (repeat (first | with_reducible exact Yh | (with_reducible apply Yg; (repeat (first | with_reducible exact Yf | with_reducible apply Ye)))))) | (apply VW_s; (simp only [nthO]; rfl)) | (apply YhC; (simp only [nthO]; rfl)) | (apply YhD; (simp only [nthO]; rfl); (simp only [nthO]; rfl)) | (apply Yb8; (repeat (first | with_reducible exact Yh | (with_reducible apply Yg; (repeat (first | with_reducible exact Yf | with_reducible apply Ye)))))) | (apply Yd0; exact zp) | (apply Oq; (simp only [nthO]; rfl)) | (apply Ybe; (repeat (first | with_reducible exact Yh | (with_reducible apply Yg; (repeat (first | with_reducible exact Yf | with_reducible apply Ye)))))) | (apply Ybc) | apply (zs1 ?_) | (apply zg2; refine zs58 ?_) | (apply zg3; first | refine zs59 ?_ | refine zs60 ?_) | (apply zg5; refine zs10 ?_) | (apply zg21; (refine zs49 ?_; intro _ _)) | (apply zg26; (refine zs56 ?_; intro _)) | apply (zs65 ?_) | (apply Yn; exact zp) | apply (zs87 ?_) | (apply Yl; (repeat (first | with_reducible exact Yh | (with_reducible apply Yg; (repeat (first | with_reducible exact Yf | with_reducible apply Ye)))))) | fail)
    all_goals (
      first
        | (rename_i A1 c1 g A2 c2; guard_hyp g : Nat; guard_hyp A1 : Option Addr; guard_hyp A2 : Option Addr)
        | (rename_i A1 c1 A2 c2; guard_hyp A1 : Option Addr; guard_hyp A2 : Option Addr)
      apply YN T (f := clF) (l := C) (i := ((C.length : Int) - 1).toNat) (q := 5) (o := 2) (b := x) (b' := { x with bA := A1, bcap := c1, bs := x.bs ++ [v0] }); exact rfl; exact rfl; exact rfl; exact zd; exact hxi'; (simp [clF]); exact fun _ => rfl; exact rfl; exact rfl
      obtain ⟨C2, hC2⟩ : ∃ C2, C.set ((C.length : Int) - 1).toNat { x with bA := A1, bcap := c1, bs := x.bs ++ [v0] } = C2 := ⟨_, rfl⟩
      have hl2 : C2.length = C.length := by rw [← hC2, List.length_set]
      have hx2 : C2[((C.length : Int) - 1).toNat]? = some { x with bA := A1, bcap := c1, bs := x.bs ++ [v0] } := by rw [← hC2, List.getElem?_set_self (by omega)]
      rw [hC2]
      repeat' (first | (apply Oq; (simp only [nthO]; rfl)) | (apply Ybe; (repeat (first | with_reducible exact Yh | (with_reducible apply Yg; (repeat (first | with_reducible exact Yf | with_reducible apply Ye)))))) | (apply Ybc) | (apply zg2; refine zs58 ?_) | (apply zg5; refine zs10 ?_) | apply (zs65 ?_) | apply (zs93 ?_) | fail)
      apply YN T (f := clF) (l := C2) (i := ((C.length : Int) - 1).toNat) (q := 5) (o := 3) (b := { x with bA := A1, bcap := c1, bs := x.bs ++ [v0] }) (b' := { x with bA := A1, bcap := c1, bs := x.bs ++ [v0], wA := A2, wcap := c2, ws := x.ws ++ [v1] }); exact rfl; exact rfl; exact rfl; exact zd; exact hx2; (simp [clF]); exact fun _ => rfl; exact rfl; exact rfl
      rw [X5, X5, ← hC2, List.set_set]
      obtain ⟨x', hx'⟩ : ∃ x' : ClM, { x with bA := A1, bcap := c1, bs := x.bs ++ [v0], wA := A2, wcap := c2, ws := x.ws ++ [v1] } = x' := ⟨_, rfl⟩
      rw [hx', hset]
      have hlc9 : C.length = (Cs ++ [x']).length := by rw [hn1]; simp
      have hpn : Xt ls (i + 1) = some ⟨(Cs ++ [x']).map ClM.clm, 2⟩ := by
        rw [hst, hCe]
        exact congrArg (fun z => some (Pst.mk z 2)) (ZW (by decide) l Cs x x' (by rw [← hx']; unfold ClM.clm YH; simp [List.getD_eq_getElem?_getD, h0, h1])).symm
      have hrn : Xo (Cs ++ [x']) := ZU (hCe ▸ hrow) x' (by rw [← hx']; exact hrx)
      have hstate : ∀ w, St B w0 (sl 72 1 x.rA x.rs.length x.rcap (x.rs.flatMap rowF) :: many (x.rs.map rowQ) :: nrs A1 c1 (x.bs ++ [v0]) :: nrs A2 c2 (x.ws ++ [v1]) :: sl 24 1 x.sA x.ss.length x.scap (x.ss.flatMap rowF) :: many (x.ss.map rowQ) :: many (Cs.map clQ) :: clsP A cap (Cs ++ [x']) :: strs A0 cap0 L :: H) w → St B w0 (clsP A cap (Cs ++ [x']) :: many ((Cs ++ [x']).map clQ) :: strs A0 cap0 L :: H) w := fun w h5 => by
        have h7 : St B w0 (clQ x' :: many (Cs.map clQ) :: clsP A cap (Cs ++ [x']) :: strs A0 cap0 L :: H) w := by
          have h8 := h5.perm (.close [_, _, _, _, _, _] _)
          rw [← hx'] at h8 ⊢
          exact h8
        exact (h7.perm (Xj clQ Cs x' _)).perm (.swap _ _ _)
      rw [hlc9]
      repeat' (first | apply (zs1 ?_) | apply (zs2 ?_) | (apply zg13; refine zs30 ?_) | apply (zs65 ?_) | apply (zs68 ?_) | apply (zs70 ?_) | apply (zs79 ?_) | apply (zs94 ?_) | fail)
      apply hK ⟨i + 1, A, cap, Cs ++ [x'], 2⟩
      · exact ⟨by show i + 1 ≤ m; omega, hpn, hrn⟩
      · dsimp only; omega
      · dsimp only
        rw [Qv (by omega)]
        exact zu
      · intro w hw
        refine hstate w ?_
        clear hstate hlc9 hset hC2
        revert w
        exact zk)
  · have e9 := (hw3 rfl).symm
    subst e9
    have a0 : o0 = false := a0
    have a1 : o1 = false := a1
    have a2 : o2 = false := a2
    have a3 : o3 = true := a3
    subst a0 a1 a2 a3
    have hne : C ≠ [] := fun e => by
      have h3 : last = 3 := hrd.some_ (by rw [e]; rfl)
      rw [e, h3] at hnx
      have h4 : Xs ⟨([] : List ClM).map ClM.clm, 3⟩ = 0 := rfl
      omega
    obtain ⟨Cs, x, hCe⟩ := Jy hne
    have hn1 : C.length = Cs.length + 1 := by rw [hCe]; simp
    have hxi : C[Cs.length]? = some x := by rw [hCe]; simp
    have hxi' : C[((C.length : Int) - 1).toNat]? = some x := by rw [show ((C.length : Int) - 1).toNat = Cs.length by omega]; exact hxi
    have hxm := List.mem_of_getElem? hxi
    have hx2 := hlen2 x hxm
    have hrx := hrow x hxm
    have hset : ∀ y, C.set ((C.length : Int) - 1).toNat y = Cs ++ [y] := fun y => by rw [show ((C.length : Int) - 1).toNat = Cs.length by omega, hCe]; exact ZV _ _ _
    refine Uv (nrs B3 d3 l :: nrs B2 d2 l2 :: nrs B1 d1 l1 :: nrs B0 d0 l0 :: clsP A cap C :: sl 72 1 x.rA x.rs.length x.rcap (x.rs.flatMap rowF) :: many (x.rs.map rowQ) :: nrs x.bA x.bcap x.bs :: nrs x.wA x.wcap x.ws :: sl 24 1 x.sA x.ss.length x.scap (x.ss.flatMap rowF) :: many (x.ss.map rowQ) :: many (Cs.map clQ) :: strs A0 cap0 L :: H) (fun w hw => ?_) ?_
    · have h5 : St B w0 (nrs B3 d3 l :: nrs B2 d2 l2 :: nrs B1 d1 l1 :: nrs B0 d0 l0 :: clsP A cap C :: many ((Cs ++ [x]).map clQ) :: strs A0 cap0 L :: H) w := by rw [← hCe]; exact hw
      exact (h5.perm (.cons _ (.cons _ (.cons _ (.cons _ (.cons _ (XN clQ Cs x _))))))).perm (.cons _ (.cons _ (.cons _ (.cons _ (.cons _ (.open_ (clP x) _))))))
    have hn2 : nx = 3 ∨ nx = 3 := by omega
    repeat' (first | apply (zs1 ?_) | apply (zs2 ?_) | (apply zg1; first | refine zs3 ?_ | refine zs4 ?_) | (apply zg2; refine zs58 ?_) | (apply zg3; refine zs59 ?_) | (apply zg4; refine zs9 ?_) | (apply zg5; refine zs10 ?_) | (apply zg6; first | refine zs11 ?_ | refine zs12 ?_) | apply (zs13 ?_) | (apply zg7; (refine zs15 ?_ ?_ <;> intro _ <;> try (exfalso; omega))) | (apply zg14; refine zs31 ?_) | (apply zg21; (refine zs49 ?_; intro _ _)) | (apply zg26; (refine zs56 ?_; intro _)) | apply (zs65 ?_) | apply (zs68 ?_) | apply (zs69 ?_) | apply (zs70 ?_) | (apply zg27; first | refine zs71 ?_ | refine zs72 ?_) | fail)
    rename_i A' cap'
    apply YN T (f := clF) (l := C) (i := ((C.length : Int) - 1).toNat) (q := 5) (o := 4) (b := x) (b' := { x with sA := A', scap := cap', ss := x.ss ++ [⟨B3, d3, l⟩] }); exact rfl; exact rfl; exact rfl; exact zd; exact hxi'; (simp [clF]); exact fun _ => rfl; exact rfl; exact rfl
    obtain ⟨x', hx'⟩ : ∃ x' : ClM, { x with sA := A', scap := cap', ss := x.ss ++ [⟨B3, d3, l⟩] } = x' := ⟨_, rfl⟩
    rw [hx', hset]
    have e6 : sl 24 1 A' (x.ss.length + 1) cap' (x.ss.flatMap rowF ++ #[Value.slice B3 l.length d3].toList) = sl 24 1 A' (x.ss ++ [(⟨B3, d3, l⟩ : RowM)]).length cap' ((x.ss ++ [(⟨B3, d3, l⟩ : RowM)]).flatMap rowF) := JP _ _ _ _ ⟨B3, d3, l⟩
    rw [e6]
    have hlc9 : C.length = (Cs ++ [x']).length := by rw [hn1]; simp
    have hpn : Xt ls (i + 1) = some ⟨(Cs ++ [x']).map ClM.clm, 3⟩ := by
      rw [hst, hCe]
      exact congrArg (fun z => some (Pst.mk z 3)) (ZW (by decide) l Cs x x' (by rw [← hx']; unfold ClM.clm YH; simp)).symm
    have hrn : Xo (Cs ++ [x']) := ZU (hCe ▸ hrow) x' (by rw [← hx']; exact ⟨hrx.1, UY hrx.2 hl64⟩)
    have hstate : ∀ w, St B w0 (sl 72 1 x.rA x.rs.length x.rcap (x.rs.flatMap rowF) :: many (x.rs.map rowQ) :: nrs x.bA x.bcap x.bs :: nrs x.wA x.wcap x.ws :: sl 24 1 A' (x.ss ++ [(⟨B3, d3, l⟩ : RowM)]).length cap' ((x.ss ++ [(⟨B3, d3, l⟩ : RowM)]).flatMap rowF) :: sl 3 1 B3 l.length d3 (l.flatMap numF) :: many (x.ss.map rowQ) :: many (Cs.map clQ) :: clsP A cap (Cs ++ [x']) :: strs A0 cap0 L :: H) w → St B w0 (clsP A cap (Cs ++ [x']) :: many ((Cs ++ [x']).map clQ) :: strs A0 cap0 L :: H) w := fun w h5 => by
      have h6 := h5.perm (.cons _ (.cons _ (.cons _ (.cons _ (.cons _ (ZT rowQ x.ss ⟨B3, d3, l⟩ _))))))
      have h7 : St B w0 (clQ x' :: many (Cs.map clQ) :: clsP A cap (Cs ++ [x']) :: strs A0 cap0 L :: H) w := by
        have h8 := h6.perm (.close [_, _, _, _, _, _] _)
        rw [← hx'] at h8 ⊢
        exact h8
      exact (h7.perm (Xj clQ Cs x' _)).perm (.swap _ _ _)
    rw [hlc9]
    have hxi2 : (Cs ++ [x'])[(((Cs ++ [x']).length : Int) - 1).toNat]? = some x' := by rw [← hlc9, show ((C.length : Int) - 1).toNat = Cs.length by omega]; simp
    have hxr : x'.rs.length = x.rs.length := by rw [← hx']
    have hnx3 : Xs ⟨(Cs ++ [x']).map ClM.clm, 3⟩ = if x'.rs.length = 2 then 0 else 4 := by
      rw [List.map_append, List.map_singleton, Ydz]
      unfold ClM.clm
      rw [List.length_map]
    by_cases h2 : x'.rs.length = 2
    · skip
      repeat' (first | apply (zs1 ?_) | apply (zs2 ?_) | (apply zg2; refine zs58 ?_) | (apply zg3; refine zs59 ?_) | (apply zg4; refine zs9 ?_) | (apply zg5; refine zs10 ?_) | (apply zg7; (refine zs15 ?_ ?_ <;> intro _ <;> try (exfalso; omega))) | (apply zg13; refine zs30 ?_) | apply (zs65 ?_) | apply (zs68 ?_) | apply (zs69 ?_) | apply (zs70 ?_) | (apply zg27; refine zs71 ?_) | apply (zs79 ?_) | fail)
      apply hK ⟨i + 1, A, cap, Cs ++ [x'], 3⟩
      · exact ⟨by show i + 1 ≤ m; omega, hpn, hrn⟩
      · dsimp only; omega
      · dsimp only
        rw [hnx3, if_pos h2]
        exact zu
      · intro w hw
        refine hstate w ?_
        clear e6 hstate hlc9 hset
        revert w
        exact zk
    · skip
      repeat' (first | apply (zs1 ?_) | apply (zs2 ?_) | (apply zg2; refine zs58 ?_) | (apply zg3; refine zs59 ?_) | (apply zg4; refine zs9 ?_) | (apply zg5; refine zs10 ?_) | (apply zg7; (refine zs15 ?_ ?_ <;> intro _ <;> try (exfalso; omega))) | (apply zg13; refine zs30 ?_) | apply (zs65 ?_) | apply (zs68 ?_) | apply (zs69 ?_) | apply (zs70 ?_) | (apply zg27; refine zs72 ?_) | apply (zs76 ?_) | apply (zs79 ?_) | fail)
      apply hK ⟨i + 1, A, cap, Cs ++ [x'], 3⟩
      · exact ⟨by show i + 1 ≤ m; omega, hpn, hrn⟩
      · dsimp only; omega
      · dsimp only
        rw [hnx3, if_neg h2]
        exact zu
      · intro w hw
        refine hstate w ?_
        clear e6 hstate hlc9 hset
        revert w
        exact zk
open Go.RowKit Go.Eng Go.Nw
theorem JM {n : Int} (h : 0 ≤ n ∧ n < 10) : Lib.itoa n = [UInt8.ofNat (48 + n.toNat)] := by
  rw [Z9 h.1, Lib.decDigits_one (by omega)]
end Go.Proofs.YtmalhidldgfeoaaGreatDoor
namespace Go.Eng
open Go.RowKit
theorem Yez {P : Program} {B : Nat} {w0 : World} {env : Env} {H : List HP} {n : Nat} (T : Tab P) {fn : Func} {Φ : Value → List HP → Prop} {p g k u p2 g2 k2 rt rt2 : Nat} {x : Value} {cs cs2 : Array Value} {tt tt2 : TypeId} {fr fr2 : Nat × Nat} (hr : fn.results = #[.cell p rt, .tmp u, .cell p2 rt2]) (hp : get env p = some (.pointer (some ⟨g, 0, none⟩))) (hu : get env u = some x) (hp2 : get env p2 = some (.pointer (some ⟨g2, 0, none⟩)))
    (hm : blk g (.cells cs tt fr) ∈ H) (hm2 : blk g2 (.cells cs2 tt2 fr2) ∈ H) (ht : look T.ag rt = some k) (ht2 : look T.ag rt2 = some k2) (hk : cs.size = k) (hk2 : cs2.size = k2) {H2 : List HP} (hH : ∀ w, St B w0 H w → St B w0 H2 w) (h : Φ (.tuple #[.agg cs, x, .agg cs2]) H2) : VQ ⟨n, [], none⟩ B w0 (bodyPost P fn (Post B w0 Φ)) .ret env H := by
  refine ⟨fun a w ha hw => bodyPost_ret (v := .tuple #[.agg cs, x, .agg cs2]) ?_ ha.defers ⟨_, H2, rfl, hH w hw, h⟩⟩
  have hp' := ha.slot p _ hp
  have hp2' := ha.slot p2 _ hp2
  simp [results, hr, Array.getD_eq_getD_getElem?, hp', hp2', ha.slot u _ hu, asAddr, ZQ T (hw.blk hm).1 ht hk, ZQ T (hw.blk hm2).1 ht2 hk2]
end Go.Eng
namespace Go.Proofs.YtmalhidldgfeoaaGreatDoor
open Go.RowKit Go.Eng Go.Nw Go.Rt
def exN8 : Net := ⟨3, [[0, 9, 9], [9, 0, 9], [9, 9, 0]], 1, 1000, [(0, 1, 1), (1, 0, 0), (1, 2, 1), (2, 1, 0)], [9, 9, 9, 9]⟩
def exQ : List Rqs := [((3, 0, 2, 6, 0, 6), [[0, 1, 2]])]
def exZ : Sch := ⟨6, 1, [(0, 0, 0, 1, 3), (1, 0, 1, 2, 3), (2, 0, 0, 1, 3), (3, 0, 1, 2, 3), (4, 0, 1, 2, 3)]⟩
set_option maxRecDepth 10000 in
set_option maxHeartbeats 4000000 in
theorem Yds {B : Nat} {w0 : World} {H : List HP} {w : World} (hw : St B w0 H w) :
    Calls Tryz.prog 65 [].toArray w (Post B w0 fun v K => ∃ (n : NetM) (A : Option Addr) (cap : Nat) (q : List RqM) (s : SchM), v = .tuple #[n.val, .slice A q.length cap, s.val] ∧ n.net = exN8 ∧ q.map RqM.rq = exQ ∧ s.sch = exZ ∧ n.In B w0 K ∧ QIn B w0 K A q ∧ Rd B w0 K s.A (s.cells.flatMap celF) ∧ ∀ w, St B w0 K w → St B w0 H w) := by
  refine Yd Tryz.func65 Tryz.ntmps65 rfl rfl hw ?_
  repeat' (first | apply (zs2 ?_) | (apply zg2; refine zs6 ?_) | (apply zg22; first | refine zs50 ?_ | refine zs51 ?_) | (apply zg24; (refine zs54 ?_; intro _)) | (apply zg25; refine zs55 ?_) | (apply zg26; (refine zs56 ?_; intro _)) | apply (zs65 ?_) | apply (zs68 ?_) | apply (zs69 ?_) | apply (zs70 ?_) | fail)
  rename_i g0 g2 r5 r6 r7 gp gm g3 gl gc g4
  apply Ur (.n1 0 (.n1 1 (.n1 6 (.n2 2 (.n2 3 (.n1 4 (.n2 5 (.n1 7 (.n1 8 .done)) 7 (.n1 5 (.n1 8 .done)))) 7 (.n1 3 (.n1 4 (.n1 5 (.n1 8 .done))))) 7 (.n1 2 (.n1 3 (.n1 4 (.n1 5 (.n1 8 .done))))))))) [9] [true, false, false, true]
  kernel_rfl
  kernel_rfl
  exact zy
  (simp only [Yj, nthO]; rfl)
  repeat' (first | apply (zs2 ?_) | (apply zg3; refine zs8 ?_) | (apply zg22; refine zs51 ?_) | (apply zg25; refine zs55 ?_) | (apply zg26; (refine zs56 ?_; intro _)) | apply (zs65 ?_) | (apply Yn; exact zp) | apply (zs68 ?_) | apply (zs74 ?_) | apply (zs87 ?_) | (apply Yl; (repeat (first | with_reducible exact Yh | (with_reducible apply Yg; (repeat (first | with_reducible exact Yf | with_reducible apply Ye)))))) | (apply Uz; exact zp) | apply (zs90 ?_) | apply (zs91 ?_ ?_) | (apply Xl; (repeat (first | with_reducible exact Yh | (with_reducible apply Yg; (repeat (first | with_reducible exact Yf | with_reducible apply Ye)))))) | apply (zs93 ?_) | apply (zs94 ?_) | fail)
  all_goals (
    rename_i gi gr gq
    apply Yez T; exact rfl; exact rfl; exact rfl; exact rfl; exact zm; exact zm; exact rfl; exact rfl; exact rfl; exact rfl; exact fun w hw => hw
    refine ⟨⟨3, (some ⟨gp, 0, none⟩), 3, [⟨(some ⟨r5, 0, none⟩), 3, [0, 9, 9]⟩, ⟨(some ⟨r6, 0, none⟩), 3, [9, 0, 9]⟩, ⟨(some ⟨r7, 0, none⟩), 3, [9, 9, 0]⟩], 1, 1000, (some ⟨gl, 0, none⟩), 4, [(0, 1, 1), (1, 0, 0), (1, 2, 1), (2, 1, 0)], (some ⟨gm, 0, none⟩), 4, [9, 9, 9, 9]⟩, (some ⟨gq, 0, none⟩), 1, [⟨(3, 0, 2, 6, 0, 6), (some ⟨gr, 0, none⟩), 1, [⟨(some ⟨gi, 0, none⟩), 3, [0, 1, 2]⟩]⟩], ⟨6, 1, (some ⟨gc, 0, none⟩), 5, exZ.cells⟩, rfl, rfl, rfl, rfl, ?_, ?_, ?_, ?_⟩
    · refine ⟨Rd.blk (cs := #[.slice (some ⟨r5, 0, none⟩) 3 3, .slice (some ⟨r6, 0, none⟩) 3 3, .slice (some ⟨r7, 0, none⟩) 3 3]) (t := 24) (fr := (0, 0)) zm, fun r hr => ?_, Rd.blk (cs := #[.int .i64 0, .int .i64 1, .int .i64 1, .int .i64 1, .int .i64 0, .int .i64 0, .int .i64 1, .int .i64 2, .int .i64 1, .int .i64 2, .int .i64 1, .int .i64 0]) (t := 172) (fr := (0, 0)) zm, Rd.blk (cs := #[.int .i64 9, .int .i64 9, .int .i64 9, .int .i64 9]) (t := 3) (fr := (0, 0)) zm, by show 3 ≤ _; omega, fun r hr => ?_, by show 4 ≤ _; omega, by show 4 ≤ _; omega⟩
      · simp only [List.mem_cons, List.not_mem_nil, or_false] at hr
        rcases hr with rfl | rfl | rfl
        · exact Rd.blk (cs := #[.int .i64 0, .int .i64 9, .int .i64 9]) (t := 3) (fr := (0, 0)) zm
        · exact Rd.blk (cs := #[.int .i64 9, .int .i64 0, .int .i64 9]) (t := 3) (fr := (0, 0)) zm
        · exact Rd.blk (cs := #[.int .i64 9, .int .i64 9, .int .i64 0]) (t := 3) (fr := (0, 0)) zm
      · simp only [List.mem_cons, List.not_mem_nil, or_false] at hr
        rcases hr with rfl | rfl | rfl <;> (show 3 ≤ _; omega)
    · refine ⟨Rd.blk (cs := #[.int .i64 3, .int .i64 0, .int .i64 2, .int .i64 6, .int .i64 0, .int .i64 6, .slice (some ⟨gr, 0, none⟩) 1 1]) (t := 70) (fr := (0, 0)) zm, fun x hx => ?_, by show 1 ≤ _; omega⟩
      obtain rfl := List.mem_singleton.1 hx
      refine ⟨Rd.blk (cs := #[.slice (some ⟨gi, 0, none⟩) 3 3]) (t := 72) (fr := (0, 0)) zm, fun r hr => ?_, by show 1 ≤ _; omega, fun r hr => ?_⟩
      · obtain rfl := List.mem_singleton.1 hr
        exact Rd.blk (cs := #[.int .i64 0, .int .i64 1, .int .i64 2]) (t := 3) (fr := (0, 0)) zm
      · obtain rfl := List.mem_singleton.1 hr
        exact ⟨by show 3 ≤ _; omega, by show 3 ≤ 3; omega⟩
    · exact Rd.blk (cs := #[.int .i64 0, .int .i64 0, .int .i64 0, .int .i64 1, .int .i64 3, .int .i64 1, .int .i64 0, .int .i64 1, .int .i64 2, .int .i64 3, .int .i64 2, .int .i64 0, .int .i64 0, .int .i64 1, .int .i64 3, .int .i64 3, .int .i64 0, .int .i64 1, .int .i64 2, .int .i64 3, .int .i64 4, .int .i64 0, .int .i64 1, .int .i64 2, .int .i64 3]) (t := 40) (fr := (0, 0)) zm
    · exact zk)
open Go.RowKit Go.Eng Go.Nw Go.Rt
def exK : Clm := ⟨3, [[0, 1, 2]], [5], [0], [[0, 2, 3, 4]]⟩
theorem Yeh : UD exN8 exQ exZ = ([exK], (-1, 0)) := by decide
theorem Yaz : Zg [exK] = true := by decide
theorem Ygd : bndE [exK] 3 = (5, true) := by decide
def O8 : List UInt8 := [102, 108, 111, 119, 32, 51, 10, 114, 111, 117, 116, 101, 32, 48, 32, 49, 32, 50, 10, 98, 111, 117, 110, 100, 32, 53, 32, 48, 10, 115, 108, 111, 116, 115, 32, 48, 32, 50, 32, 51, 32, 52, 10]
theorem YaA : W7 [exK] = O8 := by
  have h0 : Lib.itoa 0 = [48] := JM (by omega)
  have h1 : Lib.itoa 1 = [49] := JM (by omega)
  have h2 : Lib.itoa 2 = [50] := JM (by omega)
  have h3 : Lib.itoa 3 = [51] := JM (by omega)
  have h4 : Lib.itoa 4 = [52] := JM (by omega)
  have h5 : Lib.itoa 5 = [53] := JM (by omega)
  unfold W7 Zh exK
  simp only [List.flatMap_cons, List.flatMap_nil, List.length_cons, List.length_nil, show List.range (0 + 1) = [0] from rfl]
  unfold YcY Yw rtAt
  simp [h0, h1, h2, h3, h4, h5, O8, wordF, wordR, wordB, wordL]
set_option maxRecDepth 10000 in
set_option maxHeartbeats 4000000 in
theorem Yc9 {B : Nat} {w0 : World} {H : List HP} {w : World} (ht : TabsB B w0) (hw : St B w0 H w) :
    Calls Tryz.prog 17 [].toArray w (Post B w0 fun v K => v = .bool true ∧ K = H) := by
  refine Yd Tryz.func17 Tryz.ntmps17 rfl rfl hw ?_
  have hpr : XE [exK] = (O8, 0) := by unfold XE; rw [Yaz, if_neg (by decide), YaA]
  have hpa : ZF O8 = ([exK], (-1, 0)) := by rw [← YaA]; exact YbB Yaz
  repeat' (first | apply (zs2 ?_) | apply (zs65 ?_) | apply (zs68 ?_) | apply (zs69 ?_) | apply (zs70 ?_) | fail)
  apply Yo _ en65
  exact za
  exact rfl
  exact fun _ hw => (Yds (hw))
  rintro _ K0 ⟨n, A, cap, q, s, rfl, hn, hq, hs, hin, hqin, hrs, hback⟩
  have hsl : s.cells.length ≤ 1000000000000 := by
    have h1 : s.sch.cells.length = 5 := by rw [hs]; rfl
    have h2 : s.cells.length = 5 := h1
    omega
  have p1 : ∀ {H' : List HP} {w : World}, n.In B w0 H' → QIn B w0 H' A q → Rd B w0 H' s.A (s.cells.flatMap celF) → St B w0 H' w → Calls Tryz.prog 19 [n.val, .slice A q.length cap, s.val].toArray w (Post B w0 (OutC H' ([exK], (-1, 0)))) := fun hin hqin hrs hw => by
    have h := YaP n q s (cap := cap) ht hin hqin hrs hsl hw
    rw [hn, hq, hs, Yeh] at h
    exact h
  have hchk : chkE exN8 exQ exZ [exK] = (-1, 0) := by unfold chkE; rw [Yeh]; decide
  unfold NetM.val SchM.val
  unfold NetM.val SchM.val at p1
  repeat' (first | apply (zs1 ?_) | apply (zs2 ?_) | (apply zg3; refine zs8 ?_) | apply (zs13 ?_) | (apply zg22; refine zs51 ?_) | (apply zg24; (refine zs54 ?_; intro _)) | apply (zs65 ?_) | apply (zs68 ?_) | apply (zs69 ?_) | apply (zs70 ?_) | fail)
  apply Yo _ en19
  exact za
  exact rfl
  exact fun _ hw => (p1 (hin.mono zk) (hqin.mono zk) (hrs.mono zk) (hw))
  rintro _ _ ⟨A2, cap2, C, rfl, hC, hCl, rfl⟩
  have hC : C.map ClM.clm = [exK] := hC
  have hCn : C.length = 1 := by have := congrArg List.length hC; rwa [List.length_map] at this
  have hcin : ∀ {H' : List HP}, clsP A2 cap2 C ∈ H' → many (C.map clQ) ∈ H' → CIn B w0 H' A2 C := fun h1 h2 => ⟨.sl h1, fun x hx => VE h2 hx (hCl x hx), by omega⟩
  have p2 : ∀ {H' : List HP} {w : World}, CIn B w0 H' A2 C → St B w0 H' w → Calls Tryz.prog 25 [.slice A2 C.length cap2].toArray w (Post B w0 fun v K => v = .tuple #[strV O8, .int .i64 0] ∧ K = H') := fun hc hw => by
    have h := WI C (cap := cap2) ht hc hw
    rw [hC, hpr] at h
    exact h
  have p3 : ∀ {H' : List HP} {w : World}, n.In B w0 H' → QIn B w0 H' A q → Rd B w0 H' s.A (s.cells.flatMap celF) → CIn B w0 H' A2 C → St B w0 H' w → Calls Tryz.prog 23 [n.val, .slice A q.length cap, s.val, .slice A2 C.length cap2].toArray w (Post B w0 fun v K => v = .tuple #[.int .i64 (-1), .int .i64 0] ∧ K = H') := fun hin hqin hrs hc hw => by
    have h := Ybn n q s C (cap := cap) (cap1 := cap2) ht hin hqin hrs hsl hc hw
    rw [hn, hq, hs, hC, hchk] at h
    exact h
  have p4 : ∀ {H' : List HP} {w : World}, St B w0 H' w → Calls Tryz.prog 27 [strV O8].toArray w (Post B w0 (OutC H' ([exK], (-1, 0)))) := fun hw => by
    have h := WH O8 (by decide) ht hw
    rw [hpa] at h
    exact h
  have p5 : ∀ {H' : List HP} {w : World}, CIn B w0 H' A2 C → St B w0 H' w → Calls Tryz.prog 37 [.slice A2 C.length cap2, .int .i64 3].toArray w (Post B w0 fun v K => v = .tuple #[.int .i64 5, .bool true] ∧ K = H') := fun hc hw => by
    have h := Ycf C 3 (cap := cap2) hc hw
    rw [hC, Ygd] at h
    exact h
  unfold NetM.val SchM.val at p3
  repeat' (first | apply (zs1 ?_) | apply (zs2 ?_) | apply (zs13 ?_) | apply (zs65 ?_) | apply (zs68 ?_) | apply (zs69 ?_) | apply (zs70 ?_) | fail)
  first | apply Ya en25 | apply Yb en25
  exact za
  exact rfl
  exact fun _ hw => (p2 (hcin zm zm) hw)
  repeat' (first | apply (zs1 ?_) | apply (zs2 ?_) | (apply zg3; refine zs8 ?_) | apply (zs13 ?_) | apply (zs65 ?_) | apply (zs68 ?_) | apply (zs69 ?_) | apply (zs70 ?_) | fail)
  first | apply Ya en23 | apply Yb en23
  exact za
  exact rfl
  exact fun _ hw => (p3 (hin.mono zk) (hqin.mono zk) (hrs.mono zk) (hcin zm zm) hw)
  repeat' (first | apply (zs1 ?_) | apply (zs2 ?_) | apply (zs13 ?_) | apply (zs65 ?_) | apply (zs68 ?_) | apply (zs69 ?_) | apply (zs70 ?_) | fail)
  apply Yo _ en27
  exact za
  exact rfl
  exact fun _ hw => (p4 (hw))
  rintro _ _ ⟨A3, cap3, C3, rfl, hC3, hCl3, rfl⟩
  have hC3 : C3.map ClM.clm = [exK] := hC3
  have hCn3 : C3.length = 1 := by have := congrArg List.length hC3; rwa [List.length_map] at this
  have hcin3 : ∀ {H' : List HP}, clsP A3 cap3 C3 ∈ H' → many (C3.map clQ) ∈ H' → CIn B w0 H' A3 C3 := fun h1 h2 => ⟨.sl h1, fun x hx => VE h2 hx (hCl3 x hx), by omega⟩
  have p6 : ∀ {H' : List HP} {w : World}, CIn B w0 H' A2 C → CIn B w0 H' A3 C3 → St B w0 H' w → Calls Tryz.prog 21 [.slice A2 C.length cap2, .slice A3 C3.length cap3].toArray w (Post B w0 fun v K => v = .bool true ∧ K = H') := fun hc hd hw => by
    have h := VJ C C3 (cap := cap2) (cap2 := cap3) hc hd hw
    rw [hC, hC3, decide_eq_true rfl] at h
    exact h
  dsimp only
  repeat' (first | apply (zs1 ?_) | apply (zs2 ?_) | apply (zs13 ?_) | apply (zs65 ?_) | apply (zs68 ?_) | apply (zs69 ?_) | apply (zs70 ?_) | fail)
  first | apply Ya en37 | apply Yb en37
  exact za
  exact rfl
  exact fun _ hw => (p5 (hcin zm zm) hw)
  repeat' (first | (apply YdY; exact rfl; exact rfl; exact rfl; all_goals (intro hE; try (exact absurd rfl hE))) | apply (zs1 ?_) | apply (zs2 ?_) | (apply zg1; refine zs4 ?_) | (apply zg6; refine zs11 ?_) | apply (zs13 ?_) | (apply zg7; (refine zs15 ?_ ?_ <;> intro _ <;> try (exfalso; omega))) | apply (zs65 ?_) | apply (zs68 ?_) | apply (zs69 ?_) | apply (zs70 ?_) | fail)
  first | apply Ya en21 | apply Yb en21
  exact za
  exact rfl
  exact fun _ hw => (p6 (hcin zm zm) (hcin3 zm zm) hw)
  repeat' (first | apply (zs1 ?_) | apply (zs2 ?_) | (apply zg1; refine zs4 ?_) | (apply zg6; refine zs11 ?_) | (apply zg7; (refine zs15 ?_ ?_ <;> intro _ <;> try (exfalso; omega))) | apply (zs65 ?_) | apply (zs68 ?_) | apply (zs74 ?_) | fail)
  apply Yi H
  · intro w hw
    refine hback w ?_
    revert w
    exact zk
  apply Yc; exact rfl; exact rfl
  exact ⟨rfl, rfl⟩
open Go.RowKit Go.Eng Go.Nw Go.Rt
theorem Ye4 (text : List UInt8) : (ZF text).1.length ≤ text.length + 1 := by
  have hc := Xw (c := 10) text
  unfold ZF Zu
  split
  · exact Nat.zero_le _
  · split
    · exact Nat.zero_le _
    · split
      · exact Nat.zero_le _
      · unfold Jd
        cases hp : Xt (cutC 10 text) ((cutC 10 text).length - 1) with
        | none => exact Nat.zero_le _
        | some p =>
          have := (Qy hp).2
          show p.c.length ≤ _
          omega
open Go.RowKit Go.Eng Go.Nw Go.Rt
set_option maxRecDepth 10000 in
set_option maxHeartbeats 4000000 in
theorem YhY (c : List ClM) (text : List UInt8) {A : Option Addr} {cap B : Nat} {w0 : World} {H : List HP} {w : World} (ht : TabsB B w0) (hcb : CBg B w0 H A c) (hw : St B w0 H w) :
    Calls Tryz.prog 6 [.slice A c.length cap, strV text].toArray w (Post B w0 fun v K => v = .bool true ∧ K = H) := by
  have hs : (⟨text.toArray⟩ : ByteArray).size = text.length := by simp [ByteArray.size]
  refine Yd Tryz.func6 Tryz.ntmps6 rfl rfl hw ?_
  have p0 := fun {H' : List HP} {w : World} (hc : CBg B w0 H' A c) (hw : St B w0 H' w) => Qa c (cap := cap) hc hw
  repeat' (first | apply (zs2 ?_) | apply (zs65 ?_) | apply (zs68 ?_) | apply (zs69 ?_) | apply (zs70 ?_) | fail)
  first | apply Ya en17 | apply Yb en17
  exact za
  exact rfl
  exact fun _ hw => (Yc9 ht hw)
  repeat' (first | apply (zs1 ?_) | (apply zg20; refine zs47 ?_) | apply (zs65 ?_) | apply (zs68 ?_) | apply (zs69 ?_) | apply (zs70 ?_) | (apply zg27; refine zs72 ?_) | apply (zs76 ?_) | fail)
  apply Yo _ en22
  exact za
  exact rfl
  exact fun _ hw => (p0 hcb (hw))
  rintro _ _ ⟨⟨b, rfl, hfew⟩, hK0⟩
  rw [hK0]
  cases b with
  | false =>
    repeat' (first | apply (zs1 ?_) | apply (zs2 ?_) | (apply zg1; refine zs3 ?_) | (apply zg6; refine zs11 ?_) | (apply zg20; refine zs48 ?_) | apply (zs65 ?_) | apply (zs68 ?_) | apply (zs69 ?_) | apply (zs70 ?_) | (apply zg27; refine zs71 ?_) | apply (zs74 ?_) | apply (zs77 ?_) | fail)
    apply Yc; exact rfl; exact rfl; exact ⟨rfl, rfl⟩
  | true =>
  have hc := hcb.small (hfew rfl)
  by_cases hg2 : 2000 < text.length
  · repeat' (first | apply (zs1 ?_) | apply (zs2 ?_) | (apply zg1; refine zs4 ?_) | (apply zg4; refine zs14 ?_) | (apply zg6; refine zs12 ?_) | (apply (zs19 ?_ ?_) <;> intro _ <;> try (exfalso; omega)) | (apply zg20; refine zs47 ?_) | apply (zs65 ?_) | apply (zs68 ?_) | apply (zs69 ?_) | apply (zs70 ?_) | (apply zg27; refine zs71 ?_) | apply (zs74 ?_) | apply (zs77 ?_) | fail)
    apply Yc; exact rfl; exact rfl; exact ⟨rfl, rfl⟩
  obtain ⟨⟨pc, pi, pe⟩, hR⟩ : ∃ R, ZF text = R := ⟨_, rfl⟩
  have hpn := Ye4 text
  rw [hR] at hpn
  dsimp only at hpn
  obtain ⟨⟨tx, te⟩, hT⟩ : ∃ R, XE (c.map ClM.clm) = R := ⟨_, rfl⟩
  have p1 : ∀ {H' : List HP} {w : World}, CIn B w0 H' A c → St B w0 H' w → Calls Tryz.prog 25 [.slice A c.length cap].toArray w (Post B w0 fun v K => v = .tuple #[strV tx, .int .i64 te] ∧ K = H') := fun hc hw => by
    have h := WI c (cap := cap) ht hc hw
    rw [hT] at h
    exact h
  have p2 : ∀ {H' : List HP} {w : World}, CIn B w0 H' A c → St B w0 H' w → Calls Tryz.prog 26 [.slice A c.length cap].toArray w (Post B w0 fun v K => v = .tuple #[strV tx, .int .i64 te] ∧ K = H') := fun hc hw => by
    have h := Yac c (cap := cap) hc hw
    rw [hT] at h
    exact h
  have p3 : ∀ {H' : List HP} {w : World}, St B w0 H' w → Calls Tryz.prog 27 [strV text].toArray w (Post B w0 (OutC H' (pc, (pi, pe)))) := fun hw => by
    have h := WH text (by omega) ht hw
    rw [hR] at h
    exact h
  have p4 : ∀ {H' : List HP} {w : World}, St B w0 H' w → Calls Tryz.prog 28 [strV text].toArray w (Post B w0 (OutC H' (pc, (pi, pe)))) := fun hw => by
    have h := Yab text (by omega) hw
    rw [hR] at h
    exact h
  repeat' (first | apply (zs1 ?_) | (apply zg1; refine zs4 ?_) | (apply zg4; refine zs14 ?_) | (apply zg6; refine zs12 ?_) | (apply (zs19 ?_ ?_) <;> intro _ <;> try (exfalso; omega)) | (apply zg20; refine zs47 ?_) | apply (zs65 ?_) | apply (zs68 ?_) | apply (zs69 ?_) | apply (zs70 ?_) | (apply zg27; refine zs72 ?_) | apply (zs76 ?_) | fail)
  first | apply Ya en25 | apply Yb en25
  exact za
  exact rfl
  exact fun _ hw => (p1 hc hw)
  repeat' (first | apply (zs1 ?_) | apply (zs2 ?_) | apply (zs13 ?_) | apply (zs65 ?_) | apply (zs68 ?_) | apply (zs69 ?_) | apply (zs70 ?_) | fail)
  first | apply Ya en26 | apply Yb en26
  exact za
  exact rfl
  exact fun _ hw => (p2 hc hw)
  repeat' (first | apply (zs1 ?_) | apply (zs2 ?_) | apply (zs13 ?_) | apply (zs65 ?_) | apply (zs68 ?_) | apply (zs69 ?_) | apply (zs70 ?_) | fail)
  apply Yo _ en27
  exact za
  exact rfl
  exact fun _ hw => (p3 (hw))
  rintro _ _ ⟨A4, cap4, C4, rfl, hC4, hCl4, rfl⟩
  have hC4 : C4.map ClM.clm = pc := hC4
  have hCn4 : C4.length ≤ 1000000 := by have := congrArg List.length hC4; rw [List.length_map] at this; omega
  repeat' (first | apply (zs1 ?_) | apply (zs2 ?_) | apply (zs13 ?_) | apply (zs65 ?_) | apply (zs68 ?_) | apply (zs69 ?_) | apply (zs70 ?_) | fail)
  apply Yo _ en28
  exact za
  exact rfl
  exact fun _ hw => (p4 (hw))
  rintro _ _ ⟨A5, cap5, C5, rfl, hC5, hCl5, rfl⟩
  have hC5 : C5.map ClM.clm = pc := hC5
  have hCn5 : C5.length ≤ 1000000 := by have := congrArg List.length hC5; rw [List.length_map] at this; omega
  have hcin4 : ∀ {H' : List HP}, clsP A4 cap4 C4 ∈ H' → many (C4.map clQ) ∈ H' → CIn B w0 H' A4 C4 := fun h1 h2 => ⟨.sl h1, fun x hx => VE h2 hx (hCl4 x hx), by omega⟩
  have hcin5 : ∀ {H' : List HP}, clsP A5 cap5 C5 ∈ H' → many (C5.map clQ) ∈ H' → CIn B w0 H' A5 C5 := fun h1 h2 => ⟨.sl h1, fun x hx => VE h2 hx (hCl5 x hx), by omega⟩
  have p6 : ∀ {H' : List HP} {w : World}, CIn B w0 H' A4 C4 → CIn B w0 H' A5 C5 → St B w0 H' w → Calls Tryz.prog 21 [.slice A4 C4.length cap4, .slice A5 C5.length cap5].toArray w (Post B w0 fun v K => v = .bool true ∧ K = H') := fun hc hd hw => by
    have h := VJ C4 C5 (cap := cap4) (cap2 := cap5) hc hd hw
    rw [hC4, hC5, decide_eq_true rfl] at h
    exact h
  dsimp only
  repeat' (first | (apply YdY; exact rfl; exact rfl; exact rfl; all_goals (intro hE; try (exact absurd rfl hE))) | apply (zs1 ?_) | apply (zs2 ?_) | (apply zg1; refine zs4 ?_) | (apply zg6; refine zs11 ?_) | apply (zs13 ?_) | (apply zg7; (refine zs15 ?_ ?_ <;> intro _ <;> try (exfalso; omega))) | apply (zs65 ?_) | apply (zs68 ?_) | apply (zs69 ?_) | apply (zs70 ?_) | fail)
  first | apply Ya en21 | apply Yb en21
  exact za
  exact rfl
  exact fun _ hw => (p6 (hcin4 zm zm) (hcin5 zm zm) hw)
  repeat' (first | apply (zs1 ?_) | apply (zs2 ?_) | (apply zg1; refine zs4 ?_) | (apply zg6; refine zs11 ?_) | (apply zg7; (refine zs15 ?_ ?_ <;> intro _ <;> try (exfalso; omega))) | apply (zs65 ?_) | apply (zs68 ?_) | apply (zs74 ?_) | fail)
  apply Yi H
  · exact zk
  apply Yc; exact rfl; exact rfl; exact ⟨rfl, rfl⟩
open Go.ChangeShapes Go.WideShapes Go.ChangeAt Go.RowKit Go.Eng
section
variable {H : Type} {enc : TypeId × Value → H}
theorem Yei {a : Assume} {C : Checked} {os : Os} {f : FuncId} {fn : Func} {s : ChangeSpec} {conds : List PathCond} {apart fresh handsOn again : Bool} {X : World → Prop} (hX : ∀ w w' : World, w.heap = w'.heap → X w → X w')
    (own : ownKnob C.prog.godebug = none) (started : os.Started) (noInit : C.prog.inits.idxOf? f = none) (hfn : C.prog.funcs[f]? = some fn)
    (witness : ∃ (w : World) (tape : Tape) (i : Input), w.os = os ∧ (w.forCall tape i).Shaped C.prog ∧ i.vars = [] ∧ Input.okWide C.prog (w.forCall tape i) .any w.heap.size f i ∧
      ((s.pre enc C.prog fn conds apart (w.forCall tape i).memory i.args ∧ X (w.forCall tape i).memory) ∧ sizedMet enc C.prog fn (OpenSpec.ofChange s) apart (w.forCall tape i).memory i.args) ∧ a.holds C.prog (lone (Frame.enter C.prog f i.args .normal) [] (w.forCall tape i)))
    (contract : ∀ (W : World) (base : Nat) (args : Array Value) (ds gs : List (DataW H)) (before : List MemPlace),
      (∀ (j : Nat) t v, fn.params[j]? = some t → args[j]? = some v → Value.okWide C.prog W .any base t v) →
      DataW.Whole enc C.prog fn.params.toList s.vars apart W args.toList ds gs before → X W → W.ShapedOpen C.prog →
      Calls C.prog f args W fun e W' => ∃ v, e = .returned v ∧ s.post enc C.prog fn apart fresh handsOn again W args v W') :
    ReturnsInHanded a C os f .any (fun w args => (s.pre enc C.prog fn conds apart w args ∧ X w) ∧ sizedMet enc C.prog fn (OpenSpec.ofChange s) apart w args) (s.post enc C.prog fn apart fresh handsOn again) := by
  refine returnsInHanded_of_calls own started noInit witness ?_
  intro w tape i _ hsh _ hok hpre _
  obtain ⟨_, _, _, fn', hfn', _, _, _, _, hval⟩ := hok
  have e : fn' = fn := Option.some.inj (hfn'.symm.trans hfn)
  subst e
  obtain ⟨⟨⟨ds, gs, before, hw, _⟩, hx⟩, _⟩ := hpre
  have hw' := DataW.Whole.of_heap (w' := w.forCall tape i) (by rfl) hw
  refine (contract (w.forCall tape i) w.heap.size i.args ds gs before hval hw' (hX _ _ (by rfl) hx) hsh).mono fun e W' ⟨v, he, hp⟩ => ?_
  subst he
  exact ChangeSpec.post_blind hp
end
def Qp : List (String × DataW Unit) := [("math/bits.deBruijn32tab", Rows.laid_math_bits_deBruijn32tab), ("math/bits.deBruijn64tab", Rows.laid_math_bits_deBruijn64tab), ("internal/strconv.uint64pow10", Rows.laid_internal_strconv_uint64pow10), ("unicode/utf8.acceptRanges", Rows.laid_unicode_utf8_acceptRanges), ("strconv.ErrRange", Rows.laid_strconv_ErrRange), ("strconv.ErrSyntax", Rows.laid_strconv_ErrSyntax), ("unicode/utf8.first", Rows.laid_unicode_utf8_first)]
def litV : DataW Unit → Value
  | .lit (.int k z) => .int k z
  | _ => .bool false
def YiZ : DataW Unit → List Value
  | .agg l => l.map litV
  | _ => []
noncomputable def YaK (os : Os) : World :=
  let w0 := World.doorLaid Tryz.prog 72 os
  { w0 with heap := w0.heap.modify ((Tryz.prog.globalNamed "unicode/utf8.first").getD 0) fun
      | .cells _ t frozen => .cells (YiZ Go.Pinned.utf8First).toArray t frozen
      | o => o }
theorem WW (w : World) : laidMetH Tryz.prog Qp w = laidMet Tryz.prog Qp w := MakeChecks.laidMetH_plain _ _ _ (by kernel_rfl)
theorem YgV (os : Os) (args : Array Value) : laidMetH Tryz.prog Qp ((YaK os).forCall (fun _ _ => 0) ⟨#[], args, []⟩).memory := by
  rw [WW]
  exact laidMet_of_run3 8 (by kernel_rfl) (by kernel_rfl) (by kernel_rfl)
theorem YeW (os : Os) (args : Array Value) : ((YaK os).forCall (fun _ _ => 0) ⟨#[], args, []⟩).Shaped Tryz.prog := World.shaped_of_RefB (by kernel_rfl) (by kernel_rfl)
theorem Wx {W w : World} {n : String} {cs : Array Value} (h : W.var? Tryz.prog n = some cs) (hb : Below W.heap.size W w) : w.var? Tryz.prog n = some cs := by
  unfold World.var? at h ⊢
  cases hg : Tryz.prog.globalNamed n with
  | none => rw [hg] at h; cases h
  | some g =>
    rw [hg] at h
    simp only [Option.bind_some] at h ⊢
    rcases Nat.lt_or_ge g W.heap.size with hlt | hge
    · rw [hb.block g hlt]; exact h
    · rw [Array.getElem?_eq_none hge] at h; cases h
theorem Ycq {W : World} {n : String} {s : String} {d : DataW Unit} (hT : (Tryz.prog.globalNamed n).bind (fun g => (Tryz.prog.globals[g]?).map (·.type)) = some 134) (h : Lib.VarReads Tryz.prog W n (.iface s d)) : ∃ tp p, W.var? Tryz.prog n = some #[.iface tp p] := by
  obtain ⟨g, t, cs, fuel, p, h1, h2, h3, h4⟩ := h
  rw [h1] at hT
  obtain rfl : t = 134 := Option.some.inj (h2.symm.trans hT)
  obtain ⟨_, u, v, e, _⟩ := iface_of_trod Tryz.underlying134 h4
  refine ⟨u, v, ?_⟩
  rw [h3, Array.eq_one_of_toList e]
theorem tabs_of {W : World} (hL : laidMetH Tryz.prog Qp W) (hsh : W.ShapedOpen Tryz.prog) : TabsB W.heap.size W := by
  rw [WW] at hL
  have hpow : Lib.TabIs Tryz.prog W "internal/strconv.uint64pow10" .u64 Lib.pow10Tab := by
    obtain ⟨g, t, cs, fuel, p, h1, h2, h3, h4⟩ := Lib.laidMet.reads hL (n := "internal/strconv.uint64pow10") (d := Rows.laid_internal_strconv_uint64pow10) (by unfold Qp; simp)
    have hT : (Tryz.prog.globalNamed "internal/strconv.uint64pow10").bind (fun g => (Tryz.prog.globals[g]?).map (·.type)) = some 334 := by kernel_rfl
    rw [h1] at hT
    obtain rfl : t = 334 := Option.some.inj (h2.symm.trans hT)
    have h5 : Rows.laid_internal_strconv_uint64pow10 (H := Unit) = Lib.tabData .u64 Lib.pow10Tab := by kernel_rfl
    rw [h5] at h4
    have h6 := Lib.cells_of_tab Tryz.underlying334 Tryz.underlying277 (by kernel_rfl) (by kernel_rfl) h4
    unfold Lib.TabIs
    rw [h3, ← h6]
  obtain ⟨tp1, p1, hsy⟩ := Ycq (n := "strconv.ErrSyntax") (by kernel_rfl) (Lib.laidMet.reads hL (n := "strconv.ErrSyntax") (d := Rows.laid_strconv_ErrSyntax) (by unfold Qp; simp))
  obtain ⟨tp2, p2, hrg⟩ := Ycq (n := "strconv.ErrRange") (by kernel_rfl) (Lib.laidMet.reads hL (n := "strconv.ErrRange") (d := Rows.laid_strconv_ErrRange) (by unfold Qp; simp))
  obtain ⟨m, hm⟩ := Go.Proofs.cell_of_shapedOpen_int (P := Tryz.prog) (g := 0) (k := .i64) (zero := #[.int .i64 0]) (t := 3) hsh (of_decide_eq_true (by kernel_rfl)) (by kernel_rfl) rfl (by kernel_rfl) (by kernel_rfl) Tryz.underlying3
  intro w hb
  refine ⟨Wx hpow hb, ⟨tp1, p1, Wx hsy hb⟩, ⟨tp2, p2, Wx hrg hb⟩, m, ?_⟩
  have hlt : 0 < W.heap.size := by
    rcases Nat.eq_zero_or_pos W.heap.size with h | h
    · simp [World.cell?, Array.getElem?_eq_none (show W.heap.size ≤ 0 by omega)] at hm
    · exact h
  exact (hb.cell (p := ⟨0, 0, none⟩) hlt).trans hm
theorem Tryz.own : ownKnob Tryz.prog.godebug = none := by kernel_rfl
theorem Tryz.laidOut : laidOutB Tryz.prog = true := by kernel_rfl
end Go.Proofs.YtmalhidldgfeoaaGreatDoor
