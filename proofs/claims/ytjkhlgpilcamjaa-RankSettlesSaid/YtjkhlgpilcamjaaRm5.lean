/- Ranks of chapter 22, plain: the root's epoch is the latest; a line whose nodes hear one after the other settles. -/
import Derived.Test.YtjkhlgpilcamjaaRm3
namespace Go.Rm

theorem update_epoch {r : Rk} {ep rk c : Int} (h : (updateR r ep rk c).2 = 0) : (updateR r ep rk c).1.epoch = r.epoch ∨ ((updateR r ep rk c).1.epoch = ep ∧ r.epoch ≤ ep) := by
  unfold updateR at *
  by_cases h1 : checkR r ≠ 0
  · rw [if_pos h1] at h; exact absurd h (by simp)
  rw [if_neg h1] at h ⊢
  by_cases h2 : ¬ ((1 ≤ ep ∧ ep ≤ 65535 ∧ 0 ≤ rk ∧ rk ≤ 65534) ∧ 1 ≤ c ∧ c ≤ 1023)
  · rw [if_pos h2] at h; exact absurd h (by simp)
  rw [if_neg h2] at h ⊢
  by_cases h3 : r.parent = -1
  · rw [if_pos h3] at h; exact absurd h (by simp)
  rw [if_neg h3] at h ⊢
  have hc := Classical.not_not.1 h1
  by_cases h4 : ep < r.epoch
  · rw [if_pos h4]; exact .inl rfl
  rw [if_neg h4] at h ⊢
  by_cases h5 : (adoptR r r.parent ep rk c).2 = 0
  · rw [if_pos h5]; exact .inr ⟨(adopt_ok h5).2.2.1, by omega⟩
  · rw [if_neg h5]
    have h8 := (check_iff.1 hc).right
    obtain ⟨b1, _⟩ := begin_ok hc (ep := ep) (by omega) (.inr (by omega))
    obtain ⟨_, _, l3, _⟩ := lose_ok b1
    simp only
    rw [l3]
    unfold beginR
    by_cases hl : r.epoch < ep
    · rw [if_pos hl]; exact .inr ⟨rfl, by omega⟩
    · rw [if_neg hl]; exact .inl rfl
theorem hear_epoch {n : Nat} {st : List Rk} {r : Rk} (hc : checkR r = 0) {a : Ad} (ha : AdOk n st a) {node c : Int} (hcost : 1 ≤ c ∧ c ≤ 1023) : (hearR r a node c).epoch = r.epoch ∨ ((hearR r a node c).epoch = a.2.1 ∧ r.epoch ≤ a.2.1) := by
  unfold hearR
  by_cases g1 : a.1 = node
  · rw [if_pos g1]; exact .inl rfl
  rw [if_neg g1]
  by_cases g2 : a.1 = r.parent
  · rw [if_pos g2]
    exact update_epoch (update_no hc (by have := ha.fr; omega) ha.ad hcost)
  rw [if_neg g2]
  by_cases g3 : (adoptR r a.1 a.2.1 a.2.2 c).2 = 0 ∧ (r.parent = -1 ∨ r.epoch < a.2.1 ∨ a.2.2 + c < r.rank)
  · rw [if_pos g3]
    obtain ⟨_, _, a3, _, _, _, a7, _⟩ := adopt_ok g3.1
    exact .inr ⟨a3, by unfold Later at a7; omega⟩
  · rw [if_neg g3]; exact .inl rfl
theorem advert_val {r : Rk} (hc : checkR r = 0) (hr : r.rank ≠ 65535) : advertiseR r = ({ r with least := if r.rank < r.least then r.rank else r.least }, r.epoch, r.rank, 0) := by
  unfold advertiseR
  rw [if_neg (Classical.not_not.2 hc), if_neg hr]
theorem advert_none {r : Rk} (hc : checkR r = 0) (hr : r.rank = 65535) : (advertiseR r).2.2.2 = 12 := by
  unfold advertiseR
  rw [if_neg (Classical.not_not.2 hc), if_pos hr]

/-- No epoch is later than the root's, and the root's counts the events. -/
structure Top (n : Nat) (k : Int) (s : List Rk × List Ad) : Prop where
  root : (stAt s.1 0).epoch ≤ 1 + k
  top : ∀ i : Int, 0 ≤ i → i < n → (stAt s.1 i).epoch ≤ (stAt s.1 0).epoch
  ads : ∀ a ∈ s.2, a.2.1 ≤ (stAt s.1 0).epoch

theorem top_set {n : Nat} {k : Int} {st : List Rk} {sd sd' : List Ad} (hl : st.length = n) (h : Top n k (st, sd)) {x : Int} (hx : 0 ≤ x ∧ x < n) {r : Rk}
    (h0 : x = 0 → (stAt st 0).epoch ≤ r.epoch ∧ r.epoch ≤ (stAt st 0).epoch + 1) (h1 : x ≠ 0 → r.epoch ≤ (stAt st 0).epoch) (ha : ∀ a ∈ sd', a ∈ sd ∨ a.2.1 ≤ (stAt st 0).epoch) : Top n (k + 1) (st.set x.toNat r, sd') := by
  have e0 : (stAt (st.set x.toNat r) 0).epoch = if x = 0 then r.epoch else (stAt st 0).epoch := by
    rw [stAt_set (by omega) (Int.le_refl 0)]
    by_cases e : x = 0
    · rw [if_pos e, if_pos e.symm]
    · rw [if_neg e, if_neg (fun h => e h.symm)]
  have hroot := h.root
  simp only at hroot
  have hle : (stAt st 0).epoch ≤ (stAt (st.set x.toNat r) 0).epoch ∧ (stAt (st.set x.toNat r) 0).epoch ≤ (stAt st 0).epoch + 1 := by
    rw [e0]
    by_cases e : x = 0
    · rw [if_pos e]; exact h0 e
    · rw [if_neg e]; omega
  refine ⟨by simp only; omega, fun i i0 i1 => ?_, fun a hm => ?_⟩
  · simp only
    rw [stAt_set (by omega) i0]
    by_cases e : i = x
    · rw [if_pos e]
      by_cases ex : x = 0
      · rw [e0, if_pos ex]; exact Int.le_refl _
      · have := h1 ex; omega
    · rw [if_neg e]
      have := h.top i i0 i1
      simp only at this
      omega
  · simp only
    rcases ha a hm with hm | hm
    · have := h.ads a hm
      simp only at this
      omega
    · omega
theorem top_same {n : Nat} {k : Int} {s : List Rk × List Ad} (h : Top n k s) : Top n (k + 1) s := ⟨by have := h.root; omega, h.top, h.ads⟩

theorem step_top {n : Nat} {k : Int} {s : List Rk × List Ad} (hi : Inv n s) (h : Top n k s) {x : Ev} (hx : evE n x = 0) : Top n (k + 1) (stepR s x) := by
  unfold evE at hx
  by_cases hk : x.kind < 1 ∨ 5 < x.kind
  · rw [if_pos hk] at hx; omega
  rw [if_neg hk] at hx
  by_cases hb : ¬ (0 ≤ x.node ∧ x.node ≤ (n : Int) - 1) ∨ (x.kind = 2 ∧ (x.which < 0 ∨ ¬ (1 ≤ x.cost ∧ x.cost ≤ 1023)))
  · rw [if_pos hb] at hx; omega
  have hn : 0 ≤ x.node ∧ x.node < n := by omega
  obtain ⟨st, sd⟩ := s
  obtain ⟨hc, hnode⟩ := hi.ok x.node hn.1 hn.2
  have hlen := hi.len
  have htop := h.top x.node hn.1 hn.2
  simp only at hc hnode hlen htop
  have same : ∀ {r : Rk} {sd' : List Ad}, r.epoch = (stAt st x.node).epoch → (∀ a ∈ sd', a ∈ sd ∨ a.2.1 ≤ (stAt st 0).epoch) → Top n (k + 1) (st.set x.node.toNat r, sd') := fun he ha => by
    refine top_set hlen h hn (fun e => ?_) (fun _ => by omega) ha
    rw [e] at he
    omega
  unfold stepR
  by_cases h1 : x.kind = 1
  · rw [if_pos h1]
    simp only
    by_cases h2 : (advertiseR (stAt st x.node)).2.2.2 = 0
    · rw [if_pos h2]
      have hrk : (stAt st x.node).rank ≠ 65535 := fun e => by rw [advert_none hc e] at h2; exact absurd h2 (by decide)
      rw [advert_val hc hrk]
      refine same rfl fun a ha => ?_
      rcases List.mem_append.1 ha with ha | ha
      · exact .inl ha
      · rw [List.mem_singleton.1 ha]; exact .inr htop
    · rw [if_neg h2]; exact top_same h
  rw [if_neg h1]
  by_cases h2 : x.kind = 2
  · rw [if_pos h2]
    simp only
    by_cases h3 : sd.length = 0
    · rw [if_pos h3]; exact top_same h
    rw [if_neg h3]
    have hm1 := Int.emod_nonneg x.which (show (sd.length : Int) ≠ 0 by omega)
    have hm2 := Int.emod_lt_of_pos x.which (show (0 : Int) < (sd.length : Int) by omega)
    have hmem : adAt sd x.which ∈ sd := by
      unfold adAt
      have hlt : (x.which % (sd.length : Int)).toNat < sd.length := by omega
      simp only [List.getD, List.getElem?_eq_getElem hlt, Option.getD_some]
      exact List.getElem_mem hlt
    have hao := hi.ads _ hmem
    have hta := h.ads _ hmem
    simp only at hao hta
    rcases hear_epoch (node := x.node) hc hao (show 1 ≤ x.cost ∧ x.cost ≤ 1023 by omega) with he | ⟨he, hle⟩
    · exact same he (fun a ha => .inl ha)
    · refine top_set hlen h hn (fun e => ?_) (fun _ => by omega) (fun a ha => .inl ha)
      rw [e] at hle he ⊢
      omega
  rw [if_neg h2]
  by_cases h5 : x.kind = 5
  · rw [if_pos h5]
    simp only
    by_cases h6 : (renewR (stAt st x.node)).2 = 0
    · rw [if_pos h6]
      unfold renewR at h6 ⊢
      rw [if_neg (Classical.not_not.2 hc)] at h6 ⊢
      by_cases g1 : (stAt st x.node).node ≠ 0
      · rw [if_pos g1] at h6; exact absurd h6 (by decide)
      rw [if_neg g1] at h6 ⊢
      by_cases g2 : (stAt st x.node).epoch = 65535
      · rw [if_pos g2] at h6; exact absurd h6 (by decide)
      rw [if_neg g2]
      have hx0 : x.node = 0 := by omega
      refine top_set hlen h hn (fun _ => ?_) (fun e => absurd hx0 e) (fun a ha => .inl ha)
      unfold beginR
      rw [if_pos (by omega), hx0]
      simp only
      omega
    · rw [if_neg h6]; exact top_same h
  · rw [if_neg h5]
    exact same (lose_ok hc).2.2.1 (fun a ha => .inl ha)

theorem start_top {n : Nat} (hn : 1 ≤ n ∧ n ≤ 32) : Top n 0 (startL n, []) := by
  have key : ∀ i : Int, 0 ≤ i → i < n → stAt (startL n) i = (startR i).1 := fun i h0 h1 => by
    unfold stAt startL
    simp only [List.getD]
    rw [List.getElem?_map, List.getElem?_range (by omega)]
    simp only [Option.map_some, Option.getD_some]
    rw [show ((i.toNat : Nat) : Int) = i by omega]
  have k0 : (stAt (startL n) 0).epoch = 1 := by
    rw [key 0 (Int.le_refl 0) (by omega)]
    decide
  refine ⟨by simp only; omega, fun i h0 h1 => ?_, fun a ha => by cases ha⟩
  simp only
  rw [k0, key i h0 h1]
  unfold startR
  rw [if_neg (by omega)]
  by_cases e : i = 0
  · rw [if_pos e]; exact Int.le_refl _
  · rw [if_neg e]; simp only; omega
theorem run_top {n : Nat} : ∀ {l : List Ev} {s : List Rk × List Ad} {k : Int}, Inv n s → Top n k s → (runR n s l).2 = 0 → Top n (k + l.length) (runR n s l).1
  | [], s, k, _, ht, _ => by
    have : k + (([] : List Ev).length : Int) = k := by simp
    rw [this]; exact ht
  | x :: l, s, k, h, ht, he => by
    unfold runR at he ⊢
    by_cases hx : evE n x ≠ 0
    · rw [if_pos hx] at he; exact absurd he hx
    · rw [if_neg hx] at he ⊢
      have := run_top (step_inv h (Classical.not_not.1 hx)) (step_top h ht (Classical.not_not.1 hx)) he
      rw [List.length_cons, show k + ((l.length + 1 : Nat) : Int) = k + 1 + l.length by omega]
      exact this
theorem run_append (n : Int) : ∀ (l m : List Ev) (s : List Rk × List Ad), (runR n s l).2 = 0 → runR n s (l ++ m) = runR n (runR n s l).1 m
  | [], _, _, _ => rfl
  | x :: l, m, s, he => by
    have e1 : ∀ l', runR n s (x :: l') = if evE n x ≠ 0 then (s, evE n x) else runR n (stepR s x) l' := fun l' => by rw [runR]
    rw [List.cons_append, e1, e1]
    rw [e1] at he
    by_cases hx : evE n x ≠ 0
    · rw [if_pos hx] at he; exact absurd he hx
    · rw [if_neg hx] at he ⊢
      rw [if_neg hx]
      exact run_append n l m _ he

/-- The line is settled up to node i: each has the one before as its parent, and the last has just advertised. -/
structure Line (n : Nat) (e : Int) (W : Nat → Int) (i : Nat) (s : List Rk × List Ad) : Prop where
  inv : Inv n s
  ep : 1 ≤ e ∧ e ≤ 65535
  last : ∃ sd, s.2 = sd ++ [((i : Int) - 1, e, W (i - 1))]
  past : ∀ j : Nat, j < i → (stAt s.1 j).rank = W j ∧ (stAt s.1 j).parent = (j : Int) - 1
  rest : ∀ j : Nat, i ≤ j → j < n → (stAt s.1 j).epoch < e

theorem last_ad {sd : List Ad} {a : Ad} : adAt (sd ++ [a]) (((sd ++ [a]).length : Int) - 1) = a := by
  unfold adAt
  have hl : (sd ++ [a]).length = sd.length + 1 := by simp
  rw [Int.emod_eq_of_lt (by omega) (by omega), hl, show (((sd.length + 1 : Nat) : Int) - 1).toNat = sd.length by omega]
  simp [List.getD]
theorem adopt_yes {r : Rk} (hc : checkR r = 0) {fr ep rk c : Int} (h : (0 ≤ fr ∧ fr ≤ 31) ∧ fr ≠ r.node ∧ (1 ≤ ep ∧ ep ≤ 65535 ∧ 0 ≤ rk ∧ rk ≤ 65534) ∧ 1 ≤ c ∧ c ≤ 1023) (hn : r.node ≠ 0) (he : r.epoch < ep) (hr : rk + c < 65535) : (adoptR r fr ep rk c).2 = 0 := by
  unfold adoptR
  rw [if_neg (Classical.not_not.2 hc), if_neg (Classical.not_not.2 h), if_neg (Classical.not_not.2 ⟨hc, hn, h.2.2.1, .inl he⟩), if_neg (by omega)]
theorem hear_adopts {r : Rk} (hc : checkR r = 0) {fr ep rk c node : Int} (h : (0 ≤ fr ∧ fr ≤ 31) ∧ fr ≠ r.node ∧ (1 ≤ ep ∧ ep ≤ 65535 ∧ 0 ≤ rk ∧ rk ≤ 65534) ∧ 1 ≤ c ∧ c ≤ 1023) (hn : r.node ≠ 0) (he : r.epoch < ep) (hr : rk + c < 65535) (hnode : r.node = node) :
    hearR r (fr, ep, rk) node c = (adoptR r fr ep rk c).1 := by
  have ha := adopt_yes hc h hn he hr
  unfold hearR
  rw [if_neg (by simp only; omega)]
  by_cases g2 : fr = r.parent
  · simp only
    rw [if_pos g2]
    subst g2
    unfold updateR
    rw [if_neg (Classical.not_not.2 hc), if_neg (Classical.not_not.2 ⟨h.2.2.1, h.2.2.2⟩), if_neg (by omega), if_neg (by omega), if_pos ha]
  · simp only
    rw [if_neg g2, if_pos ⟨ha, .inr (.inl he)⟩]

theorem evE_hear {n : Nat} {i : Nat} (hi : i < n) {w c : Int} (hw : 0 ≤ w) (hc : 1 ≤ c ∧ c ≤ 1023) : evE n ⟨2, i, w, c⟩ = 0 := by
  unfold evE
  rw [if_neg (by simp only; omega), if_neg (by simp only; omega)]
theorem evE_adv {n : Nat} {i : Nat} (hi : i < n) : evE n ⟨1, i, 0, 0⟩ = 0 := by
  unfold evE
  rw [if_neg (by simp only; omega), if_neg (by simp only; omega)]
theorem step_adv {st : List Rk} {sd : List Ad} {i : Int} (hc : checkR (stAt st i) = 0) (hr : (stAt st i).rank ≠ 65535) : stepR (st, sd) ⟨1, i, 0, 0⟩ = (st.set i.toNat { stAt st i with least := if (stAt st i).rank < (stAt st i).least then (stAt st i).rank else (stAt st i).least }, sd ++ [(i, (stAt st i).epoch, (stAt st i).rank)]) := by
  unfold stepR
  simp only
  rw [if_pos trivial, advert_val hc hr, if_pos rfl]
theorem step_hear {st : List Rk} {sd : List Ad} {a : Ad} {i c : Int} : stepR (st, sd ++ [a]) ⟨2, i, ((sd ++ [a]).length : Int) - 1, c⟩ = (st.set i.toNat (hearR (stAt st i) a i c), sd ++ [a]) := by
  unfold stepR
  simp only
  rw [if_neg (by decide), if_pos trivial, if_neg (by simp), last_ad]

theorem line_step {n : Nat} {e : Int} {W : Nat → Int} {i : Nat} {s : List Rk × List Ad} (h : Line n e W i s) (hi : 1 ≤ i ∧ i < n) (hn : n ≤ 32) {c : Int} (hc : 1 ≤ c ∧ c ≤ 1023) (hW : W i = W (i - 1) + c) (hw : 0 ≤ W (i - 1) ∧ W i ≤ 65534) :
    Line n e W (i + 1) (stepR (stepR s ⟨2, i, (s.2.length : Int) - 1, c⟩) ⟨1, i, 0, 0⟩) ∧ (stepR (stepR s ⟨2, i, (s.2.length : Int) - 1, c⟩) ⟨1, i, 0, 0⟩).2.length = s.2.length + 1 ∧ 1 ≤ s.2.length := by
  obtain ⟨st, sd0⟩ := s
  obtain ⟨sd, hsd⟩ := h.last
  simp only at hsd
  subst hsd
  have hep := h.ep
  obtain ⟨k1, k2⟩ := h.inv.ok i (by omega) (by omega)
  have hrest := h.rest i (Nat.le_refl i) hi.2
  have hlen := h.inv.len
  simp only at k1 k2 hrest hlen
  have ha := adopt_yes (r := stAt st i) (fr := (i : Int) - 1) (ep := e) (rk := W (i - 1)) (c := c) k1 ⟨by omega, by omega, by omega, hc⟩ (by omega) hrest (by omega)
  have hh := hear_adopts (r := stAt st i) (fr := (i : Int) - 1) (ep := e) (rk := W (i - 1)) (c := c) (node := i) k1 ⟨by omega, by omega, by omega, hc⟩ (by omega) hrest (by omega) k2
  obtain ⟨a1, a2, a3, a4, a5, a6, a7, a8, a9⟩ := adopt_ok ha
  have i1 := step_inv h.inv (evE_hear hi.2 (w := ((sd ++ [((i : Int) - 1, e, W (i - 1))]).length : Int) - 1) (by simp) hc)
  have i2 := step_inv i1 (evE_adv hi.2)
  have s1 : stepR (st, sd ++ [((i : Int) - 1, e, W (i - 1))]) ⟨2, i, ((sd ++ [((i : Int) - 1, e, W (i - 1))]).length : Int) - 1, c⟩ = (st.set (i : Int).toNat (adoptR (stAt st i) ((i : Int) - 1) e (W (i - 1)) c).1, sd ++ [((i : Int) - 1, e, W (i - 1))]) := by
    rw [step_hear, hh]
  simp only at i1 i2 ⊢
  rw [s1] at i1 i2 ⊢
  generalize (adoptR (stAt st i) ((i : Int) - 1) e (W (i - 1)) c).1 = r' at *
  have hst1 : stAt (st.set (i : Int).toNat r') i = r' := by rw [stAt_set (by omega) (by omega), if_pos rfl]
  have s2 := step_adv (st := st.set (i : Int).toNat r') (sd := sd ++ [((i : Int) - 1, e, W (i - 1))]) (i := i) (by rw [hst1]; exact a1) (by rw [hst1]; omega)
  rw [hst1] at s2
  rw [s2] at i2 ⊢
  refine ⟨⟨i2, hep, ⟨sd ++ [((i : Int) - 1, e, W (i - 1))], ?_⟩, fun j hj => ?_, fun j hj hjn => ?_⟩, by simp, by simp⟩
  · simp only
    rw [a3, a6, Nat.add_sub_cancel, hW, show ((i + 1 : Nat) : Int) - 1 = i by omega]
  · simp only
    rw [stAt_set (by simp; omega) (by omega), stAt_set (by omega) (by omega)]
    by_cases ej : j = i
    · subst ej
      rw [if_pos rfl]
      exact ⟨by simp only; omega, a4⟩
    · rw [if_neg (by omega), if_neg (by omega)]
      exact h.past j (by omega)
  · simp only
    rw [stAt_set (by simp; omega) (by omega), stAt_set (by omega) (by omega), if_neg (by omega), if_neg (by omega)]
    exact h.rest j (by omega) hjn
end Go.Rm
