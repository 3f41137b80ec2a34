/- Ranks of chapter 22, plain: what holds behind any events. -/
import Derived.Test.YtjkhlgpilcamjaaRm2
namespace Go.Rm

/-- A later state of a node: a greater epoch, or the same one, and what was advertised least is not more. -/
def Later (r' r : Rk) : Prop := r.epoch < r'.epoch ∨ (r'.epoch = r.epoch ∧ r'.least ≤ r.least)
theorem Later.refl (r : Rk) : Later r r := .inr ⟨rfl, Int.le_refl _⟩

/-- What was said, and by whom. -/
structure AdOk (n : Nat) (st : List Rk) (a : Ad) : Prop where
  fr : 0 ≤ a.1 ∧ a.1 < n
  ad : 1 ≤ a.2.1 ∧ a.2.1 ≤ 65535 ∧ 0 ≤ a.2.2 ∧ a.2.2 ≤ 65534
  by_ : a.2.1 < (stAt st a.1).epoch ∨ ((stAt st a.1).epoch = a.2.1 ∧ (stAt st a.1).least ≤ a.2.2)

structure Inv (n : Nat) (s : List Rk × List Ad) : Prop where
  len : s.1.length = n
  ok : ∀ i : Int, 0 ≤ i → i < n → checkR (stAt s.1 i) = 0 ∧ (stAt s.1 i).node = i
  ads : ∀ a ∈ s.2, AdOk n s.1 a
  par : ∀ i : Int, 0 ≤ i → i < n → (stAt s.1 i).parent ≠ -1 → (0 ≤ (stAt s.1 i).parent ∧ (stAt s.1 i).parent < n) ∧ ((stAt s.1 i).epoch < (stAt s.1 (stAt s.1 i).parent).epoch ∨ ((stAt s.1 (stAt s.1 i).parent).epoch = (stAt s.1 i).epoch ∧ (stAt s.1 (stAt s.1 i).parent).least ≤ (stAt s.1 i).heard))

theorem stAt_set {st : List Rk} {k i : Int} {r : Rk} (hk : 0 ≤ k ∧ k < st.length) (hi : 0 ≤ i) : stAt (st.set k.toNat r) i = if i = k then r else stAt st i := by
  unfold stAt
  by_cases e : i = k
  · subst e
    rw [if_pos rfl]
    simp [List.getD, List.getElem?_set_self (show i.toNat < st.length by omega)]
  · rw [if_neg e]
    simp only [List.getD]
    rw [List.getElem?_set_ne (by omega)]

/-- One node's state becomes a later one. -/
theorem inv_set {n : Nat} {st : List Rk} {sd sd' : List Ad} (h : Inv n (st, sd)) {k : Int} (hk : 0 ≤ k ∧ k < n) {r : Rk} (hr : checkR r = 0) (hn : r.node = k) (hl : Later r (stAt st k))
    (hp : r.parent ≠ -1 → (0 ≤ r.parent ∧ r.parent < n) ∧ r.parent ≠ k ∧ (r.epoch < (stAt st r.parent).epoch ∨ ((stAt st r.parent).epoch = r.epoch ∧ (stAt st r.parent).least ≤ r.heard)))
    (hsd : ∀ a ∈ sd', a ∈ sd ∨ AdOk n (st.set k.toNat r) a) : Inv n (st.set k.toNat r, sd') := by
  have hlen := h.len
  simp only at hlen
  have hk' : 0 ≤ k ∧ k < st.length := by omega
  refine ⟨by simp [hlen], fun i h0 h1 => ?_, fun a ha => ?_, fun i h0 h1 h2 => ?_⟩
  · simp only
    rw [stAt_set hk' h0]
    by_cases e : i = k
    · rw [if_pos e]; exact ⟨hr, by rw [hn, e]⟩
    · rw [if_neg e]; exact h.ok i h0 h1
  · rcases hsd a ha with ha | ha
    · have ho := h.ads a ha
      refine ⟨ho.fr, ho.ad, ?_⟩
      have hb := ho.by_
      simp only at hb ⊢
      rw [stAt_set hk' ho.fr.1]
      by_cases e : a.1 = k
      · rw [if_pos e]
        rw [e] at hb
        unfold Later at hl
        omega
      · rw [if_neg e]; exact hb
    · exact ha
  · simp only at h2 ⊢
    rw [stAt_set hk' h0] at h2 ⊢
    by_cases e : i = k
    · rw [if_pos e] at h2 ⊢
      obtain ⟨p1, p2, p3⟩ := hp h2
      refine ⟨p1, ?_⟩
      rw [stAt_set hk' p1.1, if_neg p2]
      exact p3
    · rw [if_neg e] at h2 ⊢
      obtain ⟨p1, p2⟩ := h.par i h0 h1 h2
      simp only at p1 p2
      refine ⟨p1, ?_⟩
      rw [stAt_set hk' p1.1]
      by_cases e2 : (stAt st i).parent = k
      · rw [if_pos e2]
        rw [e2] at p2
        unfold Later at hl
        omega
      · rw [if_neg e2]; exact p2

theorem lose_ok {r : Rk} (h : checkR r = 0) : checkR (loseR r) = 0 ∧ (loseR r).node = r.node ∧ (loseR r).epoch = r.epoch ∧ (loseR r).least = r.least ∧ (loseR r).parent = -1 := by
  have hok := check_iff.1 h
  have h1 := hok.rng
  have h2 := hok.right
  unfold loseR
  by_cases hn : checkR r = 0 ∧ r.node ≠ 0
  · rw [if_pos hn]
    exact ⟨check_iff.2 ⟨by simp <;> omega, by simp <;> omega⟩, rfl, rfl, rfl, rfl⟩
  · rw [if_neg hn]
    exact ⟨h, rfl, rfl, rfl, by omega⟩
theorem adopt_ok {r : Rk} {fr ep rk c : Int} (h : (adoptR r fr ep rk c).2 = 0) : checkR (adoptR r fr ep rk c).1 = 0 ∧ (adoptR r fr ep rk c).1.node = r.node ∧ (adoptR r fr ep rk c).1.epoch = ep ∧ (adoptR r fr ep rk c).1.parent = fr ∧ (adoptR r fr ep rk c).1.heard = rk ∧ (adoptR r fr ep rk c).1.rank = rk + c ∧ Later (adoptR r fr ep rk c).1 r ∧ fr ≠ r.node ∧ feasP r ep rk := by
  unfold adoptR at *
  by_cases h1 : checkR r ≠ 0
  · rw [if_pos h1] at h; exact absurd h (by simp)
  rw [if_neg h1] at h ⊢
  by_cases h2 : ¬ ((0 ≤ fr ∧ fr ≤ 31) ∧ fr ≠ r.node ∧ (1 ≤ ep ∧ ep ≤ 65535 ∧ 0 ≤ rk ∧ rk ≤ 65534) ∧ 1 ≤ c ∧ c ≤ 1023)
  · rw [if_pos h2] at h; exact absurd h (by simp)
  rw [if_neg h2] at h ⊢
  by_cases h3 : ¬ feasP r ep rk
  · rw [if_pos h3] at h; exact absurd h (by simp)
  rw [if_neg h3] at h ⊢
  by_cases h4 : 65535 ≤ rk + c
  · rw [if_pos h4] at h; exact absurd h (by simp)
  rw [if_neg h4]
  have h5 := Classical.not_not.1 h2
  have h6 := Classical.not_not.1 h3
  have hok := check_iff.1 (Classical.not_not.1 h1)
  have h7 := hok.rng
  have h8 := hok.right
  obtain ⟨f1, f2, f3, f4⟩ := id h6
  unfold beginR Later
  by_cases hl : r.epoch < ep
  · rw [if_pos hl]
    exact ⟨check_iff.2 ⟨by simp <;> omega, by simp <;> omega⟩, rfl, rfl, rfl, rfl, rfl, .inl hl, h5.2.1, h6⟩
  · rw [if_neg hl]
    exact ⟨check_iff.2 ⟨by simp <;> omega, by simp <;> omega⟩, rfl, by simp only; omega, rfl, rfl, rfl, .inr ⟨rfl, Int.le_refl _⟩, h5.2.1, h6⟩
theorem begin_ok {r : Rk} (h : checkR r = 0) {ep : Int} (he : ep ≤ 65535) : (r.parent = -1 ∨ r.node ≠ 0) → checkR (beginR r ep) = 0 ∧ (beginR r ep).node = r.node ∧ Later (beginR r ep) r ∧ r.epoch ≤ (beginR r ep).epoch := by
  intro _
  have hok := check_iff.1 h
  have h1 := hok.rng
  have h2 := hok.right
  unfold beginR Later
  by_cases hl : r.epoch < ep
  · rw [if_pos hl]
    exact ⟨check_iff.2 ⟨by simp <;> omega, by simp <;> omega⟩, rfl, .inl hl, by simp only; omega⟩
  · rw [if_neg hl]; exact ⟨h, rfl, .inr ⟨rfl, Int.le_refl _⟩, Int.le_refl _⟩

/-- What Update leads to. -/
theorem update_ok {r : Rk} {ep rk c : Int} (h : (updateR r ep rk c).2 = 0) : checkR (updateR r ep rk c).1 = 0 ∧ (updateR r ep rk c).1.node = r.node ∧ Later (updateR r ep rk c).1 r ∧
    ((updateR r ep rk c).1.parent = -1 ∨ (updateR r ep rk c).1 = r ∨ ((updateR r ep rk c).1.parent = r.parent ∧ (updateR r ep rk c).1.epoch = ep ∧ (updateR r ep rk c).1.heard = rk)) := by
  unfold updateR at *
  by_cases h1 : checkR r ≠ 0
  · rw [if_pos h1] at h; exact absurd h (by simp)
  rw [if_neg h1] at h ⊢
  by_cases h2 : ¬ ((1 ≤ ep ∧ ep ≤ 65535 ∧ 0 ≤ rk ∧ rk ≤ 65534) ∧ 1 ≤ c ∧ c ≤ 1023)
  · rw [if_pos h2] at h; exact absurd h (by simp)
  rw [if_neg h2] at h ⊢
  by_cases h3 : r.parent = -1
  · rw [if_pos h3] at h; exact absurd h (by simp)
  rw [if_neg h3] at h ⊢
  have hc := Classical.not_not.1 h1
  by_cases h4 : ep < r.epoch
  · rw [if_pos h4]; exact ⟨hc, rfl, .refl r, .inr (.inl rfl)⟩
  rw [if_neg h4] at h ⊢
  by_cases h5 : (adoptR r r.parent ep rk c).2 = 0
  · rw [if_pos h5]
    obtain ⟨a1, a2, a3, a4, a5, a6, a7, _⟩ := adopt_ok h5
    exact ⟨a1, a2, a7, .inr (.inr ⟨a4, a3, a5⟩)⟩
  · rw [if_neg h5]
    have hok := check_iff.1 hc
    have h8 := hok.right
    obtain ⟨b1, b2, b3, _⟩ := begin_ok hc (ep := ep) (by omega) (.inr (by omega))
    obtain ⟨l1, l2, l3, l4, l5⟩ := lose_ok b1
    refine ⟨l1, l2.trans b2, ?_, .inl l5⟩
    unfold Later at *
    simp only
    rw [l3, l4]
    exact b3
theorem update_no {r : Rk} (h : checkR r = 0) (hp : r.parent ≠ -1) {ep rk c : Int} (ha : 1 ≤ ep ∧ ep ≤ 65535 ∧ 0 ≤ rk ∧ rk ≤ 65534) (hc : 1 ≤ c ∧ c ≤ 1023) : (updateR r ep rk c).2 = 0 := by
  unfold updateR
  rw [if_neg (Classical.not_not.2 h), if_neg (Classical.not_not.2 ⟨ha, hc⟩), if_neg hp]
  by_cases h4 : ep < r.epoch
  · rw [if_pos h4]
  rw [if_neg h4]
  by_cases h5 : (adoptR r r.parent ep rk c).2 = 0
  · rw [if_pos h5]
  · rw [if_neg h5]

set_option maxHeartbeats 2000000 in
theorem step_inv {n : Nat} {s : List Rk × List Ad} (h : Inv n s) {x : Ev} (hx : evE n x = 0) : Inv n (stepR s x) := by
  unfold evE at hx
  by_cases hk : x.kind < 1 ∨ 5 < x.kind
  · rw [if_pos hk] at hx; omega
  rw [if_neg hk] at hx
  by_cases hb : ¬ (0 ≤ x.node ∧ x.node ≤ (n : Int) - 1) ∨ (x.kind = 2 ∧ (x.which < 0 ∨ ¬ (1 ≤ x.cost ∧ x.cost ≤ 1023)))
  · rw [if_pos hb] at hx; omega
  have hn : 0 ≤ x.node ∧ x.node < n := by omega
  obtain ⟨st, sd⟩ := s
  obtain ⟨hc, hnode⟩ := h.ok x.node hn.1 hn.2
  have hlen := h.len
  simp only at hc hnode hlen
  have hok := check_iff.1 hc
  have hrng := hok.rng
  have hright := hok.right
  have hpar := h.par x.node hn.1 hn.2
  simp only at hpar
  unfold stepR
  by_cases h1 : x.kind = 1
  · rw [if_pos h1]
    simp only
    by_cases h2 : (advertiseR (stAt st x.node)).2.2.2 = 0
    · rw [if_pos h2]
      have hrk : (stAt st x.node).rank ≠ 65535 := by
        intro e
        unfold advertiseR at h2
        rw [if_neg (Classical.not_not.2 hc), if_pos e] at h2
        exact absurd h2 (by decide)
      have ha : advertiseR (stAt st x.node) = ({ stAt st x.node with least := if (stAt st x.node).rank < (stAt st x.node).least then (stAt st x.node).rank else (stAt st x.node).least }, (stAt st x.node).epoch, (stAt st x.node).rank, 0) := by
        unfold advertiseR
        rw [if_neg (Classical.not_not.2 hc), if_neg hrk]
      rw [ha]
      simp only
      have hle : (if (stAt st x.node).rank < (stAt st x.node).least then (stAt st x.node).rank else (stAt st x.node).least) ≤ (stAt st x.node).least ∧ (if (stAt st x.node).rank < (stAt st x.node).least then (stAt st x.node).rank else (stAt st x.node).least) ≤ (stAt st x.node).rank ∧ ((if (stAt st x.node).rank < (stAt st x.node).least then (stAt st x.node).rank else (stAt st x.node).least) = (stAt st x.node).rank ∨ (if (stAt st x.node).rank < (stAt st x.node).least then (stAt st x.node).rank else (stAt st x.node).least) = (stAt st x.node).least) := by
        split <;> omega
      generalize (if (stAt st x.node).rank < (stAt st x.node).least then (stAt st x.node).rank else (stAt st x.node).least) = q at *
      refine inv_set h hn (check_iff.2 ⟨by simp <;> omega, by simp <;> omega⟩) hnode (.inr ⟨rfl, hle.1⟩) ?_ ?_
      · simp only
        intro hp
        obtain ⟨p1, p2⟩ := hpar hp
        exact ⟨p1, by omega, p2⟩
      · intro a ha
        rcases List.mem_append.1 ha with ha | ha
        · exact .inl ha
        · rw [List.mem_singleton.1 ha]
          refine .inr ⟨hn, by simp only; omega, ?_⟩
          simp only
          rw [stAt_set (by omega) hn.1, if_pos rfl]
          exact .inr ⟨rfl, hle.2.1⟩
    · rw [if_neg h2]; exact h
  rw [if_neg h1]
  by_cases h2 : x.kind = 2
  · rw [if_pos h2]
    simp only
    by_cases h3 : sd.length = 0
    · rw [if_pos h3]; exact h
    rw [if_neg h3]
    have hm1 := Int.emod_nonneg x.which (show (sd.length : Int) ≠ 0 by omega)
    have hm2 := Int.emod_lt_of_pos x.which (show (0 : Int) < (sd.length : Int) by omega)
    have hmem : adAt sd x.which ∈ sd := by
      unfold adAt
      have hlt : (x.which % (sd.length : Int)).toNat < sd.length := by omega
      simp only [List.getD, List.getElem?_eq_getElem hlt, Option.getD_some]
      exact List.getElem_mem hlt
    have hao := h.ads _ hmem
    simp only at hao
    generalize adAt sd x.which = a at *
    have hcost : 1 ≤ x.cost ∧ x.cost ≤ 1023 := by omega
    unfold hearR
    by_cases g1 : a.1 = x.node
    · rw [if_pos g1]
      refine inv_set h hn hc hnode (.refl _) ?_ (fun a ha => .inl ha)
      intro hp
      obtain ⟨p1, p2⟩ := hpar hp
      exact ⟨p1, by omega, p2⟩
    rw [if_neg g1]
    by_cases g2 : a.1 = (stAt st x.node).parent
    · rw [if_pos g2]
      have hpn : (stAt st x.node).parent ≠ -1 := by have := hao.fr; omega
      have hu := update_no hc hpn hao.ad hcost
      obtain ⟨u1, u2, u3, u4⟩ := update_ok hu
      refine inv_set h hn u1 (u2.trans hnode) u3 ?_ (fun a ha => .inl ha)
      intro hp
      rcases u4 with u4 | u4 | ⟨u4, u5, u6⟩
      · exact absurd u4 hp
      · rw [u4]
        obtain ⟨p1, p2⟩ := hpar hpn
        exact ⟨p1, by omega, p2⟩
      · rw [u4, u5, u6]
        obtain ⟨p1, p2⟩ := hpar hpn
        refine ⟨p1, by omega, ?_⟩
        have hb := hao.by_
        rw [g2] at hb
        exact hb
    rw [if_neg g2]
    by_cases g3 : (adoptR (stAt st x.node) a.1 a.2.1 a.2.2 x.cost).2 = 0 ∧ ((stAt st x.node).parent = -1 ∨ (stAt st x.node).epoch < a.2.1 ∨ a.2.2 + x.cost < (stAt st x.node).rank)
    · rw [if_pos g3]
      obtain ⟨a1, a2, a3, a4, a5, a6, a7, a8, _⟩ := adopt_ok g3.1
      refine inv_set h hn a1 (a2.trans hnode) a7 ?_ (fun a ha => .inl ha)
      intro _
      rw [a3, a4, a5]
      exact ⟨hao.fr, g1, hao.by_⟩
    · rw [if_neg g3]
      refine inv_set h hn hc hnode (.refl _) ?_ (fun a ha => .inl ha)
      intro hp
      obtain ⟨p1, p2⟩ := hpar hp
      exact ⟨p1, by omega, p2⟩
  rw [if_neg h2]
  by_cases h5 : x.kind = 5
  · rw [if_pos h5]
    simp only
    by_cases h6 : (renewR (stAt st x.node)).2 = 0
    · rw [if_pos h6]
      unfold renewR at h6 ⊢
      rw [if_neg (Classical.not_not.2 hc)] at h6 ⊢
      by_cases g1 : (stAt st x.node).node ≠ 0
      · rw [if_pos g1] at h6; exact absurd h6 (by decide)
      rw [if_neg g1] at h6 ⊢
      by_cases g2 : (stAt st x.node).epoch = 65535
      · rw [if_pos g2] at h6; exact absurd h6 (by decide)
      rw [if_neg g2]
      obtain ⟨b1, b2, b3, _⟩ := begin_ok hc (ep := (stAt st x.node).epoch + 1) (by omega) (.inl (by omega))
      refine inv_set h hn b1 (b2.trans hnode) b3 ?_ (fun a ha => .inl ha)
      intro hp
      exfalso
      apply hp
      unfold beginR
      rw [if_pos (by omega)]
      simp only
      omega
    · rw [if_neg h6]; exact h
  · rw [if_neg h5]
    obtain ⟨l1, l2, l3, l4, l5⟩ := lose_ok hc
    refine inv_set h hn l1 (l2.trans hnode) (.inr ⟨l3, by rw [l4]; exact Int.le_refl _⟩) (fun hp => absurd l5 hp) (fun a ha => .inl ha)

theorem start_inv {n : Nat} (hn : n ≤ 32) : Inv n (startL n, []) := by
  have key : ∀ i : Int, 0 ≤ i → i < n → stAt (startL n) i = (startR i).1 := fun i h0 h1 => by
    unfold stAt startL
    simp only [List.getD]
    rw [List.getElem?_map, List.getElem?_range (by omega)]
    simp only [Option.map_some, Option.getD_some]
    rw [show ((i.toNat : Nat) : Int) = i by omega]
  have hs : ∀ i : Int, 0 ≤ i → i < n → checkR (startR i).1 = 0 ∧ (startR i).1.node = i ∧ (startR i).1.parent = -1 := fun i h0 h1 => by
    unfold startR
    rw [if_neg (by omega)]
    by_cases e : i = 0
    · rw [if_pos e]; exact ⟨by decide, e.symm, rfl⟩
    · rw [if_neg e]
      exact ⟨check_iff.2 ⟨by simp <;> omega, by simp <;> omega⟩, rfl, rfl⟩
  refine ⟨startL_len n, fun i h0 h1 => ?_, (fun a ha => by cases ha), fun i h0 h1 h2 => ?_⟩
  · simp only
    rw [key i h0 h1]
    exact ⟨(hs i h0 h1).1, (hs i h0 h1).2.1⟩
  · exfalso
    apply h2
    simp only
    rw [key i h0 h1]
    exact (hs i h0 h1).2.2

theorem run_inv {n : Nat} : ∀ {l : List Ev} {s : List Rk × List Ad}, Inv n s → (runR n s l).2 = 0 → Inv n (runR n s l).1
  | [], s, h, _ => h
  | x :: l, s, h, he => by
    unfold runR at he ⊢
    by_cases hx : evE n x ≠ 0
    · rw [if_pos hx] at he; exact absurd he hx
    · rw [if_neg hx] at he ⊢
      exact run_inv (step_inv h (Classical.not_not.1 hx)) he

theorem play_inv {n : Nat} {l : List Ev} (h1 : 1 ≤ n) (h2 : n ≤ 32) (he : (playE n l).2 = 0) : ∃ sd, Inv n ((playE n l).1, sd) ∧ l.length ≤ 4096 := by
  unfold playE at *
  rw [if_neg (by omega)] at he ⊢
  by_cases h3 : 4096 < l.length
  · rw [if_pos h3] at he; exact absurd he (by decide)
  rw [if_neg h3] at he ⊢
  rw [Int.toNat_natCast] at he ⊢
  by_cases h4 : (runR n (startL n, []) l).2 ≠ 0
  · rw [if_pos h4] at he; exact absurd he h4
  rw [if_neg h4]
  exact ⟨_, run_inv (start_inv h2) (Classical.not_not.1 h4), by omega⟩
end Go.Rm
