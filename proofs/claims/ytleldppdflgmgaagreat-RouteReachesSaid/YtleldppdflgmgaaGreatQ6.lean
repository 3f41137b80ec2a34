/- The law RouteReaches returns true at every input, and its arguments read behind the call as they read before: the statement Rows.RouteReachesSaid. No condition. -/
import Derived.Deep.Slices
import Derived.Lib.SmallJoins
import Derived.OpenShut
import Derived.ProofKit
import Derived.Below
import Derived.ChangeSame
import Derived.Carry
import Derived.Test.YtleldppdflgmgaaGreatRows
import Derived.Test.YtleldppdflgmgaaGreatQ5

/- Routes, plain: a flow of two units is two ways, and two ways are one. -/
namespace Go.Rt
open Go.Nw

theorem balE_cons (e : E3) (E : List E3) (p : Int → Int) : balE (e :: E) p = (p e.2.1 - p e.1) + balE E p := sumI_cons _ _ _
theorem balE_append (E F : List E3) (p : Int → Int) : balE (E ++ F) p = balE E p + balE F p := sumI_append _ _ _
theorem balE_perm {E F : List E3} (h : E.Perm F) (p : Int → Int) : balE E p = balE F p := sumI_perm _ h
def usedL (L : List FA) : List E3 := (L.filter fun x => x.u).map fun x => (x.f, x.t, x.c)
def idleL (L : List FA) : List E3 := (L.filter fun x => !x.u).map fun x => (x.f, x.t, x.c)
theorem used_perm (L : List FA) : (endsF L).Perm (usedL L ++ idleL L) := by
  unfold endsF usedL idleL
  rw [← List.map_append]
  exact List.Perm.map _ (List.filter_append_perm _ L).symm
theorem used_bal (L : List FA) (p : Int → Int) : balE (usedL L) p = bal L p := by
  unfold usedL bal
  induction L with
  | nil => rfl
  | cons x L ih =>
    rw [sumI_cons, ← ih, List.filter_cons]
    unfold balG
    cases hu : x.u with
    | true => simp [balE_cons]
    | false => simp
theorem used_cost (L : List FA) : costE3 (usedL L) = costF L := by
  unfold usedL costF
  induction L with
  | nil => rfl
  | cons x L ih =>
    rw [sumI_cons, ← ih, List.filter_cons]
    unfold costG costE3
    cases hu : x.u with
    | true => simp [sumI_cons]
    | false => simp

inductive IsWalk : Int → Int → List E3 → Prop
  | nil {t : Int} : IsWalk t t []
  | cons {e : E3} {t : Int} {E : List E3} (h : IsWalk e.2.1 t E) : IsWalk e.1 t (e :: E)
def ind (v w : Int) : Int := if w = v then 1 else 0
/-- From a flow one way is taken out. -/
theorem take_walk {T : Int} {X : (Int → Int) → Int} (hX : ∀ v, v ≠ T → X (ind v) ≤ 0) : ∀ (n : Nat) (U : List E3) (A : Int), U.length ≤ n → (∀ p, balE U p = (p T - p A) + X p) → ∃ P U', U.Perm (P ++ U') ∧ IsWalk A T P ∧ ∀ p, balE U' p = X p
  | n, U, A, hn, hb => by
    by_cases hAT : A = T
    · subst hAT
      exact ⟨[], U, .refl _, .nil, fun p => by rw [hb p]; omega⟩
    · have h1 := hb (ind A)
      have h2 := hX A hAT
      have h3 : ind A A = 1 := if_pos rfl
      have h4 : ind A T = 0 := if_neg (Ne.symm hAT)
      have hex : ∃ e ∈ U, e.1 = A := by
        by_cases hex : ∃ e ∈ U, e.1 = A
        · exact hex
        · exfalso
          have : 0 ≤ balE U (ind A) := sumI_nonneg fun e he => by
            have : ind A e.1 = 0 := if_neg fun h => hex ⟨e, he, h⟩
            rw [this]
            unfold ind
            split <;> decide
          omega
      obtain ⟨e, he, rfl⟩ := hex
      have hp := List.perm_cons_erase he
      have hl := hp.length_eq
      rw [List.length_cons] at hl
      cases n with
      | zero => omega
      | succ n =>
        obtain ⟨P, U', g1, g2, g3⟩ := take_walk hX n (U.erase e) e.2.1 (by omega) fun p => by
          have := hb p
          rw [balE_perm hp, balE_cons] at this
          omega
        exact ⟨e :: P, U', hp.trans (.cons _ g1), .cons g2, g3⟩

/-! ### Ways of links -/
inductive Way (l : List Lk) (sh : Int → Bool) (to : Int) : Int → List Lk → Prop
  | last {a : Lk} (ha : a ∈ l) (ht : a.2.1 = to) : Way l sh to a.1 [a]
  | step {a : Lk} {az : List Lk} (ha : a ∈ l) (hs : sh a.2.1 = false) (h : Way l sh to a.2.1 az) : Way l sh to a.1 (a :: az)
def inner : List Lk → List Int
  | [] => []
  | _ :: az => az.map fun a => a.1
def eOf (az : List Lk) : List E3 := az.map arc3 ++ (inner az).map node3
def wcost (az : List Lk) : Int := sumI (fun a : Lk => a.2.2) az
theorem Way.cons_ {l : List Lk} {sh : Int → Bool} {to u : Int} {az : List Lk} (h : Way l sh to u az) : ∃ a az', az = a :: az' ∧ a.1 = u := by
  cases h with
  | last ha ht => exact ⟨_, _, rfl, rfl⟩
  | step ha hs h => exact ⟨_, _, rfl, rfl⟩
theorem Way.inner_cons {l : List Lk} {sh : Int → Bool} {to u : Int} {a : Lk} {az : List Lk} (h : Way l sh to u az) : inner (a :: az) = u :: inner az := by
  obtain ⟨b, bs, rfl, rfl⟩ := h.cons_
  rfl
theorem Way.mem {l : List Lk} {sh : Int → Bool} {to u : Int} {az : List Lk} (h : Way l sh to u az) : ∀ a ∈ az, a ∈ l := by
  induction h with
  | last ha ht => intro b hb; obtain rfl := List.mem_singleton.1 hb; exact ha
  | step ha hs h ih =>
    intro b hb
    rcases List.mem_cons.1 hb with rfl | hb
    · exact ha
    · exact ih b hb
theorem Way.open_ {l : List Lk} {sh : Int → Bool} {to u : Int} {az : List Lk} (h : Way l sh to u az) : ∀ v ∈ inner az, sh v = false := by
  induction h with
  | last ha ht => intro v hv; cases hv
  | step ha hs h ih =>
    intro v hv
    rw [h.inner_cons] at hv
    rcases List.mem_cons.1 hv with rfl | hv
    · exact hs
    · exact ih v hv
theorem Way.perm_e {l : List Lk} {sh : Int → Bool} {to u : Int} {a : Lk} {az : List Lk} (h : Way l sh to u az) : (eOf (a :: az)).Perm (arc3 a :: node3 u :: eOf az) := by
  unfold eOf
  rw [h.inner_cons, List.map_cons, List.map_cons, List.cons_append]
  exact .cons _ List.perm_middle
theorem Way.bal_ {l : List Lk} {sh : Int → Bool} {to u : Int} {az : List Lk} (h : Way l sh to u az) (p : Int → Int) : balE (eOf az) p = p (2 * to) - p (2 * u + 1) := by
  induction h with
  | @last a ha ht =>
    have : eOf [a] = [arc3 a] := rfl
    rw [this, balE_cons, ← ht]
    simp [arc3, balE, sumI_nil]
  | step ha hs h ih =>
    rw [balE_perm h.perm_e, balE_cons, balE_cons, ih]
    simp only [arc3, node3]
    omega
theorem eOf_cost (az : List Lk) : costE3 (eOf az) = wcost az := by
  unfold costE3 eOf wcost
  rw [sumI_append, sumI_map, sumI_map]
  have : sumI (fun x => (node3 x).2.2) (inner az) = 0 := by
    generalize inner az = I
    induction I with
    | nil => rfl
    | cons v I ih => rw [sumI_cons, ih]; rfl
  rw [this, Int.add_zero]
  rfl
theorem walk_way {l : List Lk} {sh : Int → Bool} {to : Int} (hto : sh to = true) : ∀ (n : Nat) (P : List E3) (u : Int), P.length ≤ n → (∀ e ∈ P, (∃ v, sh v = false ∧ e = node3 v) ∨ ∃ a ∈ l, e = arc3 a) → IsWalk (2 * u + 1) (2 * to) P → ∃ az, Way l sh to u az ∧ P.Perm (eOf az)
  | n, P, u, hn, hm, hw => by
    obtain ⟨s, hs⟩ : ∃ s, 2 * u + 1 = s := ⟨_, rfl⟩
    obtain ⟨t, ht⟩ : ∃ t, 2 * to = t := ⟨_, rfl⟩
    rw [hs, ht] at hw
    cases hw with
    | nil => omega
    | @cons e _ E hw =>
      rcases hm e List.mem_cons_self with ⟨v, _, rfl⟩ | ⟨a, ha, rfl⟩
      · simp only [node3] at hs; omega
      · have hu : a.1 = u := by simp only [arc3] at hs; omega
        subst hu
        obtain ⟨s2, hs2⟩ : ∃ s, (arc3 a).2.1 = s := ⟨_, rfl⟩
        rw [hs2] at hw
        cases hw with
        | nil =>
          refine ⟨[a], .last ha (by simp only [arc3] at hs2; omega), .refl _⟩
        | @cons e' _ E' hw =>
          rcases hm e' (List.mem_cons_of_mem _ List.mem_cons_self) with ⟨v, hv, rfl⟩ | ⟨a', _, rfl⟩
          · have hva : a.2.1 = v := by simp only [arc3, node3] at hs2; omega
            subst hva
            cases n with
            | zero => simp at hn
            | succ n =>
              obtain ⟨az, h1, h2⟩ := walk_way hto n E' a.2.1 (by simp only [List.length_cons] at hn; omega) (fun e he => hm e (List.mem_cons_of_mem _ (List.mem_cons_of_mem _ he))) (by rw [ht]; exact hw)
              exact ⟨a :: az, .step ha hv h1, (List.Perm.cons _ (.cons _ h2)).trans h1.perm_e.symm⟩
          · simp only [arc3] at hs2; omega

/-- Two ways that have nothing in common. -/
structure Cand (l : List Lk) (sh : Int → Bool) (a b to : Int) (az bs : List Lk) : Prop where
  p : Way l sh to a az
  q : Way l sh to b bs
  arcs : (az ++ bs).Nodup
  nodes : (inner az ++ inner bs).Nodup
theorem sub_perm : ∀ {E M : List E3}, E.Nodup → (∀ e ∈ E, e ∈ M) → ∃ R, M.Perm (E ++ R)
  | [], M, _, _ => ⟨M, .refl _⟩
  | e :: E, M, hn, hm => by
    obtain ⟨h1, h2⟩ := List.nodup_cons.1 hn
    have hp := List.perm_cons_erase (hm e List.mem_cons_self)
    obtain ⟨R, hR⟩ := sub_perm (M := M.erase e) h2 fun x hx => by
      have hne : x ≠ e := fun h => h1 (h ▸ hx)
      exact (List.mem_erase_of_ne hne).2 (hm x (List.mem_cons_of_mem _ hx))
    exact ⟨R, hp.trans (.cons _ hR)⟩
theorem e_perm (az bs : List Lk) : (eOf az ++ eOf bs).Perm ((az ++ bs).map arc3 ++ (inner az ++ inner bs).map node3) := by
  unfold eOf
  rw [List.map_append, List.map_append]
  rw [List.append_assoc, List.append_assoc]
  refine .append_left _ ?_
  rw [← List.append_assoc, ← List.append_assoc]
  exact .append_right _ List.perm_append_comm
theorem Cand.sub {nodes : Nat} {l : List Lk} {sh : Int → Bool} {a b to : Int} {az bs : List Lk} (hl : Arcs8 nodes l) (h : Cand l sh a b to az bs) : ∃ R, (endsF (splitFA nodes l sh)).Perm ((eOf az ++ eOf bs) ++ R) := by
  have hn : (eOf az ++ eOf bs).Nodup := by
    rw [(e_perm az bs).nodup_iff]
    refine List.nodup_append.2 ⟨nodup_map_inj arc3_inj h.arcs, nodup_map_inj node3_inj h.nodes, fun x hx y hy => ?_⟩
    obtain ⟨c, _, rfl⟩ := List.mem_map.1 hx
    obtain ⟨v, _, rfl⟩ := List.mem_map.1 hy
    exact arc_node c v
  refine sub_perm hn fun e he => ?_
  have he := (e_perm az bs).mem_iff.1 he
  rcases List.mem_append.1 he with he | he
  · obtain ⟨c, hc, rfl⟩ := List.mem_map.1 he
    refine mem_ends.2 (.inr ⟨c, ?_, rfl⟩)
    rcases List.mem_append.1 hc with hc | hc
    · exact h.p.mem c hc
    · exact h.q.mem c hc
  · obtain ⟨v, hv, rfl⟩ := List.mem_map.1 he
    have hr : ∀ {u : Int} {cs : List Lk}, Way l sh to u cs → v ∈ inner cs → 0 ≤ v ∧ v < nodes := fun hw hv => by
      have : ∃ c ∈ l, c.1 = v := by
        obtain ⟨c, cs', rfl, _⟩ := hw.cons_
        obtain ⟨d, hd, rfl⟩ := List.mem_map.1 hv
        exact ⟨d, hw.mem d (List.mem_cons_of_mem _ hd), rfl⟩
      obtain ⟨c, hc, rfl⟩ := this
      exact (hl c hc).1
    rcases List.mem_append.1 hv with hv | hv
    · exact mem_ends.2 (.inl ⟨v, hr h.p hv, h.p.open_ v hv, rfl⟩)
    · exact mem_ends.2 (.inl ⟨v, hr h.q hv, h.q.open_ v hv, rfl⟩)
theorem both_sem {fuel nodes : Nat} {l : List Lk} {a b to : Int} {closed : Int → Bool} (hn : 1 ≤ nodes ∧ nodes ≤ 50) (hl : Arcs8 nodes l) (hnd : l.Nodup) (ha : 0 ≤ a ∧ a < nodes) (hb : 0 ≤ b ∧ b < nodes) (ht : 0 ≤ to ∧ to < nodes) (hf : 2 * nodes * (48 * nodes + 1) < fuel) :
    ∃ r, bothF fuel nodes l a b to closed = some r ∧ ((r.2.1 = true ∧ (∃ L π, BothYes nodes l a b to r.1 (shutB a b to closed) r.2.2 L π) ∧ (∃ az bs, Cand l (shutB a b to closed) a b to az bs ∧ wcost az + wcost bs = r.1) ∧ ∀ az bs, Cand l (shutB a b to closed) a b to az bs → r.1 ≤ wcost az + wcost bs) ∨ (r.2.1 = false ∧ ∀ az bs, ¬ Cand l (shutB a b to closed) a b to az bs)) := by
  obtain ⟨r, hr, h⟩ := both_ok (closed := closed) hn hl ha hb ht hf
  refine ⟨r, hr, ?_⟩
  have hsto : shutB a b to closed to = true := by unfold shutB; simp
  have hcb : ∀ {az bs : List Lk}, Cand l (shutB a b to closed) a b to az bs → ∀ p, balE (eOf az ++ eOf bs) p = want a b to p := fun hc p => by
    rw [balE_append, hc.p.bal_, hc.q.bal_]; rfl
  rcases h with ⟨h1, L, π, hY⟩ | ⟨h1, hN⟩
  · have hmin : ∀ az bs, Cand l (shutB a b to closed) a b to az bs → r.1 ≤ wcost az + wcost bs := fun az bs hc => by
      obtain ⟨R, hR⟩ := hc.sub hl
      have := dual_cost hY.pot (by rw [hY.ends]; exact hR) (by rw [hcb hc, hY.bal_])
      rw [hY.cost] at this
      unfold costE3 at this
      rw [sumI_append] at this
      have e1 := eOf_cost az
      have e2 := eOf_cost bs
      unfold costE3 at e1 e2
      omega
    refine .inl ⟨h1, ⟨L, π, hY⟩, ?_, hmin⟩
    have hub := fun p => (used_bal L p).trans (hY.bal_ p)
    obtain ⟨P, U1, g1, g2, g3⟩ := take_walk (T := 2 * to) (X := fun p => p (2 * to) - p (2 * b + 1)) (fun v hv => by
      rw [show ind v (2 * to) = 0 from if_neg (Ne.symm hv)]
      unfold ind; split <;> decide) _ (usedL L) (2 * a + 1) (Nat.le_refl _) hub
    obtain ⟨Q, U2, g4, g5, g6⟩ := take_walk (T := 2 * to) (X := fun _ => 0) (fun v hv => Int.le_refl _) _ U1 (2 * b + 1) (Nat.le_refl _) (fun p => by rw [g3 p]; omega)
    have hall : (endsF L).Perm ((P ++ Q) ++ (U2 ++ idleL L)) := by
      refine (used_perm L).trans ?_
      rw [List.append_assoc, ← List.append_assoc Q, ← List.append_assoc P]
      exact .append_right _ (g1.trans (.append_left _ g4))
    rw [hY.ends] at hall
    have hmem : ∀ e ∈ P ++ Q, (∃ v, shutB a b to closed v = false ∧ e = node3 v) ∨ ∃ a ∈ l, e = arc3 a := fun e he => by
      rcases mem_ends.1 (hall.mem_iff.2 (List.mem_append_left _ he)) with ⟨v, _, hv, h⟩ | h
      · exact .inl ⟨v, hv, h⟩
      · exact .inr h
    obtain ⟨az, w1, p1⟩ := walk_way hsto _ P a (Nat.le_refl _) (fun e he => hmem e (List.mem_append_left _ he)) g2
    obtain ⟨bs, w2, p2⟩ := walk_way hsto _ Q b (Nat.le_refl _) (fun e he => hmem e (List.mem_append_right _ he)) g5
    have hnd2 := hall.nodup_iff.1 (ends_nodup hnd)
    have hnd3 := (List.nodup_append.1 hnd2).1
    rw [((p1.append p2).trans (e_perm az bs)).nodup_iff] at hnd3
    obtain ⟨n1, n2, _⟩ := List.nodup_append.1 hnd3
    have hc : Cand l (shutB a b to closed) a b to az bs := ⟨w1, w2, nodup_of_map n1, nodup_of_map n2⟩
    refine ⟨az, bs, hc, ?_⟩
    have hle : wcost az + wcost bs ≤ r.1 := by
      have e1 := eOf_cost az
      have e2 := eOf_cost bs
      have e3 : costE3 (usedL L) = costE3 P + (costE3 Q + costE3 U2) := by
        unfold costE3
        rw [sumI_perm _ g1, sumI_append, sumI_perm _ g4, sumI_append]
      have e4 : costE3 P = wcost az := by rw [← e1]; exact sumI_perm _ p1
      have e5 : costE3 Q = wcost bs := by rw [← e2]; exact sumI_perm _ p2
      have e6 : 0 ≤ costE3 U2 := sumI_nonneg fun e he => (split_ends8 hl e (hall.mem_iff.2 (List.mem_append_right _ (List.mem_append_left _ he)))).2.2.1
      rw [used_cost, hY.cost] at e3
      omega
    have := hmin az bs hc
    omega
  · exact .inr ⟨h1, fun az bs hc => by
      obtain ⟨R, hR⟩ := hc.sub hl
      exact hN _ _ hR (hcb hc)⟩
end Go.Rt

/- Routes, plain: there are least costs; ways of arcs are ways of nodes. -/
namespace Go.Rt
open Go.Nw

/-! ### There are least costs -/
def backE (l : List Lk) : List Ed := l.map fun a => ⟨a.2.1, a.1, a.2.2, 1⟩
theorem dist_exists {nodes : Nat} {l : List Lk} {to : Int} (hn : nodes ≤ 500) (hl : Arcs8 nodes l) (ht : 0 ≤ to ∧ to < nodes) : ∃ far, Dist nodes l to far := by
  have hnc := noneC_eq
  have hes : Ed8 nodes (backE l) := by
    intro e he
    obtain ⟨a, ha, rfl⟩ := List.mem_map.1 he
    obtain ⟨h1, h2, h3⟩ := hl a ha
    simp only; omega
  have hp : PotE (backE l) (fun _ => 0) := by
    intro e he _
    obtain ⟨a, ha, rfl⟩ := List.mem_map.1 he
    obtain ⟨h1, h2, h3⟩ := hl a ha
    simp only; omega
  have hG : RelG nodes (fun _ => 0) (startF nodes to, List.replicate nodes (-1), false) := by
    refine ⟨startF_len, List.length_replicate, fun v h0 h1 => ?_, fun v h0 h1 => ?_, fun v h0 h1 => ?_⟩
    · simp only; rw [startF_at ht ⟨h0, h1⟩]; split <;> omega
    · simp only; rw [startF_at ht ⟨h0, h1⟩]
      split
      · intro _; omega
      · intro h; exact absurd h (Int.lt_irrefl _)
    · simp only; rw [startF_at ht ⟨h0, h1⟩]; split <;> omega
  have hC : RelC nodes (backE l) to (startF nodes to) (List.replicate nodes (-1)) := by
    refine ⟨by rw [startF_at ht ht, if_pos rfl], fun v h0 h1 h2 => ?_⟩
    rw [startF_at ht ⟨h0, h1⟩] at h2
    by_cases h : v = to
    · rw [h]; exact ⟨0, .here⟩
    · rw [if_neg h] at h2; exact absurd h2 (Int.lt_irrefl _)
  obtain ⟨⟨far, by_⟩, _, hG2, hC2, hcl⟩ := relax_end (L := 0) (by omega) hes hp (fun _ _ _ => Int.le_refl _) (RelC nodes (backE l) to) (fun i e st hi hG h => relC_step hes hp ht rfl i e st hi hG h) (mes nodes 0 (startF nodes to) + 1) _ _ hG hC (Nat.lt_succ_self _)
  simp only at hG2 hC2 hcl
  obtain ⟨l1, l2, hlo, hhi, htop⟩ := hG2
  simp only at l1 l2 hlo hhi htop
  refine ⟨far, l1, hC2.s0, fun v h0 h1 => ⟨hlo v h0 h1, htop v h0 h1⟩, fun v h0 h1 hne hlt => ?_, fun a ha hlt => ?_⟩
  · obtain ⟨n, hn2⟩ := hC2.ch v h0 h1 hlt
    cases hn2 with
    | here => exact absurd rfl hne
    | step _ _ hi htt _ hT _ =>
      obtain ⟨a, ha, rfl⟩ := List.mem_map.1 (List.mem_of_getElem? hi)
      obtain ⟨t1, t2⟩ := hT
      exact ⟨a, ha, htt, by rw [← htt]; exact t2⟩
  · rcases Int.lt_or_le (farAt far a.2.1 + a.2.2) (farAt far a.1) with h | h
    · exact absurd ⟨show (0 : Int) < 1 by decide, hlt, h⟩ (hcl ⟨a.2.1, a.1, a.2.2, 1⟩ (List.mem_map.2 ⟨a, ha, rfl⟩))
    · exact h
theorem Arcs8.ok {nodes : Nat} {l : List Lk} (h : Arcs8 nodes l) : ArcsOk nodes l := fun a ha => by
  obtain ⟨h1, h2, h3⟩ := h a ha
  exact ⟨h1, h2, by omega⟩
theorem Arcs8.sub {nodes : Nat} {l m : List Lk} (h : Arcs8 nodes l) (hm : ∀ a ∈ m, a ∈ l) : Arcs8 nodes m := fun a ha => h a (hm a ha)
theorem distC_dist {nodes : Nat} {l : List Lk} {to : Int} (hn : nodes ≤ 500) (hl : Arcs8 nodes l) (ht : 0 ≤ to ∧ to < nodes) : Dist nodes l to (distC nodes l to) := by
  obtain ⟨far, h⟩ := dist_exists hn hl ht
  rw [distC_eq hl.ok h]; exact h

/-! ### Ways of nodes and ways of arcs -/
section
variable {st : Int → Int → Bool} {w : Int → Int → Int} {l : List Lk} {nodes : Nat} {t : Int}
/-- A way from u over ms to t. -/
abbrev PathM (st : Int → Int → Bool) (nodes : Nat) (t u : Int) (ms : List Int) : Prop := PathG st nodes t u (ms ++ [t])
theorem path_mids {u : Int} {p : List Int} (h : PathG st nodes t u p) (hu : u ≠ t) : ∃ ms, p = ms ++ [t] := by
  induction h with
  | done => exact absurd rfl hu
  | @step u v r hu hs hv h ih =>
    by_cases hvt : v = t
    · cases h with
      | done => exact ⟨[], by rw [hvt]; rfl⟩
      | step hne => exact absurd hvt hne
    · obtain ⟨ms, rfl⟩ := ih hvt
      exact ⟨v :: ms, rfl⟩
theorem way_of_path {sh : Int → Bool} (hnet : Net3 st w l) : ∀ (ms : List Int) (u : Int), PathM st nodes t u ms → (∀ x ∈ ms, sh x = false) → ∃ az, Way l sh t u az ∧ inner az = ms ∧ wcost az = keyG w (u :: (ms ++ [t]))
  | [], u, h, _ => by
    cases h with
    | step hu hs hv h =>
      have ha : (u, t, w u t) ∈ l := (hnet.iff _ _ _).2 ⟨hs, rfl⟩
      exact ⟨[(u, t, w u t)], Way.last (a := (u, t, w u t)) ha rfl, rfl, by simp [wcost, sumI, keyG]⟩
  | m :: ms, u, h, hsh => by
    cases h with
    | step hu hs hv h =>
      obtain ⟨az, h1, h2, h3⟩ := way_of_path hnet ms m h fun x hx => hsh x (List.mem_cons_of_mem _ hx)
      have ha : (u, m, w u m) ∈ l := (hnet.iff _ _ _).2 ⟨hs, rfl⟩
      refine ⟨(u, m, w u m) :: az, Way.step (a := (u, m, w u m)) ha (hsh m List.mem_cons_self) h1, by rw [h1.inner_cons, h2], ?_⟩
      unfold wcost at h3 ⊢
      rw [sumI_cons, h3]
      simp [keyG]
theorem path_of_way {sh : Int → Bool} (hnet : Net3 st w l) (hl : Arcs8 nodes l) (hto : sh t = true) {u : Int} {az : List Lk} (h : Way l sh t u az) (hu : u ≠ t) : PathM st nodes t u (inner az) ∧ wcost az = keyG w (u :: (inner az ++ [t])) := by
  induction h with
  | @last a ha ht =>
    obtain ⟨a1, a2, a3⟩ := a
    simp only at ht hu ⊢
    subst ht
    obtain ⟨hs, hc⟩ := (hnet.iff _ _ _).1 ha
    refine ⟨.step hu hs (hl _ ha).2.1 .done, ?_⟩
    show wcost [(a1, a2, a3)] = keyG w [a1, a2]
    simp [wcost, sumI, keyG, hc]
  | @step a az ha hs h ih =>
    obtain ⟨a1, a2, a3⟩ := a
    simp only at hs hu h ih ⊢
    have hne : a2 ≠ t := fun e => by rw [e, hto] at hs; cases hs
    obtain ⟨i1, i2⟩ := ih hne
    obtain ⟨hg, hc⟩ := (hnet.iff _ _ _).1 ha
    rw [h.inner_cons]
    refine ⟨.step hu hg (hl _ ha).2.1 i1, ?_⟩
    unfold wcost at i2 ⊢
    rw [sumI_cons, i2]
    simp [keyG, hc]
theorem way_heads {sh : Int → Bool} {u : Int} {az : List Lk} (h : Way l sh t u az) : ∀ a ∈ az, a.2.1 = t ∨ a.2.1 ∈ inner az := by
  induction h with
  | last ha ht => intro a ha2; obtain rfl := List.mem_singleton.1 ha2; exact .inl ht
  | @step a az ha hs h ih =>
    intro b hb
    rw [h.inner_cons]
    rcases List.mem_cons.1 hb with rfl | hb
    · exact .inr List.mem_cons_self
    · rcases ih b hb with h1 | h1
      · exact .inl h1
      · exact .inr (List.mem_cons_of_mem _ h1)
theorem way_tails {sh : Int → Bool} {u : Int} {az : List Lk} (h : Way l sh t u az) : az.map (fun a => a.1) = u :: inner az := by
  obtain ⟨a, az', rfl, rfl⟩ := h.cons_
  rfl
theorem PathG.mono {st2 : Int → Int → Bool} {u : Int} {p : List Int} (h : PathG st nodes t u p) (hs : ∀ x y, x = u ∨ x ∈ p → y ∈ p → st x y = true → st2 x y = true) : PathG st2 nodes t u p := by
  induction h with
  | done => exact .done
  | @step u v r hu hst hv h ih =>
    refine .step hu (hs u v (.inl rfl) List.mem_cons_self hst) hv (ih fun x y hx hy hxy => hs x y ?_ (List.mem_cons_of_mem _ hy) hxy)
    rcases hx with rfl | hx
    · exact .inr List.mem_cons_self
    · exact .inr (List.mem_cons_of_mem _ hx)
theorem PathG.append {u v : Int} {p q : List Int} (h : PathG st nodes t u (p ++ v :: q)) : PathG st nodes t v q := by
  induction p generalizing u with
  | nil => cases h with | step _ _ _ h => exact h
  | cons x p ih => cases h with | step _ _ _ h => exact ih h
end
end Go.Rt

/- Routes, plain: disjoint routes, and the least cost of a pair. -/
namespace Go.Proofs.YtleldppdflgmgaaGreat
open Go.RowKit Go.Eng Go.Nw Go.Rt

def costW (n : Net) (u v : Int) : Int := lossE n u v + 1
theorem mem_arcs3 {n : Net} (h : Ok n) {u v c : Int} : (u, v, c) ∈ arcsE n ↔ goodE n u v = true ∧ c = lossE n u v + 1 := by
  unfold arcsE
  rw [mem_arcs]
  constructor
  · rintro ⟨i, hi, hu, he⟩
    unfold arcAt at he
    simp only [Prod.mk.injEq] at he
    obtain ⟨rfl, rfl, rfl⟩ := he
    rw [usable_good h hi] at hu
    refine ⟨hu, ?_⟩
    unfold lossE
    rw [find_self h hi, Int.toNat_natCast]
  · rintro ⟨hg, rfl⟩
    have hf := good_find hg
    have hl := find_lt hf
    obtain ⟨e1, e2⟩ := find_key hf
    refine ⟨(findE n u v).toNat, hl, ?_, ?_⟩
    · rw [usable_good h hl, e1, e2]; exact hg
    · unfold arcAt lossE; rw [e1, e2]
theorem net0 {n : Net} (h : Ok n) : Net3 (goodE n) (costW n) (arcsE n) := ⟨fun u v c => mem_arcs3 h, fun u v _ => by have := loss_bd h u v; unfold costW; omega⟩
theorem arcs8 {n : Net} (h : Ok n) : Arcs8 n.nodes.toNat (arcsE n) := by
  intro a ha
  obtain ⟨i, hi, _, rfl⟩ := mem_arcs.1 ha
  have hl := h.lk i hi
  have h1 := hl.f0; have h2 := hl.f1; have h3 := hl.t0; have h4 := hl.t1; have h5 := hl.l0; have h6 := hl.l1
  unfold arcAt
  simp only
  omega
theorem arcs_nodup {n : Net} (h : Ok n) : ∀ k, k ≤ n.links.length → (arcsTo n k).Nodup
  | 0, _ => by simp [arcsTo]
  | k + 1, hk => by
    have ih := arcs_nodup h k (by omega)
    cases hu : usableE n k with
    | false => rw [arcsTo_no hu]; exact ih
    | true =>
      rw [arcsTo_yes hu]
      refine List.nodup_append.2 ⟨ih, by simp, fun a ha b hb => ?_⟩
      obtain rfl := List.mem_singleton.1 hb
      intro e
      obtain ⟨i, hi, _, he⟩ := mem_arcs.1 (e ▸ ha)
      unfold arcAt at he
      simp only [Prod.mk.injEq] at he
      have h1 := find_self h (i := i) (by omega)
      have h2 := find_self h (i := k) (by omega)
      rw [he.1, he.2.1, h2] at h1
      omega

/-- A route from s over ms to t. -/
def rt (s t : Int) (ms : List Int) : List Int := s :: (ms ++ [t])
structure IsRt (n : Net) (s t : Int) (ms : List Int) : Prop where
  path : PathM (goodE n) n.nodes.toNat t s ms
  nd : (rt s t ms).Nodup
theorem rt_nd {s t : Int} {ms : List Int} (h : (rt s t ms).Nodup) : s ≠ t ∧ s ∉ ms ∧ t ∉ ms ∧ ms.Nodup := by
  unfold rt at h
  obtain ⟨h1, h2⟩ := List.nodup_cons.1 h
  obtain ⟨h3, _, h4⟩ := List.nodup_append.1 h2
  refine ⟨fun e => h1 (by rw [e]; simp), fun e => h1 (List.mem_append_left _ e), fun e => h4 t e t (by simp) rfl, h3⟩
theorem nd_rt {s t : Int} {ms : List Int} (h1 : s ≠ t) (h2 : s ∉ ms) (h3 : t ∉ ms) (h4 : ms.Nodup) : (rt s t ms).Nodup := by
  unfold rt
  refine List.nodup_cons.2 ⟨fun h => ?_, List.nodup_append.2 ⟨h4, by simp, fun a ha b hb => ?_⟩⟩
  · rcases List.mem_append.1 h with h | h
    · exact h2 h
    · exact h1 (List.mem_singleton.1 h)
  · obtain rfl := List.mem_singleton.1 hb
    exact fun e => h3 (e ▸ ha)
theorem rt_len (s t : Int) (ms : List Int) : (rt s t ms).length = ms.length + 2 := by simp [rt]
theorem rt_get {s t : Int} {ms : List Int} {i : Nat} (h : i < (rt s t ms).length) : (i = 0 ∧ (rt s t ms).getD i 0 = s) ∨ (∃ j, i = j + 1 ∧ j < ms.length ∧ (rt s t ms).getD i 0 ∈ ms) ∨ (i = ms.length + 1 ∧ (rt s t ms).getD i 0 = t) := by
  rw [rt_len] at h
  unfold rt
  cases i with
  | zero => exact .inl ⟨rfl, rfl⟩
  | succ j =>
    rw [List.getD_cons_succ]
    by_cases hj : j < ms.length
    · refine .inr (.inl ⟨j, rfl, hj, ?_⟩)
      rw [List.getD_eq_getElem?_getD, List.getElem?_append_left hj, List.getElem?_eq_getElem hj]
      exact List.getElem_mem hj
    · obtain rfl : j = ms.length := by omega
      refine .inr (.inr ⟨rfl, ?_⟩)
      rw [List.getD_eq_getElem?_getD, List.getElem?_append_right (Nat.le_refl _), Nat.sub_self]; rfl
theorem rt_mem {s t : Int} {ms : List Int} {x : Int} (h : x ∈ ms) : ∃ j, j < ms.length ∧ (rt s t ms).getD (j + 1) 0 = x := by
  obtain ⟨j, hj, rfl⟩ := List.mem_iff_getElem.1 h
  refine ⟨j, hj, ?_⟩
  unfold rt
  rw [List.getD_cons_succ, List.getD_eq_getElem?_getD, List.getElem?_append_left hj, List.getElem?_eq_getElem hj]; rfl
theorem rt_inj {s t : Int} {p q : List Int} (h : rt s t p = rt s t q) : p = q := by
  unfold rt at h
  have := (List.cons.inj h).2
  exact List.append_cancel_right this
theorem disj_iff {s t : Int} {mp mq : List Int} (hp : (rt s t mp).Nodup) (hq : (rt s t mq).Nodup) : disjE (rt s t mp) (rt s t mq) = true ↔ mp ≠ mq ∧ ∀ x ∈ mp, x ∉ mq := by
  obtain ⟨hst, p1, p2, _⟩ := rt_nd hp
  obtain ⟨_, q1, q2, _⟩ := rt_nd hq
  have lp := rt_len s t mp
  have lq := rt_len s t mq
  have hlast : ∀ ms : List Int, (rt s t ms).getD ((rt s t ms).length - 1) 0 = t := fun ms => by
    rcases rt_get (s := s) (t := t) (ms := ms) (i := (rt s t ms).length - 1) (by rw [rt_len]; omega) with ⟨h, _⟩ | ⟨j, h, hj, _⟩ | ⟨_, h⟩
    · rw [rt_len] at h; omega
    · rw [rt_len] at h; omega
    · exact h
  unfold disjE
  rw [hlast mp, hlast mq]
  constructor
  · intro h
    rw [Bool.and_eq_true, decide_eq_true_eq] at h
    obtain ⟨⟨_, _, hne, _⟩, h⟩ := h
    refine ⟨fun e => hne (by rw [e]), fun x hx hy => ?_⟩
    obtain ⟨i, hi, ei⟩ := rt_mem (s := s) (t := t) hx
    obtain ⟨k, hk, ek⟩ := rt_mem (s := s) (t := t) hy
    have hm : meetAt (rt s t mp) (rt s t mq) (i + 1) (k + 1) = true := by
      unfold meetAt
      rw [decide_eq_true_eq, ei, ek]
      exact ⟨rfl, by omega⟩
    have : ((List.range (rt s t mp).length).any fun i => (List.range (rt s t mq).length).any fun k => meetAt (rt s t mp) (rt s t mq) i k) = true :=
      any_true (p := fun i => (List.range (rt s t mq).length).any fun k => meetAt (rt s t mp) (rt s t mq) i k) (k := i + 1) (by omega) (any_true (p := fun k => meetAt (rt s t mp) (rt s t mq) (i + 1) k) (k := k + 1) (by omega) hm)
    rw [this] at h
    cases h
  · rintro ⟨hne, hdis⟩
    rw [Bool.and_eq_true, decide_eq_true_eq]
    refine ⟨⟨by omega, by omega, fun e => hne (rt_inj e), rfl, rfl⟩, ?_⟩
    rw [Bool.not_eq_true', List.any_eq_false]
    intro i hi
    have hi := List.mem_range.1 hi
    rw [List.any_eq_true]
    rintro ⟨k, hk, hm⟩
    have hk := List.mem_range.1 hk
    unfold meetAt at hm
    rw [decide_eq_true_eq] at hm
    obtain ⟨he, hnb⟩ := hm
    rcases rt_get hi with ⟨i0, hi⟩ | ⟨j, hj, hjl, hi⟩ | ⟨i0, hi⟩ <;> rcases rt_get hk with ⟨k0, hk⟩ | ⟨j', hj', hjl', hk⟩ | ⟨k0, hk⟩
    · exact hnb (.inl ⟨i0, k0⟩)
    · rw [hi] at he; rw [← he] at hk; exact q1 hk
    · rw [hi, hk] at he; exact hst he
    · rw [hk] at he; rw [he] at hi; exact p1 hi
    · rw [he] at hi; exact hdis _ hi hk
    · rw [hk] at he; rw [he] at hi; exact p2 hi
    · rw [hi, hk] at he; exact hst he.symm
    · rw [hi] at he; rw [← he] at hk; exact q2 hk
    · exact hnb (.inr ⟨by omega, by omega⟩)

/-- Two disjoint routes. -/
structure Two (n : Net) (s t : Int) (mp mq : List Int) : Prop where
  p : IsRt n s t mp
  q : IsRt n s t mq
  ne : mp ≠ mq
  dis : ∀ x ∈ mp, x ∉ mq
theorem Two.symm {n : Net} {s t : Int} {mp mq : List Int} (h : Two n s t mp mq) : Two n s t mq mp := ⟨h.q, h.p, Ne.symm h.ne, fun x hx hy => h.dis x hy hx⟩
def key (n : Net) (s t : Int) (ms : List Int) : Int := keyG (costW n) (rt s t ms)
theorem shut_abt (a b to : Int) (closed : Int → Bool) (x : Int) : shutB a b to closed x = false ↔ (x ≠ a ∧ x ≠ b ∧ x ≠ to) ∧ closed x = false := by
  unfold shutB
  rw [Bool.or_eq_false_iff, decide_eq_false_iff_not]
  constructor
  · rintro ⟨h1, h2⟩; exact ⟨⟨fun h => h1 (.inl h), fun h => h1 (.inr (.inl h)), fun h => h1 (.inr (.inr h))⟩, h2⟩
  · rintro ⟨⟨h1, h2, h3⟩, h4⟩; exact ⟨by rintro (h | h | h); exact h1 h; exact h2 h; exact h3 h, h4⟩
/-- The least cost of a pair. -/
theorem total_sem {n : Net} (hok : Ok n) {s t : Int} (hs : 0 ≤ s ∧ s < n.nodes) (ht : 0 ≤ t ∧ t < n.nodes) (hst : s ≠ t) : ∃ r, bothF 100000 n.nodes.toNat (arcsE n) s s t (fun _ => false) = some r ∧ ((r.2.1 = true ∧ (∃ L π, BothYes n.nodes.toNat (arcsE n) s s t r.1 (shutB s s t (fun _ => false)) r.2.2 L π) ∧ (∃ mp mq, Two n s t mp mq ∧ key n s t mp + key n s t mq = r.1) ∧ ∀ mp mq, Two n s t mp mq → r.1 ≤ key n s t mp + key n s t mq) ∨ (r.2.1 = false ∧ ∀ mp mq, ¬ Two n s t mp mq)) := by
  have hn0 := hok.n0
  have hn1 := hok.n1
  have hnet := net0 hok
  have h8 := arcs8 hok
  have hsh : ∀ x, shutB s s t (fun _ => false) x = false ↔ x ≠ s ∧ x ≠ t := fun x => by rw [shut_abt]; simp
  have hto : shutB s s t (fun _ => false) t = true := by unfold shutB; simp
  have hm : 2 * n.nodes.toNat * (48 * n.nodes.toNat + 1) < 100000 := by
    have h1 : n.nodes.toNat ≤ 32 := by omega
    have h2 : 2 * n.nodes.toNat * (48 * n.nodes.toNat + 1) ≤ 64 * 1537 := Nat.mul_le_mul (by omega) (by omega)
    omega
  obtain ⟨r, hr, h⟩ := both_sem (closed := fun _ => false) (fuel := 100000) ⟨by omega, by omega⟩ h8 (arcs_nodup hok n.links.length (Nat.le_refl _)) ⟨hs.1, by omega⟩ ⟨hs.1, by omega⟩ ⟨ht.1, by omega⟩ hm
  refine ⟨r, hr, ?_⟩
  -- two routes are two ways
  have hto2 : ∀ mp mq, Two n s t mp mq → ∃ ps qs, Cand (arcsE n) (shutB s s t (fun _ => false)) s s t ps qs ∧ wcost ps + wcost qs = key n s t mp + key n s t mq := by
    intro mp mq h2
    obtain ⟨_, p1, p2, p3⟩ := rt_nd h2.p.nd
    obtain ⟨_, q1, q2, q3⟩ := rt_nd h2.q.nd
    obtain ⟨ps, a1, a2, a3⟩ := way_of_path (sh := shutB s s t (fun _ => false)) hnet mp s h2.p.path fun x hx => (hsh x).2 ⟨fun e => p1 (e ▸ hx), fun e => p2 (e ▸ hx)⟩
    obtain ⟨qs, b1, b2, b3⟩ := way_of_path (sh := shutB s s t (fun _ => false)) hnet mq s h2.q.path fun x hx => (hsh x).2 ⟨fun e => q1 (e ▸ hx), fun e => q2 (e ▸ hx)⟩
    have hnn : (inner ps ++ inner qs).Nodup := by
      rw [a2, b2]
      exact List.nodup_append.2 ⟨p3, q3, fun a ha b hb e => h2.dis a ha (e ▸ hb)⟩
    refine ⟨ps, qs, ⟨a1, b1, ?_, hnn⟩, by rw [a3, b3]; rfl⟩
    -- the arcs are not the same
    have hta := way_tails a1
    have htb := way_tails b1
    rw [a2] at hta
    rw [b2] at htb
    have n1 : ps.Nodup := nodup_of_map (f := fun a : Lk => a.1) (by rw [hta]; exact List.nodup_cons.2 ⟨p1, p3⟩)
    have n2 : qs.Nodup := nodup_of_map (f := fun a : Lk => a.1) (by rw [htb]; exact List.nodup_cons.2 ⟨q1, q3⟩)
    refine List.nodup_append.2 ⟨n1, n2, fun a ha b hb e => ?_⟩
    subst e
    have e1 : a.1 ∈ s :: mp := by rw [← hta]; exact List.mem_map.2 ⟨a, ha, rfl⟩
    have e2 : a.1 ∈ s :: mq := by rw [← htb]; exact List.mem_map.2 ⟨a, hb, rfl⟩
    have e3 := way_heads a1 a ha
    have e4 := way_heads b1 a hb
    rw [a2] at e3
    rw [b2] at e4
    have hhead : a.2.1 = t := by
      rcases e3 with h | h
      · exact h
      · rcases e4 with h' | h'
        · exact h'
        · exact absurd h' (h2.dis _ h)
    -- an arc to t is the last one of a way
    have hfirst : ∀ {u : Int} {cs : List Lk} {ms : List Int}, Rt.Way (arcsE n) (shutB s s t (fun _ => false)) t u cs → inner cs = ms → u ∉ ms → ms.Nodup → a ∈ cs → a.1 = u → a.2.1 = t → ms = [] := by
      intro u cs ms hw hi hu hnd hac hau hat
      cases hw with
      | last _ _ => rw [← hi]; rfl
      | @step c cs hc hs2 hw =>
        rcases List.mem_cons.1 hac with rfl | hac
        · rw [hat, hto] at hs2; cases hs2
        · exfalso
          apply hu
          rw [← hi]
          have : inner (c :: cs) = cs.map fun a => a.1 := rfl
          rw [this, ← hau]
          exact List.mem_map.2 ⟨a, hac, rfl⟩
    rcases List.mem_cons.1 e1 with h3 | h3
    · have m1 := hfirst a1 a2 p1 p3 ha h3 hhead
      have m2 := hfirst b1 b2 q1 q3 hb h3 hhead
      exact h2.ne (m1.trans m2.symm)
    · rcases List.mem_cons.1 e2 with h4 | h4
      · rw [h4] at h3; exact p1 h3
      · exact h2.dis _ h3 h4
  have hfrom : ∀ ps qs, Cand (arcsE n) (shutB s s t (fun _ => false)) s s t ps qs → Two n s t (inner ps) (inner qs) ∧ wcost ps + wcost qs = key n s t (inner ps) + key n s t (inner qs) := by
    intro ps qs hc
    obtain ⟨p1, p2⟩ := path_of_way hnet h8 hto hc.p hst
    obtain ⟨q1, q2⟩ := path_of_way hnet h8 hto hc.q hst
    obtain ⟨n1, n2, n3⟩ := List.nodup_append.1 hc.nodes
    have hps := hc.p.open_
    have hqs := hc.q.open_
    have hrp : (rt s t (inner ps)).Nodup := nd_rt hst (fun h => ((hsh s).1 (hps s h)).1 rfl) (fun h => ((hsh t).1 (hps t h)).2 rfl) n1
    have hrq : (rt s t (inner qs)).Nodup := nd_rt hst (fun h => ((hsh s).1 (hqs s h)).1 rfl) (fun h => ((hsh t).1 (hqs t h)).2 rfl) n2
    refine ⟨⟨⟨p1, hrp⟩, ⟨q1, hrq⟩, fun e => ?_, fun x hx hy => n3 x hx x hy rfl⟩, by rw [p2, q2]; rfl⟩
    cases hia : inner ps with
    | cons x xs =>
      rw [← e, hia] at n3
      exact n3 x List.mem_cons_self x List.mem_cons_self rfl
    | nil =>
      rw [hia] at e p1
      rw [← e] at q1
      have hone : ∀ {cs : List Lk}, Rt.Way (arcsE n) (shutB s s t (fun _ => false)) t s cs → inner cs = [] → cs = [(s, t, costW n s t)] := by
        intro cs hw hi
        generalize hu : s = u at hw
        cases hw with
        | @last a ha hat =>
          obtain ⟨a1, a2, a3⟩ := a
          simp only at hat hu
          subst hat hu
          rw [((hnet.iff _ _ _).1 ha).2]
        | step _ _ hw =>
          rw [hw.inner_cons] at hi
          cases hi
      have ha := hone hc.p hia
      have hb := hone hc.q e.symm
      have := (List.nodup_append.1 hc.arcs).2.2 (s, t, costW n s t) (by rw [ha]; simp) (s, t, costW n s t) (by rw [hb]; simp)
      exact this rfl
  rcases h with ⟨h1, h2, ⟨ps, qs, hc, he⟩, h4⟩ | ⟨h1, h2⟩
  · obtain ⟨k1, k2⟩ := hfrom ps qs hc
    refine .inl ⟨h1, h2, ⟨_, _, k1, by rw [← k2]; exact he⟩, fun mp mq hm => ?_⟩
    obtain ⟨ps, qs, hc, he⟩ := hto2 mp mq hm
    rw [← he]
    exact h4 ps qs hc
  · refine .inr ⟨h1, fun mp mq hm => ?_⟩
    obtain ⟨ps, qs, hc, _⟩ := hto2 mp mq hm
    exact h2 ps qs hc
end Go.Proofs.YtleldppdflgmgaaGreat

/- Routes, plain: what the rest of a prefix costs. -/
namespace Go.Proofs.YtleldppdflgmgaaGreat
open Go.RowKit Go.Eng Go.Nw Go.Rt

theorem path_imp {st st2 : Int → Int → Bool} {nodes : Nat} {t u : Int} {p : List Int} (h : PathG st nodes t u p) (hs : ∀ x y, st x y = true → st2 x y = true) : PathG st2 nodes t u p := h.mono fun x y _ _ => hs x y
theorem path_heads {st : Int → Int → Bool} {nodes : Nat} {t u : Int} {p : List Int} (h : PathG st nodes t u p) : ∀ x ∈ p, ∃ y, st y x = true := by
  induction h with
  | done => exact fun x hx => absurd hx List.not_mem_nil
  | @step u v r hu hs hv h ih =>
    intro x hx
    rcases List.mem_cons.1 hx with rfl | hx
    · exact ⟨u, hs⟩
    · exact ih x hx
theorem and_left_ {a b : Bool} (h : (a && b) = true) : a = true := by cases a <;> simp_all
theorem and_right_ {a b : Bool} (h : (a && b) = true) : b = true := by cases a <;> simp_all
/-- The network without what a filter strikes. -/
theorem net_filter {n : Net} (h : Ok n) (g : Lk → Bool) : Net3 (fun u v => goodE n u v && g (u, v, costW n u v)) (costW n) ((arcsE n).filter g) := by
  refine ⟨fun u v c => ?_, fun u v hs => (net0 h).pos u v (and_left_ hs)⟩
  rw [List.mem_filter]
  constructor
  · rintro ⟨h1, h2⟩
    obtain ⟨hg, rfl⟩ := ((net0 h).iff u v c).1 h1
    exact ⟨by rw [hg, h2]; rfl, rfl⟩
  · rintro ⟨h1, rfl⟩
    exact ⟨((net0 h).iff u v _).2 ⟨and_left_ h1, rfl⟩, and_right_ h1⟩

/-! ### Routes that avoid a route -/
def avoidG (s t : Int) (mp : List Int) (a : Lk) : Bool := !(decide (a.1 ∈ mp) || decide (a.2.1 ∈ mp)) && !(decide (mp = []) && decide (a.1 = s ∧ a.2.1 = t))
theorem left_eq {l : List Lk} {s t : Int} {mp : List Int} {g : Lk → Bool} (k : Nat) (hk : k = 2 ↔ mp = []) (hg : ∀ a, g a = !(decide (a.1 ∈ mp) || decide (a.2.1 ∈ mp))) : ((if k = 2 then notArc s t l else l).filter g) = l.filter (avoidG s t mp) := by
  by_cases h : mp = []
  · rw [if_pos (hk.2 h)]
    unfold notArc
    rw [List.filter_filter]
    apply List.filter_congr
    intro a _
    rw [hg]; unfold avoidG; rw [decide_eq_true h, Bool.true_and]
  · rw [if_neg (fun e => h (hk.1 e))]
    apply List.filter_congr
    intro a _
    rw [hg]; unfold avoidG; rw [decide_eq_false h, Bool.false_and, Bool.not_false, Bool.and_true]
theorem rt_two (s t : Int) (mp : List Int) : (rt s t mp).length = 2 ↔ mp = [] := by
  rw [rt_len]
  constructor
  · intro h; exact List.eq_nil_of_length_eq_zero (by omega)
  · rintro rfl; rfl
theorem rt_last (s t : Int) (mp : List Int) : lastP (rt s t mp) = t := by
  unfold lastP rt
  rw [show (s :: (mp ++ [t])).length - 1 = mp.length + 1 by simp, List.getD_cons_succ, List.getD_eq_getElem?_getD, List.getElem?_append_right (Nat.le_refl _), Nat.sub_self]; rfl
theorem leftP_eq (l : List Lk) (s t : Int) (mp : List Int) : leftP l s t (rt s t mp) = l.filter (avoidG s t mp) := by
  unfold leftP
  apply left_eq _ (rt_two s t mp)
  intro a
  have : midP (rt s t mp) = mp := by
    unfold midP
    rw [rt_len, Nat.add_sub_cancel]
    unfold rt
    rw [List.drop_one, List.tail_cons, List.take_left']
    rfl
  rw [this]
theorem leftA_eq (l : List Lk) {s t : Int} {mp : List Int} (h : t ∉ mp) : leftA l (rt s t mp) t = l.filter (avoidG s t mp) := by
  unfold leftA
  apply left_eq _ (rt_two s t mp)
  intro a
  have : ∀ v, shutQ (rt s t mp) t v = decide (v ∈ mp) := fun v => by
    unfold shutQ shutP rt
    rw [List.drop_one, List.tail_cons]
    by_cases e : v = t
    · subst e; rw [decide_eq_false h]; simp
    · simp [e]
  rw [this, this]
def stA (n : Net) (s t : Int) (mp : List Int) (u v : Int) : Bool := goodE n u v && avoidG s t mp (u, v, costW n u v)
theorem avoid_iff {s t : Int} {mp : List Int} {u v c : Int} : avoidG s t mp (u, v, c) = true ↔ (u ∉ mp ∧ v ∉ mp) ∧ ¬ (mp = [] ∧ u = s ∧ v = t) := by
  unfold avoidG
  simp only [Bool.and_eq_true, Bool.not_eq_true', Bool.or_eq_false_iff, decide_eq_false_iff_not]
  constructor
  · rintro ⟨h1, h2⟩
    refine ⟨h1, fun h3 => ?_⟩
    rw [decide_eq_true h3.1, decide_eq_true h3.2] at h2
    cases h2
  · rintro ⟨h1, h2⟩
    refine ⟨h1, ?_⟩
    cases h3 : (decide (mp = []) && decide (u = s ∧ v = t)) with
    | false => rfl
    | true => exact absurd ⟨of_decide_eq_true (and_left_ h3), of_decide_eq_true (and_right_ h3)⟩ h2
theorem path_avoid {n : Net} {s t : Int} {mp mq : List Int} (hp : IsRt n s t mp) : (PathM (stA n s t mp) n.nodes.toNat t s mq ∧ (rt s t mq).Nodup) ↔ Two n s t mp mq := by
  obtain ⟨hst, p1, p2, p3⟩ := rt_nd hp.nd
  constructor
  · rintro ⟨h, hnd⟩
    have hd : ∀ x ∈ mq, x ∉ mp := fun x hx => by
      obtain ⟨y, hy⟩ := path_heads h x (List.mem_append_left _ hx)
      exact (avoid_iff.1 (and_right_ hy)).1.2
    refine ⟨hp, ⟨path_imp h fun x y hxy => and_left_ hxy, hnd⟩, fun e => ?_, fun x hx hy => hd x hy hx⟩
    subst e
    cases mp with
    | cons x xs => exact hd x List.mem_cons_self List.mem_cons_self
    | nil =>
      cases h with
      | step _ hs _ _ => exact (avoid_iff.1 (and_right_ hs)).2 ⟨rfl, rfl, rfl⟩
  · intro h2
    refine ⟨?_, h2.q.nd⟩
    obtain ⟨_, q1, q2, q3⟩ := rt_nd h2.q.nd
    have hx : ∀ x, x = s ∨ x ∈ mq ++ [t] → x ∉ mp := fun x hx hm => by
      rcases hx with rfl | hx
      · exact p1 hm
      · rcases List.mem_append.1 hx with h | h
        · exact h2.dis x hm h
        · obtain rfl := List.mem_singleton.1 h; exact p2 hm
    by_cases he : mp = []
    · cases mq with
      | nil => exact absurd he h2.ne
      | cons m ms =>
        have hpa := h2.q.path
        cases hpa with
        | step hu hs hv h =>
          have hmt : m ≠ t := fun e => q2 (by rw [e]; exact List.mem_cons_self)
          refine .step hu ?_ hv (h.mono fun x y hx2 hy hxy => ?_)
          · unfold stA
            rw [hs]
            exact avoid_iff.2 ⟨⟨hx s (.inl rfl), hx m (.inr List.mem_cons_self)⟩, fun h => hmt h.2.2⟩
          · unfold stA
            rw [hxy]
            have hxm : x ∈ (m :: ms) ++ [t] := by
              rcases hx2 with rfl | h
              · exact List.mem_cons_self
              · exact List.mem_cons_of_mem _ h
            refine avoid_iff.2 ⟨⟨hx x (.inr hxm), hx y (.inr (List.mem_cons_of_mem _ hy))⟩, fun h => ?_⟩
            rw [h.2.1] at hxm
            rcases List.mem_append.1 hxm with h | h
            · exact q1 h
            · exact hst (List.mem_singleton.1 h)
    · refine h2.q.path.mono fun x y hx2 hy hxy => ?_
      unfold stA
      rw [hxy]
      exact avoid_iff.2 ⟨⟨hx x hx2, hx y (.inr hy)⟩, fun h => he h.1⟩
theorem rt_bd {n : Net} (hok : Ok n) {s t : Int} {mp : List Int} (hs : 0 ≤ s ∧ s < n.nodes) (hp : IsRt n s t mp) : mp.length + 2 ≤ n.nodes.toNat := by
  have hn0 := hok.n0
  have := Rt.nodup_len n.nodes.toNat _ hp.nd fun x hx => by
    unfold rt at hx
    rcases List.mem_cons.1 hx with rfl | hx
    · omega
    · exact path_mem hp.path x hx
  rwa [rt_len] at this

/-- The first of the cheapest routes beside a route. -/
theorem other_sem {n : Net} (hok : Ok n) {s t : Int} (hs : 0 ≤ s ∧ s < n.nodes) (ht : 0 ≤ t ∧ t < n.nodes) {mp : List Int} (hp : IsRt n s t mp) :
    (farAt (distC n.nodes.toNat ((arcsE n).filter (avoidG s t mp)) t) s < noneC ∧ ∃ mq, Two n s t mp mq ∧ otherP n.nodes.toNat (arcsE n) s t (rt s t mp) = rt s t mq ∧ key n s t mq = farAt (distC n.nodes.toNat ((arcsE n).filter (avoidG s t mp)) t) s ∧ FirstMin (keyG (costW n)) (walkG (stA n s t mp) n.nodes.toNat t (n.nodes.toNat - 1) [s]) (rt s t mq)) ∨ (noneC ≤ farAt (distC n.nodes.toNat ((arcsE n).filter (avoidG s t mp)) t) s ∧ ∀ mq, ¬ Two n s t mp mq) := by
  have hn0 := hok.n0
  have hn1 := hok.n1
  obtain ⟨hst, _⟩ := rt_nd hp.nd
  have hnet : Net3 (stA n s t mp) (costW n) ((arcsE n).filter (avoidG s t mp)) := net_filter hok _
  have h8 : Arcs8 n.nodes.toNat ((arcsE n).filter (avoidG s t mp)) := (arcs8 hok).sub fun a ha => (List.mem_filter.1 ha).1
  have hd := distC_dist (to := t) (by omega) h8 ⟨ht.1, by omega⟩
  unfold otherP
  rw [leftP_eq]
  obtain ⟨far, hfar⟩ : ∃ far, distC n.nodes.toNat ((arcsE n).filter (avoidG s t mp)) t = far := ⟨_, rfl⟩
  rw [hfar] at hd ⊢
  rcases Int.lt_or_le (farAt far s) noneC with hlt | hge
  · left
    refine ⟨hlt, ?_⟩
    obtain ⟨h1, h2⟩ := way_first hnet h8.ok hd ⟨ht.1, by omega⟩ (fun u v hg => by
      have := h8 (u, v, costW n u v) ((hnet.iff u v _).2 ⟨hg, rfl⟩)
      exact this.2.1) (by omega) (farAt far s).toNat (n.nodes.toNat - 1) [s] s (by simp) (by simp) rfl hs.1 (by omega) hlt (Nat.le_refl _) (fun x hx => by obtain rfl := List.mem_singleton.1 hx; exact ⟨⟨hs.1, by omega⟩, Int.le_refl _⟩) (by simp only [List.length_singleton]; omega)
    have hmem := h1.mem
    obtain ⟨p, hpe, hpath⟩ := walk_mem _ _ _ hmem
    have hnd := walk_nodup _ _ _ (by simp) hmem
    obtain ⟨mq, rfl⟩ := path_mids hpath hst
    rw [hpe] at h1 h2 hnd
    have hwf : wayF ((arcsE n).filter (avoidG s t mp)) far s t = rt s t mq := by
      unfold wayF
      rw [if_neg (by omega)]
      exact hpe
    refine ⟨mq, (path_avoid hp).1 ⟨hpath, hnd⟩, hwf, ?_, h1⟩
    have : keyG (costW n) [s] = 0 := rfl
    have h3 : key n s t mq = keyG (costW n) [s] + farAt far s := h2
    omega
  · right
    refine ⟨hge, fun mq h2 => ?_⟩
    have hl := rt_bd hok hs h2.q
    have := (path_far hnet hd ((path_avoid hp).2 h2).1 (by rw [List.length_append, List.length_singleton]; omega)).2
    omega
theorem other_le {n : Net} (hok : Ok n) {s t : Int} (hs : 0 ≤ s ∧ s < n.nodes) (ht : 0 ≤ t ∧ t < n.nodes) {mp mq : List Int} (h2 : Two n s t mp mq) : farAt (distC n.nodes.toNat ((arcsE n).filter (avoidG s t mp)) t) s ≤ key n s t mq := by
  have hn0 := hok.n0
  have hn1 := hok.n1
  have hnet : Net3 (stA n s t mp) (costW n) ((arcsE n).filter (avoidG s t mp)) := net_filter hok _
  have h8 : Arcs8 n.nodes.toNat ((arcsE n).filter (avoidG s t mp)) := (arcs8 hok).sub fun a ha => (List.mem_filter.1 ha).1
  have hd := distC_dist (to := t) (by omega) h8 ⟨ht.1, by omega⟩
  have hl := rt_bd hok hs h2.q
  exact (path_far hnet hd ((path_avoid h2.p).2 h2).1 (by rw [List.length_append, List.length_singleton]; omega)).1

/-- The rest of a whole route. -/
theorem rest_end {n : Net} (hok : Ok n) {s t : Int} (hs : 0 ≤ s ∧ s < n.nodes) (ht : 0 ≤ t ∧ t < n.nodes) {mp : List Int} (hp : IsRt n s t mp) (fuel : Nat) : ∃ c, restF fuel n.nodes.toNat (arcsE n) (rt s t mp) t = some c ∧ ((c.2 = true ∧ (∃ mq, Two n s t mp mq ∧ key n s t mq = c.1) ∧ ∀ mq, Two n s t mp mq → c.1 ≤ key n s t mq) ∨ (c.2 = false ∧ ∀ mq, ¬ Two n s t mp mq)) := by
  obtain ⟨_, _, p2, _⟩ := rt_nd hp.nd
  unfold restF
  rw [if_pos (rt_last s t mp), leftA_eq _ p2]
  refine ⟨_, rfl, ?_⟩
  have hh : headP (rt s t mp) = s := rfl
  rw [hh]
  rcases other_sem hok hs ht hp with ⟨h1, mq, h2, _, h3, _⟩ | ⟨h1, h2⟩
  · exact .inl ⟨decide_eq_true h1, ⟨mq, h2, h3⟩, fun mq h2 => other_le hok hs ht h2⟩
  · exact .inr ⟨decide_eq_false (by omega), h2⟩

/-- The rest of a route's beginning. -/
theorem rest_mid {n : Net} (hok : Ok n) {s t v : Int} {ms : List Int} (hs : 0 ≤ s ∧ s < n.nodes) (ht : 0 ≤ t ∧ t < n.nodes) (hv : 0 ≤ v ∧ v < n.nodes) (hst : s ≠ t) (hvt : v ≠ t) (htm : t ∉ ms) (hnd : (s :: (ms ++ [v])).Nodup) (hext : ∀ p, PathG (goodE n) n.nodes.toNat t v p → PathG (goodE n) n.nodes.toNat t s (ms ++ v :: p)) :
    ∃ c, restF 100000 n.nodes.toNat (arcsE n) (s :: (ms ++ [v])) t = some c ∧ ((c.2 = true ∧ (∃ x mq, Two n s t (ms ++ v :: x) mq ∧ keyG (costW n) (v :: (x ++ [t])) + key n s t mq = c.1) ∧ ∀ x mq, Two n s t (ms ++ v :: x) mq → c.1 ≤ keyG (costW n) (v :: (x ++ [t])) + key n s t mq) ∨ (c.2 = false ∧ ∀ x mq, ¬ Two n s t (ms ++ v :: x) mq)) := by
  have hn0 := hok.n0
  have hn1 := hok.n1
  obtain ⟨pre, hpre⟩ : ∃ pre, s :: (ms ++ [v]) = pre := ⟨_, rfl⟩
  have hlast : lastP pre = v := by rw [← hpre]; exact rt_last s v ms
  have hhead : headP pre = s := by rw [← hpre]; rfl
  have hshP : ∀ x, shutP pre x = decide (x ∈ ms ++ [v]) := fun x => by rw [← hpre]; rfl
  obtain ⟨hnd1, hnd2⟩ := List.nodup_cons.1 hnd
  obtain ⟨hnd3, _, hnd4⟩ := List.nodup_append.1 hnd2
  have hvm : v ∉ ms := fun h => hnd4 v h v (by simp) rfl
  have hsv : s ≠ v := fun e => hnd1 (by rw [e]; simp)
  have hsm : s ∉ ms := fun e => hnd1 (List.mem_append_left _ e)
  unfold restF
  rw [hpre, hlast, hhead, if_neg hvt]
  have hbad : ∀ u x c : Int, (!badB pre (u, x, c)) = true ↔ x ∉ ms ++ [v] ∧ (u ∈ ms ++ [v] → u = v) ∧ x ≠ s := fun u x c => by
    unfold badB
    rw [hlast, hhead, hshP, hshP]
    simp only [Bool.not_eq_true', Bool.or_eq_false_iff, decide_eq_false_iff_not, Bool.and_eq_false_iff, ne_eq, Decidable.not_not]
    constructor
    · rintro ⟨⟨h1, h2⟩, h3⟩
      refine ⟨h1, fun h4 => ?_, h3⟩
      rcases h2 with h2 | h2
      · exact absurd h4 h2
      · exact h2
    · rintro ⟨h1, h2, h3⟩
      refine ⟨⟨h1, ?_⟩, h3⟩
      by_cases h4 : u ∈ ms ++ [v]
      · exact .inr (h2 h4)
      · exact .inl h4
  have hnet : Net3 (fun u x => goodE n u x && !badB pre (u, x, costW n u x)) (costW n) (leftB (arcsE n) pre) := net_filter hok fun a => !badB pre a
  have h8 : Arcs8 n.nodes.toNat (leftB (arcsE n) pre) := (arcs8 hok).sub fun a ha => (List.mem_filter.1 ha).1
  have hlnd : (leftB (arcsE n) pre).Nodup := (List.filter_sublist (l := arcsE n)).nodup (arcs_nodup hok n.links.length (Nat.le_refl _))
  have hsh : ∀ x, shutB v s t (shutP pre) x = false ↔ (x ≠ v ∧ x ≠ s ∧ x ≠ t) ∧ x ∉ ms ++ [v] := fun x => by rw [shut_abt, hshP, decide_eq_false_iff_not]
  have hto : shutB v s t (shutP pre) t = true := by unfold shutB; simp
  have hm : 2 * n.nodes.toNat * (48 * n.nodes.toNat + 1) < 100000 := by
    have h1 : n.nodes.toNat ≤ 32 := by omega
    have h2 : 2 * n.nodes.toNat * (48 * n.nodes.toNat + 1) ≤ 64 * 1537 := Nat.mul_le_mul (by omega) (by omega)
    omega
  obtain ⟨r, hr, h⟩ := both_sem (closed := shutP pre) (fuel := 100000) ⟨by omega, by omega⟩ h8 hlnd (a := v) (b := s) (to := t) ⟨hv.1, by omega⟩ ⟨hs.1, by omega⟩ ⟨ht.1, by omega⟩ hm
  rw [hr]
  refine ⟨_, rfl, ?_⟩
  have hto2 : ∀ x mq, Two n s t (ms ++ v :: x) mq → ∃ ps qs, Cand (leftB (arcsE n) pre) (shutB v s t (shutP pre)) v s t ps qs ∧ wcost ps + wcost qs = keyG (costW n) (v :: (x ++ [t])) + key n s t mq := by
    intro x mq h2
    obtain ⟨_, p1, p2, p3⟩ := rt_nd h2.p.nd
    obtain ⟨_, q1, q2, q3⟩ := rt_nd h2.q.nd
    obtain ⟨p4, p5, p6⟩ := List.nodup_append.1 p3
    obtain ⟨p7, p8⟩ := List.nodup_cons.1 p5
    have hx1 : ∀ y ∈ x, (y ≠ v ∧ y ≠ s ∧ y ≠ t) ∧ y ∉ ms ++ [v] := fun y hy => by
      have h1 : y ≠ v := fun e => p7 (e ▸ hy)
      have h2 : y ∈ ms ++ v :: x := by simp [hy]
      refine ⟨⟨h1, fun e => p1 (e ▸ h2), fun e => p2 (e ▸ h2)⟩, fun h => ?_⟩
      rcases List.mem_append.1 h with h | h
      · exact p6 y h y (List.mem_cons_of_mem _ hy) rfl
      · exact h1 (List.mem_singleton.1 h)
    have hq1 : ∀ y ∈ mq, (y ≠ v ∧ y ≠ s ∧ y ≠ t) ∧ y ∉ ms ++ [v] := fun y hy => by
      refine ⟨⟨fun e => h2.dis v (by simp) (e ▸ hy), fun e => q1 (e ▸ hy), fun e => q2 (e ▸ hy)⟩, fun h => ?_⟩
      rcases List.mem_append.1 h with h | h
      · exact h2.dis y (by simp [h]) hy
      · obtain rfl := List.mem_singleton.1 h
        exact h2.dis y (by simp) hy
    have htv : t ∉ ms ++ [v] := fun h => by
      rcases List.mem_append.1 h with h | h
      · exact htm h
      · exact hvt (List.mem_singleton.1 h).symm
    have hend : ∀ {z : List Int}, (∀ y ∈ z, (y ≠ v ∧ y ≠ s ∧ y ≠ t) ∧ y ∉ ms ++ [v]) → ∀ y ∈ z ++ [t], y ∉ ms ++ [v] ∧ y ≠ s := fun hz y hy => by
      rcases List.mem_append.1 hy with h | h
      · exact ⟨(hz y h).2, (hz y h).1.2.1⟩
      · obtain rfl := List.mem_singleton.1 h
        exact ⟨htv, Ne.symm hst⟩
    have hpath : PathM (goodE n) n.nodes.toNat t v x := by
      have := h2.p.path
      unfold PathM at this
      rw [List.append_assoc, List.cons_append] at this
      exact PathG.append this
    obtain ⟨ps, a1, a2, a3⟩ := way_of_path (sh := shutB v s t (shutP pre)) hnet x v (hpath.mono fun y z hy hz hyz => by
      rw [hyz, Bool.true_and, hbad]
      refine ⟨(hend hx1 z hz).1, fun h => ?_, (hend hx1 z hz).2⟩
      rcases hy with rfl | hy
      · rfl
      · exact absurd h (hend hx1 y hy).1) fun y hy => (hsh y).2 (hx1 y hy)
    obtain ⟨qs, b1, b2, b3⟩ := way_of_path (sh := shutB v s t (shutP pre)) hnet mq s (h2.q.path.mono fun y z hy hz hyz => by
      rw [hyz, Bool.true_and, hbad]
      refine ⟨(hend hq1 z hz).1, fun hin4 => ?_, (hend hq1 z hz).2⟩
      rcases hy with hy | hy
      · rw [hy] at hin4; exact absurd hin4 hnd1
      · exact absurd hin4 (hend hq1 y hy).1) fun y hy => (hsh y).2 (hq1 y hy)
    have hnn : (x ++ mq).Nodup := List.nodup_append.2 ⟨p8, q3, fun a ha b hb e => h2.dis a (by simp [ha]) (e ▸ hb)⟩
    refine ⟨ps, qs, ⟨a1, b1, ?_, by rw [a2, b2]; exact hnn⟩, by rw [a3, b3]; rfl⟩
    apply nodup_of_map (f := fun a : Lk => a.1)
    rw [List.map_append, way_tails a1, way_tails b1, a2, b2]
    refine List.nodup_append.2 ⟨p5, List.nodup_cons.2 ⟨q1, q3⟩, fun a ha b hb e => ?_⟩
    subst e
    have ha2 : a ∈ ms ++ v :: x := List.mem_append_right _ ha
    rcases List.mem_cons.1 hb with rfl | hb
    · exact p1 ha2
    · exact h2.dis a ha2 hb
  have hfrom : ∀ ps qs, Cand (leftB (arcsE n) pre) (shutB v s t (shutP pre)) v s t ps qs → Two n s t (ms ++ v :: inner ps) (inner qs) ∧ wcost ps + wcost qs = keyG (costW n) (v :: (inner ps ++ [t])) + key n s t (inner qs) := by
    intro ps qs hc
    obtain ⟨p1, p2⟩ := path_of_way hnet h8 hto hc.p hvt
    obtain ⟨q1, q2⟩ := path_of_way hnet h8 hto hc.q hst
    obtain ⟨n1, n2, n3⟩ := List.nodup_append.1 hc.nodes
    have hps := fun x hx => (hsh x).1 (hc.p.open_ x hx)
    have hqs := fun x hx => (hsh x).1 (hc.q.open_ x hx)
    have hgp : PathM (goodE n) n.nodes.toNat t s (ms ++ v :: inner ps) := by
      have := hext _ (path_imp p1 fun x y hxy => and_left_ hxy)
      unfold PathM
      rw [List.append_assoc, List.cons_append]
      exact this
    have hmpn : (ms ++ v :: inner ps).Nodup := List.nodup_append.2 ⟨hnd3, List.nodup_cons.2 ⟨fun h => (hps v h).1.1 rfl, n1⟩, fun a ha b hb e => by
      subst e
      rcases List.mem_cons.1 hb with rfl | hb
      · exact hvm ha
      · exact (hps a hb).2 (List.mem_append_left _ ha)⟩
    have hrp : (rt s t (ms ++ v :: inner ps)).Nodup := nd_rt hst (fun h => by
      rcases List.mem_append.1 h with h | h
      · exact hsm h
      · rcases List.mem_cons.1 h with h | h
        · exact hsv h
        · exact (hps s h).1.2.1 rfl) (fun h => by
      rcases List.mem_append.1 h with h | h
      · exact htm h
      · rcases List.mem_cons.1 h with h | h
        · exact hvt h.symm
        · exact (hps t h).1.2.2 rfl) hmpn
    have hrq : (rt s t (inner qs)).Nodup := nd_rt hst (fun h => (hqs s h).1.2.1 rfl) (fun h => (hqs t h).1.2.2 rfl) n2
    refine ⟨⟨⟨hgp, hrp⟩, ⟨path_imp q1 fun x y hxy => and_left_ hxy, hrq⟩, fun e => ?_, fun x hx hy => ?_⟩, by rw [p2, q2]; rfl⟩
    · have : v ∈ inner qs := by rw [← e]; simp
      exact (hqs v this).1.1 rfl
    · rcases List.mem_append.1 hx with h | h
      · exact (hqs x hy).2 (List.mem_append_left _ h)
      · rcases List.mem_cons.1 h with rfl | h
        · exact (hqs x hy).1.1 rfl
        · exact n3 x h x hy rfl
  rcases h with ⟨h1, _, ⟨ps, qs, hc, he⟩, h4⟩ | ⟨h1, h2⟩
  · obtain ⟨k1, k2⟩ := hfrom ps qs hc
    refine .inl ⟨h1, ⟨_, _, k1, by rw [← k2]; exact he⟩, fun x mq hm => ?_⟩
    obtain ⟨ps, qs, hc, he⟩ := hto2 x mq hm
    rw [← he]
    exact h4 ps qs hc
  · refine .inr ⟨h1, fun x mq hm => ?_⟩
    obtain ⟨ps, qs, hc, _⟩ := hto2 x mq hm
    exact h2 ps qs hc
end Go.Proofs.YtleldppdflgmgaaGreat

/- Lists of numbers in their order, plain. -/
namespace Go.Proofs.YtleldppdflgmgaaGreat
def lexLt : List Int → List Int → Bool
  | [], b => !b.isEmpty
  | _ :: _, [] => false
  | a :: l, b :: m => if a ≠ b then decide (a < b) else lexLt l m
theorem lex_drop {a b : List Int} {i : Nat} {x y : Int} (hx : a[i]? = some x) (hy : b[i]? = some y) : lexLt (a.drop i) (b.drop i) = if x ≠ y then decide (x < y) else lexLt (a.drop (i + 1)) (b.drop (i + 1)) := by
  obtain ⟨h1, rfl⟩ := List.getElem?_eq_some_iff.1 hx
  obtain ⟨h2, rfl⟩ := List.getElem?_eq_some_iff.1 hy
  rw [List.drop_eq_getElem_cons h1, List.drop_eq_getElem_cons h2]
  rfl
theorem lex_no : ∀ {a b : List Int}, lexLt a b = false → lexLt b a = false → a = b
  | [], [], _, _ => rfl
  | [], b :: m, h, _ => by simp [lexLt] at h
  | a :: l, [], _, h => by simp [lexLt] at h
  | a :: l, b :: m, h1, h2 => by
    unfold lexLt at h1 h2
    by_cases e : a = b
    · subst e
      rw [if_neg (fun h => h rfl)] at h1 h2
      rw [lex_no h1 h2]
    · rw [if_pos e] at h1
      rw [if_pos (Ne.symm e)] at h2
      have h3 := of_decide_eq_false h1
      have h4 := of_decide_eq_false h2
      omega
theorem lex_self : ∀ a : List Int, lexLt a a = false
  | [] => rfl
  | a :: l => by unfold lexLt; rw [if_neg (fun h => h rfl)]; exact lex_self l
theorem lex_ne (a b : List Int) : (lexLt a b || lexLt b a) = decide (a ≠ b) := by
  by_cases e : a = b
  · subst e; rw [lex_self]; simp
  · rw [decide_eq_true e]
    cases h1 : lexLt a b with
    | true => rfl
    | false =>
      cases h2 : lexLt b a with
      | true => rfl
      | false => exact absurd (lex_no h1 h2) e
theorem lex_asymm : ∀ {a b : List Int}, lexLt a b = true → lexLt b a = false
  | [], [], h => by cases h
  | [], b :: m, _ => rfl
  | a :: l, [], h => by cases h
  | a :: l, b :: m, h => by
    unfold lexLt at h ⊢
    by_cases e : a = b
    · subst e
      rw [if_neg (fun h => h rfl)] at h ⊢
      exact lex_asymm h
    · rw [if_pos e] at h
      rw [if_pos (Ne.symm e)]
      have := of_decide_eq_true h
      exact decide_eq_false (by omega)
end Go.Proofs.YtleldppdflgmgaaGreat

/- Walks: the reference's Less and Disjoint; the law RouteDisjoint. -/
namespace Go.Proofs.YtleldppdflgmgaaGreat
open Go.RowKit Go.Eng Go.Nw Go.Rt

theorem any_swap {p : Nat → Nat → Bool} {n m : Nat} : ((List.range n).any fun i => (List.range m).any fun k => p i k) = ((List.range m).any fun k => (List.range n).any fun i => p i k) := by
  rw [Bool.eq_iff_iff]
  simp only [List.any_eq_true, List.mem_range]
  constructor
  · rintro ⟨i, hi, k, hk, h⟩; exact ⟨k, hk, i, hi, h⟩
  · rintro ⟨i, hi, k, hk, h⟩; exact ⟨k, hk, i, hi, h⟩
theorem disj_symm (a b : List Int) : disjE a b = disjE b a := by
  unfold disjE
  rw [any_swap]
  have h1 : decide (2 ≤ a.length ∧ 2 ≤ b.length ∧ a ≠ b ∧ a.getD 0 0 = b.getD 0 0 ∧ a.getD (a.length - 1) 0 = b.getD (b.length - 1) 0) = decide (2 ≤ b.length ∧ 2 ≤ a.length ∧ b ≠ a ∧ b.getD 0 0 = a.getD 0 0 ∧ b.getD (b.length - 1) 0 = a.getD (a.length - 1) 0) := by
    rw [decide_eq_decide]
    constructor
    · rintro ⟨q1, q2, q3, q4, q5⟩; exact ⟨q2, q1, Ne.symm q3, q4.symm, q5.symm⟩
    · rintro ⟨q1, q2, q3, q4, q5⟩; exact ⟨q2, q1, Ne.symm q3, q4.symm, q5.symm⟩
  have h2 : ∀ i k, meetAt a b i k = meetAt b a k i := fun i k => by
    unfold meetAt
    rw [decide_eq_decide]
    constructor
    · rintro ⟨q1, q2⟩; exact ⟨q1.symm, fun h => q2 (by omega)⟩
    · rintro ⟨q1, q2⟩; exact ⟨q1.symm, fun h => q2 (by omega)⟩
  rw [h1]
  simp only [h2]

end Go.Proofs.YtleldppdflgmgaaGreat

/- Routes, plain: the loop of pair finds the first route that is in a cheapest pair. -/
namespace Go.Proofs.YtleldppdflgmgaaGreat
open Go.RowKit Go.Eng Go.Nw Go.Rt

/-! ### The order of lists -/
theorem lex_pre : ∀ (r : List Int) {b c : Int} (p q : List Int), b < c → lexLt (r ++ b :: p) (r ++ c :: q) = true
  | [], b, c, p, q, h => by
    show (if b ≠ c then decide (b < c) else lexLt p q) = true
    rw [if_pos (by omega)]; exact decide_eq_true h
  | x :: r, b, c, p, q, h => by
    show (if x ≠ x then decide (x < x) else lexLt (r ++ b :: p) (r ++ c :: q)) = true
    rw [if_neg (fun h => h rfl)]; exact lex_pre r p q h
theorem walk_sorted {st : Int → Int → Bool} {nodes : Nat} {to : Int} : ∀ (f : Nat) (r : List Int), (walkG st nodes to f r).Pairwise fun a b => lexLt a b = true
  | 0, r => by
    unfold walkG
    split
    · exact List.pairwise_singleton _ _
    · exact .nil
  | f + 1, r => by
    unfold walkG
    split
    · exact List.pairwise_singleton _ _
    · rw [List.pairwise_flatMap]
      refine ⟨fun b _ => ?_, ?_⟩
      · split
        · exact walk_sorted f _
        · exact .nil
      · refine List.Pairwise.imp ?_ (List.pairwise_lt_range (n := nodes))
        intro b c hbc x hx y hy
        split at hx
        · split at hy
          · obtain ⟨p, rfl, _⟩ := walk_mem f _ x hx
            obtain ⟨q, rfl, _⟩ := walk_mem f _ y hy
            rw [List.append_assoc, List.append_assoc]
            exact lex_pre r p q (by omega)
          · cases hy
        · cases hx
theorem first_lex {key : List Int → Int} {l : List (List Int)} {x y : List Int} (h : FirstMin key l x) (hp : l.Pairwise fun a b => lexLt a b = true) (hy : y ∈ l) : key x ≤ key y ∧ (key y = key x → y = x ∨ lexLt x y = true) := by
  refine ⟨h.le hy, fun he => ?_⟩
  obtain ⟨l1, l2, rfl, h1, h2⟩ := h
  rcases List.mem_append.1 hy with hy | hy
  · have := h1 y hy; omega
  · rcases List.mem_cons.1 hy with rfl | hy
    · exact .inl rfl
    · obtain ⟨_, h4, _⟩ := List.pairwise_append.1 hp
      exact .inr ((List.pairwise_cons.1 h4).1 y hy)

/-! ### The scan and the loop -/
structure Ch (L : List Lk) (at_ : Int) (r : List Int) (C : Int → Prop) (st : Int × Int) : Prop where
  pos : 0 ≤ st.1
  ok : C st.1
  arc : (at_, st.1, st.2) ∈ L
  out : st.1 ∉ r
theorem scan_ok {fuel nodes : Nat} {L : List Lk} {t total : Int} {r : List Int} {spent at_ : Int} {C : Int → Prop} (hrest : ∀ a ∈ L, a.1 = at_ → a.2.1 ∉ r → ∃ c, restF fuel nodes L (r ++ [a.2.1]) t = some c ∧ (c.2 = true ∧ spent + a.2.2 + c.1 = total ↔ C a.2.1)) (h0 : ∀ a ∈ L, 0 ≤ a.2.1) : ∀ (m : List Lk), (∀ a ∈ m, a ∈ L) → ∀ st : Int × Int, (st.1 = -1 ∨ Ch L at_ r C st) →
    ∃ st2, pairScan fuel nodes L t total r spent at_ m st = some st2 ∧ (st2.1 = -1 ∨ Ch L at_ r C st2) ∧ (0 ≤ st.1 → 0 ≤ st2.1 ∧ st2.1 ≤ st.1) ∧ ∀ a ∈ m, a.1 = at_ → a.2.1 ∉ r → C a.2.1 → 0 ≤ st2.1 ∧ st2.1 ≤ a.2.1
  | [], _, st, hst => ⟨st, rfl, hst, fun h => ⟨h, Int.le_refl _⟩, fun a ha => absurd ha List.not_mem_nil⟩
  | a :: m, hm, st, hst => by
    have haL := hm a List.mem_cons_self
    have ih := scan_ok hrest h0 m fun b hb => hm b (List.mem_cons_of_mem _ hb)
    by_cases hskip : a.1 ≠ at_ ∨ a.2.1 ∈ r ∨ (0 ≤ st.1 ∧ st.1 < a.2.1)
    · have hs : pairStep fuel nodes L t total r spent at_ st a = some st := by unfold pairStep; rw [if_pos hskip]
      obtain ⟨st2, h1, h2, h3, h4⟩ := ih st hst
      refine ⟨st2, by unfold pairScan; rw [hs]; exact h1, h2, h3, fun b hb e1 e2 e3 => ?_⟩
      rcases List.mem_cons.1 hb with rfl | hb
      · rcases hskip with h | h | h
        · exact absurd e1 h
        · exact absurd h e2
        · have := h3 h.1; omega
      · exact h4 b hb e1 e2 e3
    · have ha1 : a.1 = at_ := Decidable.byContradiction fun h => hskip (.inl h)
      have ha2 : a.2.1 ∉ r := fun h => hskip (.inr (.inl h))
      have ha3 : ¬ (0 ≤ st.1 ∧ st.1 < a.2.1) := fun h => hskip (.inr (.inr h))
      obtain ⟨c, hc, hiff⟩ := hrest a haL ha1 ha2
      have hs : pairStep fuel nodes L t total r spent at_ st a = if c.2 = true ∧ spent + a.2.2 + c.1 = total then some (a.2.1, a.2.2) else some st := by unfold pairStep; rw [if_neg hskip, hc]
      by_cases hf : c.2 = true ∧ spent + a.2.2 + c.1 = total
      · rw [if_pos hf] at hs
        have hch : Ch L at_ r C (a.2.1, a.2.2) := ⟨h0 a haL, hiff.1 hf, by rw [← ha1]; exact haL, ha2⟩
        obtain ⟨st2, h1, h2, h3, h4⟩ := ih (a.2.1, a.2.2) (.inr hch)
        have h5 := h3 hch.pos
        simp only at h5
        refine ⟨st2, by unfold pairScan; rw [hs]; exact h1, h2, fun h => ⟨h5.1, by omega⟩, fun b hb e1 e2 e3 => ?_⟩
        rcases List.mem_cons.1 hb with rfl | hb
        · exact h5
        · exact h4 b hb e1 e2 e3
      · rw [if_neg hf] at hs
        obtain ⟨st2, h1, h2, h3, h4⟩ := ih st hst
        refine ⟨st2, by unfold pairScan; rw [hs]; exact h1, h2, h3, fun b hb e1 e2 e3 => ?_⟩
        rcases List.mem_cons.1 hb with rfl | hb
        · exact absurd (hiff.2 e3) hf
        · exact h4 b hb e1 e2 e3

/-- A route of a pair of some cost. -/
def inB (n : Net) (s t total : Int) (q : List Int) : Prop := ∃ mp, q = rt s t mp ∧ ∃ mq, Two n s t mp mq ∧ key n s t mp + key n s t mq = total
theorem key_pre {n : Net} {s t v : Int} {ms x : List Int} : key n s t (ms ++ v :: x) = keyG (costW n) (s :: ms ++ [v]) + keyG (costW n) (v :: (x ++ [t])) := by
  have := keyG_append (w := costW n) (s :: ms) v (x ++ [t])
  unfold key rt
  rw [← this]
  simp
theorem loop_ok {n : Net} (hok : Ok n) {s t total : Int} (hs : 0 ≤ s ∧ s < n.nodes) (ht : 0 ≤ t ∧ t < n.nodes) (hst : s ≠ t) (hmin : ∀ x y, Two n s t x y → total ≤ key n s t x + key n s t y) : ∀ (k : Nat) (ms : List Int) (spent at_ : Int), (s :: ms).Nodup → lastOf (s :: ms) = at_ → (∀ x ∈ s :: ms, 0 ≤ x ∧ x < n.nodes) → spent = keyG (costW n) (s :: ms) → (∀ p, PathG (goodE n) n.nodes.toNat t at_ p → PathG (goodE n) n.nodes.toNat t s (ms ++ p)) → (at_ ≠ t → t ∉ s :: ms) → n.nodes.toNat + 1 ≤ (s :: ms).length + k → (∃ p, PathG (goodE n) n.nodes.toNat t at_ p ∧ inB n s t total (s :: ms ++ p)) →
    ∃ P, pairLoop 100000 n.nodes.toNat (arcsE n) t total k (s :: ms) spent at_ = some P ∧ inB n s t total P ∧ (∃ p, P = s :: ms ++ p) ∧ ∀ f, ∀ x ∈ walkG (goodE n) n.nodes.toNat t f (s :: ms), inB n s t total x → x = P ∨ lexLt P x = true := by
  have hn0 := hok.n0
  have hn1 := hok.n1
  intro k
  induction k with
  | zero =>
    intro ms spent at_ hnd _ hr _ _ _ hk _
    have := Rt.nodup_len n.nodes.toNat _ hnd fun x hx => by have := hr x hx; omega
    omega
  | succ k ih =>
    intro ms spent at_ hnd hl hr hsp hext hnt hk ⟨p, hp, hin⟩
    by_cases hat : at_ = t
    · subst hat
      obtain rfl : p = [] := by
        cases hp with
        | done => rfl
        | step hu => exact absurd rfl hu
      rw [List.append_nil] at hin
      refine ⟨s :: ms, by unfold pairLoop; rw [if_pos rfl], hin, ⟨[], by simp⟩, fun f x hx _ => ?_⟩
      left
      cases f <;> (unfold walkG at hx; rw [if_pos hl] at hx; exact List.mem_singleton.1 hx)
    · have htr := hnt hat
      obtain ⟨hnd1, hnd2⟩ := List.nodup_cons.1 hnd
      have hsn : ∀ {v : Int}, v ∉ s :: ms → (s :: (ms ++ [v])).Nodup := fun {v} hv => by
        have : (s :: ms ++ [v]).Nodup := List.nodup_append.2 ⟨hnd, by simp, fun a ha b hb => by
          obtain rfl := List.mem_singleton.1 hb
          exact fun e => hv (e ▸ ha)⟩
        exact this
      have hks : ∀ v, keyG (costW n) (s :: ms ++ [v]) = spent + costW n at_ v := fun v => by
        rw [keyG_last (by simp), hl, hsp]; simp [keyG]
      -- what a further node is worth
      have hrest : ∀ a ∈ arcsE n, a.1 = at_ → a.2.1 ∉ s :: ms → ∃ c, restF 100000 n.nodes.toNat (arcsE n) (s :: ms ++ [a.2.1]) t = some c ∧ (c.2 = true ∧ spent + a.2.2 + c.1 = total ↔ ∃ p, PathG (goodE n) n.nodes.toNat t a.2.1 p ∧ inB n s t total (s :: ms ++ a.2.1 :: p)) := by
        rintro ⟨u, v, c0⟩ ha hau hav
        simp only at hau hav ⊢
        subst hau
        obtain ⟨hg, rfl⟩ := ((net0 hok).iff _ _ _).1 ha
        have hvr := (arcs8 hok _ ha).2.1
        simp only at hvr
        have hstep : ∀ p, PathG (goodE n) n.nodes.toNat t v p → PathG (goodE n) n.nodes.toNat t s (ms ++ v :: p) := fun p hp => hext _ (.step hat hg hvr hp)
        by_cases hvt : v = t
        · subst hvt
          have hrt : IsRt n s v ms := ⟨hstep [] .done, hsn hav⟩
          obtain ⟨c, hc, h⟩ := rest_end hok hs ht hrt 100000
          refine ⟨c, hc, ?_⟩
          have hk1 : key n s v ms = spent + costW n u v := hks v
          rcases h with ⟨h1, ⟨mq, h2, h3⟩, h4⟩ | ⟨h1, h2⟩
          · constructor
            · rintro ⟨_, he⟩
              exact ⟨[], .done, ms, rfl, mq, h2, by omega⟩
            · rintro ⟨p, hp, mp, heq, mq2, h5, h6⟩
              obtain rfl : p = [] := by
                cases hp with
                | done => rfl
                | step hu => exact absurd rfl hu
              obtain rfl : ms = mp := rt_inj heq
              have h7 := h4 mq2 h5
              have h8 := hmin _ _ h2
              exact ⟨h1, by omega⟩
          · constructor
            · rintro ⟨h3, _⟩; rw [h1] at h3; cases h3
            · rintro ⟨p, hp, mp, heq, mq2, h5, h6⟩
              obtain rfl : p = [] := by
                cases hp with
                | done => rfl
                | step hu => exact absurd rfl hu
              obtain rfl : ms = mp := rt_inj heq
              exact absurd h5 (h2 mq2)
        · obtain ⟨c, hc, h⟩ := rest_mid hok hs ht (v := v) (ms := ms) ⟨hvr.1, by omega⟩ hst hvt (fun h => htr (List.mem_cons_of_mem _ h)) (hsn hav) hstep
          refine ⟨c, hc, ?_⟩
          have hk1 : ∀ x, key n s t (ms ++ v :: x) = spent + costW n u v + keyG (costW n) (v :: (x ++ [t])) := fun x => by rw [key_pre, hks]
          have hsh : ∀ x, s :: ms ++ v :: (x ++ [t]) = rt s t (ms ++ v :: x) := fun x => by unfold rt; simp
          have hback : ∀ p mp, PathG (goodE n) n.nodes.toNat t v p → s :: ms ++ v :: p = rt s t mp → ∃ x, mp = ms ++ v :: x := fun p mp hp heq => by
            obtain ⟨x, rfl⟩ := path_mids hp hvt
            rw [hsh] at heq
            exact ⟨x, (rt_inj heq).symm⟩
          rcases h with ⟨h1, ⟨x, mq, h2, h3⟩, h4⟩ | ⟨h1, h2⟩
          · constructor
            · rintro ⟨_, he⟩
              have hpath : PathG (goodE n) n.nodes.toNat t v (x ++ [t]) := by
                have := h2.p.path
                unfold PathM at this
                rw [List.append_assoc, List.cons_append] at this
                exact PathG.append this
              refine ⟨x ++ [t], hpath, ms ++ v :: x, hsh x, mq, h2, ?_⟩
              rw [hk1]; omega
            · rintro ⟨p, hp, mp, heq, mq2, h5, h6⟩
              obtain ⟨x2, rfl⟩ := hback p mp hp heq
              have h7 := h4 x2 mq2 h5
              have h8 := hmin _ _ h2
              rw [hk1] at h6 h8
              exact ⟨h1, by omega⟩
          · constructor
            · rintro ⟨h3, _⟩; rw [h1] at h3; cases h3
            · rintro ⟨p, hp, mp, heq, mq2, h5, h6⟩
              obtain ⟨x2, rfl⟩ := hback p mp hp heq
              exact absurd h5 (h2 x2 mq2)
      obtain ⟨st2, g1, g2, _, g4⟩ := scan_ok (C := fun v => ∃ p, PathG (goodE n) n.nodes.toNat t v p ∧ inB n s t total (s :: ms ++ v :: p)) hrest (fun a ha => (arcs8 hok a ha).2.1.1) (arcsE n) (fun a ha => ha) (-1, 0) (.inl rfl)
      -- some node goes on
      have hnode : ∀ {c : Int} {q : List Int}, goodE n at_ c = true → PathG (goodE n) n.nodes.toNat t c q → inB n s t total (s :: ms ++ c :: q) → 0 ≤ st2.1 ∧ st2.1 ≤ c := fun {c q} hg hq hin => by
        have hnin : c ∉ s :: ms := by
          obtain ⟨mp, heq, mq, h2, _⟩ := hin
          have := h2.p.nd
          rw [← heq] at this
          exact fun h => (List.nodup_append.1 this).2.2 c h c List.mem_cons_self rfl
        exact g4 (at_, c, costW n at_ c) (((net0 hok).iff _ _ _).2 ⟨hg, rfl⟩) rfl hnin ⟨q, hq, hin⟩
      have hpos : 0 ≤ st2.1 := by
        cases hp with
        | done => exact absurd rfl hat
        | @step _ v q hu hg hv hq => exact (hnode hg hq hin).1
      rcases g2 with g2 | ⟨g5, ⟨pb, hpb, hinb⟩, garc, gout⟩
      · omega
      · obtain ⟨b, pr⟩ := st2
        simp only at g5 hpb hinb garc gout hpos hnode
        obtain ⟨hg, rfl⟩ := ((net0 hok).iff _ _ _).1 garc
        have hbr := (arcs8 hok _ garc).2.1
        simp only at hbr
        obtain ⟨P, i1, i2, ⟨i3, i4⟩, i5⟩ := ih (ms ++ [b]) (spent + costW n at_ b) b (hsn gout) (by rw [← List.cons_append, last_snoc]) (fun x hx => by
          rw [← List.cons_append] at hx
          rcases List.mem_append.1 hx with h | h
          · exact hr x h
          · obtain rfl := List.mem_singleton.1 h; omega) (by rw [← List.cons_append, hks]) (fun q hq => by
          rw [List.append_assoc]
          exact hext _ (.step hat hg hbr hq)) (fun hbt hm => by
          rw [← List.cons_append] at hm
          rcases List.mem_append.1 hm with h | h
          · exact htr h
          · exact hbt (List.mem_singleton.1 h).symm) (by simp only [List.length_cons, List.length_append, List.length_nil] at hk ⊢; omega) ⟨pb, hpb, by rw [← List.cons_append, List.append_assoc]; exact hinb⟩
        refine ⟨P, ?_, i2, ⟨b :: i3, by rw [i4]; simp⟩, fun f x hx hxin => ?_⟩
        · unfold pairLoop
          rw [if_neg hat, g1]
          dsimp only
          rw [if_neg (by omega)]
          exact i1
        · cases f with
          | zero => unfold walkG at hx; rw [if_neg (by rw [hl]; exact hat)] at hx; cases hx
          | succ f =>
            unfold walkG at hx
            rw [if_neg (by rw [hl]; exact hat), hl] at hx
            obtain ⟨c, hc, hx⟩ := List.mem_flatMap.1 hx
            split at hx
            · rename_i hcc
              obtain ⟨q, hxe, hq⟩ := walk_mem f _ x hx
              rw [last_snoc] at hq
              rw [List.append_assoc, List.singleton_append] at hxe
              have hle := (hnode hcc.1 hq (by rw [← hxe]; exact hxin)).2
              rcases Int.lt_or_eq_of_le hle with h | h
              · right
                rw [i4, hxe, show s :: (ms ++ [b]) ++ i3 = (s :: ms) ++ b :: i3 by simp]
                exact lex_pre (s :: ms) i3 q h
              · refine i5 f x ?_ hxin
                rw [h]; exact hx
            · cases hx
end Go.Proofs.YtleldppdflgmgaaGreat

/- Routes, plain: Pair, and the reference's search. -/
namespace Go.Proofs.YtleldppdflgmgaaGreat
open Go.RowKit Go.Eng Go.Nw Go.Rt

def allW (n : Net) (s t : Int) : List (List Int) := walkG (goodE n) n.nodes.toNat t (n.nodes.toNat - 1) [s]
theorem rt_walk {n : Net} (hok : Ok n) {s t : Int} {mp : List Int} (hs : 0 ≤ s ∧ s < n.nodes) (h : IsRt n s t mp) : rt s t mp ∈ allW n s t := by
  have hl := rt_bd hok hs h
  have := walk_all (n.nodes.toNat - 1) [s] (mp ++ [t]) h.path h.nd (by rw [List.length_append, List.length_singleton]; omega)
  exact this
theorem walk_rt {n : Net} {s t : Int} (hst : s ≠ t) {q : List Int} (h : q ∈ allW n s t) : ∃ mp, q = rt s t mp ∧ IsRt n s t mp := by
  obtain ⟨p, rfl, hp⟩ := walk_mem _ _ _ h
  have hnd := walk_nodup _ _ _ (by simp) h
  obtain ⟨mp, rfl⟩ := path_mids hp hst
  exact ⟨mp, rfl, hp, hnd⟩

/-- The cheapest pair, the first one of these. -/
structure Best (n : Net) (s t total : Int) (mp mq : List Int) : Prop where
  two : Two n s t mp mq
  cost : key n s t mp + key n s t mq = total
  least : ∀ x y, Two n s t x y → total ≤ key n s t x + key n s t y
  fst : ∀ x y, Two n s t x y → key n s t x + key n s t y = total → rt s t x = rt s t mp ∨ lexLt (rt s t mp) (rt s t x) = true
  snd : ∀ y, Two n s t mp y → key n s t mp + key n s t y = total → rt s t y = rt s t mq ∨ lexLt (rt s t mq) (rt s t y) = true
theorem pairF_sem {n : Net} (hok : Ok n) {s t : Int} (hs : 0 ≤ s ∧ s < n.nodes) (ht : 0 ≤ t ∧ t < n.nodes) (hst : s ≠ t) : ∃ r, bothF 100000 n.nodes.toNat (arcsE n) s s t (fun _ => false) = some r ∧ ((r.2.1 = true ∧ (∃ L π, BothYes n.nodes.toNat (arcsE n) s s t r.1 (shutB s s t (fun _ => false)) r.2.2 L π) ∧ ∃ mp mq, pairF 100000 n.nodes.toNat (arcsE n) s t = some (some (rt s t mp, rt s t mq)) ∧ Best n s t r.1 mp mq) ∨ (r.2.1 = false ∧ pairF 100000 n.nodes.toNat (arcsE n) s t = some none ∧ ∀ mp mq, ¬ Two n s t mp mq)) := by
  have hn0 := hok.n0
  have hn1 := hok.n1
  obtain ⟨r, hr, h⟩ := total_sem hok hs ht hst
  refine ⟨r, hr, ?_⟩
  unfold pairF
  rw [hr]
  dsimp only
  rcases h with ⟨h1, h2, ⟨mp0, mq0, h3, h4⟩, h5⟩ | ⟨h1, h2⟩
  · refine .inl ⟨h1, h2, ?_⟩
    rw [if_neg (by rw [h1]; decide)]
    obtain ⟨P, l1, ⟨mp, rfl, mq1, l2, l3⟩, _, l4⟩ := loop_ok hok hs ht hst h5 400 [] 0 s (by simp) rfl (fun x hx => by obtain rfl := List.mem_singleton.1 hx; exact hs) rfl (fun p hp => hp) (fun _ hm => hst (List.mem_singleton.1 hm).symm) (by simp only [List.length_singleton]; omega) ⟨mp0 ++ [t], h3.p.path, mp0, rfl, mq0, h3, h4⟩
    rcases other_sem hok hs ht l2.p with ⟨_, mq, k1, k2, k3, k4⟩ | ⟨_, k⟩
    · rw [l1]
      dsimp only
      rw [k2]
      have hle := other_le hok hs ht l2
      have hle2 := h5 _ _ k1
      refine ⟨mp, mq, rfl, k1, by omega, h5, fun x y h6 h7 => ?_, fun y h6 h7 => ?_⟩
      · exact l4 _ (rt s t x) (rt_walk hok hs h6.p) ⟨x, rfl, y, h6, h7⟩
      · have hl := rt_bd hok hs h6.q
        obtain ⟨g1, g2⟩ := (path_avoid l2.p).2 h6
        have hm : rt s t y ∈ walkG (stA n s t mp) n.nodes.toNat t (n.nodes.toNat - 1) [s] := walk_all (n.nodes.toNat - 1) [s] (y ++ [t]) g1 g2 (by rw [List.length_append, List.length_singleton]; omega)
        obtain ⟨_, h8⟩ := first_lex k4 (walk_sorted _ _) hm
        exact h8 (show key n s t y = key n s t mq by omega)
    · exact absurd l2 (k mq1)
  · rw [if_pos h1]
    exact .inr ⟨h1, rfl, h2⟩

/-! ### Costs -/
theorem costTo_cons2 (n : Net) (u : Int) (r : List Int) : ∀ k, costTo n (u :: r) (k + 1) = (lossE n u (r.getD 0 0) + 1) + costTo n r k
  | 0 => by simp [costTo]
  | k + 1 => by
    have := costTo_cons2 n u r k
    rw [costTo, this]
    simp only [costTo, List.getD_cons_succ]
    omega
theorem costE_keyW (n : Net) : ∀ r : List Int, costE n r = keyG (costW n) r
  | [] => rfl
  | [_] => rfl
  | u :: v :: r => by
    have h1 := costE_keyW n (v :: r)
    have h2 := costTo_cons2 n u (v :: r) r.length
    unfold costE at h1 ⊢
    simp only [List.length_cons, Nat.add_sub_cancel] at h1 ⊢
    rw [h2, keyG, ← h1]
    rfl

/-! ### The search over all pairs -/
structure PFin (len : Nat) (D : Nat → Nat → Bool) (S : Nat → Nat → Int) (i0 k0 : Nat) (T : Int) : Prop where
  lt : i0 < k0
  klen : k0 < len
  dis : D i0 k0 = true
  sum : S i0 k0 = T
  min : ∀ i k, i < k → k < len → D i k = true → T ≤ S i k ∧ ((i < i0 ∨ (i = i0 ∧ k < k0)) → T < S i k)
def PRes (len : Nat) (D : Nat → Nat → Bool) (S : Nat → Nat → Int) : Option (Nat × Nat × Int) → Prop
  | none => ∀ i k, i < k → k < len → D i k = false
  | some z => PFin len D S z.1 z.2.1 z.2.2
def stepP (D : Nat → Nat → Bool) (S : Nat → Nat → Int) (i k : Nat) (st : Int × Int × Int) : Int × Int × Int := if D i k = true ∧ (st.1 < 0 ∨ S i k < st.2.2) then ((i : Int), (k : Int), S i k) else st
def PInv (i k : Nat) (st : Int × Int × Int) : Option (Nat × Nat × Int) → Prop
  | none => st = (-1, -1, 0)
  | some z => ((i < z.1 ∨ (i = z.1 ∧ k ≤ z.2.1)) → st.1 < 0 ∨ (0 ≤ st.1 ∧ z.2.2 < st.2.2)) ∧ (¬ (i < z.1 ∨ (i = z.1 ∧ k ≤ z.2.1)) → st = ((z.1 : Int), (z.2.1 : Int), z.2.2))
theorem inv_step {len : Nat} {D : Nat → Nat → Bool} {S : Nat → Nat → Int} {o : Option (Nat × Nat × Int)} (h : PRes len D S o) {i k : Nat} (hik : i < k) (hk : k < len) {st : Int × Int × Int} (hi : PInv i k st o) : PInv i (k + 1) (stepP D S i k st) o := by
  unfold stepP
  cases o with
  | none =>
    rw [if_neg (by rw [h i k hik hk]; intro h; cases h.1)]
    exact hi
  | some z =>
    obtain ⟨i0, k0, T⟩ := z
    obtain ⟨h1, h2, h3, h4, h5⟩ : PFin len D S i0 k0 T := h
    obtain ⟨a1, a2⟩ := hi
    simp only at a1 a2
    have h6 := h5 i k hik hk
    by_cases hbef : i < i0 ∨ (i = i0 ∧ k < k0)
    · have h7 := a1 (by omega)
      refine ⟨fun _ => ?_, fun h => absurd (show i < i0 ∨ (i = i0 ∧ k + 1 ≤ k0) by omega) h⟩
      by_cases hd : D i k = true
      · have h8 := (h6 hd).2 hbef
        by_cases hc : st.1 < 0 ∨ S i k < st.2.2
        · rw [if_pos ⟨hd, hc⟩]
          right
          simp only
          omega
        · rw [if_neg (fun h => hc h.2)]
          exact h7
      · rw [if_neg (fun h => hd h.1)]
        exact h7
    · by_cases he : i = i0 ∧ k = k0
      · obtain ⟨rfl, rfl⟩ := he
        have h7 := a1 (by omega)
        refine ⟨fun h => absurd h (by simp only; omega), fun _ => ?_⟩
        rw [if_pos ⟨h3, by omega⟩, h4]
      · have h7 := a2 (by omega)
        refine ⟨fun h => absurd h (by simp only; omega), fun _ => ?_⟩
        rw [if_neg (fun h => by
          have h8 := (h6 h.1).1
          rw [h7] at h
          simp only at h
          omega), h7]
theorem inv_row {len : Nat} {D : Nat → Nat → Bool} {S : Nat → Nat → Int} {o : Option (Nat × Nat × Int)} (h : PRes len D S o) {i : Nat} {st : Int × Int × Int} (hi : PInv i len st o) : PInv (i + 1) (i + 1 + 1) st o := by
  cases o with
  | none => exact hi
  | some z =>
    obtain ⟨i0, k0, T⟩ := z
    obtain ⟨h1, h2, h3, h4, h5⟩ : PFin len D S i0 k0 T := h
    obtain ⟨a1, a2⟩ := hi
    simp only at a1 a2
    exact ⟨fun h => a1 (by simp only at h; omega), fun h => a2 (by simp only at h; omega)⟩
theorem inv_0 {len : Nat} {D : Nat → Nat → Bool} {S : Nat → Nat → Int} {o : Option (Nat × Nat × Int)} (h : PRes len D S o) : PInv 0 (0 + 1) (-1, -1, 0) o := by
  cases o with
  | none => rfl
  | some z =>
    obtain ⟨i0, k0, T⟩ := z
    obtain ⟨h1, h2, h3, h4, h5⟩ : PFin len D S i0 k0 T := h
    exact ⟨fun _ => .inl (by decide), fun h => absurd (show 0 < i0 ∨ (0 = i0 ∧ 0 + 1 ≤ k0) by omega) h⟩
theorem inv_end {len : Nat} {D : Nat → Nat → Bool} {S : Nat → Nat → Int} {o : Option (Nat × Nat × Int)} (h : PRes len D S o) {st : Int × Int × Int} (hi : PInv len (len + 1) st o) : match o with
    | none => st = (-1, -1, 0)
    | some z => st = ((z.1 : Int), (z.2.1 : Int), z.2.2) := by
  cases o with
  | none => exact hi
  | some z =>
    obtain ⟨i0, k0, T⟩ := z
    obtain ⟨h1, h2, h3, h4, h5⟩ : PFin len D S i0 k0 T := h
    exact hi.2 (by simp only; omega)

def dAt (l : List (List Int)) (i k : Nat) : Bool := disjE (l.getD i []) (l.getD k [])
def sAt (n : Net) (l : List (List Int)) (i k : Nat) : Int := costE n (l.getD i []) + costE n (l.getD k [])
theorem getD_some {l : List (List Int)} {i : Nat} {x : List Int} (h : l[i]? = some x) : l.getD i [] = x := by
  rw [List.getD_eq_getElem?_getD, h]; rfl
theorem some_getD {l : List (List Int)} {i : Nat} (h : i < l.length) : l[i]? = some (l.getD i []) := by
  rw [List.getD_eq_getElem?_getD, List.getElem?_eq_getElem h]; rfl
/-- What the search over all pairs finds. -/
theorem pairs_best {n : Net} (hok : Ok n) {s t : Int} (hs : 0 ≤ s ∧ s < n.nodes) (hst : s ≠ t) {total : Int} {mp mq : List Int} (hb : Best n s t total mp mq) : ∃ i0 k0, (allW n s t)[i0]? = some (rt s t mp) ∧ (allW n s t)[k0]? = some (rt s t mq) ∧ PRes (allW n s t).length (dAt (allW n s t)) (sAt n (allW n s t)) (some (i0, k0, total)) := by
  have hsrt : (allW n s t).Pairwise fun a b => lexLt a b = true := walk_sorted _ _
  have hlt : ∀ {i k : Nat} {x y : List Int}, (allW n s t)[i]? = some x → (allW n s t)[k]? = some y → i < k → lexLt x y = true := fun hx hy hik => by
    obtain ⟨h1, rfl⟩ := List.getElem?_eq_some_iff.1 hx
    obtain ⟨h2, rfl⟩ := List.getElem?_eq_some_iff.1 hy
    exact List.pairwise_iff_getElem.1 hsrt _ _ h1 h2 hik
  have hgt : ∀ {i k : Nat} {x y : List Int}, (allW n s t)[i]? = some x → (allW n s t)[k]? = some y → lexLt x y = true → i < k := fun {i k x y} hx hy hl => by
    rcases Nat.lt_trichotomy i k with h | h | h
    · exact h
    · subst h
      rw [hx] at hy
      obtain rfl := Option.some.inj hy
      rw [lex_self] at hl; cases hl
    · have := hlt hy hx h
      rw [lex_asymm hl] at this; cases this
  obtain ⟨i0, hi0⟩ := List.mem_iff_getElem?.1 (rt_walk hok hs hb.two.p)
  obtain ⟨k0, hk0⟩ := List.mem_iff_getElem?.1 (rt_walk hok hs hb.two.q)
  have hik : i0 < k0 := by
    rcases hb.fst mq mp hb.two.symm (by have := hb.cost; omega) with h | h
    · exact absurd (rt_inj h).symm hb.two.ne
    · exact hgt hi0 hk0 h
  have hkc : ∀ x, costE n (rt s t x) = key n s t x := fun x => costE_keyW n _
  refine ⟨i0, k0, hi0, hk0, hik, (List.getElem?_eq_some_iff.1 hk0).1, ?_, ?_, fun i k hlk hk hd => ?_⟩
  · unfold dAt
    rw [getD_some hi0, getD_some hk0, disj_iff hb.two.p.nd hb.two.q.nd]
    exact ⟨hb.two.ne, hb.two.dis⟩
  · unfold sAt
    rw [getD_some hi0, getD_some hk0, hkc, hkc]
    exact hb.cost
  · have hx := some_getD (l := allW n s t) (i := i) (by omega)
    have hy := some_getD (l := allW n s t) hk
    unfold dAt at hd
    unfold sAt
    obtain ⟨a, ea, ha⟩ := walk_rt hst (List.mem_of_getElem? hx)
    obtain ⟨b, eb, hb2⟩ := walk_rt hst (List.mem_of_getElem? hy)
    rw [ea] at hx hd ⊢
    rw [eb] at hy hd ⊢
    obtain ⟨d1, d2⟩ := (disj_iff ha.nd hb2.nd).1 hd
    have h2 : Two n s t a b := ⟨ha, hb2, d1, d2⟩
    have hle := hb.least a b h2
    rw [hkc, hkc]
    refine ⟨hle, fun hbef => ?_⟩
    rcases Int.lt_or_eq_of_le hle with h | h
    · exact h
    · exfalso
      rcases hbef with hbef | ⟨hbef, hbk⟩
      · have h3 := hlt hx hi0 hbef
        rcases hb.fst a b h2 h.symm with h4 | h4
        · rw [h4, lex_self] at h3; cases h3
        · rw [lex_asymm h4] at h3; cases h3
      · subst hbef
        rw [hi0] at hx
        obtain rfl : mp = a := rt_inj (Option.some.inj hx)
        have h3 := hlt hy hk0 hbk
        rcases hb.snd b h2 h.symm with h4 | h4
        · rw [h4, lex_self] at h3; cases h3
        · rw [lex_asymm h4] at h3; cases h3
theorem pairs_none {n : Net} {s t : Int} (hst : s ≠ t) (hno : ∀ mp mq, ¬ Two n s t mp mq) : PRes (allW n s t).length (dAt (allW n s t)) (sAt n (allW n s t)) none := by
  intro i k hlk hk
  have hx := some_getD (l := allW n s t) (i := i) (by omega)
  have hy := some_getD (l := allW n s t) hk
  obtain ⟨a, ea, ha⟩ := walk_rt hst (List.mem_of_getElem? hx)
  obtain ⟨b, eb, hb2⟩ := walk_rt hst (List.mem_of_getElem? hy)
  unfold dAt
  rw [ea, eb]
  cases hd : disjE (rt s t a) (rt s t b) with
  | false => rfl
  | true =>
    obtain ⟨d1, d2⟩ := (disj_iff ha.nd hb2.nd).1 hd
    exact absurd ⟨ha, hb2, d1, d2⟩ (hno a b)
end Go.Proofs.YtleldppdflgmgaaGreat

/- Routes, plain: the bound of a potential; what Prove finds. -/
namespace Go.Proofs.YtleldppdflgmgaaGreat
open Go.RowKit Go.Eng Go.Nw Go.Rt

/-! ### What all edges miss -/
def missE (q : Int → Int) (e : E3) : Int := max 0 (q e.2.1 - q e.1 - e.2.2)
theorem miss_weak {L : List FA} (q : Int → Int) : bal L q - costF L ≤ sumI (missE q) (endsF L) := by
  unfold endsF bal costF
  rw [sumI_map]
  induction L with
  | nil => exact Int.le_refl _
  | cons x L ih =>
    rw [sumI_cons, sumI_cons, sumI_cons]
    unfold missE balG costG at *
    simp only at *
    split <;> omega
theorem miss_tight {L : List FA} {q : Int → Int} (h : PotE (flat2 L) q) : sumI (missE q) (endsF L) = bal L q - costF L := by
  have h1 : ∀ x ∈ L, (x.u = true → 0 ≤ q x.t - q x.f - x.c) ∧ (x.u = false → q x.t - q x.f - x.c ≤ 0) := fun x hx => by
    refine ⟨fun hu => ?_, fun hu => ?_⟩
    · have := h _ (flat2_mem hx).2 (by unfold rev; simp [hu])
      simp only [rev] at this
      omega
    · have := h _ (flat2_mem hx).1 (by unfold fwd; simp [hu])
      simp only [fwd] at this
      omega
  clear h
  unfold endsF bal costF
  rw [sumI_map]
  induction L with
  | nil => rfl
  | cons x L ih =>
    rw [sumI_cons, sumI_cons, sumI_cons, ih fun y hy => h1 y (List.mem_cons_of_mem _ hy)]
    obtain ⟨a1, a0⟩ := h1 x List.mem_cons_self
    unfold missE balG costG
    simp only
    cases hu : x.u with
    | true =>
      have := a1 hu
      simp only [if_pos]
      omega
    | false =>
      have := a0 hu
      simp only [Bool.false_eq_true, if_false]
      omega
theorem sumI_congr {α : Type} {f g : α → Int} : ∀ {l : List α}, (∀ x ∈ l, f x = g x) → sumI f l = sumI g l
  | [], _ => rfl
  | a :: l, h => by rw [sumI_cons, sumI_cons, h a List.mem_cons_self, sumI_congr fun x hx => h x (List.mem_cons_of_mem _ hx)]
theorem miss_sum {nodes : Nat} {l : List Lk} {s t d : Int} {q : Int → Int} {pin pout : List Int} (hl : Arcs8 nodes l) (hi : ∀ v : Int, 0 ≤ v → v < nodes → q (2 * v) = farAt pin v + d ∧ q (2 * v + 1) = farAt pout v + d) : sumI (missE q) (endsF (splitFA nodes l (shutB s s t (fun _ => false)))) = sumI (slackA pin pout) l + sumI (slackN s t pin pout) (List.range nodes) := by
  unfold endsF splitFA
  rw [List.map_append, sumI_append, Int.add_comm]
  congr 1
  · unfold arcFA
    rw [sumI_map, sumI_map]
    refine sumI_congr fun a ha => ?_
    obtain ⟨h1, h2, _⟩ := hl a ha
    have e1 := (hi a.1 h1.1 h1.2).2
    have e2 := (hi a.2.1 h2.1 h2.2).1
    unfold missE slackA
    simp only
    rw [e1, e2]
    congr 1
    omega
  · have : ∀ k, k ≤ nodes → sumI (missE q) ((nodeFA (shutB s s t (fun _ => false)) k).map fun x => (x.f, x.t, x.c)) = sumI (slackN s t pin pout) (List.range k) := by
      intro k
      induction k with
      | zero => intro _; rfl
      | succ k ih =>
        intro hk
        have e := hi (k : Int) (by omega) (by omega)
        unfold nodeFA at ih ⊢
        rw [List.range_succ, List.flatMap_append, List.map_append, sumI_append, sumI_append, ih (by omega)]
        congr 1
        unfold slackN
        rw [List.flatMap_cons, List.flatMap_nil, List.append_nil, sumI_cons, sumI_nil, Int.add_zero]
        by_cases hst : (k : Int) ≠ s ∧ (k : Int) ≠ t
        · have hsh : shutB s s t (fun _ => false) (k : Int) = false := (shut_abt _ _ _ _ _).2 ⟨⟨hst.1, hst.1, hst.2⟩, rfl⟩
          rw [hsh, if_neg (by decide), if_pos hst, List.map_singleton, sumI_cons, sumI_nil, Int.add_zero]
          unfold missE
          simp only
          rw [e.1, e.2]
          congr 1
          omega
        · have hsh : shutB s s t (fun _ => false) (k : Int) = true := by
            unfold shutB
            rw [Bool.or_false]
            exact decide_eq_true (by omega)
          rw [hsh, if_pos rfl, if_neg hst]
          rfl
    exact this nodes (Nat.le_refl _)

/-! ### Bounds -/
theorem bound_is {nodes : Nat} {l : List Lk} {s t d : Int} {q : Int → Int} {pin pout : List Int} (hl : Arcs8 nodes l) (hs : 0 ≤ s ∧ s < nodes) (ht : 0 ≤ t ∧ t < nodes) (hi : ∀ v : Int, 0 ≤ v → v < nodes → q (2 * v) = farAt pin v + d ∧ q (2 * v + 1) = farAt pout v + d) : boundV nodes l s t pin pout = want s s t q - sumI (missE q) (endsF (splitFA nodes l (shutB s s t (fun _ => false)))) := by
  rw [miss_sum hl hi]
  have h1 := (hi s hs.1 hs.2).2
  have h2 := (hi t ht.1 ht.2).1
  unfold boundV want
  omega
/-- No bound is more than the least cost. -/
theorem bound_le {nodes : Nat} {l : List Lk} {s t x : Int} {es : List Ed} {L : List FA} {π : Int → Int} (h : BothYes nodes l s s t x (shutB s s t (fun _ => false)) es L π) (hl : Arcs8 nodes l) (hs : 0 ≤ s ∧ s < nodes) (ht : 0 ≤ t ∧ t < nodes) (pin pout : List Int) : boundV nodes l s t pin pout ≤ x := by
  have hi : ∀ v : Int, 0 ≤ v → v < nodes → (fun y : Int => if y % 2 = 0 then farAt pin (y / 2) else farAt pout (y / 2)) (2 * v) = farAt pin v + 0 ∧ (fun y : Int => if y % 2 = 0 then farAt pin (y / 2) else farAt pout (y / 2)) (2 * v + 1) = farAt pout v + 0 := fun v _ _ => by
    simp only
    rw [if_pos (by omega), if_neg (by omega), show 2 * v / 2 = v by omega, show (2 * v + 1) / 2 = v by omega]
    omega
  rw [bound_is (q := fun y : Int => if y % 2 = 0 then farAt pin (y / 2) else farAt pout (y / 2)) (d := 0) hl hs ht hi, ← h.ends]
  have := miss_weak (L := L) (fun y : Int => if y % 2 = 0 then farAt pin (y / 2) else farAt pout (y / 2))
  rw [h.bal_, h.cost] at this
  omega
theorem minL_le : ∀ {l : List Int} {x : Int}, x ∈ l → minL l ≤ x := by
  have hf : ∀ (l : List Int) (a : Int), l.foldl min a ≤ a ∧ ∀ x ∈ l, l.foldl min a ≤ x := by
    intro l
    induction l with
    | nil => exact fun a => ⟨Int.le_refl _, fun x hx => absurd hx List.not_mem_nil⟩
    | cons b l ih =>
      intro a
      rw [List.foldl_cons]
      obtain ⟨h1, h2⟩ := ih (min a b)
      refine ⟨by omega, fun x hx => ?_⟩
      rcases List.mem_cons.1 hx with rfl | hx
      · omega
      · exact h2 x hx
  intro l x hx
  cases l with
  | nil => cases hx
  | cons a l =>
    obtain ⟨h1, h2⟩ := hf l a
    show l.foldl min a ≤ x
    rcases List.mem_cons.1 hx with rfl | hx
    · exact h1
    · exact h2 x hx
theorem potIn_at {nodes : Nat} {far : List Int} {v : Int} (h0 : 0 ≤ v) (h1 : v < nodes) : farAt (potIn nodes far) v = farAt far (2 * v) - minL far := by
  unfold potIn
  conv => lhs; unfold farAt
  rw [List.getD_eq_getElem?_getD, List.getElem?_map, List.getElem?_range (by omega)]
  simp only [Option.map_some, Option.getD_some]
  rw [show ((v.toNat : Nat) : Int) = v by omega]
  rfl
theorem potOut_at {nodes : Nat} {far : List Int} {v : Int} (h0 : 0 ≤ v) (h1 : v < nodes) : farAt (potOut nodes far) v = farAt far (2 * v + 1) - minL far := by
  unfold potOut
  conv => lhs; unfold farAt
  rw [List.getD_eq_getElem?_getD, List.getElem?_map, List.getElem?_range (by omega)]
  simp only [Option.map_some, Option.getD_some]
  rw [show ((v.toNat : Nat) : Int) = v by omega]
  rfl
theorem rep0_at (k : Nat) (v : Int) : farAt (List.replicate k (0 : Int)) v = 0 := by
  unfold farAt
  rw [List.getD_eq_getElem?_getD, List.getElem?_replicate]
  split <;> rfl
/-- The potential that Prove finds, and its bound. -/
theorem prove_sem {nodes : Nat} {l : List Lk} {s t x : Int} {es : List Ed} {L : List FA} {π : Int → Int} (hn : 1 ≤ nodes ∧ nodes ≤ 24) (h : BothYes nodes l s s t x (shutB s s t (fun _ => false)) es L π) (hl : Arcs8 nodes l) (hs : 0 ≤ s ∧ s < nodes) (ht : 0 ≤ t ∧ t < nodes) :
    ∃ fb, relaxF 100000 es (List.replicate (2 * nodes) 0) (List.replicate (2 * nodes) (-1)) = some fb ∧ (∀ y ∈ potIn nodes fb.1 ++ potOut nodes fb.1, 0 ≤ y ∧ y ≤ 1048576) ∧ boundV nodes l s t (potIn nodes fb.1) (potOut nodes fb.1) = x := by
  have hnc := noneC_eq
  have hes : Ed8 (2 * nodes) es := by
    rw [h.es]
    refine ed8_of fun e he => ?_
    rw [h.ends] at he
    have := split_ends8 hl e he
    omega
  have hp : PotE es fun v => π v - 64 * (nodes : Int) := by
    intro e he hr
    rw [h.es] at he
    have := h.pot e he hr
    simp only; omega
  have hG : RelG (2 * nodes) (fun v => π v - 64 * (nodes : Int)) (List.replicate (2 * nodes) 0, List.replicate (2 * nodes) (-1), false) := by
    refine ⟨List.length_replicate, List.length_replicate, fun v h0 h1 => ?_, fun v h0 h1 => ?_, fun v h0 h1 => ?_⟩
    · have := h.bd v h0 h1
      simp only; rw [rep0_at]; omega
    · intro _; simp only; rw [rep0_at]; omega
    · simp only; rw [rep0_at]; omega
  have hmes : mes (2 * nodes) (-(80 * (nodes : Int))) (List.replicate (2 * nodes) 0) < 100000 := by
    unfold mes
    have h1 : ∀ k : Nat, sumW (clipW (2 * nodes) (-(80 * (nodes : Int)))) (List.replicate k 0) = k * (80 * nodes) := by
      intro k
      induction k with
      | zero => simp [sumW]
      | succ k ih =>
        have : clipW (2 * nodes) (-(80 * (nodes : Int))) 0 = 80 * nodes := by unfold clipW; omega
        unfold sumW at ih ⊢
        rw [List.replicate_succ, List.map_cons, List.sum_cons, ih, this, Nat.add_mul k 1, Nat.one_mul, Nat.add_comm]
    rw [h1]
    have : 2 * nodes * (80 * nodes) ≤ 48 * 1920 := Nat.mul_le_mul (by omega) (by omega)
    omega
  obtain ⟨⟨far, by_⟩, hrel, ⟨l1, l2, hlo, hhi, htop⟩, hI, hcl⟩ := relax_end (L := -(80 * (nodes : Int))) (by omega) hes hp (fun v h0 h1 => by have := h.bd v h0 h1; omega) (fun far _ => ∀ v : Int, 0 ≤ v → v < (2 * nodes : Nat) → farAt far v ≤ 0) (fun i e st hi hG h0 => by
    have he := hes e (List.mem_of_getElem? hi)
    intro v v0 v1
    unfold relStep
    split
    · rename_i hc
      by_cases hv : v = e.t
      · have h9 := h0 e.t he.2.1.1 he.2.1.2
        have hl9 := hG.l1
        obtain ⟨_, _, c3⟩ := hc
        simp only
        rw [hv, farAt_self (by omega)]
        omega
      · simp only
        rw [farAt_ne (by omega)]
        exact h0 v v0 v1
    · exact h0 v v0 v1) 100000 _ _ hG (fun v _ _ => by rw [rep0_at]; exact Int.le_refl _) hmes
  simp only at l1 l2 hlo hhi htop hI hcl
  refine ⟨(far, by_), hrel, ?_, ?_⟩
  · have hmin := minL_mem (l := far) (by omega)
    obtain ⟨u, u0, u1, hu⟩ := far_mem hmin
    have h1 := hlo u u0 (by omega)
    have h2 := h.bd u u0 (by omega)
    have hbd : ∀ v : Int, 0 ≤ v → v < (2 * nodes : Nat) → 0 ≤ farAt far v - minL far ∧ farAt far v - minL far ≤ 1048576 := fun v v0 v1 => by
      have h3 := hI v v0 v1
      have h4 := minL_le (l := far) (x := farAt far v) (List.mem_of_getElem? (farAt_get (far := far) (i := v) (by omega)))
      omega
    intro y hy
    simp only at hy
    rcases List.mem_append.1 hy with hy | hy
    · obtain ⟨v, hv, rfl⟩ := List.mem_map.1 hy
      have := List.mem_range.1 hv
      exact hbd _ (by omega) (by omega)
    · obtain ⟨v, hv, rfl⟩ := List.mem_map.1 hy
      have := List.mem_range.1 hv
      exact hbd _ (by omega) (by omega)
  · have hpot : PotE (flat2 L) (farAt far) := by
      rw [← h.es]
      intro e he hr
      have h1 := hcl e he
      obtain ⟨e1, e2, e3⟩ := hes e he
      have h2 := hI e.f e1.1 e1.2
      rcases Int.lt_or_le (farAt far e.f + e.c) (farAt far e.t) with h3 | h3
      · exact absurd ⟨hr, by omega, h3⟩ h1
      · exact h3
    have hi : ∀ v : Int, 0 ≤ v → v < nodes → farAt far (2 * v) = farAt (potIn nodes far) v + minL far ∧ farAt far (2 * v + 1) = farAt (potOut nodes far) v + minL far := fun v v0 v1 => by
      rw [potIn_at v0 v1, potOut_at v0 v1]
      omega
    rw [bound_is (q := farAt far) hl hs ht hi, ← h.ends, miss_tight hpot, h.bal_, h.cost]
    omega
end Go.Proofs.YtleldppdflgmgaaGreat

/- Routes, plain: lists without a fault are routes; the laws RouteProves and RouteBelow. -/
namespace Go.Proofs.YtleldppdflgmgaaGreat
open Go.RowKit Go.Eng Go.Nw Go.Rt

theorem twice_nodup {r : List Int} : twiceE r = false ↔ r.Nodup := by
  unfold twiceE
  rw [List.any_eq_false]
  constructor
  · intro h
    refine List.pairwise_iff_getElem.2 fun i j hi hj hij e => ?_
    have h1 := h j (List.mem_range.2 hj)
    apply h1
    rw [List.contains_iff_mem, List.getD_eq_getElem?_getD, List.getElem?_eq_getElem hj, Option.getD_some, ← e]
    refine List.mem_iff_getElem?.2 ⟨i, ?_⟩
    rw [List.getElem?_take_of_lt hij, List.getElem?_eq_getElem hi]
  · intro h i hi hc
    have hi := List.mem_range.1 hi
    rw [List.contains_iff_mem, List.getD_eq_getElem?_getD, List.getElem?_eq_getElem hi, Option.getD_some] at hc
    obtain ⟨k, hk⟩ := List.mem_iff_getElem?.1 hc
    have hki : k < i := by
      have := (List.getElem?_eq_some_iff.1 hk).1
      rw [List.length_take] at this
      omega
    rw [List.getElem?_take_of_lt hki] at hk
    obtain ⟨h1, h2⟩ := List.getElem?_eq_some_iff.1 hk
    exact List.pairwise_iff_getElem.1 h k i h1 hi hki h2
theorem rt_lastD (s t : Int) (mp : List Int) : (rt s t mp).getD ((rt s t mp).length - 1) 0 = t := rt_last s t mp
theorem rt_fault {n : Net} (hok : Ok n) {s t : Int} (hs : 0 ≤ s ∧ s < n.nodes) {mp : List Int} (h : IsRt n s t mp) (h8 : n.nodes ≤ 8) : faultE n s t (rt s t mp) = 0 := by
  have hl := rt_bd hok hs h
  have hn0 := hok.n0
  have hlen := rt_len s t mp
  unfold faultE
  rw [if_neg (by omega), if_neg (by omega), if_neg, if_neg, if_neg, if_neg]
  · unfold brokenE
    rw [Bool.not_eq_true, List.any_eq_false]
    intro i hi
    have hi := List.mem_range.1 hi
    have := path_good h.path i (by rw [List.length_append, List.length_singleton]; omega)
    show ¬ (!goodE n ((s :: (mp ++ [t])).getD i 0) ((s :: (mp ++ [t])).getD (i + 1) 0)) = true
    rw [this]; simp
  · rw [Bool.not_eq_true]
    exact twice_nodup.2 h.nd
  · rintro (h1 | h1)
    · exact h1 rfl
    · exact h1 (rt_lastD s t mp)
  · rw [Bool.not_eq_true, List.any_eq_false]
    intro x hx
    have : 0 ≤ x ∧ x < n.nodes := by
      unfold rt at hx
      rcases List.mem_cons.1 hx with rfl | hx
      · exact hs
      · have := path_mem h.path x hx; omega
    unfold offE
    rw [decide_eq_true_eq]
    omega
theorem path_build {n : Net} {nodes : Nat} {t : Int} : ∀ (r : List Int) (u : Int), (u :: r).Nodup → (∀ i, i < r.length → goodE n ((u :: r).getD i 0) ((u :: r).getD (i + 1) 0) = true) → (u :: r).getD r.length 0 = t → (∀ x ∈ r, 0 ≤ x ∧ x < nodes) → PathG (goodE n) nodes t u r
  | [], u, _, _, h, _ => by
    have : u = t := h
    subst this; exact .done
  | v :: r, u, hnd, hg, hl, hr => by
    obtain ⟨h1, h2⟩ := List.nodup_cons.1 hnd
    have hl2 : (v :: r).getD r.length 0 = t := hl
    have htm : t ∈ v :: r := by
      rw [← hl2, List.getD_eq_getElem?_getD, List.getElem?_eq_getElem (by simp)]
      exact List.getElem_mem _
    exact .step (fun e => h1 (e ▸ htm)) (hg 0 (by simp)) (hr v List.mem_cons_self) (path_build r v h2 (fun i hi => hg (i + 1) (by simpa using hi)) hl2 fun x hx => hr x (List.mem_cons_of_mem _ hx))
theorem fault_rt {n : Net} {s t : Int} {r : List Int} (hn0 : 0 ≤ n.nodes) (h : faultE n s t r = 0) : (0 ≤ s ∧ s < n.nodes) ∧ (0 ≤ t ∧ t < n.nodes) ∧ s ≠ t ∧ ∃ mp, r = rt s t mp ∧ IsRt n s t mp := by
  obtain ⟨⟨h1, h2⟩, h3, ⟨h4, h5⟩, h6, h7⟩ := fault_ok h
  have hnd := twice_nodup.1 h6
  have hoff : ∀ x ∈ r, 0 ≤ x ∧ x < n.nodes := fun x hx => by
    have := List.any_eq_false.1 h3 x hx
    unfold offE at this
    rw [decide_eq_true_eq] at this
    omega
  cases r with
  | nil => simp at h1
  | cons a r =>
    obtain rfl : a = s := h4
    rcases List.eq_nil_or_concat r with rfl | ⟨mp, t', rfl⟩
    · simp at h1
    · rw [List.concat_eq_append] at *
      have hlast : t' = t := by
        rw [← h5]
        exact (rt_lastD a t' mp).symm
      subst hlast
      have hrt : IsRt n a t' mp := ⟨path_build (mp ++ [t']) a hnd (fun i hi => broken_good h7 (by simpa using hi)) (by
        have := rt_lastD a t' mp
        rw [rt_len] at this
        rw [List.length_append, List.length_singleton]
        exact this) (fun x hx => by have := hoff x (List.mem_cons_of_mem _ hx); omega), hnd⟩
      exact ⟨hoff a List.mem_cons_self, hoff t' (by simp), (rt_nd hnd).1, mp, rfl, hrt⟩
theorem cost_ok {n : Net} {r : List Int} (hck : checkE n = 0) {s t : Int} {mp : List Int} (hr : r = rt s t mp) (h : faultE n s t r = 0) : CostE n r = (costE n r, 0) := by
  unfold CostE
  rw [if_neg (fun e => e hck)]
  have e1 : r.getD 0 0 = s := by rw [hr]; rfl
  have e2 : r.getD (r.length - 1) 0 = t := by rw [hr]; exact rt_lastD s t mp
  simp only [e1, e2, h]
  rfl

/-- Pairs and proofs. -/
theorem proves_sem (n : Net) (s t : Int) (h8 : endsE n s t = 0 → n.nodes ≤ 8) : ∃ r1 r2, PairE 100000 n s t = some r1 ∧ proveE 100000 n s t = some r2 ∧ ((r1.1 = none ∧ r1.2 ≠ 0 ∧ r2 = (([], []), r1.2)) ∨ (∃ p q, r1 = (some (p, q), 0) ∧ r2.2 = 0 ∧ disjE p q = true ∧ lexLt q p = false ∧ CheckR n s t p = 0 ∧ CheckR n s t q = 0 ∧ CostE n p = (costE n p, 0) ∧ CostE n q = (costE n q, 0) ∧ (0 ≤ costE n p ∧ costE n p ≤ 10000) ∧ (0 ≤ costE n q ∧ costE n q ≤ 10000) ∧ boundE n s t r2.1.1 r2.1.2 = (costE n p + costE n q, 0))) := by
  unfold PairE proveE
  by_cases he : endsE n s t = 0
  rotate_left
  · rw [if_pos he, if_pos he]
    exact ⟨_, _, rfl, rfl, .inl ⟨rfl, he, rfl⟩⟩
  rw [if_neg (fun h => h he), if_neg (fun h => h he)]
  obtain ⟨hck, hs, ht, hst⟩ := ends_ok he
  have hok := check_ok hck
  have hn0 := hok.n0
  have hn8 := h8 he
  obtain ⟨r, hr, h⟩ := pairF_sem hok hs ht hst
  rw [hr]
  rcases h with ⟨h1, ⟨L, π, hY⟩, mp, mq, h2, hb⟩ | ⟨h1, h2, _⟩
  · rw [h2]
    dsimp only
    have l1 := rt_bd hok hs hb.two.p
    have l2 := rt_bd hok hs hb.two.q
    have e1 := rt_len s t mp
    have e2 := rt_len s t mq
    rw [if_neg (show ¬ (9 < (rt s t mp).length ∨ 9 < (rt s t mq).length) by omega), if_neg (show ¬ r.2.1 = false by rw [h1]; decide)]
    obtain ⟨fb, k1, k2, k3⟩ := prove_sem (nodes := n.nodes.toNat) ⟨by omega, by omega⟩ hY (arcs8 hok) ⟨hs.1, by omega⟩ ⟨ht.1, by omega⟩
    rw [k1]
    refine ⟨_, _, rfl, rfl, .inr ⟨rt s t mp, rt s t mq, rfl, rfl, ?_⟩⟩
    have f1 := rt_fault hok hs hb.two.p hn8
    have f2 := rt_fault hok hs hb.two.q hn8
    have c1 := costE_keyW n (rt s t mp)
    have c2 := costE_keyW n (rt s t mq)
    have hpos : ∀ {ms : List Int}, IsRt n s t ms → 0 ≤ costE n (rt s t ms) ∧ costE n (rt s t ms) ≤ 10000 := fun {ms} h => by
      have l := rt_bd hok hs h
      have := path_key (net0 hok).pos h.path
      rw [List.length_append, List.length_singleton] at this
      rw [costE_keyW]
      unfold rt
      omega
    refine ⟨(disj_iff hb.two.p.nd hb.two.q.nd).2 ⟨hb.two.ne, hb.two.dis⟩, ?_, ?_, ?_, cost_ok hck rfl f1, cost_ok hck rfl f2, hpos hb.two.p, hpos hb.two.q, ?_⟩
    · rcases hb.fst mq mp hb.two.symm (by have := hb.cost; omega) with h | h
      · exact absurd (rt_inj h).symm hb.two.ne
      · exact lex_asymm h
    · unfold CheckR; rw [if_neg (fun h => h he)]; exact f1
    · unfold CheckR; rw [if_neg (fun h => h he)]; exact f2
    · unfold boundE
      rw [if_neg (fun h => h he), if_neg, if_neg]
      · dsimp only
        rw [k3, c1, c2, ← hb.cost]; rfl
      · rw [Bool.not_eq_true, List.any_eq_false]
        intro y hy
        have := k2 y hy
        unfold bigB
        rw [decide_eq_true_eq]
        omega
      · dsimp only
        unfold potIn potOut
        rw [List.length_map, List.length_map, List.length_range]
        omega
  · rw [h2]
    dsimp only
    rw [if_pos h1]
    exact ⟨_, _, rfl, rfl, .inl ⟨rfl, by decide, rfl⟩⟩

/-- What is below what. -/
theorem below_sem (n : Net) (a b pin pout : List Int) (ha : (CostE n a).2 = 0) (hb : (CostE n b).2 = 0) (hd : disjE a b = true) (h8 : checkE n = 0 → n.nodes ≤ 8) (hdi : endsE n (a.getD 0 0) (a.getD (a.length - 1) 0) = 0 → Dist n.nodes.toNat ((arcsE n).map dear) (a.getD (a.length - 1) 0) (distC n.nodes.toNat ((arcsE n).map dear) (a.getD (a.length - 1) 0))) :
    2 ≤ a.length ∧ ∃ r p q, shortE n (a.getD 0 0) (a.getD (a.length - 1) 0) = (r, 0) ∧ CostE n r = (costE n r, 0) ∧ PairE 100000 n (a.getD 0 0) (a.getD (a.length - 1) 0) = some (some (p, q), 0) ∧ CostE n p = (costE n p, 0) ∧ CostE n q = (costE n q, 0) ∧ costE n r ≤ (CostE n a).1 ∧ costE n r ≤ (CostE n b).1 ∧ costE n p + costE n q ≤ (CostE n a).1 + (CostE n b).1 ∧ 2 * costE n r ≤ costE n p + costE n q ∧ (0 ≤ costE n r ∧ costE n p ≤ 10000 ∧ costE n q ≤ 10000 ∧ (CostE n a).1 ≤ 10000 ∧ (CostE n b).1 ≤ 10000) ∧ ((boundE n (a.getD 0 0) (a.getD (a.length - 1) 0) pin pout).2 = 0 → (boundE n (a.getD 0 0) (a.getD (a.length - 1) 0) pin pout).1 ≤ costE n p + costE n q) := by
  have hck : checkE n = 0 := by
    unfold CostE at ha
    split at ha
    · cases ha
    · rename_i h; exact Decidable.byContradiction h
  have hok := check_ok hck
  have hn0 := hok.n0
  have hn8 := h8 hck
  have hf : ∀ {c : List Int}, (CostE n c).2 = 0 → faultE n (c.getD 0 0) (c.getD (c.length - 1) 0) c = 0 := fun {c} hc => by
    unfold CostE at hc
    rw [if_neg (fun h => h hck)] at hc
    dsimp only at hc
    split at hc
    · exact hc
    · rename_i h; exact Decidable.byContradiction h
  have fa := hf ha
  have fb := hf hb
  have hd2 := hd
  unfold disjE at hd2
  have hd3 := of_decide_eq_true (and_left_ hd2)
  obtain ⟨hla, hlb, hne, h0, h1⟩ := hd3
  rw [← h0, ← h1] at fb
  obtain ⟨s, hse⟩ : ∃ s, a.getD 0 0 = s := ⟨_, rfl⟩
  obtain ⟨t, hte⟩ : ∃ t, a.getD (a.length - 1) 0 = t := ⟨_, rfl⟩
  rw [hse, hte] at fa fb hdi ⊢
  obtain ⟨hs, ht, hst, ma, ra, hra⟩ := fault_rt (by omega) fa
  obtain ⟨_, _, _, mb, rb, hrb⟩ := fault_rt (by omega) fb
  have ca := cost_ok hck ra fa
  have cb := cost_ok hck rb fb
  rw [ca, cb]
  rw [ra, rb] at hd
  obtain ⟨d1, d2⟩ := (disj_iff hra.nd hrb.nd).1 hd
  have htwo : Two n s t ma mb := ⟨hra, hrb, d1, d2⟩
  have he : endsE n s t = 0 := by
    unfold endsE
    rw [if_neg (fun h => h hck), if_neg]
    rintro (h | h | h)
    · unfold offE at h; have := of_decide_eq_true h; omega
    · unfold offE at h; have := of_decide_eq_true h; omega
    · exact hst h
  have hkc : ∀ x, costE n (rt s t x) = key n s t x := fun x => costE_keyW n _
  have hpos : ∀ {ms : List Int}, IsRt n s t ms → 0 ≤ costE n (rt s t ms) ∧ costE n (rt s t ms) ≤ 10000 := fun {ms} h => by
    have l := rt_bd hok hs h
    have := path_key (net0 hok).pos h.path
    rw [List.length_append, List.length_singleton] at this
    rw [costE_keyW]
    unfold rt
    omega
  -- the pair
  obtain ⟨r0, hr0, h⟩ := pairF_sem hok hs ht hst
  rcases h with ⟨_, ⟨L, π, hY⟩, mp, mq, h2, hbst⟩ | ⟨_, _, hno⟩
  rotate_left
  · exact absurd htwo (hno _ _)
  have l1 := rt_bd hok hs hbst.two.p
  have l2 := rt_bd hok hs hbst.two.q
  have e1 := rt_len s t mp
  have e2 := rt_len s t mq
  have hpe : PairE 100000 n s t = some (some (rt s t mp, rt s t mq), 0) := by
    unfold PairE
    rw [if_neg (fun h => h he), h2]
    dsimp only
    rw [if_neg (by omega)]
  -- the shortest
  have hdd := hdi he
  have hmin : ∀ {ms : List Int}, IsRt n s t ms → shortR n s t ≠ [] ∧ ∃ mr, shortR n s t = rt s t mr ∧ IsRt n s t mr ∧ costE n (shortR n s t) ≤ costE n (rt s t ms) := fun {ms} h => by
    have hm : rt s t ms ∈ allE n s t := rt_walk hok hs h
    rcases all_short hok hs ht hdd with ⟨_, k2⟩ | ⟨k1, k2⟩
    · rw [k2] at hm; cases hm
    · obtain ⟨mr, k3, k4⟩ := walk_rt hst (show shortR n s t ∈ allW n s t from k2.mem)
      refine ⟨k1, mr, k3, k4, ?_⟩
      have k5 := k2.le hm
      rw [dear_key _ _ k1, dear_key _ _ (by unfold rt; simp)] at k5
      have l3 := rt_bd hok hs k4
      have l4 := rt_bd hok hs h
      rw [k3] at k5 ⊢
      rw [rt_len, rt_len] at k5
      omega
  obtain ⟨k1, mr, k3, k4, k5⟩ := hmin hra
  obtain ⟨_, _, _, _, k6⟩ := hmin hrb
  obtain ⟨_, _, _, _, k7⟩ := hmin hbst.two.p
  obtain ⟨_, _, _, _, k8⟩ := hmin hbst.two.q
  have l3 := rt_bd hok hs k4
  have e3 := rt_len s t mr
  have hle := hbst.least _ _ htwo
  have hco := hbst.cost
  rw [k3] at k5 k6 k7 k8
  rw [hkc] at k5 k6 k7 k8
  have p1 := hpos hra
  have p2 := hpos hrb
  have p3 := hpos hbst.two.p
  have p4 := hpos hbst.two.q
  have p5 := hpos k4
  have f1 := rt_fault hok hs hbst.two.p hn8
  have f2 := rt_fault hok hs hbst.two.q hn8
  have f3 := rt_fault hok hs k4 hn8
  refine ⟨hla, rt s t mr, rt s t mp, rt s t mq, ?_, cost_ok hck rfl f3, hpe, cost_ok hck rfl f1, cost_ok hck rfl f2, ?_⟩
  · unfold shortE
    rw [if_neg (fun h => h he), if_neg k1, if_neg (by rw [k3]; omega), k3]
  · simp only
    rw [ra, rb]
    rw [hkc] at p1 p2 p3 p4 p5
    rw [hkc, hkc, hkc, hkc, hkc]
    rw [hkc] at k5 k6 k7 k8
    refine ⟨k5, k6, by omega, by omega, ⟨by omega, by omega, by omega, by omega, by omega⟩, ?_⟩
    unfold boundE
    rw [if_neg (fun h => h he)]
    split
    · intro h; cases h
    · split
      · intro h; cases h
      · intro _
        have := bound_le hY (arcs8 hok) ⟨hs.1, by omega⟩ ⟨ht.1, by omega⟩ pin pout
        simp only
        omega
end Go.Proofs.YtleldppdflgmgaaGreat

/- Networks of chapter 31, plain: the reference's way to the nodes that can be reached. -/
namespace Go.Proofs.YtleldppdflgmgaaGreat
open Go.Nw

theorem mem_next_good {n : Net} (h : Ok n) {b c : Int} : c ∈ nextE n b ↔ goodE n b c = true := by
  rw [mem_next]
  constructor
  · rintro ⟨i, hi, rfl, rfl, hu⟩
    rw [← usable_good h hi]; exact hu
  · intro hg
    have h0 : 0 ≤ findE n b c := by
      unfold goodE at hg
      simp only [Bool.and_eq_true, decide_eq_true_eq] at hg
      exact hg.1
    have hl := find_lt h0
    obtain ⟨h1, h2⟩ := find_key h0
    exact ⟨_, hl, h1, h2, by rw [usable_good h hl, h1, h2]; exact hg⟩
theorem good_in {n : Net} (h : Ok n) {b c : Int} (hg : goodE n b c = true) : (0 ≤ b ∧ b < n.nodes) ∧ (0 ≤ c ∧ c < n.nodes) := by
  obtain ⟨i, hi, rfl, rfl, _⟩ := mem_next.1 ((mem_next_good h).2 hg)
  have := h.lk i hi
  exact ⟨⟨this.f0, this.f1⟩, ⟨this.t0, this.t1⟩⟩

/-- The nodes are in order. -/
theorem next_ord {n : Net} (h : Ok n) (a : Int) : (nextE n a).Pairwise (· < ·) := by
  have key : ∀ k, k ≤ n.links.length → (nextTo n a k).Pairwise (· < ·) ∧ ∀ x ∈ nextTo n a k, ∃ i, i < k ∧ (lnk n i).1 = a ∧ (lnk n i).2.1 = x := by
    intro k
    induction k with
    | zero => intro _; simp [nextTo]
    | succ k ih =>
      intro hk
      obtain ⟨h1, h2⟩ := ih (by omega)
      by_cases hc : (lnk n k).1 = a ∧ usableE n k = true
      · rw [nextTo_yes hc]
        refine ⟨List.pairwise_append.2 ⟨h1, by simp, fun x hx y hy => ?_⟩, fun x hx => ?_⟩
        · obtain ⟨i, hi, e1, e2⟩ := h2 x hx
          rw [List.mem_singleton.1 hy, ← e2]
          have h3 := sorted h i k hi (by omega)
          rw [cmpL_neg] at h3
          omega
        · rcases List.mem_append.1 hx with hx | hx
          · obtain ⟨i, hi, e⟩ := h2 x hx
            exact ⟨i, by omega, e⟩
          · exact ⟨k, by omega, hc.1, (List.mem_singleton.1 hx).symm⟩
      · rw [nextTo_no hc]
        exact ⟨h1, fun x hx => by obtain ⟨i, hi, e⟩ := h2 x hx; exact ⟨i, by omega, e⟩⟩
  exact (key _ (Nat.le_refl _)).1

/-- The numbers below N with a property, in order. -/
def upTo (p : Int → Bool) (N : Nat) : List Int := ((List.range N).map fun k : Nat => (k : Int)).filter p
theorem upTo_yes {p : Int → Bool} {k : Nat} (h : p k = true) : upTo p (k + 1) = upTo p k ++ [(k : Int)] := by simp [upTo, List.range_succ, List.filter_append, h]
theorem upTo_no {p : Int → Bool} {k : Nat} (h : p k = false) : upTo p (k + 1) = upTo p k := by simp [upTo, List.range_succ, List.filter_append, h]
theorem upTo_len (p : Int → Bool) (N : Nat) : (upTo p N).length ≤ N := by
  unfold upTo
  exact Nat.le_trans (List.length_filter_le _ _) (by simp)
theorem mem_upTo {p : Int → Bool} {N : Nat} {x : Int} : x ∈ upTo p N ↔ (0 ≤ x ∧ x < N) ∧ p x = true := by
  unfold upTo
  rw [List.mem_filter, List.mem_map]
  constructor
  · rintro ⟨⟨k, hk, rfl⟩, hp⟩
    have := List.mem_range.1 hk
    exact ⟨by omega, hp⟩
  · rintro ⟨hx, hp⟩
    exact ⟨⟨x.toNat, List.mem_range.2 (by omega), by omega⟩, hp⟩
theorem upTo_ord (p : Int → Bool) : ∀ N : Nat, (upTo p N).Pairwise (· < ·)
  | 0 => by simp [upTo]
  | N + 1 => by
    cases h : p N
    · rw [upTo_no h]; exact upTo_ord p N
    · rw [upTo_yes h]
      refine List.pairwise_append.2 ⟨upTo_ord p N, by simp, fun x hx y hy => ?_⟩
      rw [List.mem_singleton.1 hy]
      exact (mem_upTo.1 hx).1.2

theorem next_upTo {n : Net} (h : Ok n) (a : Int) : nextE n a = upTo (goodE n a) n.nodes.toNat := by
  refine ord_uniq (next_ord h a) (upTo_ord _ _) fun b => ?_
  rw [mem_next_good h, mem_upTo]
  constructor
  · intro hg; have := good_in h hg; exact ⟨by omega, hg⟩
  · exact fun hg => hg.2
theorem next_out {n : Net} (h : Ok n) {a : Int} (ha : ¬ (0 ≤ a ∧ a < n.nodes)) : nextE n a = [] := by
  apply List.eq_nil_iff_forall_not_mem.2
  intro b hb
  exact ha (good_in h ((mem_next_good h).1 hb)).1

/-- Reached with at most k steps. -/
def RchK (n : Net) (a : Int) : Nat → Int → Prop
  | 0, b => b = a
  | k + 1, b => RchK n a k b ∨ ∃ c, RchK n a k c ∧ b ∈ nextE n c
theorem RchK.up {n : Net} {a b : Int} {k : Nat} (h : RchK n a k b) : ∀ {m : Nat}, k ≤ m → RchK n a m b := by
  intro m hm
  induction m with
  | zero => obtain rfl : k = 0 := by omega
            exact h
  | succ m ih =>
    by_cases e : k = m + 1
    · subst e; exact h
    · exact .inl (ih (by omega))
theorem RchK.rch {n : Net} {a : Int} : ∀ {k : Nat} {b : Int}, RchK n a k b → Rch n a b
  | 0, b, h => by rw [show b = a from h]; exact .refl
  | k + 1, b, h => by
    rcases h with h | ⟨c, h1, h2⟩
    · exact RchK.rch h
    · exact .step (RchK.rch h1) h2

theorem bfs_idx {n : Net} {a : Int} : ∀ (i : Nat), i ≤ (bfs n a i).length → (∀ m, m < i → m < (bfs n a m).length) → ∀ j x, (bfs n a i)[j]? = some x → RchK n a j x
  | 0, _, _, j, x, h => by
    cases j with
    | zero => simp [bfs] at h; exact h.symm
    | succ j => simp [bfs] at h
  | i + 1, hi, hall, j, x, h => by
    have hlt := hall i (by omega)
    have ih := bfs_idx i (by omega) (fun m hm => hall m (by omega))
    obtain ⟨e, h1, h2⟩ := addTo_pre (nextE n ((bfs n a i).getD i 0)) (bfs n a i)
    have hb : bfs n a (i + 1) = bfs n a i ++ e := h1
    rw [hb] at h
    by_cases hj : j < (bfs n a i).length
    · rw [List.getElem?_append_left hj] at h; exact ih j x h
    · rw [List.getElem?_append_right (by omega)] at h
      have h3 := h2 x (List.mem_of_getElem? h)
      have h4 := ih i ((bfs n a i).getD i 0) (by simp [List.getD, hlt])
      exact RchK.up (k := i + 1) (.inr ⟨_, h4, h3⟩) (by omega)

theorem bfs_stop {n : Net} (h : Ok n) {a : Int} (ha : 0 ≤ a ∧ a < n.nodes) : ∃ i, Bfs n a i ∧ (bfs n a i).length = i ∧ ∀ m, m < i → m < (bfs n a m).length := by
  have key : ∀ r i, 33 - i ≤ r → Bfs n a i → i ≤ (bfs n a i).length → (∀ m, m < i → m < (bfs n a m).length) → ∃ i, Bfs n a i ∧ (bfs n a i).length = i ∧ ∀ m, m < i → m < (bfs n a m).length := by
    intro r
    induction r with
    | zero => intro i hr hb hi _; have := bfs_le h ha hb; omega
    | succ r ih =>
      intro i hr hb hi hall
      by_cases e : (bfs n a i).length = i
      · exact ⟨i, hb, e, hall⟩
      · refine ih (i + 1) (by omega) (bfs_step hb (by omega)) (bfs_len (by omega)) fun m hm => ?_
        by_cases e2 : m = i
        · subst e2; omega
        · exact hall m (by omega)
  exact key 33 0 (by omega) (bfs_start n a) (Nat.zero_le _) (fun m hm => by omega)

theorem rch_K {n : Net} (h : Ok n) {a b : Int} (ha : 0 ≤ a ∧ a < n.nodes) (hr : Rch n a b) : RchK n a n.nodes.toNat b := by
  obtain ⟨i, hb, hi, hall⟩ := bfs_stop h ha
  have hm := ((bfs_end hb hi).mem b).2 hr
  rw [List.mem_mergeSort] at hm
  obtain ⟨j, hj, e⟩ := List.mem_iff_getElem.1 hm
  have h1 := bfs_idx i (by omega) hall j b (by rw [List.getElem?_eq_getElem hj, e])
  have h2 := nodup_len n.nodes.toNat (bfs n a i) hb.nodup fun x hx => by have := rch_in h ha (hb.rch x hx); omega
  exact h1.up (by omega)

/-- What is known before the pair (b, c) of round i. -/
structure Kn (n : Net) (a : Int) (i b c : Nat) (l : List Bool) : Prop where
  len : l.length = n.nodes.toNat
  sound : ∀ x : Nat, l[x]? = some true → Rch n a x
  have_ : ∀ x : Nat, RchK n a i x → l[x]? = some true
  done : ∀ b' c' : Nat, (b' < b ∨ (b' = b ∧ c' < c)) → RchK n a i b' → goodE n b' c' = true → l[c']? = some true

theorem kn_start {n : Net} {a : Nat} (_h : Ok n) (ha : (a : Int) < n.nodes) : Kn n a 0 0 0 ((List.replicate n.nodes.toNat false).set a true) := by
  have hl : a < n.nodes.toNat := by omega
  refine ⟨by simp, fun x hx => ?_, fun x hx => ?_, fun b' c' hb => by omega⟩
  · by_cases e : a = x
    · subst e; exact .refl
    · rw [List.getElem?_set_ne e] at hx
      simp [List.getElem?_replicate] at hx
  · obtain rfl : x = a := by have : (x : Int) = a := hx; omega
    rw [List.getElem?_set_self (by simpa using hl)]
theorem kn_step {n : Net} (h : Ok n) {a : Int} {i b c : Nat} {l : List Bool} (hk : Kn n a i b c l) (hb : (b : Int) < n.nodes) (hc : (c : Int) < n.nodes) {x y : Bool} (hx : l[c]? = some x) (hy : l[b]? = some y) : Kn n a i b (c + 1) (l.set c (x || (y && goodE n b c))) := by
  have hcl : c < l.length := (List.getElem?_eq_some_iff.1 hx).1
  have grow : ∀ z : Nat, l[z]? = some true → (l.set c (x || (y && goodE n b c)))[z]? = some true := fun z hz => by
    by_cases e : c = z
    · subst e
      rw [hx] at hz
      rw [List.getElem?_set_self hcl, Option.some.inj hz]; rfl
    · rw [List.getElem?_set_ne e]; exact hz
  refine ⟨by rw [List.length_set]; exact hk.len, fun z hz => ?_, fun z hz => grow z (hk.have_ z hz), fun b' c' hbc hr hg => ?_⟩
  · by_cases e : c = z
    · subst e
      rw [List.getElem?_set_self hcl] at hz
      have hz := Option.some.inj hz
      cases x with
      | true => exact hk.sound c hx
      | false =>
        simp only [Bool.false_or, Bool.and_eq_true] at hz
        rw [hz.1] at hy
        exact .step (hk.sound b hy) ((mem_next_good h).2 hz.2)
    · rw [List.getElem?_set_ne e] at hz; exact hk.sound z hz
  · by_cases e : b' = b ∧ c' = c
    · obtain ⟨rfl, rfl⟩ := e
      have h1 := hk.have_ b' hr
      rw [hy] at h1
      rw [List.getElem?_set_self hcl, Option.some.inj h1, hg]; simp
    · exact grow c' (hk.done b' c' (by omega) hr hg)
theorem kn_row {n : Net} (h : Ok n) {a : Int} {i b c : Nat} {l : List Bool} (hk : Kn n a i b c l) (hc : (c : Int) = n.nodes) : Kn n a i (b + 1) 0 l :=
  ⟨hk.len, hk.sound, hk.have_, fun b' c' hbc hr hg => by have := good_in h hg; exact hk.done b' c' (by omega) hr hg⟩
theorem kn_round {n : Net} (h : Ok n) {a : Int} (_ha : 0 ≤ a) {i b : Nat} {l : List Bool} (hk : Kn n a i b 0 l) (hb : (b : Int) = n.nodes) : Kn n a (i + 1) 0 0 l := by
  refine ⟨hk.len, hk.sound, fun x hx => ?_, fun b' c' hbc => by omega⟩
  rcases hx with hx | ⟨c, h1, h2⟩
  · exact hk.have_ x hx
  · have hg := (mem_next_good h).1 h2
    have hin := good_in h hg
    obtain ⟨m, rfl⟩ : ∃ m : Nat, c = m := ⟨c.toNat, by omega⟩
    exact hk.done m x (by omega) h1 hg
theorem kn_end {n : Net} (h : Ok n) {a : Int} (ha : 0 ≤ a ∧ a < n.nodes) {i : Nat} {l : List Bool} (hk : Kn n a i 0 0 l) (hi : (i : Int) = n.nodes) : ReachL n a (upTo (fun x => l.getD x.toNat false) n.nodes.toNat) := by
  refine ⟨upTo_ord _ _, fun b => ?_⟩
  rw [mem_upTo]
  constructor
  · rintro ⟨hb, hl⟩
    have h1 : l[b.toNat]? = some true := by
      have hlt : b.toNat < l.length := by rw [hk.len]; omega
      rw [List.getElem?_eq_getElem hlt]
      simpa [List.getD, hlt] using hl
    have := hk.sound _ h1
    rw [show ((b.toNat : Nat) : Int) = b by omega] at this
    exact this
  · intro hr
    have hin := rch_in h ha hr
    have h1 := rch_K h ha hr
    rw [show n.nodes.toNat = i by omega, show b = ((b.toNat : Nat) : Int) by omega] at h1
    have h2 := hk.have_ _ h1
    exact ⟨by omega, by simp [List.getD, h2]⟩
end Go.Proofs.YtleldppdflgmgaaGreat

/- Routes and reach, plain; walks: the law RouteReaches. -/
namespace Go.Proofs.YtleldppdflgmgaaGreat
open Go.RowKit Go.Eng Go.Nw Go.Rt

theorem goodR_symm (n : Net) (a b : Int) : goodE n a b = goodE n b a := by
  unfold goodE
  cases decide (0 ≤ findE n a b) <;> cases decide (0 ≤ findE n b a) <;> cases heardE n (mar n (findE n a b).toNat) 0 <;> cases heardE n (mar n (findE n b a).toNat) 0 <;> rfl
theorem rchR_trans {n : Net} {a b c : Int} (h1 : Rch n a b) (h2 : Rch n b c) : Rch n a c := by
  induction h2 with
  | refl => exact h1
  | step _ hc ih => exact .step ih hc
theorem rchR_symm {n : Net} (h : Ok n) {a b : Int} (h1 : Rch n a b) : Rch n b a := by
  induction h1 with
  | refl => exact .refl
  | step _ hc ih =>
    refine rchR_trans (.step .refl ?_) ih
    rw [mem_next_good h, goodR_symm]
    exact (mem_next_good h).1 hc
theorem path_end {st : Int → Int → Bool} {nodes : Nat} {t u : Int} {p : List Int} (h : PathG st nodes t u p) : t ∈ u :: p := by
  induction h with
  | done => exact List.mem_cons_self
  | step _ _ _ _ ih => exact List.mem_cons_of_mem _ ih
/-- Whoever can be reached can be reached by a way without repetition. -/
theorem rch_path {n : Net} (h : Ok n) {t u : Int} (h1 : Rch n t u) : ∃ p, PathG (goodE n) n.nodes.toNat t u p ∧ (u :: p).Nodup ∧ t ∈ u :: p := by
  have hn0 := h.n0
  induction h1 with
  | refl => exact ⟨[], .done, by simp, by simp⟩
  | @step b c _ hc ih =>
    obtain ⟨p, hp, hnd, htm⟩ := ih
    have hg := (mem_next_good h).1 hc
    have hr := good_range h hg
    rw [goodR_symm] at hg
    by_cases hm : c ∈ b :: p
    · rcases List.mem_cons.1 hm with rfl | hm
      · exact ⟨p, hp, hnd, htm⟩
      · obtain ⟨l1, l2, rfl⟩ := List.append_of_mem hm
        refine ⟨l2, hp.append, ?_, ?_⟩
        · exact ((List.nodup_cons.1 hnd).2.sublist (List.sublist_append_right l1 (c :: l2)))
        · have h2 : PathG (goodE n) n.nodes.toNat t c l2 := hp.append
          clear hp hnd htm hm hc hg hr
          exact path_end h2
    · exact ⟨b :: p, .step (fun e => hm (e ▸ htm)) hg (by omega) hp, List.nodup_cons.2 ⟨hm, hnd⟩, List.mem_cons_of_mem _ htm⟩
theorem path_rch {n : Net} (h : Ok n) {nodes : Nat} {t u : Int} {p : List Int} (hp : PathG (goodE n) nodes t u p) : Rch n u t := by
  induction hp with
  | done => exact .refl
  | step _ hs _ _ ih => exact rchR_trans (.step .refl ((mem_next_good h).2 hs)) ih

theorem reaches_sem {n : Net} (hck : checkE n = 0) (hn8 : n.nodes ≤ 8) {s t : Int} (hs : 0 ≤ s ∧ s < n.nodes) (ht : 0 ≤ t ∧ t < n.nodes) (hst : s ≠ t) (hdi : endsE n s t = 0 → Dist n.nodes.toNat ((arcsE n).map dear) t (distC n.nodes.toNat ((arcsE n).map dear) t)) :
    (shortE n s t = ([], 17) ∧ ¬ Rch n s t) ∨ (∃ r, shortE n s t = (r, 0) ∧ CheckR n s t r = 0 ∧ Rch n s t) := by
  have hok := check_ok hck
  have hn0 := hok.n0
  have he : endsE n s t = 0 := by
    unfold endsE
    rw [if_neg (fun h => h hck), if_neg]
    rintro (h | h | h)
    · unfold offE at h; have := of_decide_eq_true h; omega
    · unfold offE at h; have := of_decide_eq_true h; omega
    · exact hst h
  unfold shortE
  rw [if_neg (fun h => h he)]
  rcases all_short hok hs ht (hdi he) with ⟨h1, h2⟩ | ⟨h1, h2⟩
  · left
    rw [if_pos h1]
    refine ⟨rfl, fun htm => ?_⟩
    obtain ⟨p, hp, hnd, _⟩ := rch_path hok (rchR_symm hok htm)
    obtain ⟨ms, rfl⟩ := path_mids hp hst
    have hrt : IsRt n s t ms := ⟨hp, hnd⟩
    have hm2 : rt s t ms ∈ allE n s t := rt_walk hok hs hrt
    rw [h2] at hm2
    cases hm2
  · right
    obtain ⟨mr, k3, k4⟩ := walk_rt hst (show shortR n s t ∈ allW n s t from h2.mem)
    have l3 := rt_bd hok hs k4
    have e3 := rt_len s t mr
    rw [if_neg h1, if_neg (by rw [k3]; omega)]
    refine ⟨_, rfl, ?_, ?_⟩
    · unfold CheckR
      rw [if_neg (fun h => h he), k3]
      exact rt_fault hok hs k4 hn8
    · exact path_rch hok k4.path

theorem shortR_len (n : Net) (s t : Int) : (shortE n s t).1.length ≤ 9 := by
  unfold shortE
  repeat' split
  all_goals (first | (simp; done) | (simp only; omega))
theorem reachR_len {n : Net} (h0 : checkE n = 0) {a : Int} (ha : 0 ≤ a ∧ a < n.nodes) {l : List Int} (h : ReachE n a l) : l.length ≤ 32 ∧ ∀ b, b ∈ l ↔ Rch n a b := by
  unfold ReachE at h
  rw [if_neg (by omega)] at h
  have hok := check_ok h0
  have h1 := Go.Nw.nodup_len n.nodes.toNat l (h.ord.imp (fun hab => by omega)) fun x hx => by have := rch_in hok (a := a) (by omega) ((h.mem x).1 hx); omega
  have := hok.n1
  exact ⟨by omega, h.mem⟩

set_option maxRecDepth 10000 in
set_option maxHeartbeats 2000000 in
theorem law_reachesR (n : NetM) (s t : Int) {B : Nat} {w0 : World} {H : List HP} {w : World} (hin : n.In B w0 H) (hw : St B w0 H w) :
    Calls Tryz.prog 3 [n.val, .int .i64 s, .int .i64 t].toArray w (Post B w0 fun v K => v = .bool true ∧ ∀ w, St B w0 K w → St B w0 H w) := by
  refine Calls_of_VC Tryz.func3 Tryz.ntmps3 rfl rfl hw ?_
  (apply VC_seq; apply VC_region; apply VL_box_agg; exact rfl; exact rfl; intro g)
  have hfe := fun {H : List HP} {w : World} (hin : n.In B w0 H) (hw : St B w0 H w) => few_spec n hin hw
  cases hfew : fewE n.net with
  | false =>
    rw [hfew] at hfe
    repeat' (first | ((first | apply VL_callt en4 | apply VL_callq en4); (repeat (first | exact args_nil | (apply args_cons; exact rfl))); exact rfl; exact fun _ hw => (awakeR_spec hw)) | ((first | apply VL_callt en5 | apply VL_callq en5); (repeat (first | exact args_nil | (apply args_cons; exact rfl))); exact rfl; exact fun _ hw => (hfe hin.cons hw)) | apply (zs1 ?_) | apply (zs2 ?_) | (apply zg1; refine zs3 ?_) | (apply zg3; refine zs8 ?_) | (apply zg6; refine zs11 ?_) | (apply zg20; first | refine zs47 ?_ | refine zs48 ?_) | apply (zs65 ?_) | apply (zs68 ?_) | apply (zs69 ?_) | apply (zs70 ?_) | (apply zg27; first | refine zs71 ?_ | refine zs72 ?_) | apply (zs74 ?_) | apply (zs76 ?_) | apply (zs77 ?_) | fail)
    apply VQ_ret1; exact rfl; exact rfl
    exact ⟨rfl, fun w hw => hw.tail⟩
  | true =>
    rw [hfew] at hfe
    have hck := fun {H : List HP} {w : World} (hin : n.In B w0 H) (hw : St B w0 H w) => check_spec n hin hw
    by_cases h0 : checkE n.net = 0
    rotate_left
    · skip
      repeat' (first | ((first | apply VL_callt en4 | apply VL_callq en4); (repeat (first | exact args_nil | (apply args_cons; exact rfl))); exact rfl; exact fun _ hw => (awakeR_spec hw)) | ((first | apply VL_callt en5 | apply VL_callq en5); (repeat (first | exact args_nil | (apply args_cons; exact rfl))); exact rfl; exact fun _ hw => (hfe hin.cons hw)) | ((first | apply VL_callt en6 | apply VL_callq en6); (repeat (first | exact args_nil | (apply args_cons; exact rfl))); exact rfl; exact fun _ hw => (hck hin.cons hw)) | apply (zs1 ?_) | apply (zs2 ?_) | (apply zg1; first | refine zs3 ?_ | refine zs4 ?_) | (apply zg3; refine zs8 ?_) | (apply zg6; first | refine zs11 ?_ | refine zs12 ?_) | (apply zg8; (refine zs16 ?_ ?_ <;> intro _ <;> try (exfalso; omega))) | (apply zg20; refine zs47 ?_) | apply (zs65 ?_) | apply (zs68 ?_) | apply (zs69 ?_) | apply (zs70 ?_) | (apply zg27; first | refine zs71 ?_ | refine zs72 ?_) | apply (zs74 ?_) | apply (zs76 ?_) | apply (zs77 ?_) | fail)
      apply VQ_ret1; exact rfl; exact rfl
      exact ⟨rfl, fun w hw => hw.tail⟩
    rw [h0] at hck
    have hnn : n.net.nodes = n.nodes := rfl
    by_cases hout : s < 0 ∨ n.nodes ≤ s ∨ t < 0 ∨ n.nodes ≤ t ∨ s = t
    · skip
      repeat' (first | ((first | apply VL_callt en4 | apply VL_callq en4); (repeat (first | exact args_nil | (apply args_cons; exact rfl))); exact rfl; exact fun _ hw => (awakeR_spec hw)) | ((first | apply VL_callt en5 | apply VL_callq en5); (repeat (first | exact args_nil | (apply args_cons; exact rfl))); exact rfl; exact fun _ hw => (hfe hin.cons hw)) | ((first | apply VL_callt en6 | apply VL_callq en6); (repeat (first | exact args_nil | (apply args_cons; exact rfl))); exact rfl; exact fun _ hw => (hck hin.cons hw)) | apply (zs1 ?_) | apply (zs2 ?_) | (apply zg1; first | refine zs3 ?_ | refine zs4 ?_) | (apply zg2; refine zs6 ?_) | (apply zg3; first | refine zs7 ?_ | refine zs8 ?_) | (apply zg6; first | refine zs11 ?_ | refine zs12 ?_) | (apply zg7; (refine zs15 ?_ ?_ <;> intro _ <;> try (exfalso; omega))) | (apply zg8; (refine zs16 ?_ ?_ <;> intro _ <;> try (exfalso; omega))) | (apply (zs17 ?_ ?_) <;> intro _ <;> try (exfalso; omega)) | (apply (zs20 ?_ ?_) <;> intro _ <;> try (exfalso; omega)) | (apply zg20; refine zs47 ?_) | apply (zs65 ?_) | apply (zs68 ?_) | apply (zs69 ?_) | apply (zs70 ?_) | (apply zg27; first | refine zs71 ?_ | refine zs72 ?_) | apply (zs74 ?_) | apply (zs76 ?_) | apply (zs77 ?_) | fail)
      all_goals (apply VQ_ret1; exact rfl; exact rfl; exact ⟨rfl, fun w hw => hw.tail⟩)
    have h8 : n.net.nodes ≤ 8 := by
      have h1 := (check_ok h0).p0
      have h3 := hfew
      unfold fewE at h3
      have h4 := (of_decide_eq_true h3).2.1
      omega
    repeat' (first | ((first | apply VL_callt en4 | apply VL_callq en4); (repeat (first | exact args_nil | (apply args_cons; exact rfl))); exact rfl; exact fun _ hw => (awakeR_spec hw)) | ((first | apply VL_callt en5 | apply VL_callq en5); (repeat (first | exact args_nil | (apply args_cons; exact rfl))); exact rfl; exact fun _ hw => (hfe hin.cons hw)) | ((first | apply VL_callt en6 | apply VL_callq en6); (repeat (first | exact args_nil | (apply args_cons; exact rfl))); exact rfl; exact fun _ hw => (hck hin.cons hw)) | apply (zs1 ?_) | apply (zs2 ?_) | (apply zg1; refine zs4 ?_) | (apply zg2; refine zs6 ?_) | (apply zg3; first | refine zs7 ?_ | refine zs8 ?_) | (apply zg6; refine zs12 ?_) | (apply zg7; (refine zs15 ?_ ?_ <;> intro _ <;> try (exfalso; omega))) | (apply zg8; (refine zs16 ?_ ?_ <;> intro _ <;> try (exfalso; omega))) | (apply (zs17 ?_ ?_) <;> intro _ <;> try (exfalso; omega)) | (apply (zs20 ?_ ?_) <;> intro _ <;> try (exfalso; omega)) | (apply zg20; refine zs47 ?_) | apply (zs65 ?_) | apply (zs68 ?_) | apply (zs69 ?_) | apply (zs70 ?_) | (apply zg27; refine zs72 ?_) | apply (zs76 ?_) | fail)
    apply VL_call _ en7
    (repeat (first | exact args_nil | (apply args_cons; exact rfl)))
    exact rfl
    exact fun _ hw => (shortest_spec n s t hin.cons (hw))
    rintro _ _ ⟨A3, c3, rfl, _, hdd, rfl⟩
    have hsem := reaches_sem h0 h8 (s := s) (t := t) ⟨by omega, by omega⟩ ⟨by omega, by omega⟩ (by omega) hdd
    have hrl := fun {m : List Int} (hm : ReachE n.net s m) => reachR_len h0 (a := s) ⟨by omega, by omega⟩ hm
    have hsl := shortR_len n.net s t
    obtain ⟨⟨r, e⟩, hre⟩ : ∃ z, shortE n.net s t = z := ⟨_, rfl⟩
    rw [hre] at hsl hsem ⊢
    dsimp only at hsl ⊢
    refine VL_capA (e := 3) (size := 1) (k := r.length) (cap := c3) (A := A3) (xs := r.flatMap numF) (by (focus repeat (first | with_reducible exact List.mem_cons_self | with_reducible apply List.mem_cons_of_mem | assumption))) fun hc3 => ?_
    rcases hsem with ⟨h1, hno⟩ | ⟨r2, h1, h2, hyes⟩
    rotate_left
    · obtain ⟨rfl, rfl⟩ := Prod.mk.inj h1
      have hkr := fun {H : List HP} {w : World} (hin : n.In B w0 H) (r1 : Rd B w0 H A3 (r.flatMap numF)) (hw : St B w0 H w) => Check_spec n s t r (cap := c3) hin r1 (by omega) hc3 hw
      rw [h2] at hkr
      repeat' (first | apply (zs1 ?_) | apply (zs2 ?_) | (apply zg3; refine zs8 ?_) | apply (zs13 ?_) | (apply zg8; (refine zs16 ?_ ?_ <;> intro _ <;> try (exfalso; omega))) | apply (zs65 ?_) | apply (zs68 ?_) | apply (zs69 ?_) | apply (zs70 ?_) | (apply zg27; refine zs72 ?_) | apply (zs76 ?_) | fail)
      first | apply VL_callt en10 | apply VL_callq en10
      (repeat (first | exact args_nil | (apply args_cons; exact rfl)))
      exact rfl
      exact fun _ hw => (hkr hin.cons.cons (.sl (by (focus repeat (first | with_reducible exact List.mem_cons_self | with_reducible apply List.mem_cons_of_mem | assumption)))) hw)
      repeat' (first | apply (zs1 ?_) | (apply zg1; refine zs4 ?_) | (apply zg3; refine zs8 ?_) | (apply zg7; (refine zs15 ?_ ?_ <;> intro _ <;> try (exfalso; omega))) | fail)
      apply VL_call _ en9
      (repeat (first | exact args_nil | (apply args_cons; exact rfl)))
      exact rfl
      exact fun _ hw => (reach_spec n s hin.cons.cons (hw))
      rintro _ _ ⟨A4, c4, m, rfl, rfl, hm⟩
      obtain ⟨hmb, hmm⟩ := hrl hm
      have htm : t ∈ m := (hmm t).2 hyes
      have hcon := fun {H : List HP} {w : World} (r1 : Rd B w0 H A4 (m.flatMap numF)) (hw : St B w0 H w) => contains_ints m t (by omega) (cap := c4) r1 hw
      rw [decide_eq_true htm] at hcon
      repeat' (first | apply (zs1 ?_) | (apply zg1; refine zs4 ?_) | fail)
      first | apply VL_callt en8 | apply VL_callq en8
      (repeat (first | exact args_nil | (apply args_cons; exact rfl)))
      exact rfl
      exact fun _ hw => (hcon (.sl (by (focus repeat (first | with_reducible exact List.mem_cons_self | with_reducible apply List.mem_cons_of_mem | assumption)))) hw)
      repeat' (first | apply (zs2 ?_) | (apply zg6; refine zs11 ?_) | apply (zs65 ?_) | apply (zs68 ?_) | apply (zs74 ?_) | fail)
      apply VQ_ret1; exact rfl; exact rfl
      exact ⟨rfl, fun w hw => hw.tail.tail.tail⟩
    · obtain ⟨rfl, rfl⟩ := Prod.mk.inj h1
      repeat' (first | apply (zs1 ?_) | apply (zs2 ?_) | (apply zg1; first | refine zs3 ?_ | refine zs4 ?_) | (apply zg3; refine zs8 ?_) | (apply zg4; refine zs9 ?_) | (apply zg6; first | refine zs11 ?_ | refine zs12 ?_) | apply (zs13 ?_) | (apply zg7; (refine zs15 ?_ ?_ <;> intro _ <;> try (exfalso; omega))) | (apply zg8; (refine zs16 ?_ ?_ <;> intro _ <;> try (exfalso; omega))) | apply (zs65 ?_) | apply (zs68 ?_) | apply (zs69 ?_) | apply (zs70 ?_) | (apply zg27; refine zs71 ?_) | apply (zs74 ?_) | apply (zs77 ?_) | fail)
      all_goals first | (exfalso; rename_i hz; exact hz rfl) | skip
      apply VL_call _ en9
      (repeat (first | exact args_nil | (apply args_cons; exact rfl)))
      exact rfl
      exact fun _ hw => (reach_spec n s hin.cons.cons (hw))
      rintro _ _ ⟨A4, c4, m, rfl, rfl, hm⟩
      obtain ⟨hmb, hmm⟩ := hrl hm
      have htm : t ∉ m := fun h => hno ((hmm t).1 h)
      have hcon := fun {H : List HP} {w : World} (r1 : Rd B w0 H A4 (m.flatMap numF)) (hw : St B w0 H w) => contains_ints m t (by omega) (cap := c4) r1 hw
      rw [decide_eq_false htm] at hcon
      repeat' (first | apply (zs1 ?_) | (apply zg1; refine zs4 ?_) | fail)
      first | apply VL_callt en8 | apply VL_callq en8
      (repeat (first | exact args_nil | (apply args_cons; exact rfl)))
      exact rfl
      exact fun _ hw => (hcon (.sl (by (focus repeat (first | with_reducible exact List.mem_cons_self | with_reducible apply List.mem_cons_of_mem | assumption)))) hw)
      repeat' (first | apply (zs2 ?_) | (apply zg1; refine zs4 ?_) | (apply zg6; refine zs11 ?_) | (apply zg20; refine zs48 ?_) | apply (zs65 ?_) | apply (zs68 ?_) | apply (zs74 ?_) | apply (zs77 ?_) | fail)
      apply VQ_ret1; exact rfl; exact rfl
      exact ⟨rfl, fun w hw => hw.tail.tail.tail⟩
end Go.Proofs.YtleldppdflgmgaaGreat

/- From arguments that came in to rows that are only read. -/
namespace Go.Eng
open Go.ChangeShapes Go.WideShapes Go.ChangeAt Go.RowKit Go.Deep

/-- In this world the cells xs lie from A on. -/
def Old (W : World) (A : Option Addr) (xs : List Value) : Prop := ∀ j v, xs[j]? = some v → ∃ g o, A = some ⟨g, o, none⟩ ∧ g < W.heap.size ∧ W.cell? ⟨g, o + j, none⟩ = some v
theorem Old.rd {W : World} {H : List HP} {A : Option Addr} {xs : List Value} (h : Old W A xs) : Rd W.heap.size W H A xs := Rd.old h

theorem cell_lt {W : World} {a : Addr} {v : Value} (h : W.cell? a = some v) : a.block < W.heap.size := by
  unfold World.cell? at h
  rcases Nat.lt_or_ge a.block W.heap.size with h1 | h1
  · exact h1
  · rw [Array.getElem?_eq_none h1] at h; cases h

section
variable {H : Type} {enc : TypeId × Value → H} {P : Program} {W : World} {held : Bool}

/-- A slice that came in: its elements, and where they lie; f: an element's cells; good: what is known of an element. -/
theorem open_rows {α : Type} {f : α → List Value} {good : α → Prop} {t e q : Nat} {fuel : Nat} {A : Option Addr} {len cap : Nat} {x : DataW H × List MemPlace} {spare : Nat → Bool} (ht : P.underlying t = some (.slice e)) (hc : P.cellsOf e = q) (h0 : 0 < q)
    (hel : ∀ n cs y, cs.length = q → DataW.trod enc P W 0 spare held n e cs = some y → ∃ a, cs = f a ∧ good a) (h : DataW.trod enc P W 0 spare held fuel t [.slice A len cap] = some x) :
    ∃ l : List α, l.length = len ∧ Old W A (l.flatMap f) ∧ (∀ a ∈ l, good a) ∧ len ≤ maxLen ∧ (∀ a ∈ l, (f a).length = q) := by
  rcases open_slice ht h with ⟨h1, _⟩ | ⟨a, len', cap', m, n, D, Pl, h1, _, hl, hm, hmm, hxx, hx⟩
  · injection h1 with h1 _
    injection h1 with h1 h2 h3
    subst h1 h2 h3
    exact ⟨[], rfl, (fun j v hv => by simp at hv), (fun a ha => by cases ha), Nat.zero_le _, (fun a ha => by cases ha)⟩
  · injection h1 with h1 _
    injection h1 with h1 h2 h3
    subst h1 h2 h3
    have hle : len ≤ m := by rw [hmm]; split <;> omega
    rw [hc] at hx
    have key : ∀ i, i < len → ∃ b : α, W.cells? 0 (a.add (i * q)) q = some (f b) ∧ good b := fun i hi => by
      obtain ⟨cs', h2, h3⟩ := hx i (by omega)
      obtain ⟨_, h5, _⟩ := World.cells?_some h2
      obtain ⟨b, rfl, hb⟩ := hel n cs' _ h5 h3
      exact ⟨b, h2, hb⟩
    obtain ⟨l, hlen, hl2⟩ : ∃ l : List α, l.length = len ∧ ∀ i b, l[i]? = some b → W.cells? 0 (a.add (i * q)) q = some (f b) ∧ good b := by
      clear hx hmm hle h hl hm hxx
      induction len with
      | zero => exact ⟨[], rfl, fun i b hb => by simp at hb⟩
      | succ k ih =>
        obtain ⟨l, h2, h3⟩ := ih (fun i hi => key i (by omega))
        obtain ⟨b, h4⟩ := key k (by omega)
        refine ⟨l ++ [b], by simp [h2], fun i c hc => ?_⟩
        by_cases hi : i < l.length
        · rw [List.getElem?_append_left hi] at hc; exact h3 i c hc
        · rw [List.getElem?_append_right (by omega)] at hc
          have hi2 : i - l.length = 0 := by
            have := (List.getElem?_eq_some_iff.1 hc).1
            simp at this; omega
          rw [hi2] at hc
          obtain rfl : b = c := by simpa using hc
          obtain rfl : i = k := by omega
          exact h4
    have hfq : ∀ b ∈ l, (f b).length = q := fun b hb => by
      obtain ⟨i, hi⟩ := List.getElem?_of_mem hb
      exact (World.cells?_some (hl2 i b hi).1).2.1
    refine ⟨l, hlen, fun j v hv => ?_, fun b hb => ?_, by omega, hfq⟩
    · have hspl : ∃ i b, l[i]? = some b ∧ ∃ r, j = i * q + r ∧ r < q ∧ (f b)[r]? = some v := by
        clear hlen hl2 key
        induction l generalizing j with
        | nil => simp at hv
        | cons b l ih =>
          rw [List.flatMap_cons] at hv
          have hb := hfq b (by simp)
          by_cases hj : j < q
          · rw [List.getElem?_append_left (by omega)] at hv
            exact ⟨0, b, rfl, j, by omega, hj, hv⟩
          · rw [List.getElem?_append_right (by omega), hb] at hv
            obtain ⟨i, b', h5, r, h6, h7, h8⟩ := ih (fun c hc => hfq c (by simp [hc])) (j - q) hv
            exact ⟨i + 1, b', by simpa using h5, r, by rw [Nat.add_mul]; omega, h7, h8⟩
      obtain ⟨i, b, h5, r, rfl, h7, h8⟩ := hspl
      have h9 := (World.cells?_some (hl2 i b h5).1).2.2 r h7
      rw [h8, add_add] at h9
      obtain ⟨ab, ao, spot⟩ := a
      have hs0 : spot = none := by
        have h10 := World.cell?_spot h9
        unfold Addr.add at h10
        split at h10
        · exact h10
        · rename_i hne
          have hi0 : i < len := by have := (List.getElem?_eq_some_iff.1 h5).1; omega
          have h11 := (World.cells?_some (hl2 0 l[0] (List.getElem?_eq_getElem (by omega))).1).2.2 0 h0
          rw [add_add, Nat.zero_mul, Nat.zero_add] at h11
          have hf0 : ((f l[0])[0]?).isSome = true := by
            rw [List.getElem?_eq_getElem (by rw [hfq _ (List.getElem_mem _)]; exact h0)]; rfl
          cases hf1 : (f l[0])[0]? with
          | none => rw [hf1] at hf0; cases hf0
          | some u =>
            rw [hf1] at h11
            exact World.cell?_spot h11
      subst hs0
      refine ⟨ab, ao, rfl, ?_, ?_⟩
      · have := cell_lt h9
        rw [Addr.add_lit] at this
        exact this
      · rw [Addr.add_lit] at h9
        exact h9
    · obtain ⟨i, hi⟩ := List.getElem?_of_mem hb
      exact (hl2 i b hi).2

/-- A slice of numbers that came in. -/
theorem open_nums {t e : Nat} {k : IntKind} {fuel : Nat} {A : Option Addr} {len cap : Nat} {x : DataW H × List MemPlace} {spare : Nat → Bool} (ht : P.underlying t = some (.slice e)) (he : P.underlying e = some (.int k)) (hc : P.cellsOf e = 1)
    (h : DataW.trod enc P W 0 spare held fuel t [.slice A len cap] = some x) :
    ∃ l : List Int, l.length = len ∧ Old W A (l.flatMap fun z => [Value.int k z]) ∧ (∀ z ∈ l, (Lit.int k z).wf = true) ∧ len ≤ maxLen := by
  obtain ⟨l, h1, h2, h3, h4, _⟩ := open_rows (f := fun z : Int => [Value.int k z]) (good := fun z => (Lit.int k z).wf = true) ht hc (by decide) (fun n cs y hl hy => by
    obtain ⟨m, rfl, rfl, hw⟩ := DataW.trod_int he hy
    exact ⟨m, rfl, hw⟩) h
  exact ⟨l, h1, h2, h3, h4⟩
end
end Go.Eng

/- From arguments that came in to what the walks speak of: openers, built up as types are. -/
namespace Go.Eng
open Go.ChangeShapes Go.WideShapes Go.ChangeAt Go.RowKit Go.Deep

/-- A slice: where it lies, its capacity, its elements. -/
structure SlM (α : Type) where
  A : Option Addr
  cap : Nat
  xs : List α
def SlM.val {α : Type} (s : SlM α) : Value := .slice s.A s.xs.length s.cap

section
variable {H : Type} {enc : TypeId × Value → H} {P : Program} {W : World} {spare : Nat → Bool} {held : Bool}

/-- Cells that are read as a value of type t are those of some a that is good. -/
def Opn (enc : TypeId × Value → H) (P : Program) (W : World) (spare : Nat → Bool) (held : Bool) (t : TypeId) {α : Type} (f : α → List Value) (good : α → Prop) : Prop :=
  ∀ fuel cs y, DataW.trod enc P W 0 spare held fuel t cs = some y → ∃ a, cs = f a ∧ good a

theorem op_map {t : TypeId} {α β : Type} {f : α → List Value} {good : α → Prop} {f' : β → List Value} {good' : β → Prop} (h : Opn enc P W spare held t f good) (g : α → β) (hf : ∀ a, f a = f' (g a)) (hg : ∀ a, good a → good' (g a)) : Opn enc P W spare held t f' good' := by
  intro fuel cs y hy
  obtain ⟨a, h1, h2⟩ := h fuel cs y hy
  exact ⟨g a, h1.trans (hf a), hg a h2⟩

theorem op_int {t : TypeId} {k : IntKind} (ht : P.underlying t = some (.int k)) : Opn enc P W spare held t (fun z : Int => [Value.int k z]) (fun z => (Lit.int k z).wf = true) := by
  intro fuel cs y hy
  obtain ⟨m, rfl, rfl, hw⟩ := DataW.trod_int ht hy
  exact ⟨m, rfl, hw⟩

/-- What is known of a slice that came in. -/
structure SlG {α : Type} (W : World) (f : α → List Value) (good : α → Prop) (s : SlM α) : Prop where
  old : Old W s.A (s.xs.flatMap f)
  good : ∀ a ∈ s.xs, good a
  len : s.xs.length ≤ maxLen
  cap : s.xs.length ≤ s.cap

theorem op_slice {t e q : TypeId} {α : Type} {f : α → List Value} {good : α → Prop} (ht : P.underlying t = some (.slice e)) (hc : P.cellsOf e = q) (h0 : 0 < q) (h : Opn enc P W spare held e f good) : Opn enc P W spare held t (fun s : SlM α => [s.val]) (SlG W f good) := by
  intro fuel cs y hy
  rcases open_slice ht hy with ⟨rfl, _⟩ | ⟨a, len, cap, m, n, D, Pl, rfl, _, hlc, _⟩
  · exact ⟨⟨none, 0, []⟩, rfl, ⟨(fun j v hv => by simp at hv), (fun a ha => by cases ha), Nat.zero_le _, Nat.zero_le _⟩⟩
  · obtain ⟨l, h1, h2, h3, h4, _⟩ := open_rows ht hc h0 (fun n cs y _ hy => h n cs y hy) hy
    subst h1
    exact ⟨⟨some a, cap, l⟩, rfl, h2, h3, h4, hlc⟩

/-- The same for the fields of a struct, one behind the other. -/
def FOpn (enc : TypeId × Value → H) (P : Program) (W : World) (spare : Nat → Bool) (held : Bool) (ts : List TypeId) {α : Type} (f : α → List Value) (good : α → Prop) : Prop :=
  ∀ (n : Nat) (cs : List Value), cs.length = (ts.map P.cellsOf).sum → (∀ i t, ts[i]? = some t → ∃ y, DataW.trod enc P W 0 spare held n t ((cs.drop ((ts.take i).map P.cellsOf).sum).take (P.cellsOf t)) = some y) → ∃ a, cs = f a ∧ good a

theorem fop_nil : FOpn enc P W spare held [] (fun _ : Unit => []) (fun _ => True) := fun n cs h _ => ⟨(), List.eq_nil_of_length_eq_zero (by simpa using h), trivial⟩
theorem fop_cons {t : TypeId} {ts : List TypeId} {α β : Type} {f : α → List Value} {good : α → Prop} {g : β → List Value} {good' : β → Prop} (h : Opn enc P W spare held t f good) (hs : FOpn enc P W spare held ts g good') :
    FOpn enc P W spare held (t :: ts) (fun x : α × β => f x.1 ++ g x.2) (fun x => good x.1 ∧ good' x.2) := by
  intro n cs hl hx
  simp only [List.map_cons, List.sum_cons] at hl
  obtain ⟨y, hy⟩ := hx 0 t rfl
  simp only [List.take_zero, List.map_nil, List.sum_nil, List.drop_zero] at hy
  obtain ⟨a, h1, h2⟩ := h n _ y hy
  obtain ⟨b, h3, h4⟩ := hs n (cs.drop (P.cellsOf t)) (by simp; omega) (fun i u hu => by
    obtain ⟨y, hy⟩ := hx (i + 1) u (by simpa using hu)
    refine ⟨y, ?_⟩
    rw [List.drop_drop]
    simpa using hy)
  exact ⟨(a, b), by show cs = f a ++ g b; rw [← h1, ← h3, List.take_append_drop], h2, h4⟩

def offs (P : Program) : List TypeId → Nat → List Nat
  | [], _ => []
  | t :: ts, o => o :: offs P ts (o + P.cellsOf t)
theorem offs_get (P : Program) : ∀ (ts : List TypeId) (o i : Nat), i < ts.length → (offs P ts o)[i]? = some (o + ((ts.take i).map P.cellsOf).sum)
  | [], _, _, h => by simp at h
  | t :: ts, o, 0, _ => by simp [offs]
  | t :: ts, o, i + 1, h => by
    rw [offs, List.getElem?_cons_succ, offs_get P ts _ i (by simpa using h)]
    simp [Nat.add_assoc]
/-- A struct whose fields have these types, one behind the other. -/
def structB (P : Program) (t : TypeId) (ts : List TypeId) : Bool :=
  match P.underlying t with
  | some (.struct fs) => (fs.toList.map (·.type) == ts) && (fs.toList.map (·.offset) == offs P ts 0) && (P.cellsOf t == (ts.map P.cellsOf).sum)
  | _ => false

theorem op_struct {t : TypeId} {ts : List TypeId} {α : Type} {f : α → List Value} {good : α → Prop} (hB : structB P t ts = true) (h : FOpn enc P W spare held ts f good) : Opn enc P W spare held t f good := by
  intro fuel cs y hy
  unfold structB at hB
  cases hu : P.underlying t with
  | none => rw [hu] at hB; cases hB
  | some d =>
    rw [hu] at hB
    cases d with
    | struct fs =>
      simp only [Bool.and_eq_true, beq_iff_eq] at hB
      obtain ⟨⟨h1, h2⟩, h3⟩ := hB
      obtain ⟨xs, n, _, _, hl, hn, hx⟩ := DataW.trod_struct hu hy
      refine h n cs (hl.trans h3) fun i u hi => ?_
      have hlt : i < ts.length := (List.getElem?_eq_some_iff.1 hi).1
      have hlf : i < fs.toList.length := by rw [← h1] at hlt; simpa using hlt
      have hf : fs[i]? = some (fs.toList[i]) := by rw [← Array.getElem?_toList, List.getElem?_eq_getElem hlf]
      have ht : (fs.toList[i]).type = u := by
        rw [← h1, List.getElem?_map, List.getElem?_eq_getElem hlf] at hi
        simpa using hi
      have ho : (fs.toList[i]).offset = ((ts.take i).map P.cellsOf).sum := by
        have h5 := offs_get P ts 0 i hlt
        rw [← h2, List.getElem?_map, List.getElem?_eq_getElem hlf] at h5
        simpa using h5
      have h6 := hx i _ hf
      rw [ht, ho] at h6
      have hlx : i < xs.length := by rw [hn]; simpa using hlf
      exact ⟨xs[i], by rw [h6, List.getElem?_eq_getElem hlx]⟩
    | _ => cases hB

theorem wf_i64 {z : Int} (h : (Lit.int .i64 z).wf = true) : -9223372036854775808 ≤ z ∧ z ≤ 9223372036854775807 := by
  simp only [Lit.wf, Bool.and_eq_true, decide_eq_true_eq] at h
  have e1 : IntKind.min .i64 = -9223372036854775808 := by decide
  have e2 : IntKind.max .i64 = 9223372036854775807 := by decide
  omega
end
end Go.Eng

/- A network that came in as an argument. -/
namespace Go.Proofs.YtleldppdflgmgaaGreat
open Go.ChangeShapes Go.WideShapes Go.ChangeAt Go.RowKit Go.Eng Go.Nw

section
variable {H : Type} {enc : TypeId × Value → H} {W : World} {spare : Nat → Bool} {held : Bool}
abbrev I64 (z : Int) : Prop := (Lit.int .i64 z).wf = true
theorem op_i : Opn enc Tryz.prog W spare held 3 numF I64 := op_int Tryz.underlying3
theorem op_ints : Opn enc Tryz.prog W spare held 24 (fun s : SlM Int => [s.val]) (SlG W numF I64) := op_slice (q := 1) Tryz.underlying24 (by kernel_rfl) (by decide) op_i
theorem op_rows : Opn enc Tryz.prog W spare held 22 (fun s : SlM (SlM Int) => [s.val]) (SlG W (fun s : SlM Int => [s.val]) (SlG W numF I64)) := op_slice (q := 1) Tryz.underlying22 (by kernel_rfl) (by decide) op_ints
theorem op_link : Opn enc Tryz.prog W spare held 63 lkF (fun l => I64 l.1 ∧ I64 l.2.1 ∧ I64 l.2.2) :=
  op_map (op_struct (ts := [3, 3, 3]) (by kernel_rfl) (fop_cons op_i (fop_cons op_i (fop_cons op_i fop_nil)))) (fun x => (x.1, x.2.1, x.2.2.1)) (fun _ => rfl) (fun _ h => ⟨h.1, h.2.1, h.2.2.1⟩)
theorem op_links : Opn enc Tryz.prog W spare held 23 (fun s : SlM Lk => [s.val]) (SlG W lkF fun l => I64 l.1 ∧ I64 l.2.1 ∧ I64 l.2.2) := op_slice (q := 3) Tryz.underlying23 (by kernel_rfl) (by decide) op_link

structure NetG (W : World) (n : NetM) : Prop where
  nodes : I64 n.nodes
  pw : Old W n.pA (n.rows.flatMap rowF)
  rw_ : ∀ r ∈ n.rows, Old W r.A (r.xs.flatMap numF)
  noise : I64 n.noise
  thr : I64 n.thr
  lk : Old W n.lA (n.links.flatMap lkF)
  mg : Old W n.mA (n.margin.flatMap numF)
  s1 : n.rows.length ≤ 9223372036854775807
  s2 : ∀ r ∈ n.rows, r.xs.length ≤ 9223372036854775807
  s3 : n.links.length ≤ 9223372036854775807
  s4 : n.margin.length ≤ 9223372036854775807
  w1 : ∀ r ∈ n.rows, ∀ z ∈ r.xs, I64 z
  w2 : ∀ l ∈ n.links, I64 l.1 ∧ I64 l.2.1 ∧ I64 l.2.2
  w3 : ∀ z ∈ n.margin, I64 z
  c3 : n.links.length ≤ n.lcap
  c4 : n.margin.length ≤ n.mcap
theorem NetG.In {n : NetM} {K : List HP} (h : NetG W n) : n.In W.heap.size W K := ⟨h.pw.rd, fun r hr => (h.rw_ r hr).rd, h.lk.rd, h.mg.rd, h.s1, h.s2, h.s3, h.s4⟩

def netF (n : NetM) : List Value := [.int .i64 n.nodes, .slice n.pA n.rows.length n.pcap, .int .i64 n.noise, .int .i64 n.thr, .slice n.lA n.links.length n.lcap, .slice n.mA n.margin.length n.mcap]
def rowOf (s : SlM Int) : RowM := ⟨s.A, s.cap, s.xs⟩
theorem flat_rowOf (l : List (SlM Int)) : (l.map rowOf).flatMap rowF = l.flatMap fun s => [s.val] := by rw [List.flatMap_map]; rfl
theorem maxL : maxLen ≤ 9223372036854775807 := by decide
theorem op_net : Opn enc Tryz.prog W spare held 26 netF (NetG W) :=
  op_map (op_struct (ts := [3, 22, 3, 3, 23, 24]) (by kernel_rfl) (fop_cons op_i (fop_cons op_rows (fop_cons op_i (fop_cons op_i (fop_cons op_links (fop_cons op_ints fop_nil)))))))
    (fun x => ⟨x.1, x.2.1.A, x.2.1.cap, x.2.1.xs.map rowOf, x.2.2.1, x.2.2.2.1, x.2.2.2.2.1.A, x.2.2.2.2.1.cap, x.2.2.2.2.1.xs, x.2.2.2.2.2.1.A, x.2.2.2.2.2.1.cap, x.2.2.2.2.2.1.xs⟩)
    (fun x => by simp [netF, numF, SlM.val])
    (fun x h => by
      obtain ⟨h1, h2, h3, h4, h5, h6, _⟩ := h
      have hm := maxL
      refine ⟨h1, ?_, ?_, h3, h4, h5.old, h6.old, ?_, ?_, Nat.le_trans h5.len hm, Nat.le_trans h6.len hm, ?_, h5.good, h6.good, h5.cap, h6.cap⟩
      · rw [flat_rowOf]; exact h2.old
      · intro r hr
        obtain ⟨s, hs, rfl⟩ := List.mem_map.1 hr
        exact (h2.good s hs).old
      · rw [List.length_map]; exact Nat.le_trans h2.len hm
      · intro r hr
        obtain ⟨s, hs, rfl⟩ := List.mem_map.1 hr
        exact Nat.le_trans (h2.good s hs).len hm
      · intro r hr
        obtain ⟨s, hs, rfl⟩ := List.mem_map.1 hr
        exact (h2.good s hs).good)

set_option maxRecDepth 100000 in
theorem open_net {r : Reach} {b0 : Nat} {v : Value} {d : DataW H} {p : List MemPlace} (hv : Value.okWide Tryz.prog W r b0 26 v) (h : DataW.Trod enc Tryz.prog W 0 spare held 26 v d p) : ∃ n : NetM, v = n.val ∧ NetG W n := by
  obtain ⟨cs, rfl, _⟩ := okWide_struct Tryz.underlying26 hv
  obtain ⟨fuel, hf⟩ := h
  obtain ⟨n, h1, h2⟩ := op_net fuel _ _ hf
  refine ⟨n, ?_, h2⟩
  have : cs = (netF n).toArray := by rw [← h1]; simp [Value.cells]
  rw [this]; rfl
end
end Go.Proofs.YtleldppdflgmgaaGreat

/- Routes and potentials that came in as arguments. -/
namespace Go.Proofs.YtleldppdflgmgaaGreat
open Go.ChangeShapes Go.WideShapes Go.ChangeAt Go.RowKit Go.Eng Go.Nw

section
variable {H : Type} {enc : TypeId × Value → H} {W : World} {spare : Nat → Bool} {held : Bool}
/-- A route as it came in. -/
structure RtG (W : World) (r : RowM) : Prop where
  old : Old W r.A (r.xs.flatMap numF)
  len : r.xs.length ≤ 9223372036854775807
  cap : r.xs.length ≤ r.cap
  good : ∀ z ∈ r.xs, I64 z
theorem op_route : Opn enc Tryz.prog W spare held 31 rowF (RtG W) :=
  op_map (op_slice (q := 1) Tryz.underlying31 (by kernel_rfl) (by decide) op_i) rowOf (fun _ => rfl) (fun _ h => ⟨h.old, Nat.le_trans h.len maxL, h.cap, h.good⟩)
theorem op_nums : Opn enc Tryz.prog W spare held 24 rowF (RtG W) :=
  op_map op_ints rowOf (fun _ => rfl) (fun _ h => ⟨h.old, Nat.le_trans h.len maxL, h.cap, h.good⟩)
set_option maxRecDepth 100000 in
theorem open_route {r : Reach} {b0 : Nat} {v : Value} {d : DataW H} {p : List MemPlace} (hv : Value.okWide Tryz.prog W r b0 31 v) (h : DataW.Trod enc Tryz.prog W 0 spare held 31 v d p) : ∃ n : RowM, v = .slice n.A n.xs.length n.cap ∧ RtG W n := by
  obtain ⟨A, len, cap, rfl⟩ := okWide_slice Tryz.underlying31 hv
  obtain ⟨fuel, hf⟩ := h
  obtain ⟨s, h1, h2⟩ := op_route fuel _ _ hf
  refine ⟨s, ?_, h2⟩
  injection h1
def potV (i o : RowM) : Value := .agg #[.slice i.A i.xs.length i.cap, .slice o.A o.xs.length o.cap]
theorem op_pot : Opn enc Tryz.prog W spare held 45 (fun p : RowM × RowM => rowF p.1 ++ rowF p.2) (fun p => RtG W p.1 ∧ RtG W p.2) :=
  op_map (op_struct (ts := [24, 24]) (by kernel_rfl) (fop_cons op_nums (fop_cons op_nums fop_nil))) (fun x => (x.1, x.2.1)) (fun x => by simp [rowF]) (fun x h => ⟨h.1, h.2.1⟩)
set_option maxRecDepth 100000 in
theorem open_pot {r : Reach} {b0 : Nat} {v : Value} {d : DataW H} {p : List MemPlace} (hv : Value.okWide Tryz.prog W r b0 45 v) (h : DataW.Trod enc Tryz.prog W 0 spare held 45 v d p) : ∃ n : RowM × RowM, v = potV n.1 n.2 ∧ (RtG W n.1 ∧ RtG W n.2) := by
  obtain ⟨cs, rfl, _⟩ := okWide_struct Tryz.underlying45 hv
  obtain ⟨fuel, hf⟩ := h
  obtain ⟨n, h1, h2⟩ := op_pot fuel _ _ hf
  refine ⟨n, ?_, h2⟩
  have h3 : cs.toList = rowF n.1 ++ rowF n.2 := h1
  have : cs = (rowF n.1 ++ rowF n.2).toArray := by rw [← h3]
  rw [this]; rfl
end
end Go.Proofs.YtleldppdflgmgaaGreat

/- From a walk to a row: a law that returns true and leaves memory below as it was. -/
namespace Go.Proofs.YtleldppdflgmgaaGreat
open Go.ChangeShapes Go.WideShapes Go.ChangeAt Go.RowKit

section
variable {H : Type} {enc : TypeId × Value → H} {P : Program}

theorem trodAll_keep (hl : laidOutB P = true) {W W' : World} {sp : Nat → Bool} : ∀ {ts : List TypeId} {vs : List Value} {ds : List (DataW H)} {ps : List MemPlace}, (ts.all fun t => P.readableRec t && decide (t < P.types.size)) = true →
    DataW.TrodAll enc P W 0 (fun _ => true) true ts vs ds ps → (∀ p ∈ ps, W.sameAt W' p) → (∀ p ∈ ps, sp p.block = true) → DataW.TrodAll enc P W' 0 sp true ts vs ds ps
  | [], [], [], _, _, h, _, _ => h
  | [], [], _ :: _, _, _, h, _, _ => h.elim
  | [], _ :: _, _, _, _, h, _, _ => h.elim
  | _ :: _, [], _, _, _, h, _, _ => h.elim
  | _ :: _, _ :: _, [], _, _, h, _, _ => h.elim
  | t :: ts, v :: vs, d :: ds, ps, hr, h, hs, hp => by
    obtain ⟨p, q, h1, h2, rfl⟩ := h
    simp only [List.all_cons, Bool.and_eq_true, decide_eq_true_eq] at hr
    exact ⟨p, q, WideElems.Trod_stays hl hr.1.1 hr.1.2 h1 (fun x hx => hs x (by simp [hx])) (fun x hx => hp x (by simp [hx])), trodAll_keep hl hr.2 h2 (fun x hx => hs x (by simp [hx])) (fun x hx => hp x (by simp [hx])), rfl⟩

/-- The call returned true, and below the heap's old end nothing is changed: what the row asks. -/
theorem post_true {f : Func} {s : ChangeSpec} {apart fresh handsOn again : Bool} {W W' : World} {args : Array Value} {ds gs : List (DataW H)} {before : List MemPlace} {tb : TypeId} (hl : laidOutB P = true)
    (hrd : (f.params.toList.all fun t => P.readableRec t && decide (t < P.types.size)) = true) (hv : s.vars = []) (hrt : f.resultTypes = #[tb]) (htb : P.underlying tb = some .bool)
    (hW : DataW.Whole enc P f.params.toList s.vars apart W args.toList ds gs before) (hb : Below W.heap.size W W')
    (hres : (s.fn H (ds ++ gs)).results = [.lit (.bool true)]) (hargs : (s.fn H (ds ++ gs)).args = ds) (hvars : (s.fn H (ds ++ gs)).vars = []) :
    s.post enc P f apart fresh handsOn again W args (.bool true) W' := by
  have hlt : ∀ p ∈ before, p.block < W.heap.size := fun p hp => hW.lt p hp
  have hW0 := hW
  obtain ⟨p, q, hA, hV, rfl, hz, hn⟩ := hW
  rw [hv] at hV
  have hq : gs = [] ∧ q = [] := by
    cases gs with
    | nil => exact ⟨rfl, hV⟩
    | cons _ _ => exact hV.elim
  obtain ⟨rfl, rfl⟩ := hq
  have hkeep : ∀ sp : Nat → Bool, (∀ x ∈ p ++ [], sp x.block = true) → DataW.TrodAll enc P W' 0 sp true f.params.toList args.toList ds p := fun sp hsp =>
    trodAll_keep hl hrd hA (fun x hx => hb.same (hlt x (by simpa using hx))) (fun x hx => hsp x (by simpa using hx))
  have hR : ∀ (b : Nat) (sp : Nat → Bool) (hd : Bool), DataW.TrodAll enc P W' b sp hd f.resultTypes.toList ((Value.bool true).resultList f.resultTypes.size) (s.fn H (ds ++ [])).results [] := by
    intro b sp hd
    rw [hres, hrt]
    exact trodAll_mk1 (shut_bool htb true)
  have hok := ok_one (P := P) (W' := W') (f := f) (v := .bool true) hrt rfl (okWide_bool_mk htb true)
  have hold : ∀ x ∈ p ++ [], (fun b => decide (b < W.heap.size)) x.block = true := fun x hx => by simpa using hlt x hx
  refine ⟨ds, [], p ++ [], [], p, [], hW0, hR _ _ _, by rw [hargs]; exact hkeep _ hold, by rw [hvars, hv]; rfl, World.keptBut_mono (fun x hx => ⟨hx, Or.inr (by simpa using hx)⟩) (hb.frame (· ∈ p ++ [])), fun _ => ?_⟩
  refine ⟨hok, _, _, ([] ++ p) ++ [], ⟨[] ++ p, [], trodAll_append (hkeep _ (fun _ _ => rfl)) (hR _ _ _), (show DataW.TrodVars enc P W' (fun _ => true) s.vars [] [] by rw [hv]; rfl), rfl, ?_, ?_⟩, ?_⟩
  · intro b off hp
    have hin : MemPlace.cell b off ∈ p ++ [] := by simpa using hp
    rw [hb.frozen (hlt _ hin)]
    exact hz b off hin
  · intro ha
    simpa using hn ha
  · intro x hx _
    simpa using hx
end
end Go.Proofs.YtleldppdflgmgaaGreat

/- From a walk to a row: more arguments; bounds of numbers. -/
namespace Go.Proofs.YtleldppdflgmgaaGreat
open Go.ChangeShapes Go.WideShapes Go.ChangeAt Go.RowKit
section
variable {H : Type} {enc : TypeId × Value → H} {P : Program} {w : World} {base : Nat} {spare : Nat → Bool} {held : Bool}
theorem trodAll_five {t t1 t2 t3 t4 : TypeId} {args : Array Value} {ds : List (DataW H)} {ps : List MemPlace} (h : DataW.TrodAll enc P w base spare held [t, t1, t2, t3, t4] args.toList ds ps) :
    ∃ v v1 v2 v3 v4 d d1 d2 d3 d4 p p1 p2 p3 p4, args = #[v, v1, v2, v3, v4] ∧ ds = [d, d1, d2, d3, d4] ∧ ps = p ++ p1 ++ p2 ++ p3 ++ p4 ∧ DataW.Trod enc P w base spare held t v d p ∧ DataW.Trod enc P w base spare held t1 v1 d1 p1 ∧ DataW.Trod enc P w base spare held t2 v2 d2 p2 ∧ DataW.Trod enc P w base spare held t3 v3 d3 p3 ∧ DataW.Trod enc P w base spare held t4 v4 d4 p4 := by
  obtain ⟨v, vs, d, ds', p, q, hargs, rfl, rfl, hd, hrest⟩ := trodAll_cons h
  obtain ⟨v1, vs1, d1, ds1, p1, q1, rfl, rfl, rfl, hd1, hrest1⟩ := trodAll_cons hrest
  obtain ⟨v2, vs2, d2, ds2, p2, q2, rfl, rfl, rfl, hd2, hrest2⟩ := trodAll_cons hrest1
  obtain ⟨v3, vs3, d3, ds3, p3, q3, rfl, rfl, rfl, hd3, hrest3⟩ := trodAll_cons hrest2
  obtain ⟨v4, vs4, d4, ds4, p4, q4, rfl, rfl, rfl, hd4, hrest4⟩ := trodAll_cons hrest3
  obtain ⟨rfl, rfl, rfl⟩ := trodAll_nil hrest4
  exact ⟨v, v1, v2, v3, v4, d, d1, d2, d3, d4, p, p1, p2, p3, p4, by cases args; simp_all, rfl, by simp, hd, hd1, hd2, hd3, hd4⟩
end
theorem wf_u32 {z : Int} (h : (Lit.int .u32 z).wf = true) : 0 ≤ z ∧ z ≤ 4294967295 := by
  simp only [Lit.wf, Bool.and_eq_true, decide_eq_true_eq] at h
  have e1 : IntKind.min .u32 = 0 := by decide
  have e2 : IntKind.max .u32 = 4294967295 := by decide
  omega
theorem wf_u8 {z : Int} (h : (Lit.int .u8 z).wf = true) : 0 ≤ z ∧ z ≤ 255 := by
  simp only [Lit.wf, Bool.and_eq_true, decide_eq_true_eq] at h
  have e1 : IntKind.min .u8 = 0 := by decide
  have e2 : IntKind.max .u8 = 255 := by decide
  omega
end Go.Proofs.YtleldppdflgmgaaGreat

/- The law RouteReaches returns true at every input, and its arguments read behind the call as they read before: the statement Rows.RouteReachesSaid. No condition. -/
namespace Go.Proofs.YtleldppdflgmgaaGreat
open Go.ChangeShapes Go.WideShapes Go.ChangeAt Go.RowKit Go.Eng
open Go.ChangeMaps (open_string)

theorem Tryz.own : ownKnob Tryz.prog.godebug = none := by kernel_rfl
theorem Tryz.laidOut : laidOutB Tryz.prog = true := by kernel_rfl

set_option maxRecDepth 100000 in
theorem rreaches_lifted (os : Os) (started : os.Started) (H : Type) (enc : TypeId × Value → H) :
    ReturnsInHanded {} Tryz.checked os 3 .any (Rows.routeReachesSpec.pre6 enc Tryz.prog Tryz.f3 Rows.routeReachesRow.domain false) (Rows.routeReachesSpec.post enc Tryz.prog Tryz.f3 false true false false) := by
  refine returnsInHanded_of_change (C := Tryz.checked) Tryz.own started (by kernel_rfl) Tryz.func3
    (ChangeSpec.witness6 (enc := enc) (C := Tryz.checked) false ⟨#[], #[.agg #[.int .i64 0, .slice none 0 0, .int .i64 0, .int .i64 0, .slice none 0 0, .slice none 0 0], .int .i64 0, .int .i64 0], []⟩ 8 (by kernel_rfl) (by kernel_rfl) (by kernel_rfl) (by kernel_rfl)) ?_
  intro W base args ds gs before hval0 hW hcnd _
  have hval : ∀ (j : Nat) t v, Tryz.f3.params[j]? = some t → args[j]? = some v → Value.okWide Tryz.prog W .any base t v := hval0
  have hW' : DataW.Whole enc Tryz.prog Tryz.f3.params.toList Rows.routeReachesSpec.vars false W args.toList ds gs before := hW
  obtain ⟨p, q, hA0, hV, rfl, hfz, hnd⟩ := hW
  have hA : DataW.TrodAll enc Tryz.prog W 0 (fun _ => true) true Tryz.f3.params.toList args.toList ds p := hA0
  obtain ⟨rfl, rfl⟩ := trodVars_none hV
  rw [Tryz.params3] at hA hval
  obtain ⟨v0, v1, v2, d0, d1, d2, p0, p1, p2, rfl, rfl, rfl, h0, h1, h2⟩ := trodAll_three hA
  obtain ⟨n, rfl, hn⟩ := open_net (hval 0 _ v0 rfl rfl) h0
  obtain ⟨s, rfl, -, -, hws⟩ := open_int Tryz.underlying3 (hval 1 _ v1 rfl rfl) h1
  have hs := wf_i64 hws
  obtain ⟨t, rfl, -, -, hwt⟩ := open_int Tryz.underlying3 (hval 2 _ v2 rfl rfl) h2
  have ht := wf_i64 hwt
  refine (law_reachesR n s t hn.In (St.start W)).mono ?_
  rintro e' W' ⟨v, K, rfl, hst, rfl, -⟩
  exact ⟨_, rfl, post_true Tryz.laidOut (by kernel_rfl) rfl rfl Tryz.underlying4 hW' hst.below rfl rfl rfl⟩

theorem rreaches_holds : Rows.RouteReachesSaid :=
  OpenClaim.holds_of_wide 3 Tryz.f3 rfl rfl rfl rfl rfl rfl rfl ⟨rfl, rfl, rfl, rfl, rfl⟩ rfl rfl rfl rfl rfl (by kernel_rfl) Tryz.func3 (by kernel_rfl)
    (of_decide_eq_true (by kernel_rfl)) (by unfold Func.isWrapper; first | (rw [if_pos (by decide +kernel)]; kernel_rfl) | (rw [if_neg (by decide +kernel)]; exact ⟨rfl, rfl⟩))
    (fun os started H enc _ => rreaches_lifted os started H enc)
end Go.Proofs.YtleldppdflgmgaaGreat
