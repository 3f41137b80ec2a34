/- Networks of chapter 31, plain: the reference's way to the nodes that can be reached. -/
import Derived.Test.YthnjhgfnojldcaaNm3
import Derived.Test.YthnjhgfnojldcaaNr2
namespace Go.Proofs.Ythnjhgfnojldcaa
open Go.Nw

theorem mem_next_good {n : Net} (h : Ok n) {b c : Int} : c ∈ nextE n b ↔ goodE n b c = true := by
  rw [mem_next]
  constructor
  · rintro ⟨i, hi, rfl, rfl, hu⟩
    rw [← usable_good h hi]; exact hu
  · intro hg
    have h0 : 0 ≤ findE n b c := by
      unfold goodE at hg
      simp only [Bool.and_eq_true, decide_eq_true_eq] at hg
      exact hg.1
    have hl := find_lt h0
    obtain ⟨h1, h2⟩ := find_key h0
    exact ⟨_, hl, h1, h2, by rw [usable_good h hl, h1, h2]; exact hg⟩
theorem good_in {n : Net} (h : Ok n) {b c : Int} (hg : goodE n b c = true) : (0 ≤ b ∧ b < n.nodes) ∧ (0 ≤ c ∧ c < n.nodes) := by
  obtain ⟨i, hi, rfl, rfl, _⟩ := mem_next.1 ((mem_next_good h).2 hg)
  have := h.lk i hi
  exact ⟨⟨this.f0, this.f1⟩, ⟨this.t0, this.t1⟩⟩

/-- The nodes are in order. -/
theorem next_ord {n : Net} (h : Ok n) (a : Int) : (nextE n a).Pairwise (· < ·) := by
  have key : ∀ k, k ≤ n.links.length → (nextTo n a k).Pairwise (· < ·) ∧ ∀ x ∈ nextTo n a k, ∃ i, i < k ∧ (lnk n i).1 = a ∧ (lnk n i).2.1 = x := by
    intro k
    induction k with
    | zero => intro _; simp [nextTo]
    | succ k ih =>
      intro hk
      obtain ⟨h1, h2⟩ := ih (by omega)
      by_cases hc : (lnk n k).1 = a ∧ usableE n k = true
      · rw [nextTo_yes hc]
        refine ⟨List.pairwise_append.2 ⟨h1, by simp, fun x hx y hy => ?_⟩, fun x hx => ?_⟩
        · obtain ⟨i, hi, e1, e2⟩ := h2 x hx
          rw [List.mem_singleton.1 hy, ← e2]
          have h3 := sorted h i k hi (by omega)
          rw [cmpL_neg] at h3
          omega
        · rcases List.mem_append.1 hx with hx | hx
          · obtain ⟨i, hi, e⟩ := h2 x hx
            exact ⟨i, by omega, e⟩
          · exact ⟨k, by omega, hc.1, (List.mem_singleton.1 hx).symm⟩
      · rw [nextTo_no hc]
        exact ⟨h1, fun x hx => by obtain ⟨i, hi, e⟩ := h2 x hx; exact ⟨i, by omega, e⟩⟩
  exact (key _ (Nat.le_refl _)).1

/-- The numbers below N with a property, in order. -/
def upTo (p : Int → Bool) (N : Nat) : List Int := ((List.range N).map fun k : Nat => (k : Int)).filter p
theorem upTo_yes {p : Int → Bool} {k : Nat} (h : p k = true) : upTo p (k + 1) = upTo p k ++ [(k : Int)] := by simp [upTo, List.range_succ, List.filter_append, h]
theorem upTo_no {p : Int → Bool} {k : Nat} (h : p k = false) : upTo p (k + 1) = upTo p k := by simp [upTo, List.range_succ, List.filter_append, h]
theorem upTo_len (p : Int → Bool) (N : Nat) : (upTo p N).length ≤ N := by
  unfold upTo
  exact Nat.le_trans (List.length_filter_le _ _) (by simp)
theorem mem_upTo {p : Int → Bool} {N : Nat} {x : Int} : x ∈ upTo p N ↔ (0 ≤ x ∧ x < N) ∧ p x = true := by
  unfold upTo
  rw [List.mem_filter, List.mem_map]
  constructor
  · rintro ⟨⟨k, hk, rfl⟩, hp⟩
    have := List.mem_range.1 hk
    exact ⟨by omega, hp⟩
  · rintro ⟨hx, hp⟩
    exact ⟨⟨x.toNat, List.mem_range.2 (by omega), by omega⟩, hp⟩
theorem upTo_ord (p : Int → Bool) : ∀ N : Nat, (upTo p N).Pairwise (· < ·)
  | 0 => by simp [upTo]
  | N + 1 => by
    cases h : p N
    · rw [upTo_no h]; exact upTo_ord p N
    · rw [upTo_yes h]
      refine List.pairwise_append.2 ⟨upTo_ord p N, by simp, fun x hx y hy => ?_⟩
      rw [List.mem_singleton.1 hy]
      exact (mem_upTo.1 hx).1.2

theorem next_upTo {n : Net} (h : Ok n) (a : Int) : nextE n a = upTo (goodE n a) n.nodes.toNat := by
  refine ord_uniq (next_ord h a) (upTo_ord _ _) fun b => ?_
  rw [mem_next_good h, mem_upTo]
  constructor
  · intro hg; have := good_in h hg; exact ⟨by omega, hg⟩
  · exact fun hg => hg.2
theorem next_out {n : Net} (h : Ok n) {a : Int} (ha : ¬ (0 ≤ a ∧ a < n.nodes)) : nextE n a = [] := by
  apply List.eq_nil_iff_forall_not_mem.2
  intro b hb
  exact ha (good_in h ((mem_next_good h).1 hb)).1

/-- Reached with at most k steps. -/
def RchK (n : Net) (a : Int) : Nat → Int → Prop
  | 0, b => b = a
  | k + 1, b => RchK n a k b ∨ ∃ c, RchK n a k c ∧ b ∈ nextE n c
theorem RchK.up {n : Net} {a b : Int} {k : Nat} (h : RchK n a k b) : ∀ {m : Nat}, k ≤ m → RchK n a m b := by
  intro m hm
  induction m with
  | zero => obtain rfl : k = 0 := by omega
            exact h
  | succ m ih =>
    by_cases e : k = m + 1
    · subst e; exact h
    · exact .inl (ih (by omega))
theorem RchK.rch {n : Net} {a : Int} : ∀ {k : Nat} {b : Int}, RchK n a k b → Rch n a b
  | 0, b, h => by rw [show b = a from h]; exact .refl
  | k + 1, b, h => by
    rcases h with h | ⟨c, h1, h2⟩
    · exact RchK.rch h
    · exact .step (RchK.rch h1) h2

theorem bfs_idx {n : Net} {a : Int} : ∀ (i : Nat), i ≤ (bfs n a i).length → (∀ m, m < i → m < (bfs n a m).length) → ∀ j x, (bfs n a i)[j]? = some x → RchK n a j x
  | 0, _, _, j, x, h => by
    cases j with
    | zero => simp [bfs] at h; exact h.symm
    | succ j => simp [bfs] at h
  | i + 1, hi, hall, j, x, h => by
    have hlt := hall i (by omega)
    have ih := bfs_idx i (by omega) (fun m hm => hall m (by omega))
    obtain ⟨e, h1, h2⟩ := addTo_pre (nextE n ((bfs n a i).getD i 0)) (bfs n a i)
    have hb : bfs n a (i + 1) = bfs n a i ++ e := h1
    rw [hb] at h
    by_cases hj : j < (bfs n a i).length
    · rw [List.getElem?_append_left hj] at h; exact ih j x h
    · rw [List.getElem?_append_right (by omega)] at h
      have h3 := h2 x (List.mem_of_getElem? h)
      have h4 := ih i ((bfs n a i).getD i 0) (by simp [List.getD, hlt])
      exact RchK.up (k := i + 1) (.inr ⟨_, h4, h3⟩) (by omega)

theorem bfs_stop {n : Net} (h : Ok n) {a : Int} (ha : 0 ≤ a ∧ a < n.nodes) : ∃ i, Bfs n a i ∧ (bfs n a i).length = i ∧ ∀ m, m < i → m < (bfs n a m).length := by
  have key : ∀ r i, 33 - i ≤ r → Bfs n a i → i ≤ (bfs n a i).length → (∀ m, m < i → m < (bfs n a m).length) → ∃ i, Bfs n a i ∧ (bfs n a i).length = i ∧ ∀ m, m < i → m < (bfs n a m).length := by
    intro r
    induction r with
    | zero => intro i hr hb hi _; have := bfs_le h ha hb; omega
    | succ r ih =>
      intro i hr hb hi hall
      by_cases e : (bfs n a i).length = i
      · exact ⟨i, hb, e, hall⟩
      · refine ih (i + 1) (by omega) (bfs_step hb (by omega)) (bfs_len (by omega)) fun m hm => ?_
        by_cases e2 : m = i
        · subst e2; omega
        · exact hall m (by omega)
  exact key 33 0 (by omega) (bfs_start n a) (Nat.zero_le _) (fun m hm => by omega)

theorem rch_K {n : Net} (h : Ok n) {a b : Int} (ha : 0 ≤ a ∧ a < n.nodes) (hr : Rch n a b) : RchK n a n.nodes.toNat b := by
  obtain ⟨i, hb, hi, hall⟩ := bfs_stop h ha
  have hm := ((bfs_end hb hi).mem b).2 hr
  rw [List.mem_mergeSort] at hm
  obtain ⟨j, hj, e⟩ := List.mem_iff_getElem.1 hm
  have h1 := bfs_idx i (by omega) hall j b (by rw [List.getElem?_eq_getElem hj, e])
  have h2 := nodup_len n.nodes.toNat (bfs n a i) hb.nodup fun x hx => by have := rch_in h ha (hb.rch x hx); omega
  exact h1.up (by omega)

/-- What is known before the pair (b, c) of round i. -/
structure Kn (n : Net) (a : Int) (i b c : Nat) (l : List Bool) : Prop where
  len : l.length = n.nodes.toNat
  sound : ∀ x : Nat, l[x]? = some true → Rch n a x
  have_ : ∀ x : Nat, RchK n a i x → l[x]? = some true
  done : ∀ b' c' : Nat, (b' < b ∨ (b' = b ∧ c' < c)) → RchK n a i b' → goodE n b' c' = true → l[c']? = some true

theorem kn_start {n : Net} {a : Nat} (_h : Ok n) (ha : (a : Int) < n.nodes) : Kn n a 0 0 0 ((List.replicate n.nodes.toNat false).set a true) := by
  have hl : a < n.nodes.toNat := by omega
  refine ⟨by simp, fun x hx => ?_, fun x hx => ?_, fun b' c' hb => by omega⟩
  · by_cases e : a = x
    · subst e; exact .refl
    · rw [List.getElem?_set_ne e] at hx
      simp [List.getElem?_replicate] at hx
  · obtain rfl : x = a := by have : (x : Int) = a := hx; omega
    rw [List.getElem?_set_self (by simpa using hl)]
theorem kn_step {n : Net} (h : Ok n) {a : Int} {i b c : Nat} {l : List Bool} (hk : Kn n a i b c l) (hb : (b : Int) < n.nodes) (hc : (c : Int) < n.nodes) {x y : Bool} (hx : l[c]? = some x) (hy : l[b]? = some y) : Kn n a i b (c + 1) (l.set c (x || (y && goodE n b c))) := by
  have hcl : c < l.length := (List.getElem?_eq_some_iff.1 hx).1
  have grow : ∀ z : Nat, l[z]? = some true → (l.set c (x || (y && goodE n b c)))[z]? = some true := fun z hz => by
    by_cases e : c = z
    · subst e
      rw [hx] at hz
      rw [List.getElem?_set_self hcl, Option.some.inj hz]; rfl
    · rw [List.getElem?_set_ne e]; exact hz
  refine ⟨by rw [List.length_set]; exact hk.len, fun z hz => ?_, fun z hz => grow z (hk.have_ z hz), fun b' c' hbc hr hg => ?_⟩
  · by_cases e : c = z
    · subst e
      rw [List.getElem?_set_self hcl] at hz
      have hz := Option.some.inj hz
      cases x with
      | true => exact hk.sound c hx
      | false =>
        simp only [Bool.false_or, Bool.and_eq_true] at hz
        rw [hz.1] at hy
        exact .step (hk.sound b hy) ((mem_next_good h).2 hz.2)
    · rw [List.getElem?_set_ne e] at hz; exact hk.sound z hz
  · by_cases e : b' = b ∧ c' = c
    · obtain ⟨rfl, rfl⟩ := e
      have h1 := hk.have_ b' hr
      rw [hy] at h1
      rw [List.getElem?_set_self hcl, Option.some.inj h1, hg]; simp
    · exact grow c' (hk.done b' c' (by omega) hr hg)
theorem kn_row {n : Net} (h : Ok n) {a : Int} {i b c : Nat} {l : List Bool} (hk : Kn n a i b c l) (hc : (c : Int) = n.nodes) : Kn n a i (b + 1) 0 l :=
  ⟨hk.len, hk.sound, hk.have_, fun b' c' hbc hr hg => by have := good_in h hg; exact hk.done b' c' (by omega) hr hg⟩
theorem kn_round {n : Net} (h : Ok n) {a : Int} (_ha : 0 ≤ a) {i b : Nat} {l : List Bool} (hk : Kn n a i b 0 l) (hb : (b : Int) = n.nodes) : Kn n a (i + 1) 0 0 l := by
  refine ⟨hk.len, hk.sound, fun x hx => ?_, fun b' c' hbc => by omega⟩
  rcases hx with hx | ⟨c, h1, h2⟩
  · exact hk.have_ x hx
  · have hg := (mem_next_good h).1 h2
    have hin := good_in h hg
    obtain ⟨m, rfl⟩ : ∃ m : Nat, c = m := ⟨c.toNat, by omega⟩
    exact hk.done m x (by omega) h1 hg
theorem kn_end {n : Net} (h : Ok n) {a : Int} (ha : 0 ≤ a ∧ a < n.nodes) {i : Nat} {l : List Bool} (hk : Kn n a i 0 0 l) (hi : (i : Int) = n.nodes) : ReachL n a (upTo (fun x => l.getD x.toNat false) n.nodes.toNat) := by
  refine ⟨upTo_ord _ _, fun b => ?_⟩
  rw [mem_upTo]
  constructor
  · rintro ⟨hb, hl⟩
    have h1 : l[b.toNat]? = some true := by
      have hlt : b.toNat < l.length := by rw [hk.len]; omega
      rw [List.getElem?_eq_getElem hlt]
      simpa [List.getD, hlt] using hl
    have := hk.sound _ h1
    rw [show ((b.toNat : Nat) : Int) = b by omega] at this
    exact this
  · intro hr
    have hin := rch_in h ha hr
    have h1 := rch_K h ha hr
    rw [show n.nodes.toNat = i by omega, show b = ((b.toNat : Nat) : Int) by omega] at h1
    have h2 := hk.have_ _ h1
    exact ⟨by omega, by simp [List.getD, h2]⟩
end Go.Proofs.Ythnjhgfnojldcaa
