/- Networks of chapter 31, plain: what a network without a link, or with a weaker one, keeps. -/
import Derived.Test.YthnjhgfnojldcaaNm5
namespace Go.Proofs.Ythnjhgfnojldcaa
open Go.Nw

theorem okL_link {n : Net} {i : Nat} (h : OkL n i) : linkE n i = 0 := by
  obtain ⟨h1, h2, h3, h4, h5, h6, h7, h8, h9, h10⟩ := h
  unfold linkE
  rw [if_neg (by omega), if_neg (by rintro ⟨a, b⟩; have := h8 a; omega), if_neg (by omega)]
theorem ok_links {n : Net} : ∀ (r i : Nat), (∀ j, i ≤ j → j < i + r → OkL n j) → linksE n r i = 0
  | 0, _, _ => rfl
  | r + 1, i, h => by
    rw [linksE, if_pos (okL_link (h i (Nat.le_refl _) (by omega)))]
    exact ok_links r (i + 1) fun j h1 h2 => h j (by omega) (by omega)
theorem ok_check {n : Net} (h : Ok n) : checkE n = 0 := by
  have ht : tableE n = 0 := by
    unfold tableE
    have h1 := h.p0
    rw [if_neg (by omega), if_neg, if_neg]
    · intro hc
      obtain ⟨r, hr, hc⟩ := List.any_eq_true.1 hc
      obtain ⟨p, hp, hc⟩ := List.any_eq_true.1 hc
      have := h.p2 r hr p hp
      simp only [outside, decide_eq_true_eq] at hc
      omega
    · intro hc
      obtain ⟨r, hr, hc⟩ := List.any_eq_true.1 hc
      have := h.p1 r hr
      simp only [wide, decide_eq_true_eq] at hc
      exact hc this
  have h0 := h.n0
  have h1 := h.n1
  have h2 := h.z0
  have h3 := h.z1
  have h4 := h.t0
  have h5 := h.t1
  have h6 := h.k0
  have h7 := h.k1
  unfold checkE
  rw [if_neg (by omega), if_neg (by omega), if_neg (by omega), if_neg (by omega), if_neg (by omega)]
  exact ok_links _ _ fun j _ hj => h.lk j (by omega)

theorem key_uniq {n : Net} (h : Ok n) {i j : Nat} (hi : i < n.links.length) (hj : j < n.links.length) (h1 : (lnk n i).1 = (lnk n j).1) (h2 : (lnk n i).2.1 = (lnk n j).2.1) : i = j := by
  rcases Nat.lt_trichotomy i j with hc | hc | hc
  · have := cmpL_neg.1 (sorted h i j hc hj); omega
  · exact hc
  · have := cmpL_neg.1 (sorted h j i hc hi); omega
theorem isKey_iff {a b : Int} {l : Lk} : isKey a b l = true ↔ l.1 = a ∧ l.2.1 = b := by simp [isKey]
theorem find_at {n : Net} (h : Ok n) {j : Nat} (hj : j < n.links.length) {a b : Int} (h1 : (lnk n j).1 = a) (h2 : (lnk n j).2.1 = b) : findE n a b = j := by
  unfold findE
  rw [idxFrom_at (i := j) (lnk_some n hj) (isKey_iff.2 ⟨h1, h2⟩), Int.zero_add]
  intro j' l hlt hl
  rw [Bool.eq_false_iff]
  intro hk
  obtain ⟨k1, k2⟩ := isKey_iff.1 hk
  have hl' := lnk_get hl
  have := key_uniq h (i := j') (j := j) (by omega) hj (by rw [hl', k1, h1]) (by rw [hl', k2, h2])
  omega
theorem find_no {n : Net} {a b : Int} (h : ∀ j, j < n.links.length → ¬ ((lnk n j).1 = a ∧ (lnk n j).2.1 = b)) : findE n a b = -1 := by
  unfold findE
  refine idxFrom_none fun l hl => ?_
  obtain ⟨j, hj, rfl⟩ := List.mem_iff_getElem.1 hl
  rw [Bool.eq_false_iff]
  intro hk
  have e : lnk n j = n.links[j] := lnk_get (List.getElem?_eq_getElem hj)
  exact h j hj (by rw [e]; exact isKey_iff.1 hk)

def up (i j : Nat) : Nat := if j < i then j else j + 1
theorem lnk_wo (n : Net) (i j : Nat) : lnk (woN n i) j = lnk n (up i j) := by
  unfold lnk up
  simp only [woN, List.getD_eq_getElem?_getD, List.getElem?_eraseIdx]
  split <;> rfl
theorem mar_wo (n : Net) (i j : Nat) : mar (woN n i) j = mar n (up i j) := by
  unfold mar up
  simp only [woN, List.getD_eq_getElem?_getD, List.getElem?_eraseIdx]
  split <;> rfl
theorem len_wo {n : Net} {i : Nat} (hi : i < n.links.length) : (woN n i).links.length = n.links.length - 1 := List.length_eraseIdx_of_lt hi

theorem wo_ok {n : Net} (h : Ok n) {i : Nat} (hi : i < n.links.length) : Ok (woN n i) := by
  have hl := len_wo hi
  have hm : (woN n i).margin.length = n.margin.length - 1 := List.length_eraseIdx_of_lt (by rw [h.k1]; exact hi)
  have h6 := h.k0
  have h7 := h.k1
  refine ⟨h.n0, h.n1, h.p0, h.p1, h.p2, h.z0, h.z1, h.t0, h.t1, by omega, by omega, fun j hj => ?_⟩
  have hu : up i j < n.links.length := by unfold up; split <;> omega
  have ho := h.lk (up i j) hu
  have hp : powr (woN n i) (lnk (woN n i) j).1 (lnk (woN n i) j).2.1 = powr n (lnk n (up i j)).1 (lnk n (up i j)).2.1 := by rw [lnk_wo]; rfl
  have e := lnk_wo n i j
  refine ⟨by rw [e]; exact ho.f0, by rw [e]; exact ho.f1, by rw [e]; exact ho.t0, by rw [e]; exact ho.t1, by rw [e]; exact ho.ne, by rw [e]; exact ho.l0, by rw [e]; exact ho.l1, fun hj0 => ?_, by rw [mar_wo]; exact ho.m0, by rw [hp, mar_wo]; exact ho.m1⟩
  rw [e, lnk_wo]
  exact sorted h _ _ (by unfold up; split <;> split <;> omega) hu

theorem wo_find_self {n : Net} (h : Ok n) {i : Nat} (hi : i < n.links.length) : findE (woN n i) (lnk n i).1 (lnk n i).2.1 = -1 := by
  refine find_no fun j hj hc => ?_
  have hl := len_wo hi
  rw [lnk_wo] at hc
  have := key_uniq h (i := up i j) (j := i) (by unfold up; split <;> omega) hi hc.1 hc.2
  unfold up at this
  split at this <;> omega
theorem wo_find {n : Net} (h : Ok n) {i : Nat} (hi : i < n.links.length) {a b : Int} (hne : ¬ ((lnk n i).1 = a ∧ (lnk n i).2.1 = b)) :
    (findE (woN n i) a b = -1 ∧ findE n a b = -1) ∨ (0 ≤ findE (woN n i) a b ∧ 0 ≤ findE n a b ∧ mar (woN n i) (findE (woN n i) a b).toNat = mar n (findE n a b).toNat) := by
  have hl := len_wo hi
  by_cases h0 : 0 ≤ findE n a b
  · right
    have hlt := find_lt h0
    obtain ⟨k1, k2⟩ := find_key h0
    generalize hj : (findE n a b).toNat = j at *
    have hji : j ≠ i := by rintro rfl; exact hne ⟨k1, k2⟩
    have key : ∀ z, z < (woN n i).links.length → up i z = j → 0 ≤ findE (woN n i) a b ∧ 0 ≤ findE n a b ∧ mar (woN n i) (findE (woN n i) a b).toNat = mar n j := by
      intro z hz hu
      have e := lnk_wo n i z
      rw [hu] at e
      have hf := find_at (wo_ok h hi) hz (a := a) (b := b) (by rw [e]; exact k1) (by rw [e]; exact k2)
      rw [hf, Int.toNat_natCast, mar_wo, hu]
      exact ⟨by omega, h0, rfl⟩
    rcases Nat.lt_or_gt_of_ne hji with hc | hc
    · exact key j (by omega) (by unfold up; rw [if_pos hc])
    · exact key (j - 1) (by omega) (by unfold up; rw [if_neg (by omega)]; omega)
  · left
    have hn : findE n a b = -1 := by
      rcases @idxFrom_ge _ (isKey a b) n.links 0 (by omega) with h1 | h1
      · exact h1
      · exact absurd h1.1 h0
    refine ⟨find_no fun j hj hc => ?_, hn⟩
    rw [lnk_wo] at hc
    have := find_at h (j := up i j) (by unfold up; split <;> omega) hc.1 hc.2
    omega

theorem wo_good {n : Net} (h : Ok n) {i : Nat} (hi : i < n.links.length) {a b : Int} (h1 : ¬ ((lnk n i).1 = a ∧ (lnk n i).2.1 = b)) (h2 : ¬ ((lnk n i).1 = b ∧ (lnk n i).2.1 = a)) : goodE (woN n i) a b = goodE n a b := by
  have hh : ∀ s, heardE (woN n i) s 0 = heardE n s 0 := fun _ => rfl
  unfold goodE
  rcases wo_find h hi h1 with ⟨e1, e2⟩ | ⟨e1, e2, e3⟩
  · rw [e1, e2]; rfl
  · rcases wo_find h hi h2 with ⟨f1, f2⟩ | ⟨f1, f2, f3⟩
    · rw [f1, f2, decide_eq_true e1, decide_eq_true e2]; rfl
    · rw [decide_eq_true e1, decide_eq_true e2, decide_eq_true f1, decide_eq_true f2, e3, f3, hh, hh]
theorem wo_good_no {n : Net} (h : Ok n) {i : Nat} (hi : i < n.links.length) {a b : Int} (h1 : ((lnk n i).1 = a ∧ (lnk n i).2.1 = b) ∨ ((lnk n i).1 = b ∧ (lnk n i).2.1 = a)) : goodE (woN n i) a b = false := by
  unfold goodE
  rcases h1 with ⟨rfl, rfl⟩ | ⟨rfl, rfl⟩
  · rw [wo_find_self h hi]; rfl
  · rw [wo_find_self h hi]; simp
theorem wo_good_le {n : Net} (h : Ok n) {i : Nat} (hi : i < n.links.length) {a b : Int} (hg : goodE (woN n i) a b = true) : goodE n a b = true := by
  by_cases hc : ((lnk n i).1 = a ∧ (lnk n i).2.1 = b) ∨ ((lnk n i).1 = b ∧ (lnk n i).2.1 = a)
  · rw [wo_good_no h hi hc] at hg; cases hg
  · rw [wo_good h hi (fun e => hc (.inl e)) (fun e => hc (.inr e))] at hg; exact hg
theorem wo_rch {n : Net} (h : Ok n) {i : Nat} (hi : i < n.links.length) {a b : Int} (hr : Rch (woN n i) a b) : Rch n a b := by
  induction hr with
  | refl => exact .refl
  | step _ hc ih => exact .step ih ((mem_next_good h).2 (wo_good_le h hi ((mem_next_good (wo_ok h hi)).1 hc)))

/-- Whether the link between two nodes is usable. -/
theorem usable_index {n : Net} (h : Ok n) (a b : Int) : UsableE n (indexE n a b) = (decide (0 ≤ findE n a b) && goodE n a b) := by
  have hc := ok_check h
  unfold UsableE indexE
  rw [if_neg (by omega), hc]
  by_cases h0 : 0 ≤ findE n a b
  · have hlt := find_lt h0
    obtain ⟨k1, k2⟩ := find_key h0
    rw [usable_good h hlt, k1, k2, decide_eq_true (show 0 ≤ findE n a b ∧ findE n a b < n.links.length by omega), decide_eq_true h0]
    rfl
  · rw [decide_eq_false (show ¬ (0 ≤ findE n a b ∧ findE n a b < n.links.length) from fun hx => h0 hx.1), decide_eq_false h0]; rfl
theorem good_find {n : Net} {a b : Int} (h : goodE n a b = true) : 0 ≤ findE n a b := by
  unfold goodE at h
  simp only [Bool.and_eq_true, decide_eq_true_eq] at h
  exact h.1
theorem usable_index' {n : Net} (h : Ok n) (a b : Int) : UsableE n (indexE n a b) = goodE n a b := by
  rw [usable_index h]
  cases hg : goodE n a b with
  | false => simp
  | true => rw [decide_eq_true (good_find hg)]; rfl
theorem usable_at {n : Net} (h : Ok n) {k : Nat} (hk : k < n.links.length) : UsableE n k = goodE n (lnk n k).1 (lnk n k).2.1 := by
  have hc := ok_check h
  unfold UsableE
  rw [hc, decide_eq_true (show 0 ≤ (k : Int) ∧ (k : Int) < n.links.length by omega), Int.toNat_natCast, usable_good h hk]
  rfl

/-! ### A weaker link -/
theorem lnk_wk {n : Net} {i : Nat} (hi : i < n.links.length) (more : Int) (j : Nat) : lnk (wkN n i more) j = if i = j then ((lnk n i).1, (lnk n i).2.1, (lnk n i).2.2 + more) else lnk n j := by
  unfold lnk
  simp only [wkN, List.getD_eq_getElem?_getD, List.getElem?_set]
  by_cases e : i = j
  · subst e; rw [if_pos rfl, if_pos rfl, if_pos hi]; rfl
  · rw [if_neg e, if_neg e]
theorem wk_keys {n : Net} {i : Nat} (hi : i < n.links.length) (more : Int) (j : Nat) : (lnk (wkN n i more) j).1 = (lnk n j).1 ∧ (lnk (wkN n i more) j).2.1 = (lnk n j).2.1 := by
  rw [lnk_wk hi]
  by_cases e : i = j
  · subst e; rw [if_pos rfl]; exact ⟨rfl, rfl⟩
  · rw [if_neg e]; exact ⟨rfl, rfl⟩
theorem wk_ok {n : Net} (h : Ok n) {i : Nat} (hi : i < n.links.length) {more : Int} (h1 : 0 ≤ more) (h2 : more ≤ 7 - (lnk n i).2.2) : Ok (wkN n i more) := by
  have hl : (wkN n i more).links.length = n.links.length := List.length_set
  refine ⟨h.n0, h.n1, h.p0, h.p1, h.p2, h.z0, h.z1, h.t0, h.t1, by rw [hl]; exact h.k0, by rw [hl]; exact h.k1, fun j hj => ?_⟩
  rw [hl] at hj
  obtain ⟨k1, k2⟩ := wk_keys hi more j
  have ho := h.lk j hj
  have hi' := h.lk i hi
  have hp : powr (wkN n i more) (lnk (wkN n i more) j).1 (lnk (wkN n i more) j).2.1 = powr n (lnk n j).1 (lnk n j).2.1 := by rw [k1, k2]; rfl
  have hloss : 0 ≤ (lnk (wkN n i more) j).2.2 ∧ (lnk (wkN n i more) j).2.2 ≤ 7 := by
    rw [lnk_wk hi]
    by_cases e : i = j
    · have := hi'.l0
      rw [if_pos e]; simp only; omega
    · rw [if_neg e]; exact ⟨ho.l0, ho.l1⟩
  refine ⟨by rw [k1]; exact ho.f0, by rw [k1]; exact ho.f1, by rw [k2]; exact ho.t0, by rw [k2]; exact ho.t1, by rw [k1, k2]; exact ho.ne, hloss.1, hloss.2, fun hj0 => ?_, ho.m0, by rw [hp]; exact ho.m1⟩
  obtain ⟨q1, q2⟩ := wk_keys hi more (j - 1)
  have := cmpL_neg.1 (ho.ord hj0)
  rw [cmpL_neg, k1, k2, q1, q2]
  exact this
theorem wk_find {n : Net} (h : Ok n) {i : Nat} (hi : i < n.links.length) {more : Int} (h1 : 0 ≤ more) (h2 : more ≤ 7 - (lnk n i).2.2) (a b : Int) : findE (wkN n i more) a b = findE n a b := by
  have hl : (wkN n i more).links.length = n.links.length := List.length_set
  by_cases h0 : 0 ≤ findE n a b
  · have hlt := find_lt h0
    obtain ⟨k1, k2⟩ := find_key h0
    obtain ⟨q1, q2⟩ := wk_keys hi more (findE n a b).toNat
    rw [find_at (wk_ok h hi h1 h2) (j := (findE n a b).toNat) (by rw [hl]; exact hlt) (q1.trans k1) (q2.trans k2)]
    omega
  · have hn : findE n a b = -1 := by
      rcases @idxFrom_ge _ (isKey a b) n.links 0 (by omega) with h1 | h1
      · exact h1
      · exact absurd h1.1 h0
    rw [hn]
    refine find_no fun j hj hc => ?_
    rw [hl] at hj
    obtain ⟨q1, q2⟩ := wk_keys hi more j
    have := find_at h hj (q1.symm.trans hc.1) (q2.symm.trans hc.2)
    omega
theorem wk_usable {n : Net} (h : Ok n) {i : Nat} (hi : i < n.links.length) {more : Int} (h1 : 0 ≤ more) (h2 : more ≤ 7 - (lnk n i).2.2) : UsableE (wkN n i more) i = UsableE n i := by
  have hl : (wkN n i more).links.length = n.links.length := List.length_set
  obtain ⟨q1, q2⟩ := wk_keys hi more i
  have hh : ∀ s, heardE (wkN n i more) s 0 = heardE n s 0 := fun _ => rfl
  have hm : ∀ j, mar (wkN n i more) j = mar n j := fun _ => rfl
  rw [usable_at (wk_ok h hi h1 h2) (by rw [hl]; exact hi), usable_at h hi, q1, q2]
  unfold goodE
  rw [wk_find h hi h1 h2, wk_find h hi h1 h2, hh, hh, hm, hm]
end Go.Proofs.Ythnjhgfnojldcaa
