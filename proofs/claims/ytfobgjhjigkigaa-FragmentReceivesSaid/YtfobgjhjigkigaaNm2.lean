/- Networks of chapter 31, plain: valid networks, their links in order, where a link is. -/
import Derived.Test.YtfobgjhjigkigaaNm
namespace Go.Nw

theorem cmpI_neg {x y : Int} : cmpI x y < 0 ↔ x < y := by unfold cmpI; split <;> (try split) <;> omega
theorem cmpI_zero {x y : Int} : cmpI x y = 0 ↔ x = y := by unfold cmpI; split <;> (try split) <;> omega
theorem cmpL_neg {a b : Lk} : cmpL a b < 0 ↔ a.1 < b.1 ∨ (a.1 = b.1 ∧ a.2.1 < b.2.1) := by
  have h1 := @cmpI_neg a.1 b.1
  have h2 := @cmpI_zero a.1 b.1
  have h3 := @cmpI_neg a.2.1 b.2.1
  unfold cmpL; split <;> omega
theorem cmpL_zero {a b : Lk} : cmpL a b = 0 ↔ a.1 = b.1 ∧ a.2.1 = b.2.1 := by
  have h2 := @cmpI_zero a.1 b.1
  have h3 := @cmpI_zero a.2.1 b.2.1
  unfold cmpL; split <;> omega

structure OkL (n : Net) (i : Nat) : Prop where
  f0 : 0 ≤ (lnk n i).1
  f1 : (lnk n i).1 < n.nodes
  t0 : 0 ≤ (lnk n i).2.1
  t1 : (lnk n i).2.1 < n.nodes
  ne : (lnk n i).1 ≠ (lnk n i).2.1
  l0 : 0 ≤ (lnk n i).2.2
  l1 : (lnk n i).2.2 ≤ 7
  ord : 0 < i → cmpL (lnk n (i - 1)) (lnk n i) < 0
  m0 : 0 ≤ mar n i
  m1 : mar n i ≤ powr n (lnk n i).1 (lnk n i).2.1

theorem link_ok {n : Net} {i : Nat} (h : linkE n i = 0) : OkL n i := by
  unfold linkE at h
  by_cases h1 : ¬ (0 ≤ (lnk n i).1 ∧ (lnk n i).1 < n.nodes) ∨ ¬ (0 ≤ (lnk n i).2.1 ∧ (lnk n i).2.1 < n.nodes) ∨ (lnk n i).1 = (lnk n i).2.1 ∨ (lnk n i).2.2 < 0 ∨ 7 < (lnk n i).2.2
  · rw [if_pos h1] at h; omega
  rw [if_neg h1] at h
  by_cases h2 : 0 < i ∧ 0 ≤ cmpL (lnk n (i - 1)) (lnk n i)
  · rw [if_pos h2] at h; omega
  rw [if_neg h2] at h
  by_cases h3 : mar n i < 0 ∨ powr n (lnk n i).1 (lnk n i).2.1 < mar n i
  · rw [if_pos h3] at h; omega
  constructor <;> omega

structure Ok (n : Net) : Prop where
  n0 : 2 ≤ n.nodes
  n1 : n.nodes ≤ 32
  p0 : (n.power.length : Int) = n.nodes
  p1 : ∀ r ∈ n.power, (r.length : Int) = n.nodes
  p2 : ∀ r ∈ n.power, ∀ p ∈ r, 0 ≤ p ∧ p ≤ 68719476736
  z0 : 0 ≤ n.noise
  z1 : n.noise ≤ 68719476736
  t0 : 1000 ≤ n.thr
  t1 : n.thr ≤ 100000
  k0 : n.links.length ≤ 128
  k1 : n.margin.length = n.links.length
  lk : ∀ i, i < n.links.length → OkL n i

theorem links_ok {n : Net} : ∀ (r i : Nat), linksE n r i = 0 → ∀ j, i ≤ j → j < i + r → OkL n j
  | 0, _, _, j, h1, h2 => by omega
  | r + 1, i, h, j, h1, h2 => by
    unfold linksE at h
    by_cases h0 : linkE n i = 0
    · rw [if_pos h0] at h
      by_cases e : i = j
      · subst e; exact link_ok h0
      · exact links_ok r (i + 1) h j (by omega) (by omega)
    · rw [if_neg h0] at h; exact absurd h h0

theorem check_ok {n : Net} (h : checkE n = 0) : Ok n := by
  unfold checkE at h
  by_cases h1 : n.nodes < 2 ∨ 32 < n.nodes
  · rw [if_pos h1] at h; omega
  rw [if_neg h1] at h
  by_cases h2 : tableE n ≠ 0
  · rw [if_pos h2] at h; exact absurd h h2
  rw [if_neg h2] at h
  by_cases h3 : n.noise < 0 ∨ 68719476736 < n.noise ∨ n.thr < 1000 ∨ 100000 < n.thr
  · rw [if_pos h3] at h; omega
  rw [if_neg h3] at h
  by_cases h4 : 128 < n.links.length
  · rw [if_pos h4] at h; omega
  rw [if_neg h4] at h
  by_cases h5 : n.margin.length ≠ n.links.length
  · rw [if_pos h5] at h; omega
  rw [if_neg h5] at h
  obtain ⟨t1, t2, t3⟩ := table_ok (Classical.not_not.1 h2)
  exact ⟨by omega, by omega, t1, t2, t3, by omega, by omega, by omega, by omega, by omega, Classical.not_not.1 h5, fun i hi => links_ok _ _ h i (Nat.zero_le _) (by omega)⟩

theorem sorted {n : Net} (h : Ok n) : ∀ (i j : Nat), i < j → j < n.links.length → cmpL (lnk n i) (lnk n j) < 0 := by
  intro i j
  induction j with
  | zero => intro h1; omega
  | succ j ih =>
    intro h1 h2
    have h3 := (h.lk (j + 1) h2).ord (by omega)
    rw [Nat.add_sub_cancel] at h3
    by_cases e : i = j
    · subst e; exact h3
    · have h4 := ih (by omega) (by omega)
      rw [cmpL_neg] at *
      omega

def isKey (a b : Int) (l : Lk) : Bool := decide (l.1 = a) && decide (l.2.1 = b)
def findE (n : Net) (a b : Int) : Int := idxFrom (isKey a b) n.links 0

theorem idxFrom_none {α : Type} {p : α → Bool} : ∀ {l : List α} {k : Int}, (∀ a ∈ l, p a = false) → idxFrom p l k = -1
  | [], _, _ => rfl
  | a :: l, k, h => by
    rw [idxFrom, h a List.mem_cons_self, if_neg (by simp)]
    exact idxFrom_none fun b hb => h b (List.mem_cons_of_mem _ hb)
theorem idxFrom_at {α : Type} {p : α → Bool} : ∀ {l : List α} {k : Int} {i : Nat} {a : α}, l[i]? = some a → p a = true → (∀ j b, j < i → l[j]? = some b → p b = false) → idxFrom p l k = k + i
  | [], _, _, _, h, _, _ => by simp at h
  | b :: l, k, 0, a, h, hp, _ => by
    obtain rfl : b = a := by simpa using h
    rw [idxFrom, if_pos hp]; simp
  | b :: l, k, i + 1, a, h, hp, hn => by
    have hb := hn 0 b (by omega) (by simp)
    rw [idxFrom, if_neg (by rw [hb]; simp), idxFrom_at (i := i) (a := a) (by simpa using h) hp fun j c hj hc => hn (j + 1) c (by omega) (by simpa using hc)]
    omega
theorem idxFrom_ge {α : Type} {p : α → Bool} : ∀ {l : List α} {k : Int}, 0 ≤ k → idxFrom p l k = -1 ∨ (k ≤ idxFrom p l k ∧ idxFrom p l k < k + l.length)
  | [], _, _ => .inl rfl
  | a :: l, k, h => by
    unfold idxFrom
    by_cases hp : p a = true
    · rw [if_pos hp]; simp only [List.length_cons]; omega
    · rw [if_neg hp]
      rcases @idxFrom_ge _ p l (k + 1) (by omega) with h1 | h1
      · exact .inl h1
      · simp only [List.length_cons]; omega
theorem idxFrom_spec {α : Type} {p : α → Bool} : ∀ {l : List α} {k : Int} {i : Nat}, 0 ≤ k → idxFrom p l k = k + i → ∃ a, l[i]? = some a ∧ p a = true
  | [], k, i, h0, h => by simp [idxFrom] at h; omega
  | a :: l, k, i, h0, h => by
    unfold idxFrom at h
    by_cases hp : p a = true
    · rw [if_pos hp] at h
      obtain rfl : i = 0 := by omega
      exact ⟨a, by simp, hp⟩
    · rw [if_neg hp] at h
      cases i with
      | zero =>
        rcases @idxFrom_ge _ p l (k + 1) (by omega) with h1 | h1 <;> omega
      | succ i =>
        obtain ⟨b, h1, h2⟩ := idxFrom_spec (p := p) (i := i) (l := l) (k := k + 1) (by omega) (by omega)
        exact ⟨b, by simpa using h1, h2⟩

theorem lnk_get {n : Net} {i : Nat} {l : Lk} (h : n.links[i]? = some l) : lnk n i = l := by simp [lnk, List.getD, h]
theorem mar_get {n : Net} {i : Nat} {z : Int} (h : n.margin[i]? = some z) : mar n i = z := by simp [mar, List.getD, h]
theorem lnk_some (n : Net) {i : Nat} (h : i < n.links.length) : n.links[i]? = some (lnk n i) := by simp [lnk, List.getD, h]

/-- What a search in the ordered links finds. -/
theorem find_pos {n : Net} (h : Ok n) {a b c : Int} {k : Nat} (hk : k ≤ n.links.length) (h1 : ∀ j, j < k → cmpL (lnk n j) (a, b, c) < 0) (h2 : ∀ j, k ≤ j → j < n.links.length → 0 ≤ cmpL (lnk n j) (a, b, c)) :
    findE n a b = if k < n.links.length ∧ cmpL (lnk n k) (a, b, c) = 0 then (k : Int) else -1 := by
  unfold findE
  have hlow : ∀ j l, j < k → n.links[j]? = some l → isKey a b l = false := fun j l hj hl => by
    have := h1 j hj
    rw [lnk_get hl, cmpL_neg] at this
    simp only [isKey, Bool.and_eq_false_iff, decide_eq_false_iff_not]
    simp only at this
    omega
  by_cases hc : k < n.links.length ∧ cmpL (lnk n k) (a, b, c) = 0
  · rw [if_pos hc, idxFrom_at (lnk_some n hc.1) (by have := cmpL_zero.1 hc.2; simp only at this; simp [isKey, this]) hlow]
    omega
  · rw [if_neg hc]
    refine idxFrom_none fun l hl => ?_
    obtain ⟨j, hj, rfl⟩ := List.mem_iff_getElem.1 hl
    by_cases hjk : j < k
    · exact hlow j _ hjk (List.getElem?_eq_getElem hj)
    · have e : lnk n j = n.links[j] := lnk_get (List.getElem?_eq_getElem hj)
      have h3 : cmpL (lnk n j) (a, b, c) ≠ 0 := by
        by_cases ejk : j = k
        · subst ejk; exact fun e => hc ⟨hj, e⟩
        · intro e0
          have h4 := sorted h k j (by omega) hj
          have h5 := h2 k (Nat.le_refl _) (by omega)
          rw [cmpL_zero] at e0
          rw [cmpL_neg] at h4
          have h6 : ¬ cmpL (lnk n k) (a, b, c) < 0 := by omega
          rw [cmpL_neg] at h6
          simp only at *
          omega
      rw [e, Ne, cmpL_zero] at h3
      simp only at h3
      simp only [isKey, Bool.and_eq_false_iff, decide_eq_false_iff_not]
      omega

def heardE (n : Net) (s d : Int) : Bool := decide (n.thr * (n.noise + d) ≤ s * 1000)
def usableE (n : Net) (i : Nat) : Bool := decide (0 ≤ findE n (lnk n i).2.1 (lnk n i).1) && (heardE n (mar n i) 0 && heardE n (mar n (findE n (lnk n i).2.1 (lnk n i).1).toNat) 0)
def nextTo (n : Net) (a : Int) (k : Nat) : List Int := (List.range k).flatMap fun i => if (lnk n i).1 = a ∧ usableE n i = true then [(lnk n i).2.1] else []
def nextE (n : Net) (a : Int) : List Int := nextTo n a n.links.length
theorem nextTo_yes {n : Net} {a : Int} {k : Nat} (h : (lnk n k).1 = a ∧ usableE n k = true) : nextTo n a (k + 1) = nextTo n a k ++ [(lnk n k).2.1] := by
  simp [nextTo, List.range_succ, List.flatMap_append, h]
theorem nextTo_no {n : Net} {a : Int} {k : Nat} (h : ¬ ((lnk n k).1 = a ∧ usableE n k = true)) : nextTo n a (k + 1) = nextTo n a k := by
  simp only [nextTo, List.range_succ, List.flatMap_append, List.flatMap_cons, List.flatMap_nil, if_neg h, List.append_nil]
theorem nextTo_len (n : Net) (a : Int) : ∀ k, (nextTo n a k).length ≤ k
  | 0 => by simp [nextTo]
  | k + 1 => by
    have := nextTo_len n a k
    by_cases h : (lnk n k).1 = a ∧ usableE n k = true
    · rw [nextTo_yes h, List.length_append]; simp; omega
    · rw [nextTo_no h]; omega
theorem mem_next {n : Net} {a b : Int} : b ∈ nextE n a ↔ ∃ i, i < n.links.length ∧ (lnk n i).1 = a ∧ (lnk n i).2.1 = b ∧ usableE n i = true := by
  unfold nextE nextTo
  rw [List.mem_flatMap]
  constructor
  · rintro ⟨i, hi, hb⟩
    by_cases h : (lnk n i).1 = a ∧ usableE n i = true
    · rw [if_pos h] at hb
      exact ⟨i, List.mem_range.1 hi, h.1, (List.mem_singleton.1 hb).symm, h.2⟩
    · rw [if_neg h] at hb; cases hb
  · rintro ⟨i, hi, h1, h2, h3⟩
    exact ⟨i, List.mem_range.2 hi, by rw [if_pos ⟨h1, h3⟩, h2]; exact List.mem_singleton.2 rfl⟩

theorem hear_bd {n : Net} (h : Ok n) {d : Int} (h0 : 0 ≤ d) (h1 : d ≤ 8796093022208) : -9223372036854775808 ≤ n.thr * (n.noise + d) ∧ n.thr * (n.noise + d) ≤ 9223372036854775807 := by
  have h2 := h.t0; have h3 := h.t1; have h4 := h.z0; have h5 := h.z1
  have h6 : 0 ≤ n.thr * (n.noise + d) := Int.mul_nonneg (by omega) (by omega)
  have h7 : n.thr * (n.noise + d) ≤ 100000 * (n.noise + d) := Int.mul_le_mul_of_nonneg_right h3 (by omega)
  omega
theorem mar_bd {n : Net} (h : Ok n) {i : Nat} (hi : i < n.links.length) : 0 ≤ mar n i ∧ mar n i ≤ 68719476736 := by
  have hl := h.lk i hi
  refine ⟨hl.m0, Int.le_trans hl.m1 ?_⟩
  unfold powr
  have e1 : (lnk n i).1.toNat < n.power.length := by have := h.p0; have := hl.f1; have := hl.f0; omega
  rw [show n.power.getD (lnk n i).1.toNat [] = n.power[(lnk n i).1.toNat] by simp [List.getD, e1]]
  have hm := List.getElem_mem e1
  have e2 : (lnk n i).2.1.toNat < (n.power[(lnk n i).1.toNat]).length := by have := h.p1 _ hm; have := hl.t1; have := hl.t0; omega
  rw [show (n.power[(lnk n i).1.toNat]).getD (lnk n i).2.1.toNat 0 = (n.power[(lnk n i).1.toNat])[(lnk n i).2.1.toNat] by simp [List.getD, e2]]
  exact (h.p2 _ hm _ (List.getElem_mem e2)).2

theorem find_lt {n : Net} {a b : Int} (h : 0 ≤ findE n a b) : (findE n a b).toNat < n.links.length := by
  rcases @idxFrom_ge _ (isKey a b) n.links 0 (by omega) with h1 | h1 <;> unfold findE at h ⊢ <;> omega
theorem find_key {n : Net} {a b : Int} (h : 0 ≤ findE n a b) : (lnk n (findE n a b).toNat).1 = a ∧ (lnk n (findE n a b).toNat).2.1 = b := by
  obtain ⟨l, h1, h2⟩ := @idxFrom_spec _ (isKey a b) n.links 0 (findE n a b).toNat (by omega) (by unfold findE at *; omega)
  rw [lnk_get h1]
  simpa [isKey] using h2
end Go.Nw
