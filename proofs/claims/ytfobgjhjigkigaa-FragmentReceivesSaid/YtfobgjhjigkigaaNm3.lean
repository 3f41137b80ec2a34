/- Networks of chapter 31, plain: which nodes can be reached. -/
import Derived.Test.YtfobgjhjigkigaaNm2
namespace Go.Nw

inductive Rch (n : Net) (a : Int) : Int → Prop
  | refl : Rch n a a
  | step {b c : Int} (h : Rch n a b) (hc : c ∈ nextE n b) : Rch n a c

def addTo (o l : List Int) : List Int := l.foldl (fun o b => if b ∈ o then o else o ++ [b]) o
theorem addTo_snoc (o l : List Int) (b : Int) : addTo o (l ++ [b]) = if b ∈ addTo o l then addTo o l else addTo o l ++ [b] := by
  unfold addTo; rw [List.foldl_append]; rfl
theorem addTo_pre : ∀ (l o : List Int), ∃ e, addTo o l = o ++ e ∧ (∀ b ∈ e, b ∈ l)
  | [], o => ⟨[], by simp [addTo], by simp⟩
  | b :: l, o => by
    obtain ⟨e, h1, h2⟩ := addTo_pre l (if b ∈ o then o else o ++ [b])
    by_cases hb : b ∈ o
    · rw [if_pos hb] at h1
      exact ⟨e, by simpa [addTo, hb] using h1, fun c hc => List.mem_cons_of_mem _ (h2 c hc)⟩
    · rw [if_neg hb] at h1
      refine ⟨b :: e, by simpa [addTo, hb] using h1, fun c hc => ?_⟩
      rcases List.mem_cons.1 hc with e | e
      · rw [e]; exact List.mem_cons_self
      · exact List.mem_cons_of_mem _ (h2 c e)
theorem addTo_mem : ∀ (l o : List Int) (c : Int), c ∈ addTo o l ↔ c ∈ o ∨ c ∈ l
  | [], o, c => by simp [addTo]
  | b :: l, o, c => by
    have h := addTo_mem l (if b ∈ o then o else o ++ [b]) c
    show c ∈ addTo (if b ∈ o then o else o ++ [b]) l ↔ _
    rw [h]
    by_cases hb : b ∈ o
    · rw [if_pos hb, List.mem_cons]
      constructor
      · rintro (h | h)
        · exact .inl h
        · exact .inr (.inr h)
      · rintro (h | h | h)
        · exact .inl h
        · exact .inl (h ▸ hb)
        · exact .inr h
    · rw [if_neg hb]; simp [or_assoc]
theorem addTo_nodup : ∀ (l o : List Int), o.Nodup → (addTo o l).Nodup
  | [], o, h => by simpa [addTo] using h
  | b :: l, o, h => by
    show (addTo (if b ∈ o then o else o ++ [b]) l).Nodup
    apply addTo_nodup
    by_cases hb : b ∈ o
    · rw [if_pos hb]; exact h
    · rw [if_neg hb, List.nodup_append]
      exact ⟨h, by simp, by simp only [List.mem_singleton]; rintro x hx y rfl rfl; exact hb hx⟩

def bfs (n : Net) (a : Int) : Nat → List Int
  | 0 => [a]
  | i + 1 => addTo (bfs n a i) (nextE n ((bfs n a i).getD i 0))

theorem nodup_len : ∀ (N : Nat) (l : List Int), l.Nodup → (∀ x ∈ l, 0 ≤ x ∧ x < N) → l.length ≤ N
  | 0, l, _, h => by
    cases l with
    | nil => simp
    | cons a l => have := h a List.mem_cons_self; omega
  | N + 1, l, hn, h => by
    have h1 := nodup_len N (l.erase (N : Int)) (hn.erase _) (fun x hx => by
      have h2 := h x (List.mem_of_mem_erase hx)
      have h3 : x ≠ (N : Int) := fun e => by subst e; exact (List.Nodup.not_mem_erase hn) hx
      omega)
    have h4 : l.length - 1 ≤ (l.erase (N : Int)).length := by rw [List.length_erase]; split <;> omega
    omega

structure Bfs (n : Net) (a : Int) (i : Nat) : Prop where
  nodup : (bfs n a i).Nodup
  rch : ∀ b ∈ bfs n a i, Rch n a b
  start : a ∈ bfs n a i
  closed : ∀ j b, j < i → (bfs n a i)[j]? = some b → ∀ c ∈ nextE n b, c ∈ bfs n a i

theorem bfs_start (n : Net) (a : Int) : Bfs n a 0 := ⟨by simp [bfs], by simp [bfs]; exact .refl, by simp [bfs], fun j b h => by omega⟩
theorem bfs_len {n : Net} {a : Int} {i : Nat} (h : i < (bfs n a i).length) : i + 1 ≤ (bfs n a (i + 1)).length := by
  obtain ⟨e, h1, _⟩ := addTo_pre (nextE n ((bfs n a i).getD i 0)) (bfs n a i)
  show i + 1 ≤ (addTo _ _).length
  rw [h1, List.length_append]; omega
theorem bfs_step {n : Net} {a : Int} {i : Nat} (ih : Bfs n a i) (hlt : i < (bfs n a i).length) : Bfs n a (i + 1) := by
  obtain ⟨e, h1, h2⟩ := addTo_pre (nextE n ((bfs n a i).getD i 0)) (bfs n a i)
  have hb : bfs n a (i + 1) = addTo (bfs n a i) (nextE n ((bfs n a i).getD i 0)) := rfl
  have hg : (bfs n a i)[i]? = some ((bfs n a i).getD i 0) := by simp [List.getD, hlt]
  refine ⟨by rw [hb]; exact addTo_nodup _ _ ih.nodup, fun b h => ?_, by rw [hb, addTo_mem]; exact .inl ih.start, fun j b hj hg2 c hc => ?_⟩
  · rw [hb, addTo_mem] at h
    rcases h with h | h
    · exact ih.rch b h
    · exact .step (ih.rch _ (List.mem_of_getElem? hg)) h
  · rw [hb, addTo_mem]
    rw [hb, h1] at hg2
    by_cases hji : j = i
    · subst hji
      rw [List.getElem?_append_left hlt, hg] at hg2
      exact .inr (by rw [Option.some.inj hg2]; exact hc)
    · rw [List.getElem?_append_left (by omega)] at hg2
      exact .inl (ih.closed j b (by omega) hg2 c hc)

theorem next_in {n : Net} (h : Ok n) {a b : Int} (hb : b ∈ nextE n a) : 0 ≤ b ∧ b < n.nodes := by
  obtain ⟨i, hi, _, rfl, _⟩ := mem_next.1 hb
  exact ⟨(h.lk i hi).t0, (h.lk i hi).t1⟩
theorem rch_in {n : Net} (h : Ok n) {a b : Int} (ha : 0 ≤ a ∧ a < n.nodes) (hr : Rch n a b) : 0 ≤ b ∧ b < n.nodes := by
  cases hr with
  | refl => exact ha
  | step _ hc => exact next_in h hc
theorem bfs_le {n : Net} (h : Ok n) {a : Int} (ha : 0 ≤ a ∧ a < n.nodes) {i : Nat} (hb : Bfs n a i) : (bfs n a i).length ≤ 32 := by
  have h1 := nodup_len n.nodes.toNat (bfs n a i) hb.nodup fun x hx => by have := rch_in h ha (hb.rch x hx); omega
  have := h.n1
  omega

/-- The nodes that can be reached from a, in order. -/
structure ReachL (n : Net) (a : Int) (l : List Int) : Prop where
  ord : l.Pairwise (· < ·)
  mem : ∀ b, b ∈ l ↔ Rch n a b

theorem ord_uniq : ∀ {l m : List Int}, l.Pairwise (· < ·) → m.Pairwise (· < ·) → (∀ b, b ∈ l ↔ b ∈ m) → l = m
  | [], [], _, _, _ => rfl
  | [], b :: m, _, _, h => by have := (h b).2 List.mem_cons_self; cases this
  | a :: l, [], _, _, h => by have := (h a).1 List.mem_cons_self; cases this
  | a :: l, b :: m, h1, h2, h => by
    rw [List.pairwise_cons] at h1 h2
    have hab : a = b := by
      rcases List.mem_cons.1 ((h a).1 List.mem_cons_self) with e | e
      · exact e
      · rcases List.mem_cons.1 ((h b).2 List.mem_cons_self) with e' | e'
        · exact e'.symm
        · have := h2.1 a e; have := h1.1 b e'; omega
    subst hab
    rw [ord_uniq h1.2 h2.2 fun c => ?_]
    constructor
    · intro hc
      rcases List.mem_cons.1 ((h c).1 (List.mem_cons_of_mem _ hc)) with e | e
      · subst e; have := h1.1 _ hc; omega
      · exact e
    · intro hc
      rcases List.mem_cons.1 ((h c).2 (List.mem_cons_of_mem _ hc)) with e | e
      · subst e; have := h2.1 _ hc; omega
      · exact e
theorem reachL_uniq {n : Net} {a : Int} {l m : List Int} (h1 : ReachL n a l) (h2 : ReachL n a m) : l = m := ord_uniq h1.ord h2.ord fun b => (h1.mem b).trans (h2.mem b).symm

/-- A list that is ordered, and has no element twice. -/
theorem sorted_lt {l : List Int} (hn : l.Nodup) : (l.mergeSort fun x y => decide (x ≤ y)).Pairwise (· < ·) := by
  have h1 := List.pairwise_mergeSort (le := fun x y : Int => decide (x ≤ y)) (by intro a b c; simp; omega) (by intro a b; simp; omega) l
  have h2 : (l.mergeSort fun x y => decide (x ≤ y)).Nodup := (List.mergeSort_perm l _).nodup_iff.2 hn
  have h3 := h1.and h2
  refine h3.imp ?_
  intro a b h
  have := of_decide_eq_true h.1
  have := h.2
  omega

theorem bfs_end {n : Net} {a : Int} {i : Nat} (hb : Bfs n a i) (hi : (bfs n a i).length = i) : ReachL n a ((bfs n a i).mergeSort fun x y => decide (x ≤ y)) := by
  refine ⟨sorted_lt hb.nodup, fun b => ?_⟩
  rw [List.mem_mergeSort]
  constructor
  · exact hb.rch b
  · intro h
    induction h with
    | refl => exact hb.start
    | step _ hc ih =>
      obtain ⟨j, hj, e⟩ := List.mem_iff_getElem.1 ih
      exact hb.closed j _ (by omega) (by rw [List.getElem?_eq_getElem hj, e]) _ hc
end Go.Nw
