/- Lemmas for the claim, part 3. -/
import Derived.Lib.AppendStr
import Derived.Laws.Externs
import Derived.Shelf.Strings.Builder1
import Derived.Shelf.Small.Wraps
import Derived.Shelf.Strings.BuilderF
import Derived.Shelf.Strings.BuilderK
import Derived.Shelf.Strconv.Atoi
import Derived.Shelf.Strconv.Itoa0
import Derived.Shelf.Strconv.Itoa1
import Derived.Shelf.LaysM
import Derived.Shelf.Strconv.Itoa2
import Derived.Shelf.Strconv.Itoa3
import Derived.Shelf.Strconv.AtoiErrFast
import Derived.Shelf.Strconv.ParseIntEmpty
import Derived.Shelf.Strconv.AtoiFail
import Derived.Shelf.Strconv.Clone
import Derived.Shelf.Strconv.SyntaxError
import Derived.Shelf.LaysC
import Derived.Shelf.Strconv.ToError
import Derived.Shelf.Strconv.Lower
import Derived.Shelf.Strconv.ParseUint10
import Derived.Shelf.Strconv.ParseUint10Empty
import Derived.Shelf.Strconv.ParseUint10Any
import Derived.Shelf.Strconv.ParseInt10
import Derived.Shelf.Strconv.AtoiLong
import Derived.Shelf.Strconv.AtoiInnerAll
import Derived.Shelf.Strconv.RangeError
import Derived.Shelf.Strconv.ToErrorRange
import Derived.Shelf.Strconv.AtoiAll
import Derived.Shelf.Strconv.ErrVarAll
import Derived.Shelf.Strings.Search1
import Derived.Shelf.Strings.Search2
import Derived.Shelf.Strings.Search3
import Derived.Shelf.Strings.Count
import Derived.Shelf.Strings.Shaped
import Derived.Shelf.Strings.Split
import Derived.Shelf.Strings.SplitShaped
import Derived.Shelf.Unicode.DecodeSlow
import Derived.Shelf.Slices.Turned
import Derived.Shelf.Slices.Equal
import Derived.Ground.Names2Prog
import Derived.Shelf.Slices.Clone
import Derived.Shelf.Slices.SearchI
import Derived.Test.YtmalhidldgfeoaaGreatDoorProg
import Derived.Lib.Split
import Derived.Lib.ItoaNum
import Derived.Lib.AtoiAll
import Derived.Lib.AtoiTie
import Derived.Lib.AppendIntMem
import Derived.WideLaws
import Derived.Lib.SmallJoins
import Derived.Lib.Builder
import Derived.Lib.AtoiAllCases
import Derived.Deep.Slices
import Derived.OpenShut
import Derived.ProofKit
import Derived.Below
import Derived.ChangeSame
import Derived.Carry
import Derived.Test.YtmalhidldgfeoaaGreatDoorQ2

/- Schedules, plain: the place of a cell; a further cell, one less, what differs, and a schedule several times. -/
namespace Go.Proofs.YtmalhidldgfeoaaGreatDoor
open Go.RowKit Go.Eng Go.Nw

def ltB (c : Cel) (x : Cel) : Bool := celLt x c
def posE (l : List Cel) (c : Cel) : Nat := (l.takeWhile (ltB c)).length
/-- How many elements stand before c, where l is in order. -/
structure Pos (l : List Cel) (c : Cel) (k : Nat) : Prop where
  le : k ≤ l.length
  lo : ∀ i x, i < k → l[i]? = some x → celLt x c = true
  hi : ∀ i x, k ≤ i → l[i]? = some x → celLt x c = false
abbrev Ord (l : List Cel) : Prop := l.Pairwise fun a b => celLt a b = true
theorem ord_at {l : List Cel} (h : Ord l) {i j : Nat} {x y : Cel} (hx : l[i]? = some x) (hy : l[j]? = some y) (hij : i < j) : celLt x y = true := by
  obtain ⟨h1, rfl⟩ := List.getElem?_eq_some_iff.1 hx
  obtain ⟨h2, rfl⟩ := List.getElem?_eq_some_iff.1 hy
  exact List.pairwise_iff_getElem.1 h i j h1 h2 hij
theorem takeWhile_lt {α : Type} {p : α → Bool} : ∀ {l : List α} {i : Nat} {x : α}, i < (l.takeWhile p).length → l[i]? = some x → p x = true
  | [], _, _, h, _ => by simp at h
  | a :: l, i, x, h, hx => by
    rw [List.takeWhile_cons] at h
    cases hp : p a with
    | false => rw [hp] at h; simp at h
    | true =>
      rw [hp, if_pos rfl] at h
      cases i with
      | zero => obtain rfl : a = x := by simpa using hx
                exact hp
      | succ i => exact takeWhile_lt (l := l) (i := i) (by simpa using h) (by simpa using hx)
theorem takeWhile_at {α : Type} {p : α → Bool} : ∀ {l : List α} {x : α}, l[(l.takeWhile p).length]? = some x → p x = false
  | [], _, h => by simp at h
  | a :: l, x, h => by
    rw [List.takeWhile_cons] at h
    cases hp : p a with
    | false => rw [hp] at h
               obtain rfl : a = x := by simpa using h
               exact hp
    | true =>
      rw [hp, if_pos rfl] at h
      exact takeWhile_at (l := l) (by simpa using h)
theorem takeWhile_le {α : Type} {p : α → Bool} : ∀ l : List α, (l.takeWhile p).length ≤ l.length
  | [] => Nat.le_refl _
  | a :: l => by
    rw [List.takeWhile_cons]
    split
    · have := takeWhile_le (p := p) l; simp only [List.length_cons]; omega
    · simp
theorem pos_pos {l : List Cel} (h : Ord l) (c : Cel) : Pos l c (posE l c) := by
  refine ⟨takeWhile_le l, fun i x hi hx => show ltB c x = true from takeWhile_lt hi hx, fun i x hi hx => ?_⟩
  unfold posE at hi
  obtain ⟨y, hy⟩ : ∃ y, l[(l.takeWhile (ltB c)).length]? = some y := ⟨_, List.getElem?_eq_getElem (Nat.lt_of_le_of_lt hi (List.getElem?_eq_some_iff.1 hx).1)⟩
  have h1 : celLt y c = false := show ltB c y = false from takeWhile_at hy
  rcases Nat.eq_or_lt_of_le hi with e | hlt
  · rw [e, hx] at hy
    injection hy with hy; subst hy; exact h1
  · have h2 := ord_at h hy hx hlt
    cases h3 : celLt x c with
    | false => rfl
    | true => rw [cel_trans h2 h3] at h1; cases h1
theorem Pos.eq {l : List Cel} {c : Cel} {k m : Nat} (h1 : Pos l c k) (h2 : Pos l c m) : k = m := by
  rcases Nat.lt_trichotomy k m with h | h | h
  · obtain ⟨x, hx⟩ : ∃ x, l[k]? = some x := ⟨_, List.getElem?_eq_getElem (by have := h2.le; omega)⟩
    have := h1.hi k x (Nat.le_refl _) hx
    rw [h2.lo k x h hx] at this; cases this
  · exact h
  · obtain ⟨x, hx⟩ : ∃ x, l[m]? = some x := ⟨_, List.getElem?_eq_getElem (by have := h1.le; omega)⟩
    have := h2.hi m x (Nat.le_refl _) hx
    rw [h1.lo m x h hx] at this; cases this
theorem Pos.posE {l : List Cel} (h : Ord l) {c : Cel} {k : Nat} (hk : Pos l c k) : k = posE l c := hk.eq (pos_pos h c)
/-- An element is there exactly if it stands at its place. -/
theorem pos_mem {l : List Cel} (h : Ord l) {c : Cel} {k : Nat} (hk : Pos l c k) : l[k]? = some c ↔ c ∈ l := by
  constructor
  · exact List.mem_of_getElem?
  · intro hm
    obtain ⟨i, hi⟩ := List.mem_iff_getElem?.1 hm
    rcases Nat.lt_trichotomy i k with h1 | h1 | h1
    · have := hk.lo i c h1 hi
      rw [cel_irrefl] at this; cases this
    · subst h1; exact hi
    · obtain ⟨x, hx⟩ : ∃ x, l[k]? = some x := ⟨_, List.getElem?_eq_getElem (by have := (List.getElem?_eq_some_iff.1 hi).1; omega)⟩
      have h2 := hk.hi k x (Nat.le_refl _) hx
      rw [ord_at h hx hi h1] at h2; cases h2
def delC (l : List Cel) (c : Cel) : List Cel := l.take (posE l c) ++ l.drop (posE l c + 1)
def zeroS : Sch := ⟨0, 0, []⟩
def remE (s : Sch) (c : Cel) : Sch × Int :=
  if formE s = false then (zeroS, 1) else if c ∈ s.cells then (⟨s.len, s.off, delC s.cells c⟩, 0) else (zeroS, 7)
def atE (s : Sch) (slot : Int) : List Cel := if formE s = false ∨ slot < 0 then [] else s.cells.filter fun c => decide (c.1 = slot.tmod s.len)
def movC (d : Int) (c : Cel) : Cel := (c.1 + d, c.2)
def repC (s : Sch) (k : Nat) : List Cel := (List.range k).flatMap fun i : Nat => s.cells.map (movC ((i : Int) * s.len))
theorem ord_nodup {l : List Cel} (h : Ord l) : l.Nodup := h.imp fun {a b} hab e => by subst e; rw [cel_irrefl] at hab; cases hab
theorem del_filter {l : List Cel} {c : Cel} (h : Ord l) (hc : c ∈ l) : delC l c = l.filter fun x => decide (x ≠ c) := by
  have hp := pos_pos h c
  have hk := (pos_mem h hp).2 hc
  obtain ⟨hlt, hke⟩ := List.getElem?_eq_some_iff.1 hk
  have hsp : l = l.take (posE l c) ++ c :: l.drop (posE l c + 1) := by
    conv => lhs; rw [← List.take_append_drop (posE l c) l]
    rw [← List.getElem_cons_drop hlt, hke]
  have hnd := ord_nodup h
  unfold delC
  conv => rhs; rw [hsp]
  rw [hsp] at hnd
  obtain ⟨_, h2, h3⟩ := List.nodup_append.1 hnd
  rw [List.filter_append, List.filter_cons, if_neg (by simp)]
  congr 1
  · symm
    rw [List.filter_eq_self]
    intro x hx
    have := h3 x hx c List.mem_cons_self
    simpa using this
  · symm
    rw [List.filter_eq_self]
    intro x hx
    have := (List.nodup_cons.1 h2).1
    simp only [decide_eq_true_eq]
    intro e; subst e; exact this hx
theorem del_len {l : List Cel} {c : Cel} (h : Ord l) (hc : c ∈ l) : (delC l c).length + 1 = l.length := by
  have hk := (pos_mem h (pos_pos h c)).2 hc
  have hlt := (List.getElem?_eq_some_iff.1 hk).1
  unfold delC
  rw [List.length_append, List.length_take, List.length_drop]
  omega
end Go.Proofs.YtmalhidldgfeoaaGreatDoor

/- Walks: cells and schedules in memory; cells compared, in range. -/
namespace Go.Proofs.YtmalhidldgfeoaaGreatDoor
open Go.RowKit Go.Eng Go.Nw

def celF (c : Cel) : List Value := [.int .i64 c.1, .int .i64 c.2.1, .int .i64 c.2.2.1, .int .i64 c.2.2.2.1, .int .i64 c.2.2.2.2]
def celV (c : Cel) : Value := .agg #[.int .i64 c.1, .int .i64 c.2.1, .int .i64 c.2.2.1, .int .i64 c.2.2.2.1, .int .i64 c.2.2.2.2]
structure SchM where
  len : Int
  off : Int
  A : Option Addr
  cap : Nat
  cells : List Cel
def SchM.sch (s : SchM) : Sch := ⟨s.len, s.off, s.cells⟩
def SchM.val (s : SchM) : Value := .agg #[.int .i64 s.len, .int .i64 s.off, .slice s.A s.cells.length s.cap]
theorem cmp_lt (a b : Cel) : cmpV (nums a) (nums b) < 0 ↔ celLt a b = true := by
  unfold cmpV celLt
  by_cases h1 : lexLt (nums a) (nums b) = true
  · rw [if_pos h1]; simp [h1]
  · rw [if_neg h1]
    split <;> simp [h1]
theorem cmp_eq (a b : Cel) : cmpV (nums a) (nums b) = 0 ↔ a = b := by
  unfold cmpV
  constructor
  · intro h
    split at h
    · cases h
    · rename_i h1
      split at h
      · cases h
      · rename_i h2
        exact cel_tri (by simpa [celLt] using h1) (by simpa [celLt] using h2)
  · rintro rfl
    rw [if_neg (by rw [lex_self]; decide), if_neg (by rw [lex_self]; decide)]

theorem numbers_spec (c : Cel) {B : Nat} {w0 : World} {H : List HP} {w : World} (hw : St B w0 H w) :
    Calls Tryz.prog 105 [celV c].toArray w (Post B w0 fun v K => v = celV c ∧ K = H) := by
  refine Calls_of_VC Tryz.func105 Tryz.ntmps105 rfl rfl hw ?_
  repeat' (first | (apply zg2; refine zs6 ?_) | (apply zg3; refine zs7 ?_) | (apply zg22; refine zs51 ?_) | (apply zg23; (refine zs52 ?_; intro _)) | (apply zg24; (refine zs54 ?_; intro _)) | (apply zg25; refine zs55 ?_) | apply (zs65 ?_) | apply (zs68 ?_) | apply (zs69 ?_) | apply (zs70 ?_) | apply (zs74 ?_) | fail)
  (apply VQ_retc1 T (H2 := H); exact rfl; exact rfl; (focus repeat (first | with_reducible exact List.mem_cons_self | with_reducible apply List.mem_cons_of_mem | assumption)); exact rfl; exact rfl; (intro w hw; refine hw.perm ?_; focus repeat (first | with_reducible exact Perm.refl _ | (with_reducible apply perm_take; focus ((repeat (first | with_reducible exact rem_here | with_reducible apply rem_there)); done)) | with_reducible apply Perm.dropK)); exact ⟨rfl, rfl⟩)

set_option maxRecDepth 10000 in
set_option maxHeartbeats 2000000 in
theorem order_spec (a b : Cel) {B : Nat} {w0 : World} {H : List HP} {w : World} (hw : St B w0 H w) :
    Calls Tryz.prog 120 [celV a, celV b, .func (.func 105) #[] #[]].toArray w (Post B w0 fun v K => v = .int .i64 (cmpV (nums a) (nums b)) ∧ K = H) := by
  refine Calls_of_VC Tryz.func120 Tryz.ntmps120 rfl rfl hw ?_
  apply VC_seq
  iterate 5 (first | apply (zs2 ?_) | (apply zg23; (refine zs52 ?_; intro _)) | apply (zs65 ?_) | apply (zs70 ?_) | fail)
  apply VQ_then
  apply VC_seq
  refine VC_cutQ (fun (z : Nat × Nat) => [(7, .pointer (some ⟨z.1, 0, none⟩)), (8, .pointer (some ⟨z.2, 0, none⟩))]) (fun z => blk z.1 (.cells (celF a).toArray 183 (0, 0)) :: blk z.2 (.cells (celF b).toArray 183 (0, 0)) :: H) ?_ ?_
  · intro K hK
    apply VC_treeU (.n1 0 (.n1 1 (.n1 3 (.n1 4 (.n3 2 (.n3 5 (.n2 6 (.n1 7 .done) 7 (.n1 6 .done)) 6 (.n2 5 (.n1 7 .done) 7 (.n1 5 .done)) 7 (.n2 5 (.n1 6 .done) 6 (.n1 5 .done))) 6 (.n2 2 (.n2 5 (.n1 7 .done) 7 (.n1 5 .done)) 7 (.n1 2 (.n1 5 .done))) 7 (.n2 2 (.n2 5 (.n1 6 .done) 6 (.n1 5 .done)) 6 (.n1 2 (.n1 5 .done)))))))) [8, 9] [true, true]
    kernel_rfl
    kernel_rfl
    (repeat (first | with_reducible exact split_nil | with_reducible apply split_t | with_reducible apply split_f))
    (simp only [pickOps, nthO]; rfl)
    repeat' (first | ((first | apply VL_callvt (cs := []) | apply VL_callvq (cs := [])); exact rfl; exact en105; (repeat (first | exact args_nil | (apply args_cons; exact rfl))); exact rfl; exact fun _ hw => (numbers_spec _ hw)) | (apply VU_n3; (simp only [nthO]; rfl); (simp only [nthO]; rfl); (simp only [nthO]; rfl)) | (apply VU_n2; (simp only [nthO]; rfl); (simp only [nthO]; rfl)) | (apply VU_n1; (simp only [nthO]; rfl)) | (apply VQ_treeu; (repeat (first | with_reducible exact pull_nil | (with_reducible apply pull_cons; (repeat (first | with_reducible exact rem_here | with_reducible apply rem_there)))))) | (apply VU_done; (repeat (first | with_reducible exact app_nil | with_reducible apply app_cons | exact app_niln _))) | apply (zs1 ?_) | (apply zg3; refine zs8 ?_) | (apply zg22; refine zs51 ?_) | (apply zg24; (refine zs54 ?_; intro _)) | apply (zs65 ?_) | (apply VL_nilh; (repeat (first | with_reducible exact app_nil | with_reducible apply app_cons | exact app_niln _))) | apply (zs87 ?_) | (apply VQ_heldq; (repeat (first | with_reducible exact pull_nil | (with_reducible apply pull_cons; (repeat (first | with_reducible exact rem_here | with_reducible apply rem_there)))))) | apply (zs93 ?_) | apply (zs94 ?_) | fail)
    all_goals (
      rename_i ga gb
      first
        | (refine hK (ga, gb) _ _ (by ((repeat (first | exact sub_nil _ | (apply sub_cons; first | exact rfl | exact congrArg (fun z : Int => some (Value.int .i64 z)) (by omega)))))) ?_; dsimp only [celF]; ((intro w hw; refine hw.perm ?_; focus repeat (first | with_reducible exact Perm.refl _ | (with_reducible apply perm_take; focus ((repeat (first | with_reducible exact rem_here | with_reducible apply rem_there)); done)) | with_reducible apply Perm.dropK))); done)
        | (refine hK (gb, ga) _ _ (by ((repeat (first | exact sub_nil _ | (apply sub_cons; first | exact rfl | exact congrArg (fun z : Int => some (Value.int .i64 z)) (by omega)))))) ?_; dsimp only [celF]; ((intro w hw; refine hw.perm ?_; focus repeat (first | with_reducible exact Perm.refl _ | (with_reducible apply perm_take; focus ((repeat (first | with_reducible exact rem_here | with_reducible apply rem_there)); done)) | with_reducible apply Perm.dropK))); done))
  rintro ⟨g1, g2⟩
  dsimp only
  have hA : Rd B w0 (blk g1 (.cells (celF a).toArray 183 (0, 0)) :: blk g2 (.cells (celF b).toArray 183 (0, 0)) :: H) (some ⟨g1, 0, none⟩) ((nums a).flatMap numF) := Rd.blk (cs := (celF a).toArray) (.head _)
  have hB : Rd B w0 (blk g1 (.cells (celF a).toArray 183 (0, 0)) :: blk g2 (.cells (celF b).toArray 183 (0, 0)) :: H) (some ⟨g2, 0, none⟩) ((nums b).flatMap numF) := Rd.blk (cs := (celF b).toArray) (.tail _ (.head _))
  repeat' (first | (apply VL_slice_all T (e := 3); exact rfl; exact rfl; exact rfl) | ((first | apply VL_callt en178 | apply VL_callq en178); (repeat (first | exact args_nil | (apply args_cons; exact rfl))); exact rfl; exact fun _ hw => (compareI_spec (nums a) (nums b) (by simp [nums]) (by simp [nums]) hA hB hw)) | apply (zs2 ?_) | apply (zs66 ?_) | apply (zs68 ?_) | apply (zs69 ?_) | apply (zs74 ?_) | (apply zg28; refine zs84 ?_) | fail)
  apply VQ_st H
  · (intro w hw; refine hw.perm ?_; focus repeat (first | with_reducible exact Perm.refl _ | (with_reducible apply perm_take; focus ((repeat (first | with_reducible exact rem_here | with_reducible apply rem_there)); done)) | with_reducible apply Perm.dropK))
  apply VQ_ret1; exact rfl; exact rfl
  exact ⟨rfl, rfl⟩
theorem compareC_spec (a b : Cel) {B : Nat} {w0 : World} {H : List HP} {w : World} (hw : St B w0 H w) :
    Calls Tryz.prog 62 [celV a, celV b].toArray w (Post B w0 fun v K => v = .int .i64 (cmpV (nums a) (nums b)) ∧ K = H) := by
  refine Calls_of_VC Tryz.func62 Tryz.ntmps62 rfl rfl hw ?_
  repeat' (first | ((first | apply VL_callt en120 | apply VL_callq en120); (repeat (first | exact args_nil | (apply args_cons; exact rfl))); exact rfl; exact fun _ hw => (order_spec a b hw)) | apply (zs2 ?_) | (apply zg3; refine zs8 ?_) | (apply zg23; (refine zs52 ?_; intro _)) | apply (zs65 ?_) | apply (zs68 ?_) | apply (zs69 ?_) | apply (zs70 ?_) | apply (zs74 ?_) | fail)
  apply VQ_st H
  · (intro w hw; refine hw.perm ?_; focus repeat (first | with_reducible exact Perm.refl _ | (with_reducible apply perm_take; focus ((repeat (first | with_reducible exact rem_here | with_reducible apply rem_there)); done)) | with_reducible apply Perm.dropK))
  apply VQ_ret1; exact rfl; exact rfl
  exact ⟨rfl, rfl⟩
theorem inside_spec (x n : Int) {B : Nat} {w0 : World} {H : List HP} {w : World} (hw : St B w0 H w) :
    Calls Tryz.prog 168 [.int .i64 x, .int .i64 n].toArray w (Post B w0 fun v K => v = .bool (insE x n) ∧ K = H) := by
  refine Calls_of_VC Tryz.func168 Tryz.ntmps168 rfl rfl hw ?_
  repeat' (first | apply (zs1 ?_) | apply (zs2 ?_) | (apply zg1; first | refine zs3 ?_ | refine zs4 ?_) | (apply zg6; first | refine zs11 ?_ | refine zs12 ?_) | (apply (zs17 ?_ ?_) <;> intro _ <;> try (exfalso; omega)) | (apply (zs20 ?_ ?_) <;> intro _ <;> try (exfalso; omega)) | apply (zs65 ?_) | apply (zs68 ?_) | apply (zs69 ?_) | apply (zs70 ?_) | apply (zs74 ?_) | fail)
  all_goals (
    apply VQ_ret1; exact rfl; exact rfl
    first
      | exact ⟨by rw [show insE x n = true from decide_eq_true (by omega)], rfl⟩
      | exact ⟨by rw [show insE x n = false from decide_eq_false (by omega)], rfl⟩)
theorem placed_spec (s : SchM) (c : Cel) {B : Nat} {w0 : World} {H : List HP} {w : World} (hw : St B w0 H w) :
    Calls Tryz.prog 112 [s.val, celV c].toArray w (Post B w0 fun v K => v = .bool (placedE s.sch c) ∧ K = H) := by
  refine Calls_of_VC Tryz.func112 Tryz.ntmps112 rfl rfl hw ?_
  repeat' (first | ((first | apply VL_calltb en168 | apply VL_callqb en168); (repeat (first | exact args_nil | (apply args_cons; exact rfl))); exact rfl; exact fun _ hw => (inside_spec _ _ hw); all_goals (intro hB; (try simp only [decide_eq_true_eq, decide_eq_false_iff_not] at hB); try (exfalso; omega))) | apply (zs1 ?_) | apply (zs2 ?_) | (apply zg1; first | refine zs3 ?_ | refine zs4 ?_) | (apply zg2; refine zs6 ?_) | (apply zg3; refine zs7 ?_) | (apply zg6; first | refine zs11 ?_ | refine zs12 ?_) | (apply zg23; (refine zs52 ?_; intro _)) | apply (zs65 ?_) | apply (zs68 ?_) | apply (zs69 ?_) | apply (zs70 ?_) | apply (zs74 ?_) | fail)
  all_goals (
    apply VQ_st H
    · (intro w hw; refine hw.perm ?_; focus repeat (first | with_reducible exact Perm.refl _ | (with_reducible apply perm_take; focus ((repeat (first | with_reducible exact rem_here | with_reducible apply rem_there)); done)) | with_reducible apply Perm.dropK))
    apply VQ_ret1; exact rfl; exact rfl
    exact ⟨by simp [placedE, SchM.sch, *], rfl⟩)
theorem formed_spec (s : SchM) (c : Cel) {B : Nat} {w0 : World} {H : List HP} {w : World} (hw : St B w0 H w) :
    Calls Tryz.prog 117 [s.val, celV c].toArray w (Post B w0 fun v K => v = .bool (formedE s.sch c) ∧ K = H) := by
  refine Calls_of_VC Tryz.func117 Tryz.ntmps117 rfl rfl hw ?_
  repeat' (first | ((first | apply VL_calltb en112 | apply VL_callqb en112); (repeat (first | exact args_nil | (apply args_cons; exact rfl))); exact rfl; exact fun _ hw => (placed_spec s c hw); all_goals (intro hB; (try simp only [decide_eq_true_eq, decide_eq_false_iff_not] at hB); try (exfalso; omega))) | ((first | apply VL_calltb en168 | apply VL_callqb en168); (repeat (first | exact args_nil | (apply args_cons; exact rfl))); exact rfl; exact fun _ hw => (inside_spec _ _ hw); all_goals (intro hB; (try simp only [decide_eq_true_eq, decide_eq_false_iff_not] at hB); try (exfalso; omega))) | apply (zs1 ?_) | apply (zs2 ?_) | (apply zg1; first | refine zs3 ?_ | refine zs4 ?_) | (apply zg2; refine zs6 ?_) | (apply zg3; first | refine zs7 ?_ | refine zs8 ?_) | (apply zg6; first | refine zs11 ?_ | refine zs12 ?_) | (apply zg23; (refine zs52 ?_; intro _)) | apply (zs65 ?_) | apply (zs68 ?_) | apply (zs69 ?_) | apply (zs70 ?_) | apply (zs74 ?_) | fail)
  all_goals (
    apply VQ_st H
    · (intro w hw; refine hw.perm ?_; focus repeat (first | with_reducible exact Perm.refl _ | (with_reducible apply perm_take; focus ((repeat (first | with_reducible exact rem_here | with_reducible apply rem_there)); done)) | with_reducible apply Perm.dropK))
    apply VQ_ret1; exact rfl; exact rfl
    exact ⟨by simp [formedE, *], rfl⟩)
theorem sized_spec (s : SchM) {B : Nat} {w0 : World} {H : List HP} {w : World} (hw : St B w0 H w) :
    Calls Tryz.prog 52 [s.val].toArray w (Post B w0 fun v K => v = .bool (sizedE s.sch) ∧ K = H) := by
  refine Calls_of_VC Tryz.func52 Tryz.ntmps52 rfl rfl hw ?_
  have e1 : s.sch.len = s.len := rfl
  have e2 : s.sch.off = s.off := rfl
  repeat' (first | apply (zs1 ?_) | apply (zs2 ?_) | (apply zg1; first | refine zs3 ?_ | refine zs4 ?_) | (apply zg2; refine zs6 ?_) | (apply zg3; refine zs7 ?_) | (apply zg6; first | refine zs11 ?_ | refine zs12 ?_) | (apply (zs18 ?_ ?_) <;> intro _ <;> try (exfalso; omega)) | (apply (zs20 ?_ ?_) <;> intro _ <;> try (exfalso; omega)) | (apply zg23; (refine zs52 ?_; intro _)) | apply (zs65 ?_) | apply (zs68 ?_) | apply (zs69 ?_) | apply (zs70 ?_) | apply (zs74 ?_) | fail)
  all_goals (
    apply VQ_st H
    · (intro w hw; refine hw.perm ?_; focus repeat (first | with_reducible exact Perm.refl _ | (with_reducible apply perm_take; focus ((repeat (first | with_reducible exact rem_here | with_reducible apply rem_there)); done)) | with_reducible apply Perm.dropK))
    apply VQ_ret1; exact rfl; exact rfl
    first
      | exact ⟨by rw [show sizedE s.sch = true from decide_eq_true (by omega)], rfl⟩
      | exact ⟨by rw [show sizedE s.sch = false from decide_eq_false (by omega)], rfl⟩)
end Go.Proofs.YtmalhidldgfeoaaGreatDoor

/- Walks: form; the cells of a slot. -/
namespace Go.Proofs.YtmalhidldgfeoaaGreatDoor
open Go.RowKit Go.Eng Go.Nw

theorem celOk_no {s : Sch} {i : Nat} (hi : i < s.cells.length) (h : celOk s i = false) : formE s = false := by
  unfold formE
  rw [all_range_no hi h, Bool.and_false]
set_option maxRecDepth 10000 in
set_option maxHeartbeats 1000000 in
theorem form_spec (s : SchM) {B : Nat} {w0 : World} {H : List HP} {w : World} (hr : Rd B w0 H s.A (s.cells.flatMap celF)) (hl : s.cells.length ≤ 1000000000000) (hw : St B w0 H w) :
    Calls Tryz.prog 58 [s.val].toArray w (Post B w0 fun v K => v = .bool (formE s.sch) ∧ K = H) := by
  refine Calls_of_VC Tryz.func58 Tryz.ntmps58 rfl rfl hw ?_
  have e1 : s.sch.cells = s.cells := rfl
  repeat' (first | ((first | apply VL_calltb en52 | apply VL_callqb en52); (repeat (first | exact args_nil | (apply args_cons; exact rfl))); exact rfl; exact fun _ hw => (sized_spec s hw); all_goals (intro hB; (try simp only [decide_eq_true_eq, decide_eq_false_iff_not] at hB); try (exfalso; omega))) | apply (zs1 ?_) | apply (zs2 ?_) | (apply zg1; first | refine zs3 ?_ | refine zs4 ?_) | (apply zg2; refine zs6 ?_) | (apply zg3; first | refine zs7 ?_ | refine zs8 ?_) | (apply zg4; refine zs9 ?_) | (apply zg6; first | refine zs11 ?_ | refine zs12 ?_) | (apply (zs19 ?_ ?_) <;> intro _ <;> try (exfalso; omega)) | (apply zg20; first | refine zs47 ?_ | refine zs48 ?_) | (apply zg23; (refine zs52 ?_; intro _)) | apply (zs65 ?_) | apply (zs68 ?_) | apply (zs69 ?_) | apply (zs70 ?_) | (apply zg27; first | refine zs71 ?_ | refine zs72 ?_) | apply (zs73 ?_) | apply (zs74 ?_) | apply (zs76 ?_) | apply (zs77 ?_) | fail)
  · apply VQ_st H
    · (intro w hw; refine hw.perm ?_; focus repeat (first | with_reducible exact Perm.refl _ | (with_reducible apply perm_take; focus ((repeat (first | with_reducible exact rem_here | with_reducible apply rem_there)); done)) | with_reducible apply Perm.dropK))
    apply VQ_ret1; exact rfl; exact rfl
    exact ⟨by rw [show formE s.sch = false by unfold formE; rw [e1, decide_eq_false (by omega), Bool.and_false, Bool.false_and]], rfl⟩
  rotate_left
  · apply VQ_st H
    · (intro w hw; refine hw.perm ?_; focus repeat (first | with_reducible exact Perm.refl _ | (with_reducible apply perm_take; focus ((repeat (first | with_reducible exact rem_here | with_reducible apply rem_there)); done)) | with_reducible apply Perm.dropK))
    apply VQ_ret1; exact rfl; exact rfl
    exact ⟨by simp [formE, *], rfl⟩
  rename_i g _
  refine VC_loop1 (fun (i : Nat) => [(17, .int .i64 i), (16, .int .i64 s.cells.length), (15, .slice s.A s.cells.length s.cap), (1, .pointer (some ⟨g, 0, none⟩))]) (fun _ => blk g (.cells #[.int .i64 s.len, .int .i64 s.off, .slice s.A s.cells.length s.cap] 30 (0, 0)) :: H) (fun i => i ≤ s.cells.length ∧ (List.range i).all (celOk s.sch) = true) (fun i => s.cells.length - i) 0 ⟨Nat.zero_le _, rfl⟩ ?_ (fun w hw => hw) ?_
  · (repeat (first | exact sub_nil _ | (apply sub_cons; first | exact rfl | exact congrArg (fun z : Int => some (Value.int .i64 z)) (by omega))))
  rintro i ⟨hi, hall⟩ K hK
  have hr := hr.cons (X := blk g (.cells #[.int .i64 s.len, .int .i64 s.off, .slice s.A s.cells.length s.cap] 30 (0, 0)))
  by_cases hlt : i < s.cells.length
  · have hget : s.cells[i]? = some (celAt s.sch i) := celAt_some (s := s.sch) hlt
    have hgo : celOk s.sch i = false → formE s.sch = false := celOk_no (s := s.sch) hlt
    have hst : celOk s.sch i = true → (List.range (i + 1)).all (celOk s.sch) = true := fun h => by rw [all_range_step, hall, h]; rfl
    rcases Nat.eq_zero_or_pos i with h0 | h0
    · subst h0
      repeat' (first | ((first | apply VL_calltb en117 | apply VL_callqb en117); (repeat (first | exact args_nil | (apply args_cons; exact rfl))); exact rfl; exact fun _ hw => (formed_spec s _ hw); all_goals (intro hB; (try simp only [decide_eq_true_eq, decide_eq_false_iff_not] at hB); try (exfalso; omega))) | apply (zs1 ?_) | apply (zs2 ?_) | (apply zg1; first | refine zs3 ?_ | refine zs4 ?_) | (apply zg3; first | refine zs8 ?_ | refine zs61 ?_) | (apply zg5; refine zs57 ?_) | (apply zg6; first | refine zs11 ?_ | refine zs12 ?_) | (apply (zs17 ?_ ?_) <;> intro _ <;> try (exfalso; omega)) | (apply (zs19 ?_ ?_) <;> intro _ <;> try (exfalso; omega)) | (apply zg13; refine zs30 ?_) | (apply zg20; first | refine zs47 ?_ | refine zs48 ?_) | (apply zg22; refine zs51 ?_) | (apply zg24; (refine zs54 ?_; intro _)) | apply (zs65 ?_) | apply (zs66 ?_) | apply (zs68 ?_) | apply (zs69 ?_) | apply (zs70 ?_) | (apply zg27; first | refine zs71 ?_ | refine zs72 ?_) | apply (zs73 ?_) | apply (zs74 ?_) | apply (zs76 ?_) | apply (zs77 ?_) | apply (zs78 ?_) | apply (zs79 ?_) | (apply zg28; refine zs84 ?_) | fail)
      · apply hK (0 + 1)
        · exact ⟨by omega, hst (by simp [celOk, *])⟩
        · omega
        · (repeat (first | exact sub_nil _ | (apply sub_cons; first | exact rfl | exact congrArg (fun z : Int => some (Value.int .i64 z)) (by omega))))
        · (intro w hw; refine hw.perm ?_; focus repeat (first | with_reducible exact Perm.refl _ | (with_reducible apply perm_take; focus ((repeat (first | with_reducible exact rem_here | with_reducible apply rem_there)); done)) | with_reducible apply Perm.dropK))
      · apply VQ_st H
        · (intro w hw; refine hw.perm ?_; focus repeat (first | with_reducible exact Perm.refl _ | (with_reducible apply perm_take; focus ((repeat (first | with_reducible exact rem_here | with_reducible apply rem_there)); done)) | with_reducible apply Perm.dropK))
        apply VQ_ret1; exact rfl; exact rfl
        exact ⟨by rw [hgo (by simp [celOk, *])], rfl⟩
    · have hget2 : s.cells[((i : Int) - 1).toNat]? = some (celAt s.sch (i - 1)) := by
        rw [show ((i : Int) - 1).toNat = i - 1 by omega]
        exact celAt_some (s := s.sch) (show i - 1 < s.cells.length by omega)
      repeat' (first | ((first | apply VL_calltb en117 | apply VL_callqb en117); (repeat (first | exact args_nil | (apply args_cons; exact rfl))); exact rfl; exact fun _ hw => (formed_spec s _ hw); all_goals (intro hB; (try simp only [decide_eq_true_eq, decide_eq_false_iff_not] at hB); try (exfalso; omega))) | ((first | apply VL_callt en62 | apply VL_callq en62); (repeat (first | exact args_nil | (apply args_cons; exact rfl))); exact rfl; exact fun _ hw => (compareC_spec _ _ hw)) | apply (zs1 ?_) | apply (zs2 ?_) | (apply zg1; first | refine zs3 ?_ | refine zs4 ?_) | (apply zg2; refine zs6 ?_) | (apply zg3; first | refine zs7 ?_ | refine zs8 ?_ | refine zs61 ?_) | (apply zg5; refine zs57 ?_) | (apply zg6; first | refine zs11 ?_ | refine zs12 ?_) | (apply (zs17 ?_ ?_) <;> intro _ <;> try (exfalso; omega)) | (apply (zs19 ?_ ?_) <;> intro _ <;> try (exfalso; omega)) | (apply (zs20 ?_ ?_) <;> intro _ <;> try (exfalso; omega)) | (apply zg13; refine zs30 ?_) | (apply zg14; refine zs31 ?_) | (apply zg20; first | refine zs47 ?_ | refine zs48 ?_) | (apply zg22; refine zs51 ?_) | (apply zg24; (refine zs54 ?_; intro _)) | apply (zs65 ?_) | apply (zs66 ?_) | apply (zs68 ?_) | apply (zs69 ?_) | apply (zs70 ?_) | (apply zg27; first | refine zs71 ?_ | refine zs72 ?_) | apply (zs73 ?_) | apply (zs74 ?_) | apply (zs76 ?_) | apply (zs77 ?_) | apply (zs78 ?_) | apply (zs79 ?_) | (apply zg28; refine zs84 ?_) | fail)
      all_goals first
        | (apply hK (i + 1)
           · refine ⟨by omega, hst ?_⟩
             have hc : cmpV (nums (celAt s.sch (i - 1))) (nums (celAt s.sch i)) < 0 := by omega
             simp [celOk, (cmp_lt _ _).1 hc, *]
           · omega
           · (repeat (first | exact sub_nil _ | (apply sub_cons; first | exact rfl | exact congrArg (fun z : Int => some (Value.int .i64 z)) (by omega))))
           · (intro w hw; refine hw.perm ?_; focus repeat (first | with_reducible exact Perm.refl _ | (with_reducible apply perm_take; focus ((repeat (first | with_reducible exact rem_here | with_reducible apply rem_there)); done)) | with_reducible apply Perm.dropK))
           done)
        | (apply VQ_st H
           · (intro w hw; refine hw.perm ?_; focus repeat (first | with_reducible exact Perm.refl _ | (with_reducible apply perm_take; focus ((repeat (first | with_reducible exact rem_here | with_reducible apply rem_there)); done)) | with_reducible apply Perm.dropK))
           apply VQ_ret1; exact rfl; exact rfl
           refine ⟨?_, rfl⟩
           rw [hgo]
           first
             | (simp [celOk, *]; done)
             | (have hc : ¬ cmpV (nums (celAt s.sch (i - 1))) (nums (celAt s.sch i)) < 0 := by omega
                have hd : celLt (celAt s.sch (i - 1)) (celAt s.sch i) = false := by
                  rw [cmp_lt] at hc
                  simpa using hc
                simp [celOk, hd]
                omega))
  · repeat' (first | apply (zs2 ?_) | (apply (zs17 ?_ ?_) <;> intro _ <;> try (exfalso; omega)) | apply (zs65 ?_) | apply (zs68 ?_) | apply (zs69 ?_) | apply (zs70 ?_) | (apply zg27; refine zs72 ?_) | apply (zs74 ?_) | apply (zs75 ?_) | apply (zs80 ?_) | apply (zs81 ?_) | fail)
    apply VQ_st H
    · (intro w hw; refine hw.perm ?_; focus repeat (first | with_reducible exact Perm.refl _ | (with_reducible apply perm_take; focus ((repeat (first | with_reducible exact rem_here | with_reducible apply rem_there)); done)) | with_reducible apply Perm.dropK))
    apply VQ_ret1; exact rfl; exact rfl
    refine ⟨?_, rfl⟩
    rw [show i = s.cells.length by omega] at hall
    rw [show formE s.sch = true by unfold formE; rw [e1, hall, decide_eq_true (by omega)]; simp [*]]
end Go.Proofs.YtmalhidldgfeoaaGreatDoor

/- Walks: lists of cells: found, equal, searched, copied, struck. -/
namespace Go.Eng
open Go.RowKit
theorem VC_capC {P : Program} {n : Shp} {B : Nat} {w0 : World} {Q : Exit → Act → World → Prop} {env : Env} {H : List HP} {c : Code} {e size k cap : Nat} {A : Option Addr} {xs : List Value} (hm : sl e size A k cap xs ∈ H) (h : k ≤ cap → VC P n B w0 c Q env H) : VC P n B w0 c Q env H := by
  refine ⟨fun a w ha hw => ?_⟩
  have hown := hw.sl hm
  have hkc : k ≤ cap := by
    rcases hown.2 with ⟨e1, e2⟩ | ⟨g, c, cur, e1, _, _, e4, _⟩
    · omega
    · injection e1 with _ _ e3; omega
  exact (h hkc).run a w ha hw
end Go.Eng
namespace Go.Proofs.YtmalhidldgfeoaaGreatDoor
open Go.RowKit Go.Eng Go.Nw

theorem subA_zeroC (A : Option Addr) (cap size : Nat) : subA A 0 cap size = A := by
  unfold subA
  split
  · rfl
  · cases A with
    | none => rfl
    | some a => simp [Addr.add]
theorem erase_flatC {α : Type} {f : α → List Value} {q : Nat} (hq : ∀ a, (f a).length = q) : ∀ (l : List α) (i : Nat), i < l.length → (l.flatMap f).take (i * q) ++ (l.flatMap f).drop ((i + 1) * q) = (l.eraseIdx i).flatMap f
  | x :: l, 0, _ => by
    simp [List.flatMap_cons, ← hq x]
  | x :: l, i + 1, h => by
    rw [List.length_cons] at h
    have ih := erase_flatC hq l i (by omega)
    have hx := hq x
    have e1 : (i + 1) * q = (f x).length + i * q := by rw [hx, Nat.add_mul]; omega
    have e2 : (i + 1 + 1) * q = (f x).length + (i + 1) * q := by rw [hx, Nat.add_mul (i + 1)]; omega
    rw [List.flatMap_cons, List.eraseIdx_cons_succ, List.flatMap_cons, e2, List.drop_length_add_append, ← ih, ← List.append_assoc]
    congr 1
    rw [e1, List.take_length_add_append]

def cels (A : Option Addr) (cap : Nat) (l : List Cel) : HP := sl 40 5 A l.length cap (l.flatMap celF)
theorem cels_snoc (A : Option Addr) (cap : Nat) (l : List Cel) (c : Cel) : sl 40 5 A (l.length + 1) cap (l.flatMap celF ++ celF c) = cels A cap (l ++ [c]) := by
  unfold cels; simp
theorem cels_snocR (A : Option Addr) (cap : Nat) (l : List Cel) (c : Cel) : sl 40 5 A (l.length + 1) cap (l.flatMap celF ++ #[Value.int .i64 c.1, .int .i64 c.2.1, .int .i64 c.2.2.1, .int .i64 c.2.2.2.1, .int .i64 c.2.2.2.2].toList) = cels A cap (l ++ [c]) := cels_snoc A cap l c
theorem len_snoc (l : List Cel) (c : Cel) : l.length + 1 = (l ++ [c]).length := by simp
theorem Rd.cels {B : Nat} {w0 : World} {H : List HP} {A : Option Addr} {cap : Nat} {l : List Cel} (h : cels A cap l ∈ H) : Rd B w0 H A (l.flatMap celF) := .sl h
theorem cel_one : ∀ l : List Cel, ∀ v ∈ l.flatMap celF, v.oneCell' = true := fun l v hv => by
  obtain ⟨a, _, ha⟩ := List.mem_flatMap.1 hv
  revert ha
  simp only [celF, List.mem_cons, List.not_mem_nil, or_false]
  rintro h
  repeat' (rcases h with rfl | h)
  all_goals (try subst h)
  all_goals rfl
theorem celV_inj {a b : Cel} (h : celF a = celF b) : a = b := by
  obtain ⟨a1, a2, a3, a4, a5⟩ := a
  obtain ⟨b1, b2, b3, b4, b5⟩ := b
  simp only [celF, List.cons.injEq, Value.int.injEq, true_and, and_true] at h
  obtain ⟨rfl, rfl, rfl, rfl, rfl⟩ := h
  rfl

section
variable {m : Eng.Mode} {n : Shp} {B d : Nat} {w0 : World} {ops : Array Oper} {Q : Exit → Act → World → Prop} {rest : List Oper} {env : Env} {H : List HP} {ty : TypeId} {pos : String} {after : Array Edge}
theorem VL_ceql (a b : Cel) {x y : Operand} (hx : evo env x = some (.agg (celF a).toArray)) (hy : evo env y = some (.agg (celF b).toArray)) (hn : Nat.ble (d + 1) n.k = true)
    (h1 : a = b → VL Tryz.prog m n B w0 ops Q rest ((d, .bool true) :: env) H) (h2 : a ≠ b → VL Tryz.prog m n B w0 ops Q rest ((d, .bool false) :: env) H) :
    VL Tryz.prog m n B w0 ops Q (⟨some d, .binOp .eql 40 x y 40, ty, pos, after, none⟩ :: rest) env H :=
  VL_aeql (xs := celF a) (ys := celF b) hx hy hn (by kernel_rfl) (by kernel_rfl) (fun e => h1 (celV_inj e)) (fun e => h2 fun h => e (by rw [h]))
theorem VL_cneq (a b : Cel) {x y : Operand} (hx : evo env x = some (.agg (celF a).toArray)) (hy : evo env y = some (.agg (celF b).toArray)) (hn : Nat.ble (d + 1) n.k = true)
    (h1 : a ≠ b → VL Tryz.prog m n B w0 ops Q rest ((d, .bool true) :: env) H) (h2 : a = b → VL Tryz.prog m n B w0 ops Q rest ((d, .bool false) :: env) H) :
    VL Tryz.prog m n B w0 ops Q (⟨some d, .binOp .neq 40 x y 40, ty, pos, after, none⟩ :: rest) env H :=
  VL_aneq (xs := celF a) (ys := celF b) hx hy hn (by kernel_rfl) (by kernel_rfl) (fun e => h1 fun h => e (by rw [h])) (fun e => h2 (celV_inj e))
end

theorem rsame_cells (l m : List Cel) (hl : l.length ≤ 1000000000000) (hm : m.length ≤ 1000000000000) {A A2 : Option Addr} {cap cap2 B : Nat} {w0 : World} {H : List HP} {w : World} (hr : Rd B w0 H A (l.flatMap celF)) (hr2 : Rd B w0 H A2 (m.flatMap celF)) (hw : St B w0 H w) :
    Calls Tryz.prog 107 [.slice A l.length cap, .slice A2 m.length cap2].toArray w (Post B w0 fun v K => v = .bool (decide (l = m)) ∧ K = H) := by
  refine Calls_of_VC Tryz.func107 Tryz.ntmps107 rfl rfl hw ?_
  by_cases hll : l.length = m.length
  rotate_left
  · repeat' (first | apply (zs1 ?_) | apply (zs2 ?_) | (apply zg4; refine zs9 ?_) | (apply zg8; (refine zs16 ?_ ?_ <;> intro _ <;> try (exfalso; omega))) | apply (zs65 ?_) | apply (zs68 ?_) | apply (zs69 ?_) | apply (zs70 ?_) | (apply zg27; refine zs71 ?_) | apply (zs74 ?_) | apply (zs77 ?_) | fail)
    apply VQ_ret1; exact rfl; exact rfl
    exact ⟨by rw [decide_eq_false fun e => hll (by rw [e])], rfl⟩
  repeat' (first | apply (zs1 ?_) | apply (zs2 ?_) | (apply zg4; refine zs9 ?_) | (apply zg8; (refine zs16 ?_ ?_ <;> intro _ <;> try (exfalso; omega))) | apply (zs65 ?_) | apply (zs68 ?_) | apply (zs69 ?_) | apply (zs70 ?_) | (apply zg27; refine zs72 ?_) | apply (zs73 ?_) | apply (zs76 ?_) | fail)
  refine VC_loop1 (fun (i : Nat) => [(5, .int .i64 i), (0, .slice A l.length cap), (1, .slice A2 m.length cap2)]) (fun _ => H) (fun i => i ≤ l.length ∧ l.take i = m.take i) (fun i => l.length - i) 0 ⟨Nat.zero_le _, rfl⟩ ?_ (fun w hw => hw) ?_
  · (repeat (first | exact sub_nil _ | (apply sub_cons; first | exact rfl | exact congrArg (fun z : Int => some (Value.int .i64 z)) (by omega))))
  rintro i ⟨hi, he⟩ K hK
  by_cases hlt : i < l.length
  · obtain ⟨x, hx⟩ : ∃ x, l[i]? = some x := ⟨_, List.getElem?_eq_getElem hlt⟩
    obtain ⟨y, hy⟩ : ∃ y, m[i]? = some y := ⟨_, List.getElem?_eq_getElem (by omega)⟩
    repeat' (first | (apply VL_cneq x y; exact rfl; exact rfl; exact rfl; all_goals intro hxy) | apply (zs1 ?_) | apply (zs2 ?_) | (apply zg3; refine zs61 ?_) | (apply zg4; refine zs9 ?_) | (apply zg5; refine zs57 ?_) | (apply (zs17 ?_ ?_) <;> intro _ <;> try (exfalso; omega)) | (apply zg13; refine zs30 ?_) | apply (zs65 ?_) | apply (zs66 ?_) | apply (zs68 ?_) | apply (zs69 ?_) | apply (zs70 ?_) | (apply zg27; first | refine zs71 ?_ | refine zs72 ?_) | apply (zs73 ?_) | apply (zs74 ?_) | apply (zs76 ?_) | apply (zs77 ?_) | apply (zs78 ?_) | apply (zs79 ?_) | (apply zg28; refine zs83 ?_) | fail)
    · apply VQ_ret1; exact rfl; exact rfl
      have hne : l ≠ m := by
        rintro rfl
        rw [hx] at hy
        exact hxy (Option.some.inj hy)
      exact ⟨by rw [decide_eq_false hne], rfl⟩
    · apply hK (i + 1)
      · exact ⟨by omega, by rw [List.take_add_one, List.take_add_one, hx, hy, he, hxy]⟩
      · omega
      · (repeat (first | exact sub_nil _ | (apply sub_cons; first | exact rfl | exact congrArg (fun z : Int => some (Value.int .i64 z)) (by omega))))
      · exact fun w hw => hw
  · obtain rfl : i = l.length := by omega
    repeat' (first | apply (zs1 ?_) | apply (zs2 ?_) | (apply zg4; refine zs9 ?_) | (apply (zs17 ?_ ?_) <;> intro _ <;> try (exfalso; omega)) | apply (zs65 ?_) | apply (zs68 ?_) | apply (zs69 ?_) | apply (zs70 ?_) | (apply zg27; refine zs72 ?_) | apply (zs74 ?_) | apply (zs75 ?_) | apply (zs80 ?_) | apply (zs81 ?_) | fail)
    apply VQ_ret1; exact rfl; exact rfl
    rw [List.take_length, hll, List.take_length] at he
    exact ⟨by rw [decide_eq_true he], rfl⟩
theorem rsame_spec (s t : SchM) (hl : s.cells.length ≤ 1000000000000) (hm : t.cells.length ≤ 1000000000000) {B : Nat} {w0 : World} {H : List HP} {w : World} (hr : Rd B w0 H s.A (s.cells.flatMap celF)) (hr2 : Rd B w0 H t.A (t.cells.flatMap celF)) (hw : St B w0 H w) :
    Calls Tryz.prog 49 [s.val, t.val].toArray w (Post B w0 fun v K => v = .bool (decide (s.len = t.len ∧ s.off = t.off ∧ s.cells = t.cells)) ∧ K = H) := by
  refine Calls_of_VC Tryz.func49 Tryz.ntmps49 rfl rfl hw ?_
  repeat' (first | ((first | apply VL_calltb en107 | apply VL_callqb en107); (repeat (first | exact args_nil | (apply args_cons; exact rfl))); exact rfl; exact fun _ hw => (rsame_cells s.cells t.cells hl hm hr.cons.cons hr2.cons.cons hw); all_goals (intro hB; (try simp only [decide_eq_true_eq, decide_eq_false_iff_not] at hB); try (exfalso; omega))) | apply (zs1 ?_) | apply (zs2 ?_) | (apply zg1; first | refine zs3 ?_ | refine zs4 ?_) | (apply zg2; refine zs6 ?_) | (apply zg3; refine zs7 ?_) | (apply zg6; first | refine zs11 ?_ | refine zs12 ?_) | (apply zg7; (refine zs15 ?_ ?_ <;> intro _ <;> try (exfalso; omega))) | (apply zg23; (refine zs52 ?_; intro _)) | apply (zs65 ?_) | apply (zs68 ?_) | apply (zs69 ?_) | apply (zs70 ?_) | apply (zs74 ?_) | fail)
  all_goals (
    apply VQ_st H
    · (intro w hw; refine hw.perm ?_; focus repeat (first | with_reducible exact Perm.refl _ | (with_reducible apply perm_take; focus ((repeat (first | with_reducible exact rem_here | with_reducible apply rem_there)); done)) | with_reducible apply Perm.dropK))
    apply VQ_ret1; exact rfl; exact rfl
    first
      | exact ⟨by rw [decide_eq_true ⟨by assumption, by assumption, by assumption⟩], rfl⟩
      | exact ⟨by rw [decide_eq_false fun h => absurd h.1 (by assumption)], rfl⟩
      | exact ⟨by rw [decide_eq_false fun h => absurd h.2.1 (by assumption)], rfl⟩
      | exact ⟨by rw [decide_eq_false fun h => absurd h.2.2 (by assumption)], rfl⟩)
end Go.Proofs.YtmalhidldgfeoaaGreatDoor

/- Walks: cells searched; lists of cells copied, one struck; Remove. -/
namespace Go.Proofs.YtmalhidldgfeoaaGreatDoor
open Go.RowKit Go.Eng Go.Nw

def OutS (H : List HP) (R : Sch × Int) (v : Value) (K : List HP) : Prop := ∃ A cap, v = .tuple #[.agg #[.int .i64 R.1.len, .int .i64 R.1.off, .slice A R.1.cells.length cap], .int .i64 R.2] ∧ K = cels A cap R.1.cells :: H
theorem outS_no {H : List HP} {R : Sch × Int} {v : Value} (e : Int) (hR : R = (zeroS, e)) (hv : v = .tuple #[.agg #[.int .i64 0, .int .i64 0, .slice none 0 0], .int .i64 e]) : OutS H R v (cels none 0 [] :: H) := ⟨none, 0, by rw [hR]; exact hv, by rw [hR]; rfl⟩

set_option maxRecDepth 10000 in
set_option maxHeartbeats 1000000 in
theorem searchC_spec (l : List Cel) (c : Cel) (ho : Ord l) (hlen : l.length ≤ 1000000000) {A : Option Addr} {cap B : Nat} {w0 : World} {H : List HP} {w : World} (hr : Rd B w0 H A (l.flatMap celF)) (hw : St B w0 H w) :
    Calls Tryz.prog 61 [.slice A l.length cap, celV c, .func (.func 62) #[] #[]].toArray w (Post B w0 fun v K =>
      v = .tuple #[.int .i64 (posE l c), .bool (decide (c ∈ l))] ∧ K = H) := by
  refine Calls_of_VC Tryz.func61 Tryz.ntmps61 rfl rfl hw ?_
  (apply VC_seq; apply VC_region; apply VL_box_agg; exact rfl; exact rfl; intro g)
  repeat' (first | apply (zs1 ?_) | apply (zs2 ?_) | (apply zg4; refine zs9 ?_) | apply (zs65 ?_) | apply (zs68 ?_) | apply (zs69 ?_) | apply (zs70 ?_) | apply (zs73 ?_) | fail)
  have hr := hr.cons (X := blk g (.cells (celF c).toArray 40 (0, 0)))
  refine VC_loop2 (fun (lo hi : Nat) => [(9, .int .i64 lo), (10, .int .i64 hi), (8, .int .i64 l.length), (0, .slice A l.length cap), (2, .func (.func 62) #[] #[]), (4, .pointer (some ⟨g, 0, none⟩))]) (fun _ _ => blk g (.cells (celF c).toArray 40 (0, 0)) :: H)
    (fun lo hi => lo ≤ hi ∧ hi ≤ l.length ∧ (∀ i x, i < lo → l[i]? = some x → celLt x c = true) ∧ (∀ i x, hi ≤ i → l[i]? = some x → celLt x c = false)) (fun lo hi => hi - lo) 0 l.length ⟨by omega, by omega, fun j x hj => by omega, fun j x h1 h2 => by have := (List.getElem?_eq_some_iff.1 h2).1; omega⟩ ?_ (fun w hw => hw) ?_
  · (repeat (first | exact sub_nil _ | (apply sub_cons; first | exact rfl | exact congrArg (fun z : Int => some (Value.int .i64 z)) (by omega))))
  rintro lo hi ⟨h1, h2, h3, h4⟩ K hK
  by_cases hlt : lo < hi
  · obtain ⟨b, hb⟩ : ∃ b, l[(((lo : Int) + hi) / 2).toNat]? = some b := ⟨_, List.getElem?_eq_getElem (by omega)⟩
    have hm : (((lo : Int) + hi) / 2).toNat = (lo + hi) / 2 := by omega
    have hb2 : l[(lo + hi) / 2]? = some b := by rw [← hm]; exact hb
    repeat' (first | ((first | apply VL_callvt (cs := []) | apply VL_callvq (cs := [])); exact rfl; exact en62; (repeat (first | exact args_nil | (apply args_cons; exact rfl))); exact rfl; exact fun _ hw => (compareC_spec b c hw)) | apply (zs1 ?_) | apply (zs2 ?_) | (apply zg3; first | refine zs8 ?_ | refine zs61 ?_) | (apply zg5; refine zs57 ?_) | (apply (zs17 ?_ ?_) <;> intro _ <;> try (exfalso; omega)) | (apply zg13; refine zs30 ?_) | (apply zg18; refine zs38 ?_) | (apply zg19; first | refine zs44 ?_ | refine zs45 ?_) | apply (zs65 ?_) | apply (zs66 ?_) | apply (zs68 ?_) | apply (zs69 ?_) | apply (zs70 ?_) | (apply zg27; first | refine zs71 ?_ | refine zs72 ?_) | apply (zs73 ?_) | apply (zs76 ?_) | apply (zs79 ?_) | (apply zg28; refine zs84 ?_) | fail)
    · rename_i hc
      rw [cmp_lt] at hc
      apply hK ((lo + hi) / 2 + 1) hi
      · refine ⟨by omega, by omega, fun j x hj hx => ?_, h4⟩
        by_cases e : j = (lo + hi) / 2
        · rw [e, hb2] at hx
          injection hx with hx; subst hx; exact hc
        · exact cel_trans (ord_at ho hx hb2 (by omega)) hc
      · omega
      · (repeat (first | exact sub_nil _ | (apply sub_cons; first | exact rfl | exact congrArg (fun z : Int => some (Value.int .i64 z)) (by omega))))
      · exact fun w hw => hw
    · rename_i hc
      have hc : celLt b c = false := by
        cases h : celLt b c with
        | false => rfl
        | true => rw [← cmp_lt] at h; omega
      apply hK lo ((lo + hi) / 2)
      · refine ⟨by omega, by omega, h3, fun j x hj hx => ?_⟩
        by_cases e : j = (lo + hi) / 2
        · rw [e, hb2] at hx
          injection hx with hx; subst hx; exact hc
        · cases h : celLt x c with
          | false => rfl
          | true => rw [cel_trans (ord_at ho hb2 hx (by omega)) h] at hc; cases hc
      · omega
      · (repeat (first | exact sub_nil _ | (apply sub_cons; first | exact rfl | exact congrArg (fun z : Int => some (Value.int .i64 z)) (by omega))))
      · exact fun w hw => hw
  · obtain rfl : lo = hi := by omega
    have hp : Pos l c lo := ⟨h2, h3, h4⟩
    have hpe := hp.posE ho
    have hpm := pos_mem ho hp
    by_cases hl : lo < l.length
    · obtain ⟨b, hb⟩ : ∃ b, l[lo]? = some b := ⟨_, List.getElem?_eq_getElem hl⟩
      rw [hb] at hpm
      repeat' (first | ((first | apply VL_callvt (cs := []) | apply VL_callvq (cs := [])); exact rfl; exact en62; (repeat (first | exact args_nil | (apply args_cons; exact rfl))); exact rfl; exact fun _ hw => (compareC_spec b c hw)) | apply (zs1 ?_) | apply (zs2 ?_) | (apply zg1; refine zs4 ?_) | (apply zg3; first | refine zs8 ?_ | refine zs61 ?_) | (apply zg5; refine zs57 ?_) | (apply zg6; refine zs11 ?_) | (apply zg7; (refine zs15 ?_ ?_ <;> intro _ <;> try (exfalso; omega))) | (apply (zs17 ?_ ?_) <;> intro _ <;> try (exfalso; omega)) | apply (zs65 ?_) | apply (zs66 ?_) | apply (zs68 ?_) | apply (zs69 ?_) | apply (zs70 ?_) | (apply zg27; refine zs72 ?_) | apply (zs74 ?_) | apply (zs75 ?_) | apply (zs80 ?_) | apply (zs81 ?_) | (apply zg28; refine zs84 ?_) | fail)
      all_goals (apply VQ_tail; apply VQ_ret2; exact rfl; exact rfl; exact rfl; rw [← hpe])
      · rename_i hc
        rw [cmp_eq] at hc
        exact ⟨by rw [decide_eq_true (hpm.1 (by rw [hc]))], rfl⟩
      · rename_i hc
        rw [ne_eq, cmp_eq] at hc
        exact ⟨by rw [decide_eq_false fun h => hc (Option.some.inj (hpm.2 h))], rfl⟩
    · repeat' (first | apply (zs1 ?_) | apply (zs2 ?_) | (apply zg1; refine zs3 ?_) | (apply zg6; refine zs12 ?_) | (apply (zs17 ?_ ?_) <;> intro _ <;> try (exfalso; omega)) | apply (zs65 ?_) | apply (zs66 ?_) | apply (zs68 ?_) | apply (zs69 ?_) | apply (zs70 ?_) | (apply zg27; refine zs72 ?_) | apply (zs74 ?_) | apply (zs75 ?_) | apply (zs80 ?_) | apply (zs81 ?_) | (apply zg28; refine zs84 ?_) | fail)
      apply VQ_tail; apply VQ_ret2; exact rfl; exact rfl; exact rfl; rw [← hpe]
      rw [List.getElem?_eq_none (by omega)] at hpm
      exact ⟨by rw [decide_eq_false fun h => by cases hpm.2 h], rfl⟩

set_option maxRecDepth 10000 in
theorem cloneC_spec (l : List Cel) (hlen : l.length ≤ 1000000) {A : Option Addr} {cap B : Nat} {w0 : World} {H : List HP} {w : World} (hr : Rd B w0 H A (l.flatMap celF)) (hw : St B w0 H w) :
    Calls Tryz.prog 64 [.slice A l.length cap].toArray w (Post B w0 fun v K => ∃ A' cap', v = .slice A' l.length cap' ∧ K = cels A' cap' l :: H) := by
  cases A with
  | none =>
    have hl : l = [] := by
      cases l with
      | nil => rfl
      | cons x l =>
        obtain ⟨g, o, e, _⟩ := hr w hw 0 _ rfl
        cases e
    subst hl
    refine Calls_of_VC Tryz.func64 Tryz.ntmps64 rfl rfl hw ?_
    repeat' (first | (apply VL_sleql0; exact rfl; exact rfl; exact rfl) | apply (zs1 ?_) | apply (zs2 ?_) | apply (zs65 ?_) | apply (zs68 ?_) | apply (zs69 ?_) | apply (zs70 ?_) | (apply zg27; refine zs71 ?_) | apply (zs74 ?_) | apply (zs77 ?_) | fail)
    apply VQ_nilSlice 40 5; apply VQ_ret1; exact rfl; exact rfl; exact ⟨none, 0, rfl, rfl⟩
  | some a =>
    refine Calls_of_VC Tryz.func64 Tryz.ntmps64 rfl rfl hw ?_
    repeat' (first | (apply VL_sleql0; exact rfl; exact rfl; exact rfl) | (apply VL_buildSlice0 T; exact rfl; exact rfl; intro g2) | apply (zs1 ?_) | apply (zs2 ?_) | apply (zs65 ?_) | apply (zs68 ?_) | apply (zs69 ?_) | apply (zs70 ?_) | (apply zg27; refine zs72 ?_) | apply (zs76 ?_) | fail)
    apply VL_append_rd T (f := celF) (l2 := l) (e := 40) (size := 5) (xs := []); exact rfl; exact rfl; exact rfl; exact hr.cons; exact (fun _ => rfl); exact (fun _ => rfl); exact rfl; (intro _ _; (repeat (first | with_reducible exact Upd.here _ | with_reducible apply Upd.there))); omega; intro A' cap'
    repeat' (first | apply (zs2 ?_) | apply (zs65 ?_) | apply (zs68 ?_) | apply (zs74 ?_) | fail)
    rw [Nat.zero_add, List.nil_append]
    apply VQ_ret1; exact rfl; exact rfl; exact ⟨A', cap', rfl, rfl⟩
theorem deleteC_spec (l : List Cel) (i : Nat) (hi : i < l.length) (hlen : l.length ≤ 1000) {A : Option Addr} {cap B : Nat} {w0 : World} {H : List HP} {w : World} (hw : St B w0 (cels A cap l :: H) w) :
    Calls Tryz.prog 63 [.slice A l.length cap, .int .i64 i, .int .i64 ((i : Int) + 1)].toArray w (Post B w0 fun v K => v = .slice A (l.eraseIdx i).length cap ∧ K = cels A cap (l.eraseIdx i) :: H) := by
  refine Calls_of_VC Tryz.func63 Tryz.ntmps63 rfl rfl hw ?_
  unfold cels
  refine VC_capC (k := l.length) (cap := cap) (by (focus repeat (first | with_reducible exact List.mem_cons_self | with_reducible apply List.mem_cons_of_mem | assumption))) fun hcap => ?_
  have hel : (l.eraseIdx i).length = l.length - 1 := List.length_eraseIdx_of_lt hi
  have hfl := erase_flatC (f := celF) (q := 5) (fun _ => rfl) l i hi
  have hone := cel_one l
  repeat' (first | (apply VL_slice3 T; exact rfl; exact rfl; exact rfl; exact rfl; exact rfl; exact rfl; omega) | apply (zs1 ?_) | apply (zs2 ?_) | (apply zg4; refine zs9 ?_) | (apply zg7; (refine zs15 ?_ ?_ <;> intro _ <;> try (exfalso; omega))) | apply (zs65 ?_) | apply (zs68 ?_) | apply (zs69 ?_) | apply (zs70 ?_) | (apply zg27; refine zs72 ?_) | apply (zs76 ?_) | fail)
  apply VC_held [0, 1, 2, 3, 4, 5, 6, 7] [] [false]
  kernel_rfl
  kernel_rfl
  (repeat (first | with_reducible exact split_nil | with_reducible apply split_t | with_reducible apply split_f))
  (simp only [pickOps, nthO]; rfl)
  exact rfl
  repeat' (first | apply (zs1 ?_) | fail)
  apply VL_slice_hi_rd T (l := l) (n' := i); exact rfl; exact rfl; exact rfl; exact rfl; omega; exact hcap; omega
  rw [subA_zeroC]
  repeat' (first | apply (zs1 ?_) | fail)
  apply VL_slice_lo T (n' := l.length - (i + 1)); exact rfl; exact rfl; exact rfl; exact rfl; omega; omega
  rw [show ((i : Int) + 1).toNat = i + 1 by omega]
  repeat' (first | apply (zs87 ?_) | fail)
  apply VL_append_in T (e := 40) (size := 5) (k := l.length) (i := i) (j := i + 1) (xs := l.flatMap celF); exact rfl; exact rfl; exact rfl; exact rfl; (repeat (first | with_reducible exact Upd.here _ | with_reducible apply Upd.there)); exact hone; omega
  rw [hfl, show i + (l.length - (i + 1)) = (l.eraseIdx i).length by omega]
  repeat' (first | apply (zs1 ?_) | apply (zs2 ?_) | (apply zg4; refine zs9 ?_) | apply (zs65 ?_) | (apply VL_nilh; (repeat (first | with_reducible exact app_nil | with_reducible apply app_cons | exact app_niln _))) | apply (zs68 ?_) | apply (zs69 ?_) | apply (zs70 ?_) | (apply VQ_heldq; (repeat (first | with_reducible exact pull_nil | (with_reducible apply pull_cons; (repeat (first | with_reducible exact rem_here | with_reducible apply rem_there)))))) | apply (zs93 ?_) | apply (zs94 ?_) | fail)
  apply VL_slice_lh T (n' := 1); exact rfl; exact rfl; exact rfl; exact rfl; exact rfl; omega; omega
  rw [show (((l.eraseIdx i).length : Nat) : Int).toNat = (l.eraseIdx i).length by omega]
  apply VL_clear T T2 (e := 40) (size := 5) (k := (l.eraseIdx i).length) (xs := (l.eraseIdx i).flatMap celF); exact rfl; (focus repeat (first | with_reducible exact List.mem_cons_self | with_reducible apply List.mem_cons_of_mem | assumption)); exact rfl; exact rfl; exact rfl; omega
  repeat' (first | apply (zs1 ?_) | apply (zs2 ?_) | apply (zs65 ?_) | apply (zs68 ?_) | apply (zs69 ?_) | apply (zs70 ?_) | apply (zs74 ?_) | fail)
  apply VQ_ret1; exact rfl; exact rfl; exact ⟨rfl, rfl⟩
theorem del_erase (l : List Cel) (c : Cel) : delC l c = l.eraseIdx (posE l c) := (List.eraseIdx_eq_take_drop_succ l (posE l c)).symm
set_option maxRecDepth 10000 in
set_option maxHeartbeats 1000000 in
theorem remove_spec (s : SchM) (c : Cel) {B : Nat} {w0 : World} {H : List HP} {w : World} (hr : Rd B w0 H s.A (s.cells.flatMap celF)) (hl : s.cells.length ≤ 1000000000000) (hw : St B w0 H w) :
    Calls Tryz.prog 16 [s.val, celV c].toArray w (Post B w0 (OutS H (remE s.sch c))) := by
  refine Calls_of_VC Tryz.func16 Tryz.ntmps16 rfl rfl hw ?_
  have e1 : s.sch.cells = s.cells := rfl
  cases hf : formE s.sch with
  | false =>
    repeat' (first | ((first | apply VL_callt en58 | apply VL_callq en58); (repeat (first | exact args_nil | (apply args_cons; exact rfl))); exact rfl; exact fun _ hw => (calls_val (congrArg Value.bool hf) (fun _ hw => form_spec s hr.cons.cons.cons hl hw) hw)) | apply (zs2 ?_) | (apply zg3; refine zs8 ?_) | (apply zg20; refine zs48 ?_) | (apply zg22; refine zs51 ?_) | (apply zg23; (refine zs52 ?_; intro _)) | (apply zg24; (refine zs54 ?_; intro _)) | (apply zg25; refine zs55 ?_) | apply (zs65 ?_) | apply (zs68 ?_) | apply (zs69 ?_) | apply (zs70 ?_) | (apply zg27; refine zs71 ?_) | apply (zs74 ?_) | apply (zs77 ?_) | fail)
    apply VQ_retc2 T (H2 := cels none 0 [] :: H); exact rfl; exact rfl; exact rfl; (focus repeat (first | with_reducible exact List.mem_cons_self | with_reducible apply List.mem_cons_of_mem | assumption)); exact rfl; exact rfl; (intro w hw; refine St.nilSlice (H := H) ?_ _ _; revert w; (intro w hw; refine hw.perm ?_; focus repeat (first | with_reducible exact Perm.refl _ | (with_reducible apply perm_take; focus ((repeat (first | with_reducible exact rem_here | with_reducible apply rem_there)); done)) | with_reducible apply Perm.dropK)))
    exact outS_no 1 (by rw [remE, if_pos hf]) rfl
  | true =>
    have hfr := form_iff.1 hf
    have hle : s.cells.length ≤ 512 := hfr.few
    have ho : Ord s.cells := hfr.ord
    by_cases hm : c ∈ s.cells
    · have hpl : posE s.cells c < s.cells.length := by
        have := (List.getElem?_eq_some_iff.1 ((pos_mem ho (pos_pos ho c)).2 hm)).1
        exact this
      have hel := List.length_eraseIdx_of_lt hpl
      repeat' (first | ((first | apply VL_callt en58 | apply VL_callq en58); (repeat (first | exact args_nil | (apply args_cons; exact rfl))); exact rfl; exact fun _ hw => (calls_val (congrArg Value.bool hf) (fun _ hw => form_spec s hr.cons.cons.cons hl hw) hw)) | apply (zs2 ?_) | (apply zg2; refine zs6 ?_) | (apply zg3; first | refine zs7 ?_ | refine zs8 ?_) | (apply zg20; refine zs47 ?_) | (apply zg23; (refine zs52 ?_; intro _)) | (apply zg24; (refine zs54 ?_; intro _)) | apply (zs65 ?_) | apply (zs68 ?_) | apply (zs69 ?_) | apply (zs70 ?_) | (apply zg27; refine zs72 ?_) | apply (zs76 ?_) | fail)
      first | apply VL_callt en61 | apply VL_callq en61
      (repeat (first | exact args_nil | (apply args_cons; exact rfl)))
      exact rfl
      exact fun _ hw => (searchC_spec s.cells c ho (by omega) hr.cons.cons.cons hw)
      rw [decide_eq_true hm]
      repeat' (first | apply (zs1 ?_) | apply (zs2 ?_) | (apply zg2; refine zs6 ?_) | (apply zg3; refine zs7 ?_) | apply (zs13 ?_) | (apply zg20; refine zs47 ?_) | apply (zs65 ?_) | apply (zs68 ?_) | apply (zs69 ?_) | apply (zs70 ?_) | (apply zg27; refine zs72 ?_) | apply (zs76 ?_) | fail)
      apply VL_call _ en64
      (repeat (first | exact args_nil | (apply args_cons; exact rfl)))
      exact rfl
      exact fun _ hw => (cloneC_spec s.cells (by omega) hr.cons.cons.cons (hw))
      rintro _ _ ⟨A1, cap1, rfl, rfl⟩
      repeat' (first | apply (zs1 ?_) | (apply zg13; refine zs30 ?_) | fail)
      apply VL_call _ en63
      (repeat (first | exact args_nil | (apply args_cons; exact rfl)))
      exact rfl
      exact fun _ hw => (deleteC_spec s.cells _ hpl (by omega) (hw))
      rintro _ _ ⟨rfl, rfl⟩
      repeat' (first | apply (zs2 ?_) | (apply zg2; refine zs6 ?_) | (apply zg3; refine zs8 ?_) | (apply zg22; first | refine zs50 ?_ | refine zs51 ?_) | apply (zs65 ?_) | apply (zs68 ?_) | apply (zs69 ?_) | apply (zs70 ?_) | apply (zs74 ?_) | fail)
      apply VQ_retc2 T (H2 := cels A1 cap1 (s.cells.eraseIdx (posE s.cells c)) :: H); exact rfl; exact rfl; exact rfl; (focus repeat (first | with_reducible exact List.mem_cons_self | with_reducible apply List.mem_cons_of_mem | assumption)); exact rfl; exact rfl; (intro w hw; refine hw.perm ?_; focus repeat (first | with_reducible exact Perm.refl _ | (with_reducible apply perm_take; focus ((repeat (first | with_reducible exact rem_here | with_reducible apply rem_there)); done)) | with_reducible apply Perm.dropK))
      refine ⟨A1, cap1, ?_, ?_⟩
      · rw [remE, if_neg (by simp [hf]), if_pos (show c ∈ s.sch.cells from hm), del_erase]; rfl
      · rw [remE, if_neg (by simp [hf]), if_pos (show c ∈ s.sch.cells from hm), del_erase]; rfl
    · skip
      repeat' (first | ((first | apply VL_callt en58 | apply VL_callq en58); (repeat (first | exact args_nil | (apply args_cons; exact rfl))); exact rfl; exact fun _ hw => (calls_val (congrArg Value.bool hf) (fun _ hw => form_spec s hr.cons.cons.cons hl hw) hw)) | apply (zs2 ?_) | (apply zg2; refine zs6 ?_) | (apply zg3; first | refine zs7 ?_ | refine zs8 ?_) | (apply zg20; refine zs47 ?_) | (apply zg23; (refine zs52 ?_; intro _)) | (apply zg24; (refine zs54 ?_; intro _)) | apply (zs65 ?_) | apply (zs68 ?_) | apply (zs69 ?_) | apply (zs70 ?_) | (apply zg27; refine zs72 ?_) | apply (zs76 ?_) | fail)
      first | apply VL_callt en61 | apply VL_callq en61
      (repeat (first | exact args_nil | (apply args_cons; exact rfl)))
      exact rfl
      exact fun _ hw => (searchC_spec s.cells c ho (by omega) hr.cons.cons.cons hw)
      rw [decide_eq_false hm]
      repeat' (first | apply (zs1 ?_) | apply (zs2 ?_) | apply (zs13 ?_) | (apply zg20; refine zs48 ?_) | (apply zg22; refine zs51 ?_) | (apply zg25; refine zs55 ?_) | apply (zs65 ?_) | apply (zs68 ?_) | apply (zs69 ?_) | apply (zs70 ?_) | (apply zg27; refine zs71 ?_) | apply (zs74 ?_) | apply (zs77 ?_) | fail)
      apply VQ_retc2 T (H2 := cels none 0 [] :: H); exact rfl; exact rfl; exact rfl; (focus repeat (first | with_reducible exact List.mem_cons_self | with_reducible apply List.mem_cons_of_mem | assumption)); exact rfl; exact rfl; (intro w hw; refine St.nilSlice (H := H) ?_ _ _; revert w; (intro w hw; refine hw.perm ?_; focus repeat (first | with_reducible exact Perm.refl _ | (with_reducible apply perm_take; focus ((repeat (first | with_reducible exact rem_here | with_reducible apply rem_there)); done)) | with_reducible apply Perm.dropK)))
      exact outS_no 7 (by rw [remE, if_neg (by simp [hf])]; exact if_neg hm) rfl
end Go.Proofs.YtmalhidldgfeoaaGreatDoor

/- An engine for walks, part 26: a string's bytes appended; pointers seen as plain addresses. -/
namespace Go.Eng
open Go.RowKit
theorem append_str_at {P : Program} (w : World) (t u ty e : TypeId) (i : TypeInfo) (ht : P.underlying t = some (.slice e)) (hu : P.underlying u = some .string) (hi : P.info? e = some i) (hz : i.zero = some (.int .u8 0))
    (hsize : i.size = 1) (hby : i.bytes = 1) (v : Value) (n : Nat) (xs : List Value) (hown : w.ownsRow 0 e 1 v n xs) (s : ByteArray) (hb : n + s.size ≤ 1000000000) :
    ∃ v' w', (Builtin.append_ #[t, u] ty #[v, .string s]).run P w = .ok v' w' ∧ w'.ownsRow 0 e 1 v' (n + s.size) (xs ++ Lib.strCells s) ∧ w.grownBy w' v.ownBlock ∧ ∀ b, v'.ownBlock = some b → v.ownBlock = some b ∨ w.heap.size ≤ b := by
  have hm : n + s.size ≤ maxLen := by simp only [maxLen]; omega
  obtain ⟨v', w', h1, h2, h3, _⟩ := Lib.run_append_own_string (P := P) w 0 t u ty e i ht hu hi hz hsize hby v n xs hown s hm (by omega) (Nat.zero_le _)
  refine ⟨v', w', h1, h2, h3, fun b hbb => ?_⟩
  rcases hown.2 with ⟨rfl, rfl⟩ | ⟨g, cap, cur, rfl, hbg, hg, hnc, hcm, hcs, htake⟩
  · right
    obtain ⟨v2, w2, k1, k2, _⟩ := Lib.run_append_own_string (P := P) w w.heap.size t u ty e i ht hu hi hz hsize hby (.slice none 0 0) 0 xs ⟨hown.1, .inl ⟨rfl, rfl⟩⟩ s hm (by omega) (Nat.le_refl _)
    rw [h1] at k1
    obtain ⟨rfl, rfl⟩ : v' = v2 ∧ w' = w2 := by simpa using k1
    rcases k2.2 with ⟨e1, _⟩ | ⟨g', _, _, e1, e2, _⟩
    · rw [e1] at hbb; cases hbb
    · rw [e1] at hbb
      simp only [Value.ownBlock, Option.some.injEq] at hbb
      omega
  · have hcs' : cur.size = cap := by simpa using hcs
    have hxl : xs.length = n := by simpa using hown.1
    by_cases hroom : n + s.size ≤ cap
    · have k1 := Lib.run_append_room_string (P := P) w t u ty e i ht hu hi hsize g n cap cur hg s hroom (by omega)
      rw [h1] at k1
      obtain ⟨rfl, _⟩ := (Result.ok.injEq _ _ _ _).mp k1
      exact .inl hbb
    · have holds : ∀ j u, xs[j]? = some u → w.cell? ((⟨g, 0, none⟩ : Addr).add j) = some u := hown.cells (g := g) rfl
      have k1 := Lib.run_append_grow_string (P := P) w t u ty e i (.int .u8 0) ht hu hi hz ⟨g, 0, none⟩ n cap xs (by rw [hsize]; simpa using hxl) holds s (by omega) (by omega) (by rw [hby]; exact growslice_fits (by omega) (by omega))
      rw [h1] at k1
      obtain ⟨rfl, _⟩ := (Result.ok.injEq _ _ _ _).mp k1
      right
      simp only [Value.ownBlock, Option.some.injEq] at hbb
      omega
section
variable {P : Program} {m : Mode} {n : Shp} {B d : Nat} {w0 : World} {ops : Array Oper} {Q : Exit → Act → World → Prop} {rest : List Oper} {env : Env} {H : List HP} {ty : TypeId} {pos : String} {after : Array Edge} {x y : Operand}
def byteInfo (P : Program) (e : TypeId) : Bool := match P.info? e with | some i => (match i.zero with | some (.int .u8 0) => true | _ => false) && i.size == 1 && i.bytes == 1 | none => false
theorem byteInfo_spec {e : TypeId} (h : byteInfo P e = true) : ∃ i, P.info? e = some i ∧ i.zero = some (.int .u8 0) ∧ i.size = 1 ∧ i.bytes = 1 := by
  unfold byteInfo at h
  split at h
  · rename_i i hi
    simp only [Bool.and_eq_true, beq_iff_eq] at h
    refine ⟨i, hi, ?_, h.1.2, h.2⟩
    have h1 := h.1.1
    split at h1
    · assumption
    · cases h1
  · cases h
/-- append(x, s...): a string's bytes behind a row of one's own. -/
theorem VL_appendStr (T : Tab P) {t tt k cap e bytes : Nat} {A : Option Addr} {s : ByteArray} {xs : List Value} {K : Option Addr → Nat → List HP} (hx : evo env x = some (.slice A k cap)) (hy : evo env y = some (.string s)) (ht : look T.sl t = some (e, 1, bytes)) (hbi : byteInfo P e = true) (htt : look T.st tt = some ())
    (hn : Nat.ble (d + 1) n.k = true) (hu : ∀ A' cap', Upd (sl e 1 A k cap xs) (sl e 1 A' (k + s.size) cap' (xs ++ Lib.strCells s)) H (K A' cap')) (hb : k + s.size ≤ 1000000000)
    (h : ∀ A' cap', VL P none n B w0 ops Q rest ((d, .slice A' (k + s.size) cap') :: env) (K A' cap')) :
    VL P none n B w0 ops Q (⟨some d, .call ⟨.builtin .append, #[x, y], #[t, tt]⟩, ty, pos, after, none⟩ :: rest) env H := by
  obtain ⟨hut, _⟩ := sliceT_spec (T.slic ht)
  obtain ⟨i, hi, hz, hs1, hb1⟩ := byteInfo_spec hbi
  have hst : P.underlying tt = some .string := T.strs htt
  refine VL_opE (fun v K' => ∃ A' cap', v = .slice A' (k + s.size) cap' ∧ K' = K A' cap') rfl rfl hn (fun a w ha hw => ?_) (by rintro _ _ ⟨A', cap', rfl, rfl⟩; exact h A' cap')
  have hmem : sl e 1 A k cap xs ∈ H := by
    obtain ⟨L1, L2, rfl, _⟩ := hu none 0
    simp
  have hown := hw.sl hmem
  obtain ⟨v', w', hrun, hown', hgrow, hat⟩ := append_str_at (P := P) w t tt ty e i hut hst hi hz hs1 hb1 (.slice A k cap) k xs hown s hb
  have hshape : ∃ A' cap', v' = .slice A' (k + s.size) cap' := by
    rcases hown'.2 with ⟨e1, e2⟩ | ⟨g', c', _, e1, _⟩
    · exact ⟨none, 0, by rw [e1, e2]⟩
    · exact ⟨_, _, e1⟩
  obtain ⟨A', cap', rfl⟩ := hshape
  refine ⟨_, K A' cap', w', by simp [execOp, resolve, invoke, builtin, ha.eval hx, ha.eval hy, hrun], ?_, A', cap', rfl, rfl⟩
  refine hw.updN (hu A' cap') hgrow.os hgrow.tape hgrow.output hgrow.size fun S1 ⟨_, hS⟩ => ⟨⟨fun b => Value.ownBlock (.slice A' (k + s.size) cap') = some b, ⟨hown', ?_⟩, fun b hb => ?_⟩, fun b hb hlt => hgrow.block b hlt (fun e => hb ?_)⟩
  · rintro a rfl; rfl
  · rcases hat b hb with e | e
    · cases A with
      | none => cases e
      | some a => left; simp only [Value.ownBlock, Option.some.injEq] at e; rw [← e]; exact hS a rfl
    · right
      refine ⟨e, ?_⟩
      rcases hown'.2 with ⟨e1, _⟩ | ⟨g', _, _, e1, _, e3, _⟩
      · rw [e1] at hb; cases hb
      · rw [e1] at hb
        simp only [Value.ownBlock, Option.some.injEq] at hb
        subst hb
        exact (Array.getElem?_eq_some_iff.1 e3).1
  · cases A with
    | none => cases e
    | some a => simp only [Value.ownBlock, Option.some.injEq] at e; rw [e]; exact hS a rfl
end
end Go.Eng

/- Walks: slices.DeleteFunc of cells; only, Differ. -/
namespace Go.Proofs.YtmalhidldgfeoaaGreatDoor
open Go.RowKit Go.Eng Go.Nw

theorem indexFuncC (p : Cel → Bool) (l : List Cel) (f : Nat) (cs : List Value) (hen : ∀ xs w, (callFunc f xs).run Tryz.prog w = .ok (.enter f xs) w) (hlen : l.length ≤ 1000) {A : Option Addr} {cap B : Nat} {w0 : World} {H : List HP} {w : World} (hr : Rd B w0 H A (l.flatMap celF))
    (hp : ∀ a ∈ l, ∀ w, St B w0 H w → Calls Tryz.prog f ([celV a] ++ cs).toArray w (Post B w0 fun v K => v = .bool (p a) ∧ K = H)) (hw : St B w0 H w) :
    Calls Tryz.prog 229 [.slice A l.length cap, .func (.func f) #[] cs.toArray].toArray w (Post B w0 fun v K => v = .int .i64 (idxFrom p l 0) ∧ K = H) := by
  refine Calls_of_VC Tryz.func229 Tryz.ntmps229 rfl rfl hw ?_
  repeat' (first | apply (zs1 ?_) | apply (zs2 ?_) | (apply zg4; refine zs9 ?_) | apply (zs65 ?_) | apply (zs68 ?_) | apply (zs69 ?_) | apply (zs70 ?_) | apply (zs73 ?_) | fail)
  refine VC_loop1 (fun (k : Nat) => [(8, .int .i64 k), (7, .int .i64 l.length), (0, .slice A l.length cap), (1, .func (.func f) #[] cs.toArray)]) (fun _ => H) (fun k => k ≤ l.length ∧ idxFrom p l 0 = idxFrom p (l.drop k) k) (fun k => l.length - k) 0 ⟨Nat.zero_le _, by simp⟩ ?_ (fun w hw => hw) ?_
  · (repeat (first | exact sub_nil _ | (apply sub_cons; first | exact rfl | exact congrArg (fun z : Int => some (Value.int .i64 z)) (by omega))))
  rintro k ⟨hk, hi⟩ K hK
  by_cases hlt : k < l.length
  · obtain ⟨a, ha⟩ : ∃ a, l[k]? = some a := ⟨_, List.getElem?_eq_getElem hlt⟩
    have hpa := hp a (List.mem_of_getElem? ha)
    rw [idx_drop p l ha] at hi
    repeat' (first | ((first | apply VL_callvt (cs := cs)); exact rfl; exact hen; (repeat (first | exact args_nil | (apply args_cons; exact rfl))); exact rfl; exact fun _ hw => hpa _ hw) | apply (zs1 ?_) | apply (zs2 ?_) | (apply zg3; refine zs61 ?_) | (apply zg5; refine zs57 ?_) | (apply (zs17 ?_ ?_) <;> intro _ <;> try (exfalso; omega)) | apply (zs65 ?_) | apply (zs68 ?_) | apply (zs69 ?_) | apply (zs70 ?_) | (apply zg27; refine zs71 ?_) | apply (zs73 ?_) | apply (zs76 ?_) | fail)
    cases hpv : p a
    · rw [hpv] at hi
      repeat' (first | apply (zs1 ?_) | (apply zg13; refine zs30 ?_) | apply (zs65 ?_) | apply (zs68 ?_) | apply (zs70 ?_) | (apply zg27; refine zs72 ?_) | apply (zs76 ?_) | apply (zs79 ?_) | fail)
      apply hK (k + 1)
      · exact ⟨by omega, hi⟩
      · omega
      · (repeat (first | exact sub_nil _ | (apply sub_cons; first | exact rfl | exact congrArg (fun z : Int => some (Value.int .i64 z)) (by omega))))
      · exact fun w hw => hw
    · rw [hpv] at hi
      repeat' (first | apply (zs1 ?_) | apply (zs2 ?_) | apply (zs65 ?_) | apply (zs68 ?_) | apply (zs69 ?_) | apply (zs70 ?_) | (apply zg27; refine zs71 ?_) | apply (zs74 ?_) | apply (zs77 ?_) | apply (zs78 ?_) | fail)
      apply VQ_ret1; exact rfl; exact rfl
      exact ⟨by rw [hi]; rfl, rfl⟩
  · repeat' (first | apply (zs2 ?_) | (apply (zs17 ?_ ?_) <;> intro _ <;> try (exfalso; omega)) | apply (zs65 ?_) | apply (zs68 ?_) | apply (zs69 ?_) | apply (zs70 ?_) | (apply zg27; refine zs72 ?_) | apply (zs74 ?_) | apply (zs75 ?_) | apply (zs80 ?_) | apply (zs81 ?_) | fail)
    apply VQ_ret1; exact rfl; exact rfl
    rw [hi, List.drop_eq_nil_of_le (by omega)]
    exact ⟨rfl, rfl⟩

end Go.Proofs.YtmalhidldgfeoaaGreatDoor

/-
  DERIVED: THE SHELF's CONTRACTS AT THIS DUMP, IN PLAIN WORDS (tools/lay-plain.mjs out of 'TryzShelf.lean', which tools/lay-shelf.mjs wrote): THE SAME DECLARATIONS UNDER THE SAME NAMES: 'import', 'namespace', 'open', 'def', 'theorem' AND NOTHING ELSE: no command of the shelf's: FOR A HAND-IN. Each laying: the table of numbers ('.._ren') and one theorem, a field a fact of the dump's own or the kernel's comparison; each contract: ONE APPLICATION.
-/
namespace Go.Proofs
open Go.Shelf
def Tryz.lays169_ren : Go.Shelf.Ren := ⟨fun | 169 => 78 | n => n, fun | 70 => 129 | 9 => 9 | 0 => 0 | 72 => 132 | 37 => 130 | 127 => 207 | 3 => 3 | 5 => 5 | n => n, fun | n => n⟩
theorem Tryz.lays169 : Go.Proofs.Lays.n169 Tryz.prog Tryz.lays169_ren := {
  mixed := by kernel_rfl
  f169 := Tryz.func78.trans (congrArg some (by kernel_rfl))
  t0 := Tryz.underlying0
  a0 := Tryz.isAgg0
  z0 := Tryz.sizeOf0
  v0 := Tryz.zeroValue0
  t3 := Tryz.underlying3
  a3 := Tryz.isAgg3
  z3 := Tryz.sizeOf3
  v3 := Tryz.zeroValue3
  t9 := Tryz.underlying9
  a9 := Tryz.isAgg9
  z9 := Tryz.sizeOf9
  v9 := Tryz.zeroValue9
  t37 := Tryz.underlying130
  a37 := Tryz.isAgg130
  z37 := Tryz.sizeOf130
  v37 := Tryz.zeroValue130
  t70 := Tryz.underlying129
  a70 := Tryz.isAgg129
  z70 := Tryz.sizeOf129
  v70 := Tryz.zeroValue129
  t72 := Tryz.underlying132
  a72 := Tryz.isAgg132
  z72 := Tryz.sizeOf132
  v72 := Tryz.zeroValue132
  t127 := Tryz.underlying207
  a127 := Tryz.isAgg207
  z127 := Tryz.sizeOf207
  v127 := Tryz.zeroValue207 }
theorem Tryz.Builder_Extra_169 : Builder.Extra Tryz.prog Tryz.lays169_ren := {
  sizeBuilder := by kernel_rfl
  liesBuilder := by kernel_rfl
  t5 := Tryz.underlying5
  a5 := Tryz.isAgg5
  z5 := Tryz.sizeOf5
  v5 := Tryz.zeroValue5
  infoByte := by kernel_rfl
  cellsByte := by kernel_rfl
  sizeByte := by kernel_rfl
  neB5 := by decide }
open Go.RowKit in
/-- (*strings.Builder).String: "String returns the accumulated string.": WHATEVER THE BUILDER HOLDS. (LAID: no walk: one application.) -/
theorem Tryz.Builder_String_any (B b : Nat) (l : List UInt8) (w : World) (h : Lib.IsBuilder 132 5 B b (Lib.byteCells l) w) (hBw : B ≤ w.heap.size) :
    Calls Tryz.prog 78 #[.pointer (some ⟨b, 0, none⟩)] w fun e w' => e = .returned (.string ⟨l.toArray⟩) ∧ Below B w w' := Any.Builder_String_any Tryz.lays169 Tryz.Builder_Extra_169 B b l w h hBw
def Tryz.laysM171_ren : Go.Shelf.Ren := ⟨fun | 171 => 137 | 243 => 197 | 246 => 239 | 283 => 275 | 284 => 276 | 285 => 277 | 286 => 278 | 129 => 224 | 317 => 295 | 318 => 296 | 319 => 297 | 320 => 298 | 337 => 304 | 338 => 305 | n => n, fun | 3 => 3 | 9 => 9 | 2 => 2 | 4 => 4 | 171 => 315 | 0 => 0 | 53 => 277 | 37 => 130 | 5 => 5 | 173 => 317 | 212 => 334 | 51 => 275 | 20 => 20 | 213 => 335 | 46 => 197 | 232 => 347 | 233 => 348 | n => n, fun | 17 => 3 | 18 => 6 | 19 => 7 | n => n⟩
theorem Tryz.laysM171 : Go.Proofs.LaysM.n171 Tryz.prog Tryz.laysM171_ren := {
  mixed := by kernel_rfl
  f129 := Tryz.func224.trans (congrArg some (by kernel_rfl))
  f171 := Tryz.func137.trans (congrArg some (by kernel_rfl))
  f243 := Tryz.func197.trans (congrArg some (by kernel_rfl))
  f246 := Tryz.func239.trans (congrArg some (by kernel_rfl))
  f283 := Tryz.func275.trans (congrArg some (by kernel_rfl))
  f284 := Tryz.func276.trans (congrArg some (by kernel_rfl))
  f285 := Tryz.func277.trans (congrArg some (by kernel_rfl))
  f286 := Tryz.func278.trans (congrArg some (by kernel_rfl))
  f317 := Tryz.func295.trans (congrArg some (by kernel_rfl))
  f318 := Tryz.func296.trans (congrArg some (by kernel_rfl))
  f319 := Tryz.func297.trans (congrArg some (by kernel_rfl))
  f320 := Tryz.func298.trans (congrArg some (by kernel_rfl))
  f337 := Tryz.func304.trans (congrArg some (by kernel_rfl))
  f338 := Tryz.func305.trans (congrArg some (by kernel_rfl))
  t0 := Tryz.underlying0
  a0 := Tryz.isAgg0
  z0 := Tryz.sizeOf0
  v0 := Tryz.zeroValue0
  t2 := Tryz.underlying2
  a2 := Tryz.isAgg2
  z2 := Tryz.sizeOf2
  v2 := Tryz.zeroValue2
  t3 := Tryz.underlying3
  a3 := Tryz.isAgg3
  z3 := Tryz.sizeOf3
  v3 := Tryz.zeroValue3
  t4 := Tryz.underlying4
  a4 := Tryz.isAgg4
  z4 := Tryz.sizeOf4
  v4 := Tryz.zeroValue4
  t5 := Tryz.underlying5
  a5 := Tryz.isAgg5
  z5 := Tryz.sizeOf5
  v5 := Tryz.zeroValue5
  t9 := Tryz.underlying9
  a9 := Tryz.isAgg9
  z9 := Tryz.sizeOf9
  v9 := Tryz.zeroValue9
  t20 := Tryz.underlying20
  a20 := Tryz.isAgg20
  z20 := Tryz.sizeOf20
  v20 := Tryz.zeroValue20
  t37 := Tryz.underlying130
  a37 := Tryz.isAgg130
  z37 := Tryz.sizeOf130
  v37 := Tryz.zeroValue130
  t46 := Tryz.underlying197
  a46 := Tryz.isAgg197
  z46 := Tryz.sizeOf197
  v46 := Tryz.zeroValue197
  t51 := Tryz.underlying275
  a51 := Tryz.isAgg275
  z51 := Tryz.sizeOf275
  v51 := Tryz.zeroValue275
  t53 := Tryz.underlying277
  a53 := Tryz.isAgg277
  z53 := Tryz.sizeOf277
  v53 := Tryz.zeroValue277
  t171 := Tryz.underlying315
  a171 := Tryz.isAgg315
  z171 := Tryz.sizeOf315
  v171 := Tryz.zeroValue315
  t173 := Tryz.underlying317
  a173 := Tryz.isAgg317
  z173 := Tryz.sizeOf317
  v173 := Tryz.zeroValue317
  t212 := Tryz.underlying334
  a212 := Tryz.isAgg334
  z212 := Tryz.sizeOf334
  v212 := Tryz.zeroValue334
  t213 := Tryz.underlying335
  a213 := Tryz.isAgg335
  z213 := Tryz.sizeOf335
  t232 := Tryz.underlying347
  a232 := Tryz.isAgg347
  z232 := Tryz.sizeOf347
  v232 := Tryz.zeroValue347
  t233 := Tryz.underlying348
  a233 := Tryz.isAgg348
  z233 := Tryz.sizeOf348
  v233 := Tryz.zeroValue348
  g17 := by kernel_rfl
  g18 := by kernel_rfl
  g19 := by kernel_rfl
  i0 := by kernel_rfl
  i2 := by kernel_rfl
  i3 := by kernel_rfl
  i4 := by kernel_rfl
  i5 := by kernel_rfl
  i9 := by kernel_rfl
  i20 := by kernel_rfl
  i37 := by kernel_rfl
  i46 := by kernel_rfl
  i51 := by kernel_rfl
  i53 := by kernel_rfl
  i171 := by kernel_rfl
  i173 := by kernel_rfl
  i212 := by kernel_rfl
  i232 := by kernel_rfl
  i233 := by kernel_rfl
  m17 := by kernel_rfl
  m18 := by kernel_rfl
  m19 := by kernel_rfl }
open Go.RowKit Go.Sort Go.Lib in
/-- strconv.Itoa: "Itoa is equivalent to FormatInt(int64(i), 10).": i's DECIMAL NUMERAL ('Lib.itoa': a '-' where i is negative, then the digits), FOR EVERY int. The world behind the call: the world before it, new blocks behind the heap (the library's 'var a [24]byte'), draws. (LAID: no walk: one application.) -/
theorem Tryz.strconv_Itoa (n : Int) (h0 : -9223372036854775808 ≤ n) (h1 : n ≤ 9223372036854775807) (w : World) (htab : Lib.TabIs Tryz.prog w "internal/strconv.uint64pow10" .u64 Lib.pow10Tab) :
    Calls Tryz.prog 137 #[.int .i64 n] w fun e w' => e = .returned (.string ⟨(Lib.itoa n).toArray⟩) ∧ ∃ k os, w' = grow (w.drewN k) os := Any.strconv_Itoa Tryz.laysM171 n h0 h1 w htab
def Tryz.laysC172_ren : Go.Shelf.Ren := ⟨fun | 172 => 159 | 244 => 225 | 245 => 226 | 247 => 266 | 279 => 267 | 280 => 268 | 281 => 269 | 282 => 270 | 287 => 292 | 316 => 293 | 171 => 137 | 205 => 294 | 321 => 302 | 322 => 303 | 243 => 197 | 246 => 239 | 283 => 275 | 284 => 276 | 285 => 277 | 286 => 278 | 129 => 224 | 317 => 295 | 318 => 296 | 319 => 297 | 320 => 298 | 337 => 304 | 338 => 305 | n => n, fun | 9 => 9 | 3 => 3 | 75 => 134 | 76 => 135 | 4 => 4 | 5 => 5 | 167 => 308 | 37 => 130 | 0 => 0 | 85 => 309 | 2 => 2 | 168 => 311 | 53 => 277 | 175 => 327 | 46 => 197 | 210 => 331 | 127 => 207 | 145 => 346 | 143 => 344 | 21 => 21 | 171 => 315 | 173 => 317 | 212 => 334 | 51 => 275 | 20 => 20 | 213 => 335 | 232 => 347 | 233 => 348 | 80 => 138 | n => n, fun | 15 => 1 | 16 => 2 | 17 => 3 | 18 => 6 | 19 => 7 | n => n⟩
theorem Tryz.laysC172 : Go.Proofs.LaysC.n172 Tryz.prog Tryz.laysC172_ren := {
  mixed := by kernel_rfl
  f129 := Tryz.func224.trans (congrArg some (by kernel_rfl))
  f171 := Tryz.func137.trans (congrArg some (by kernel_rfl))
  f172 := Tryz.func159.trans (congrArg some (by kernel_rfl))
  f205 := Tryz.func294.trans (congrArg some (by kernel_rfl))
  f243 := Tryz.func197.trans (congrArg some (by kernel_rfl))
  f244 := Tryz.func225.trans (congrArg some (by kernel_rfl))
  f245 := Tryz.func226.trans (congrArg some (by kernel_rfl))
  f246 := Tryz.func239.trans (congrArg some (by kernel_rfl))
  f247 := Tryz.func266.trans (congrArg some (by kernel_rfl))
  f279 := Tryz.func267.trans (congrArg some (by kernel_rfl))
  f280 := Tryz.func268.trans (congrArg some (by kernel_rfl))
  f281 := Tryz.func269.trans (congrArg some (by kernel_rfl))
  f282 := Tryz.func270.trans (congrArg some (by kernel_rfl))
  f283 := Tryz.func275.trans (congrArg some (by kernel_rfl))
  f284 := Tryz.func276.trans (congrArg some (by kernel_rfl))
  f285 := Tryz.func277.trans (congrArg some (by kernel_rfl))
  f286 := Tryz.func278.trans (congrArg some (by kernel_rfl))
  f287 := Tryz.func292.trans (congrArg some (by kernel_rfl))
  f316 := Tryz.func293.trans (congrArg some (by kernel_rfl))
  f317 := Tryz.func295.trans (congrArg some (by kernel_rfl))
  f318 := Tryz.func296.trans (congrArg some (by kernel_rfl))
  f319 := Tryz.func297.trans (congrArg some (by kernel_rfl))
  f320 := Tryz.func298.trans (congrArg some (by kernel_rfl))
  f321 := Tryz.func302.trans (congrArg some (by kernel_rfl))
  f322 := Tryz.func303.trans (congrArg some (by kernel_rfl))
  f337 := Tryz.func304.trans (congrArg some (by kernel_rfl))
  f338 := Tryz.func305.trans (congrArg some (by kernel_rfl))
  t0 := Tryz.underlying0
  a0 := Tryz.isAgg0
  z0 := Tryz.sizeOf0
  v0 := Tryz.zeroValue0
  t2 := Tryz.underlying2
  a2 := Tryz.isAgg2
  z2 := Tryz.sizeOf2
  v2 := Tryz.zeroValue2
  t3 := Tryz.underlying3
  a3 := Tryz.isAgg3
  z3 := Tryz.sizeOf3
  v3 := Tryz.zeroValue3
  t4 := Tryz.underlying4
  a4 := Tryz.isAgg4
  z4 := Tryz.sizeOf4
  v4 := Tryz.zeroValue4
  t5 := Tryz.underlying5
  a5 := Tryz.isAgg5
  z5 := Tryz.sizeOf5
  v5 := Tryz.zeroValue5
  t9 := Tryz.underlying9
  a9 := Tryz.isAgg9
  z9 := Tryz.sizeOf9
  v9 := Tryz.zeroValue9
  t20 := Tryz.underlying20
  a20 := Tryz.isAgg20
  z20 := Tryz.sizeOf20
  v20 := Tryz.zeroValue20
  t21 := Tryz.underlying21
  a21 := Tryz.isAgg21
  z21 := Tryz.sizeOf21
  v21 := Tryz.zeroValue21
  t37 := Tryz.underlying130
  a37 := Tryz.isAgg130
  z37 := Tryz.sizeOf130
  v37 := Tryz.zeroValue130
  t46 := Tryz.underlying197
  a46 := Tryz.isAgg197
  z46 := Tryz.sizeOf197
  v46 := Tryz.zeroValue197
  t51 := Tryz.underlying275
  a51 := Tryz.isAgg275
  z51 := Tryz.sizeOf275
  v51 := Tryz.zeroValue275
  t53 := Tryz.underlying277
  a53 := Tryz.isAgg277
  z53 := Tryz.sizeOf277
  v53 := Tryz.zeroValue277
  t75 := Tryz.underlying134
  a75 := Tryz.isAgg134
  z75 := Tryz.sizeOf134
  v75 := Tryz.zeroValue134
  t76 := Tryz.underlying135
  a76 := Tryz.isAgg135
  z76 := Tryz.sizeOf135
  v76 := Tryz.zeroValue135
  t85 := Tryz.underlying309
  a85 := Tryz.isAgg309
  z85 := Tryz.sizeOf309
  v85 := Tryz.zeroValue309
  t127 := Tryz.underlying207
  a127 := Tryz.isAgg207
  z127 := Tryz.sizeOf207
  v127 := Tryz.zeroValue207
  t143 := Tryz.underlying344
  a143 := Tryz.isAgg344
  z143 := Tryz.sizeOf344
  v143 := Tryz.zeroValue344
  t145 := Tryz.underlying346
  a145 := Tryz.isAgg346
  z145 := Tryz.sizeOf346
  v145 := Tryz.zeroValue346
  t167 := Tryz.underlying308
  a167 := Tryz.isAgg308
  z167 := Tryz.sizeOf308
  v167 := Tryz.zeroValue308
  t168 := Tryz.underlying311
  a168 := Tryz.isAgg311
  z168 := Tryz.sizeOf311
  v168 := Tryz.zeroValue311
  t171 := Tryz.underlying315
  a171 := Tryz.isAgg315
  z171 := Tryz.sizeOf315
  v171 := Tryz.zeroValue315
  t173 := Tryz.underlying317
  a173 := Tryz.isAgg317
  z173 := Tryz.sizeOf317
  v173 := Tryz.zeroValue317
  t175 := Tryz.underlying327
  a175 := Tryz.isAgg327
  z175 := Tryz.sizeOf327
  v175 := Tryz.zeroValue327
  t210 := Tryz.underlying331
  a210 := Tryz.isAgg331
  z210 := Tryz.sizeOf331
  v210 := Tryz.zeroValue331
  t212 := Tryz.underlying334
  a212 := Tryz.isAgg334
  z212 := Tryz.sizeOf334
  v212 := Tryz.zeroValue334
  t213 := Tryz.underlying335
  a213 := Tryz.isAgg335
  z213 := Tryz.sizeOf335
  t232 := Tryz.underlying347
  a232 := Tryz.isAgg347
  z232 := Tryz.sizeOf347
  v232 := Tryz.zeroValue347
  t233 := Tryz.underlying348
  a233 := Tryz.isAgg348
  z233 := Tryz.sizeOf348
  v233 := Tryz.zeroValue348
  g15 := by kernel_rfl
  g16 := by kernel_rfl
  g17 := by kernel_rfl
  g18 := by kernel_rfl
  g19 := by kernel_rfl
  t80 := Tryz.underlying138
  a80 := Tryz.isAgg138
  z80 := Tryz.sizeOf138
  v80 := Tryz.zeroValue138
  i0 := by kernel_rfl
  i2 := by kernel_rfl
  i3 := by kernel_rfl
  i4 := by kernel_rfl
  i5 := by kernel_rfl
  i9 := by kernel_rfl
  i20 := by kernel_rfl
  i21 := by kernel_rfl
  i37 := by kernel_rfl
  i46 := by kernel_rfl
  i51 := by kernel_rfl
  i53 := by kernel_rfl
  i75 := by kernel_rfl
  i76 := by kernel_rfl
  i80 := by kernel_rfl
  i85 := by kernel_rfl
  i127 := by kernel_rfl
  i143 := by kernel_rfl
  i145 := by kernel_rfl
  i167 := by kernel_rfl
  i168 := by kernel_rfl
  i171 := by kernel_rfl
  i173 := by kernel_rfl
  i175 := by kernel_rfl
  i210 := by kernel_rfl
  i212 := by kernel_rfl
  i232 := by kernel_rfl
  i233 := by kernel_rfl
  m15 := by kernel_rfl
  m16 := by kernel_rfl
  m17 := by kernel_rfl
  m18 := by kernel_rfl
  m19 := by kernel_rfl
  c0 := by kernel_rfl
  c2 := by kernel_rfl
  c3 := by kernel_rfl
  c4 := by kernel_rfl
  c5 := by kernel_rfl
  c9 := by kernel_rfl
  c20 := by kernel_rfl
  c21 := by kernel_rfl
  c37 := by kernel_rfl
  c46 := by kernel_rfl
  c51 := by kernel_rfl
  c53 := by kernel_rfl
  c75 := by kernel_rfl
  c76 := by kernel_rfl
  c80 := by kernel_rfl
  c85 := by kernel_rfl
  c127 := by kernel_rfl
  c143 := by kernel_rfl
  c145 := by kernel_rfl
  c167 := by kernel_rfl
  c168 := by kernel_rfl
  c171 := by kernel_rfl
  c173 := by kernel_rfl
  c175 := by kernel_rfl
  c210 := by kernel_rfl
  c212 := by kernel_rfl
  c213 := by kernel_rfl
  c232 := by kernel_rfl
  c233 := by kernel_rfl }
open Go.RowKit in
/-- strconv.Atoi, AT EVERY STRING THAT SPELLS AN int ('Lib.atoiAll .. = .ok v'; of whatever length: leading zeros count): v, AND NO ERROR. The world: as it was, or with the one new row that '[]byte(..)' lays. (LAID: no walk: one application.) -/
theorem Tryz.strconv_Atoi_ok (s : ByteArray) (hmax : s.size ≤ 9223372036854775806) (v : Int) (h : Lib.atoiAll s.data.toList = .ok v) (w : World) :
    Calls Tryz.prog 159 #[.string s] w fun e w' => e = .returned (.tuple #[.int .i64 v, .nilIface]) ∧ (w' = w ∨ ∃ t, w' = Lib.bytesWorld w 5 t) := Any.strconv_Atoi_ok Tryz.laysC172 s hmax v h w
open Go.RowKit in
theorem Tryz.strconv_Atoi_range_var (s : ByteArray) (hlim : s.size ≤ 281474976710656) (h : Lib.atoiAll s.data.toList = .range) (tp : TypeId) (p : Value) (w : World) (hvar : w.var? Tryz.prog "strconv.ErrRange" = some #[.iface tp p]) :
    Calls Tryz.prog 159 #[.string s] w fun e w' => ∃ N, e = .returned (.tuple #[.int .i64 (Lib.atoiSat s.data.toList), .iface 311 (.pointer (some ⟨N, 0, none⟩))]) ∧ w.heap.size ≤ N ∧ w'.heap[N]? = some (.cells #[.string ⟨#[65, 116, 111, 105]⟩, .string s, .iface tp p] 331 (0, 0)) ∧ Below w.heap.size w w' := Any.strconv_Atoi_range_var Tryz.laysC172 s hlim h tp p w hvar
def Tryz.lays146_ren : Go.Shelf.Ren := ⟨fun | 146 => 81 | 221 => 141 | 268 => 198 | 138 => 199 | 143 => 200 | 195 => 240 | 197 => 241 | 218 => 242 | 219 => 243 | 260 => 279 | 217 => 280 | 225 => 281 | 224 => 282 | 267 => 283 | 266 => 299 | 314 => 300 | n => n, fun | 9 => 9 | 31 => 140 | 3 => 3 | 4 => 4 | 0 => 0 | 105 => 286 | 21 => 21 | 5 => 5 | 46 => 197 | 119 => 336 | 139 => 339 | 138 => 338 | 146 => 340 | 51 => 275 | n => n, fun | 1 => 0 | 3 => 4 | 4 => 5 | n => n⟩
theorem Tryz.lays146 : Go.Proofs.Lays.n146 Tryz.prog Tryz.lays146_ren := {
  mixed := by kernel_rfl
  f138 := Tryz.func199.trans (congrArg some (by kernel_rfl))
  f143 := Tryz.func200.trans (congrArg some (by kernel_rfl))
  f146 := Tryz.func81.trans (congrArg some (by kernel_rfl))
  f195 := Tryz.func240.trans (congrArg some (by kernel_rfl))
  f197 := Tryz.func241.trans (congrArg some (by kernel_rfl))
  f217 := Tryz.func280.trans (congrArg some (by kernel_rfl))
  f218 := Tryz.func242.trans (congrArg some (by kernel_rfl))
  f219 := Tryz.func243.trans (congrArg some (by kernel_rfl))
  f221 := Tryz.func141.trans (congrArg some (by kernel_rfl))
  f224 := Tryz.func282.trans (congrArg some (by kernel_rfl))
  f225 := Tryz.func281.trans (congrArg some (by kernel_rfl))
  f260 := Tryz.func279.trans (congrArg some (by kernel_rfl))
  f266 := Tryz.func299.trans (congrArg some (by kernel_rfl))
  f267 := Tryz.func283.trans (congrArg some (by kernel_rfl))
  f268 := Tryz.func198.trans (congrArg some (by kernel_rfl))
  f314 := Tryz.func300.trans (congrArg some (by kernel_rfl))
  t0 := Tryz.underlying0
  a0 := Tryz.isAgg0
  z0 := Tryz.sizeOf0
  v0 := Tryz.zeroValue0
  t3 := Tryz.underlying3
  a3 := Tryz.isAgg3
  z3 := Tryz.sizeOf3
  v3 := Tryz.zeroValue3
  t4 := Tryz.underlying4
  a4 := Tryz.isAgg4
  z4 := Tryz.sizeOf4
  v4 := Tryz.zeroValue4
  t5 := Tryz.underlying5
  a5 := Tryz.isAgg5
  z5 := Tryz.sizeOf5
  v5 := Tryz.zeroValue5
  t9 := Tryz.underlying9
  a9 := Tryz.isAgg9
  z9 := Tryz.sizeOf9
  v9 := Tryz.zeroValue9
  t21 := Tryz.underlying21
  a21 := Tryz.isAgg21
  z21 := Tryz.sizeOf21
  v21 := Tryz.zeroValue21
  t31 := Tryz.underlying140
  a31 := Tryz.isAgg140
  z31 := Tryz.sizeOf140
  v31 := Tryz.zeroValue140
  t46 := Tryz.underlying197
  a46 := Tryz.isAgg197
  z46 := Tryz.sizeOf197
  v46 := Tryz.zeroValue197
  t51 := Tryz.underlying275
  a51 := Tryz.isAgg275
  z51 := Tryz.sizeOf275
  v51 := Tryz.zeroValue275
  t105 := Tryz.underlying286
  a105 := Tryz.isAgg286
  z105 := Tryz.sizeOf286
  v105 := Tryz.zeroValue286
  t119 := Tryz.underlying336
  a119 := Tryz.isAgg336
  z119 := Tryz.sizeOf336
  t138 := Tryz.underlying338
  a138 := Tryz.isAgg338
  z138 := Tryz.sizeOf338
  v138 := Tryz.zeroValue338
  t139 := Tryz.underlying339
  a139 := Tryz.isAgg339
  z139 := Tryz.sizeOf339
  v139 := Tryz.zeroValue339
  t146 := Tryz.underlying340
  a146 := Tryz.isAgg340
  z146 := Tryz.sizeOf340
  v146 := Tryz.zeroValue340
  g1 := by kernel_rfl
  g3 := by kernel_rfl
  g4 := by kernel_rfl }
open Go.RowKit Go.Lib in
/-- strings.Split. (LAID: no walk: one application.) -/
theorem Tryz.strings_Split (s sep : ByteArray) (m : Int) (w : World) (hs : s.size < 4294967281) (hm : w.cell? ⟨0, 0, none⟩ = some (.int .i64 m)) (h1 : 1 ≤ sep.size) :
    Calls Tryz.prog 81 #[.string s, .string sep] w fun e w' =>
      e = .returned (.slice (some ⟨w.heap.size, 0, none⟩) (Lib.countB s sep + 1) (Lib.countB s sep + 1)) ∧ w' = w.alloc (.cells ((Lib.splitB sep 0 (Lib.countB s sep) s).map Value.string).toArray 9) := Any.strings_Split Tryz.lays146 (by kernel_rfl) s sep m w hs hm h1
end Go.Proofs

/- Texts, plain: lists of bytes cut at a byte; numbers of one to four digits. -/
namespace Go.Proofs.YtmalhidldgfeoaaGreatDoor

/-- A list cut at each c. -/
def cutC (c : UInt8) : List UInt8 → List (List UInt8)
  | [] => [[]]
  | x :: l => if x = c then [] :: cutC c l else match cutC c l with
    | [] => [[x]]
    | h :: t => (x :: h) :: t
theorem cut_ne (c : UInt8) : ∀ l, cutC c l ≠ []
  | [] => by simp [cutC]
  | x :: l => by
    unfold cutC
    split
    · simp
    · split <;> simp
theorem cut_app {c : UInt8} : ∀ {a : List UInt8} (l : List UInt8), c ∉ a → cutC c (a ++ c :: l) = a :: cutC c l
  | [], l, _ => by rw [List.nil_append, cutC, if_pos rfl]
  | x :: a, l, h => by
    have hx : x ≠ c := fun e => h (e ▸ List.mem_cons_self)
    rw [List.cons_append, cutC, if_neg hx, cut_app l fun hm => h (List.mem_cons_of_mem _ hm)]
theorem cut_no {c : UInt8} : ∀ {a : List UInt8}, c ∉ a → cutC c a = [a]
  | [], _ => rfl
  | x :: a, h => by
    have hx : x ≠ c := fun e => h (e ▸ List.mem_cons_self)
    rw [cutC, if_neg hx, cut_no fun hm => h (List.mem_cons_of_mem _ hm)]
/-- Pieces with c between them. -/
def joinC (c : UInt8) : List (List UInt8) → List UInt8
  | [] => []
  | [p] => p
  | p :: q :: r => p ++ c :: joinC c (q :: r)
theorem join_cut {c : UInt8} : ∀ l : List UInt8, joinC c (cutC c l) = l
  | [] => rfl
  | x :: l => by
    have ih := join_cut (c := c) l
    unfold cutC
    split
    · rename_i e
      subst e
      cases h : cutC x l with
      | nil => exact absurd h (cut_ne x l)
      | cons a t => rw [h] at ih; show [] ++ x :: joinC x (a :: t) = _; rw [ih]; rfl
    · split
      · rename_i h; exact absurd h (cut_ne c l)
      · rename_i a t h
        rw [h] at ih
        cases t with
        | nil => show x :: a = _; rw [show a = l from ih]
        | cons b t => show (x :: a) ++ c :: joinC c (b :: t) = _; rw [List.cons_append, show a ++ c :: joinC c (b :: t) = l from ih]
theorem cut_join {c : UInt8} : ∀ {ps : List (List UInt8)}, ps ≠ [] → (∀ p ∈ ps, c ∉ p) → cutC c (joinC c ps) = ps
  | [], h, _ => absurd rfl h
  | [p], _, h => cut_no (h p List.mem_cons_self)
  | p :: q :: r, _, h => by
    show cutC c (p ++ c :: joinC c (q :: r)) = _
    rw [cut_app _ (h p List.mem_cons_self), cut_join (by simp) fun x hx => h x (List.mem_cons_of_mem _ hx)]
theorem index_cut {c : UInt8} : ∀ {a : List UInt8} (b : List UInt8), c ∉ a → Lib.index (a ++ c :: b) [c] = a.length
  | [], b, _ => by simp [Lib.index, List.isPrefixOf]
  | x :: a, b, h => by
    have hx : ¬ c = x := fun e => h (e ▸ List.mem_cons_self)
    have ih := index_cut (c := c) (a := a) b fun hm => h (List.mem_cons_of_mem _ hm)
    rw [List.cons_append, Lib.index, if_neg (by simp [List.isPrefixOf, hx]), ih, if_neg (by intro h; have := eq_of_beq h; omega)]
    simp
theorem index_no {c : UInt8} : ∀ {a : List UInt8}, c ∉ a → Lib.index a [c] = -1
  | [], _ => rfl
  | x :: a, h => by
    have hx : ¬ c = x := fun e => h (e ▸ List.mem_cons_self)
    have ih := index_no (c := c) (a := a) fun hm => h (List.mem_cons_of_mem _ hm)
    rw [Lib.index, if_neg (by simp [List.isPrefixOf, hx]), ih, if_pos (by decide)]
theorem split_cut {c : UInt8} (s : List UInt8) : Lib.split s [c] = cutC c s := by
  unfold Lib.split
  obtain ⟨k, hk⟩ : ∃ k, s.length = k := ⟨_, rfl⟩
  induction k using Nat.strongRecOn generalizing s with
  | _ k ih =>
    by_cases hm : c ∈ s
    · obtain ⟨a, b, rfl, ha⟩ := List.eq_append_cons_of_mem hm
      have hi := index_cut b ha
      rw [Lib.count_hit (by simp) hi, Nat.add_comm, Lib.splitK, if_neg (by rw [hi]; intro h; have := eq_of_beq h; omega), hi, cut_app b ha]
      have e1 : ((a.length : Int).toNat) = a.length := rfl
      have e2 : (a ++ c :: b).take (a.length + 0) = a := by simp
      have e3 : (a ++ c :: b).drop (a.length + [c].length) = b := by
        rw [show a ++ c :: b = (a ++ [c]) ++ b by simp, show a.length + [c].length = (a ++ [c]).length by simp, List.drop_left]
      rw [e1, e2, e3, ih b.length (by rw [← hk]; simp; omega) b rfl]
    · rw [Lib.count_miss (index_no hm), Lib.splitK, cut_no hm]

def digB (b : UInt8) : Bool := decide (48 ≤ b.toNat ∧ b.toNat ≤ 57)
def valN (l : List UInt8) : Nat := l.foldl (fun a b => 10 * a + (b.toNat - 48)) 0
/-- The number of a word of one to four digits, -1 if it is none. -/
def numW (w : List UInt8) : Int := if w.length < 1 ∨ 4 < w.length ∨ (1 < w.length ∧ w.head? = some 48) ∨ w.all digB = false then -1 else (valN w : Int)
theorem val_snoc (l : List UInt8) (d : UInt8) : valN (l ++ [d]) = 10 * valN l + (d.toNat - 48) := by
  unfold valN; rw [List.foldl_append]; rfl
theorem val_pos : ∀ {l : List UInt8}, l ≠ [] → l.all digB = true → l.head? ≠ some 48 → 1 ≤ valN l := by
  intro l
  obtain ⟨k, hk⟩ : ∃ k, l.length = k := ⟨_, rfl⟩
  induction k generalizing l with
  | zero => intro h; exact absurd (List.length_eq_zero_iff.1 hk) h
  | succ k ih =>
    intro hne ha hh
    rcases List.eq_nil_or_concat l with rfl | ⟨m, d, rfl⟩
    · exact absurd rfl hne
    rw [List.concat_eq_append] at *
    rw [val_snoc]
    cases m with
    | nil =>
      have h1 : digB d = true := by simpa using ha
      unfold digB at h1
      have h2 := of_decide_eq_true h1
      have h3 : d ≠ 48 := fun e => hh (by rw [e]; rfl)
      have h4 : d.toNat ≠ 48 := fun e => h3 (UInt8.toNat_inj.1 e)
      omega
    | cons x m =>
      have := ih (l := x :: m) (by simpa using hk) (by simp) (by rw [List.all_append] at ha; simp only [Bool.and_eq_true] at ha; exact ha.1) (by simpa using hh)
      omega
theorem dec_val : ∀ {l : List UInt8}, l ≠ [] → l.all digB = true → (l.length = 1 ∨ l.head? ≠ some 48) → Lib.decDigits (valN l) = l := by
  intro l
  obtain ⟨k, hk⟩ : ∃ k, l.length = k := ⟨_, rfl⟩
  induction k generalizing l with
  | zero => intro h; exact absurd (List.length_eq_zero_iff.1 hk) h
  | succ k ih =>
    intro hne ha hh
    rcases List.eq_nil_or_concat l with rfl | ⟨m, d, rfl⟩
    · exact absurd rfl hne
    rw [List.concat_eq_append] at *
    rw [List.all_append] at ha
    simp only [Bool.and_eq_true] at ha
    have h1 : digB d = true := by simpa using ha.2
    unfold digB at h1
    have h2 := of_decide_eq_true h1
    have hd : UInt8.ofNat (48 + (d.toNat - 48)) = d := by
      rw [show 48 + (d.toNat - 48) = d.toNat by omega]; exact UInt8.ofNat_toNat
    rw [val_snoc]
    cases m with
    | nil => rw [show 10 * valN [] + (d.toNat - 48) = d.toNat - 48 by simp [valN], Lib.decDigits_one (by omega), hd]; rfl
    | cons x m =>
      have hx : (x :: m).head? ≠ some 48 := by
        rcases hh with h | h
        · simp at h
        · simpa using h
      have hp := val_pos (by simp) ha.1 hx
      rw [Lib.decDigits, dif_neg (by omega), show (10 * valN (x :: m) + (d.toNat - 48)) / 10 = valN (x :: m) by omega, show (10 * valN (x :: m) + (d.toNat - 48)) % 10 = d.toNat - 48 by omega, hd, ih (by simpa using hk) (by simp) ha.1 (.inr hx)]
theorem val_bd {l : List UInt8} (h : l.all digB = true) : valN l < 10 ^ l.length := by
  obtain ⟨k, hk⟩ : ∃ k, l.length = k := ⟨_, rfl⟩
  induction k generalizing l with
  | zero => rw [List.length_eq_zero_iff.1 hk]; decide
  | succ k ih =>
    rcases List.eq_nil_or_concat l with rfl | ⟨m, d, rfl⟩
    · simp at hk
    rw [List.concat_eq_append] at *
    rw [List.all_append] at h
    simp only [Bool.and_eq_true] at h
    have h1 : digB d = true := by simpa using h.2
    unfold digB at h1
    have h2 := of_decide_eq_true h1
    have hm : m.length = k := by simpa using hk
    have := ih h.1 hm
    rw [val_snoc, List.length_append, hm, List.length_singleton, Nat.pow_succ]
    rw [hm] at this
    omega
structure Dec (u : Nat) (l : List UInt8) : Prop where
  ne : l ≠ []
  dig : l.all digB = true
  head : 1 ≤ u → l.head? ≠ some 48
  one : u = 0 → l.length = 1
  val : valN l = u
theorem dec_dec (u : Nat) : Dec u (Lib.decDigits u) := by
  induction u using Nat.strongRecOn with
  | _ u ih =>
    have hdg : ∀ d : Nat, d < 10 → (UInt8.ofNat (48 + d)).toNat = 48 + d := fun d hd => by rw [UInt8.toNat_ofNat']; omega
    by_cases h : u < 10
    · rw [Lib.decDigits_one h]
      have e := hdg u h
      refine ⟨by simp, ?_, fun h1 => ?_, fun _ => rfl, ?_⟩
      · simp [digB]; omega
      · simp only [List.head?_cons, ne_eq, Option.some.injEq]
        intro e2
        rw [e2] at e
        have : (48 : UInt8).toNat = 48 := rfl
        omega
      · show 10 * 0 + ((UInt8.ofNat (48 + u)).toNat - 48) = u
        rw [e]; omega
    · have h2 := ih (u / 10) (by omega)
      have e := hdg (u % 10) (by omega)
      rw [Lib.decDigits, dif_neg h]
      refine ⟨by simp, ?_, fun _ => ?_, fun h0 => by omega, ?_⟩
      · rw [List.all_append, h2.dig]
        simp [digB]; omega
      · have := h2.head (by omega)
        cases hl : Lib.decDigits (u / 10) with
        | nil => exact absurd hl h2.ne
        | cons x m => rw [hl] at this; simpa using this
      · rw [val_snoc, h2.val, e]; omega
theorem num_dec {w : List UInt8} (h : 0 ≤ numW w) : (numW w).toNat < 10000 ∧ w = Lib.decDigits (numW w).toNat := by
  unfold numW at h ⊢
  split at h
  · omega
  · rename_i hc
    rw [if_neg hc]
    have hne : w ≠ [] := fun e => hc (.inl (by rw [e]; decide))
    have hd : w.all digB = true := by
      cases hd : w.all digB with
      | true => rfl
      | false => exact absurd (.inr (.inr (.inr hd))) hc
    have hb := val_bd hd
    have h4 : w.length ≤ 4 := by omega
    refine ⟨?_, ?_⟩
    · have : 10 ^ w.length ≤ 10 ^ 4 := Nat.pow_le_pow_right (by decide) h4
      simp only [Int.toNat_natCast]
      omega
    · rw [Int.toNat_natCast, dec_val hne hd]
      by_cases h1 : w.length = 1
      · exact .inl h1
      · refine .inr fun e => hc (.inr (.inr (.inl ⟨?_, e⟩)))
        have := List.length_pos_iff.2 hne
        omega
theorem dec_len {u : Nat} (h : u < 10000) : (Lib.decDigits u).length ≤ 4 := by
  rw [Lib.decDigits_length]
  by_cases h1 : u < 10
  · rw [Lib.nDigits_small h1]; omega
  · rw [Lib.nDigits_big h1]
    by_cases h2 : u / 10 < 10
    · rw [Lib.nDigits_small h2]; omega
    · rw [Lib.nDigits_big h2]
      by_cases h3 : u / 10 / 10 < 10
      · rw [Lib.nDigits_small h3]; omega
      · rw [Lib.nDigits_big h3, Lib.nDigits_small (by omega)]; omega
theorem num_of_dec {u : Nat} (h : u < 10000) : numW (Lib.decDigits u) = u := by
  have hd := dec_dec u
  have hl := dec_len h
  unfold numW
  rw [if_neg, hd.val]
  rintro (h1 | h1 | ⟨h1, h2⟩ | h1)
  · have := List.length_pos_iff.2 hd.ne; omega
  · omega
  · rcases Nat.eq_zero_or_pos u with h0 | h0
    · have := hd.one h0; omega
    · exact hd.head h0 h2
  · rw [hd.dig] at h1; cases h1
theorem decFrom_val : ∀ (l : List UInt8) (a : Nat), l.all digB = true → Lib.decFrom a l = some (l.foldl (fun a b => 10 * a + (b.toNat - 48)) a)
  | [], _, _ => rfl
  | b :: l, a, h => by
    simp only [List.all_cons, Bool.and_eq_true] at h
    have h1 := h.1
    unfold digB at h1
    have h2 := of_decide_eq_true h1
    rw [Lib.decFrom, show Lib.digitVal b = some (b.toNat - 48) by unfold Lib.digitVal; rw [if_pos h2]]
    show Lib.decFrom (a * 10 + (b.toNat - 48)) l = _
    rw [decFrom_val l _ h.2, List.foldl_cons, Nat.mul_comm]
/-- How Atoi ends at a number's word. -/
theorem atoi_dec {u : Nat} (h : u < 10000) : Lib.atoiAll (Lib.decDigits u) = .ok (u : Int) := by
  have hd := dec_dec u
  have hl := dec_len h
  rw [Lib.atoiAll_short _ (by omega)]
  have h1 : Lib.atoi (Lib.decDigits u) = some (u : Int) := by
    have hv := decFrom_val _ 0 hd.dig
    have e := hd.val
    unfold valN at e
    rw [e] at hv
    have hdig := hd.dig
    cases hl : Lib.decDigits u with
    | nil => exact absurd hl hd.ne
    | cons b r =>
      rw [hl] at hv hdig
      simp only [List.all_cons, Bool.and_eq_true] at hdig
      have h1 := hdig.1
      unfold digB at h1
      have h2 := of_decide_eq_true h1
      have n1 : ¬ (b == 45) = true := fun e => by
        have := eq_of_beq e
        rw [this] at h2
        exact absurd h2.1 (by decide)
      have n2 : ¬ (b == 43) = true := fun e => by
        have := eq_of_beq e
        rw [this] at h2
        exact absurd h2.1 (by decide)
      show (if (b == 45) = true then (Lib.decNat r).map (fun (m : Nat) => -(m : Int)) else if (b == 43) = true then (Lib.decNat r).map (fun (m : Nat) => (m : Int)) else (Lib.decNat (b :: r)).map fun (m : Nat) => (m : Int)) = _
      rw [if_neg n1, if_neg n2]
      unfold Lib.decNat
      rw [if_neg (by simp), hv]
      rfl
  rw [h1]
  rfl
/-- What the program takes for a number is one. -/
theorem prog_num {w : List UInt8} {n : Int} (h : Lib.atoiAll w = .ok n) : (w.length ≤ 4 ∧ Lib.itoa n = w ∧ 0 ≤ n → numW w = n) ∧ (¬ (w.length ≤ 4 ∧ Lib.itoa n = w ∧ 0 ≤ n) → numW w < 0) := by
  constructor
  · rintro ⟨h1, h2, h3⟩
    obtain ⟨u, rfl⟩ : ∃ u : Nat, n = u := ⟨n.toNat, by omega⟩
    have h4 : Lib.itoa (u : Int) = Lib.decDigits u := by unfold Lib.itoa; rw [if_neg (by omega)]; rfl
    rw [h4] at h2
    subst h2
    refine num_of_dec ?_
    have := Lib.lt_pow_nDigits u
    rw [Lib.decDigits_length] at h1
    have h5 : 10 ^ Lib.nDigits u ≤ 10 ^ 4 := Nat.pow_le_pow_right (by decide) h1
    omega
  · intro hc
    refine Int.not_le.1 fun h0 => hc ?_
    obtain ⟨h1, h2⟩ := num_dec h0
    have h3 := atoi_dec h1
    rw [← h2, h] at h3
    injection h3 with h3
    have h4 : Lib.itoa ((numW w).toNat : Int) = Lib.decDigits (numW w).toNat := by unfold Lib.itoa; rw [if_neg (by omega)]; rfl
    refine ⟨?_, ?_, by omega⟩
    · have := dec_len h1
      rw [← h2] at this; exact this
    · rw [h3, h4]; exact h2.symm
theorem prog_bad {w : List UInt8} (h : ∀ n, Lib.atoiAll w ≠ .ok n) : numW w < 0 := by
  refine Int.not_le.1 fun h0 => ?_
  obtain ⟨h1, h2⟩ := num_dec h0
  have h3 := atoi_dec h1
  rw [← h2] at h3
  exact h _ h3
end Go.Proofs.YtmalhidldgfeoaaGreatDoor

/- Schedules as texts, plain: Print and Parse, and that they are inverse. -/
namespace Go.Proofs.YtmalhidldgfeoaaGreatDoor
open Go.RowKit Go.Eng Go.Nw

def wordS : List UInt8 := [115, 99, 104, 101, 100, 117, 108, 101]
def wordC : List UInt8 := [99, 101, 108, 108]
def bodyB (w : List UInt8) (l : List Int) : List UInt8 := w ++ l.flatMap fun n => 32 :: Lib.itoa n
def lineB (w : List UInt8) (l : List Int) : List UInt8 := bodyB w l ++ [10]
def textE (s : Sch) : List UInt8 := lineB wordS [s.len, s.off] ++ s.cells.flatMap fun c => lineB wordC (nums c)
def printE (s : Sch) : List UInt8 × Int := if formE s = false then ([], 1) else (textE s, 0)
def numsW (ws : List (List UInt8)) : Option (List Int) := if (ws.any fun w => decide (numW w < 0)) = true then none else some (ws.map numW)
/-- The numbers of a line with a word. -/
def readE (line word : List UInt8) (many : Nat) : Option (List Int) :=
  if (cutC 32 line).length ≠ many + 1 ∨ (cutC 32 line).headD [] ≠ word then none else numsW (cutC 32 line).tail
def wordOf (i : Nat) : List UInt8 := if i = 0 then wordS else wordC
def manyOf (i : Nat) : Nat := if i = 0 then 2 else 5
def rowE (i : Nat) (line : List UInt8) : Option (List Int) := readE line (wordOf i) (manyOf i)
def lineAt (ls : List (List UInt8)) (i : Nat) : List UInt8 := ls.getD i []
def badRow (ls : List (List UInt8)) (i : Nat) : Int := if (rowE i (lineAt ls i)).isNone = true then 3 else 0
def celOf (x : List Int) : Cel := (x.getD 0 0, x.getD 1 0, x.getD 2 0, x.getD 3 0, x.getD 4 0)
def stepS (i : Nat) (s : Sch) (x : List Int) : Sch := if i = 0 then ⟨x.getD 0 0, x.getD 1 0, s.cells⟩ else ⟨s.len, s.off, s.cells ++ [celOf x]⟩
def schTo (ls : List (List UInt8)) : Nat → Sch
  | 0 => zeroS
  | k + 1 => stepS k (schTo ls k) ((rowE k (lineAt ls k)).getD [])
def parseL (ls : List (List UInt8)) : Sch × (Int × Int) :=
  if (firstF (badRow ls) (ls.length - 1) 0).2 ≠ 0 then (zeroS, firstF (badRow ls) (ls.length - 1) 0)
  else if ls.length - 1 = 0 ∨ lineAt ls (ls.length - 1) ≠ [] then (zeroS, (((ls.length - 1 : Nat) : Int), 3))
  else if formE (schTo ls (ls.length - 1)) = false then (zeroS, (-1, 1)) else (schTo ls (ls.length - 1), (-1, 0))
/-- What Parse returns. -/
def parseE (text : List UInt8) : Sch × (Int × Int) := parseL (cutC 10 text)

theorem joinC_cons {c : UInt8} (p : List UInt8) : ∀ l : List (List UInt8), joinC c (p :: l) = p ++ l.flatMap fun q => c :: q
  | [] => by simp [joinC]
  | q :: r => by
    show p ++ c :: joinC c (q :: r) = _
    rw [joinC_cons q r]; rfl
theorem join_lines : ∀ l : List (List UInt8), joinC 10 (l ++ [[]]) = l.flatMap fun p => p ++ [10]
  | [] => rfl
  | p :: l => by
    rw [List.cons_append, joinC_cons, List.flatMap_cons, ← join_lines l]
    cases l with
    | nil => simp [joinC]
    | cons q r => rw [List.cons_append, joinC_cons, List.flatMap_cons]; simp
theorem body_join (w : List UInt8) (l : List Int) : bodyB w l = joinC 32 (w :: l.map Lib.itoa) := by
  rw [joinC_cons, List.flatMap_map]; rfl
theorem dec_free (u : Nat) {b : UInt8} (hb : b ∈ Lib.decDigits u) : b ≠ 32 ∧ b ≠ 10 := by
  have := List.all_eq_true.1 (dec_dec u).dig b hb
  unfold digB at this
  have h := of_decide_eq_true this
  constructor <;> (intro e; subst e; exact absurd h (by decide))
theorem itoa_nat {n : Int} (h : 0 ≤ n) : Lib.itoa n = Lib.decDigits n.toNat := by unfold Lib.itoa; rw [if_neg (by omega)]
theorem body_free {w : List UInt8} {l : List Int} (hw : (10 : UInt8) ∉ w) (hl : ∀ n ∈ l, 0 ≤ n) : (10 : UInt8) ∉ bodyB w l := by
  unfold bodyB
  intro h
  rcases List.mem_append.1 h with h | h
  · exact hw h
  · obtain ⟨n, hn, h⟩ := List.mem_flatMap.1 h
    rcases List.mem_cons.1 h with h | h
    · exact absurd h (by decide)
    · rw [itoa_nat (hl n hn)] at h
      exact (dec_free _ h).2 rfl
theorem read_body {w : List UInt8} {l : List Int} (hw : (32 : UInt8) ∉ w) (hl : ∀ n ∈ l, 0 ≤ n ∧ n < 10000) : readE (bodyB w l) w l.length = some l := by
  have hc : cutC 32 (bodyB w l) = w :: l.map Lib.itoa := by
    rw [body_join]
    refine cut_join (by simp) fun p hp => ?_
    rcases List.mem_cons.1 hp with rfl | hp
    · exact hw
    · obtain ⟨n, hn, rfl⟩ := List.mem_map.1 hp
      rw [itoa_nat (hl n hn).1]
      exact fun h => (dec_free _ h).1 rfl
  have hn : ∀ n ∈ l, numW (Lib.itoa n) = n := fun n hm => by
    have := hl n hm
    rw [itoa_nat this.1, num_of_dec (by omega)]
    omega
  unfold readE
  rw [hc, if_neg (by simp), List.tail_cons]
  unfold numsW
  rw [if_neg, List.map_map]
  · congr 1
    have : l.map (numW ∘ Lib.itoa) = l.map id := List.map_congr_left fun n hm => hn n hm
    rw [this, List.map_id]
  · rw [List.any_map, Bool.not_eq_true, List.any_eq_false]
    intro n hm
    show ¬ decide (numW (Lib.itoa n) < 0) = true
    rw [hn n hm, decide_eq_true_eq]
    have := hl n hm
    omega
theorem read_some {line w : List UInt8} {k : Nat} {x : List Int} (h : readE line w k = some x) : line = bodyB w x ∧ x.length = k ∧ ∀ n ∈ x, 0 ≤ n := by
  unfold readE at h
  split at h
  · cases h
  rename_i hc
  unfold numsW at h
  split at h
  · cases h
  rename_i ha
  have h1 : (cutC 32 line).length = k + 1 := Decidable.byContradiction fun e => hc (.inl e)
  have h2 : (cutC 32 line).headD [] = w := Decidable.byContradiction fun e => hc (.inr e)
  have hj := join_cut (c := 32) line
  cases hcl : cutC 32 line with
  | nil => exact absurd hcl (cut_ne _ _)
  | cons p r =>
    rw [hcl] at h1 h2 hj h ha
    obtain rfl : p = w := h2
    have hx := Option.some.inj h
    rw [List.tail_cons] at hx ha
    have hpos : ∀ q ∈ r, 0 ≤ numW q := fun q hq => by
      refine Int.not_lt.1 fun hlt => ha ?_
      rw [List.any_eq_true]
      exact ⟨q, hq, decide_eq_true hlt⟩
    refine ⟨?_, ?_, ?_⟩
    · rw [body_join, ← hj, ← hx, List.map_map]
      congr 2
      have : r.map (Lib.itoa ∘ numW) = r.map id := List.map_congr_left fun q hq => by
        show Lib.itoa (numW q) = q
        rw [itoa_nat (hpos q hq)]
        exact (num_dec (hpos q hq)).2.symm
      rw [this, List.map_id]
    · rw [← hx, List.length_map]
      simpa using h1
    · intro n hn
      rw [← hx] at hn
      obtain ⟨q, hq, rfl⟩ := List.mem_map.1 hn
      exact hpos q hq
theorem celOf_nums (c : Cel) : celOf (nums c) = c := rfl

/-- The rows of a schedule. -/
def rowsS (s : Sch) : List (List UInt8) := bodyB wordS [s.len, s.off] :: s.cells.map fun c => bodyB wordC (nums c)
theorem text_rows (s : Sch) : textE s = (rowsS s).flatMap fun p => p ++ [10] := by
  unfold textE rowsS lineB
  rw [List.flatMap_cons, List.flatMap_map]
theorem form_nums {s : Sch} (h : Frm s) : (∀ n ∈ [s.len, s.off], 0 ≤ n ∧ n < 10000) ∧ ∀ c ∈ s.cells, ∀ n ∈ nums c, 0 ≤ n ∧ n < 10000 := by
  have h1 := h.sized
  unfold sizedE at h1
  have h2 := of_decide_eq_true h1
  constructor
  · intro n hn
    simp only [List.mem_cons, List.not_mem_nil, or_false] at hn
    omega
  · intro c hc n hn
    have h3 := h.formed c hc
    unfold formedE placedE insE at h3
    simp only [Bool.and_eq_true, decide_eq_true_eq] at h3
    unfold nums at hn
    simp only [List.mem_cons, List.not_mem_nil, or_false] at hn
    omega
theorem cut_text {s : Sch} (h : Frm s) : cutC 10 (textE s) = rowsS s ++ [[]] := by
  obtain ⟨h1, h2⟩ := form_nums h
  rw [text_rows, ← join_lines]
  refine cut_join (by simp) fun p hp => ?_
  rcases List.mem_append.1 hp with hp | hp
  · unfold rowsS at hp
    rcases List.mem_cons.1 hp with rfl | hp
    · exact body_free (by decide) fun n hn => (h1 n hn).1
    · obtain ⟨c, hc, rfl⟩ := List.mem_map.1 hp
      exact body_free (by decide) fun n hn => (h2 c hc n hn).1
  · obtain rfl := List.mem_singleton.1 hp
    simp
theorem row_text {s : Sch} (h : Frm s) {i : Nat} (hi : i < s.cells.length + 1) : rowE i (lineAt (rowsS s ++ [[]]) i) = some (if i = 0 then [s.len, s.off] else nums (celAt s (i - 1))) := by
  obtain ⟨h1, h2⟩ := form_nums h
  unfold rowE lineAt rowsS
  cases i with
  | zero => exact read_body (w := wordS) (l := [s.len, s.off]) (by decide) h1
  | succ i =>
    have hi : i < s.cells.length := by omega
    have hc := celAt_some hi
    have e : ((bodyB wordS [s.len, s.off] :: s.cells.map fun c => bodyB wordC (nums c)) ++ [[]]).getD (i + 1) [] = bodyB wordC (nums (celAt s i)) := by
      rw [List.cons_append, List.getD_cons_succ, List.getD_eq_getElem?_getD, List.getElem?_append_left (by simpa using hi), List.getElem?_map, hc]; rfl
    rw [e, if_neg (by omega), Nat.add_sub_cancel]
    exact read_body (w := wordC) (l := nums (celAt s i)) (by decide) (h2 _ (celAt_mem hi))
theorem sch_text {s : Sch} (h : Frm s) : ∀ k, k ≤ s.cells.length → schTo (rowsS s ++ [[]]) (k + 1) = ⟨s.len, s.off, s.cells.take k⟩
  | 0, _ => by
    unfold schTo
    rw [row_text h (Nat.succ_pos _)]
    rfl
  | k + 1, hk => by
    unfold schTo
    rw [sch_text h k (by omega), row_text h (by omega), if_neg (by omega), Nat.add_sub_cancel]
    unfold stepS
    rw [if_neg (by omega), Option.getD_some, celOf_nums, List.take_add_one, celAt_some (by omega)]
    rfl
/-- The text of a schedule is read as this schedule. -/
theorem parse_print {s : Sch} (h : formE s = true) : parseE (textE s) = (s, (-1, 0)) := by
  have hf := form_iff.1 h
  have hl : (rowsS s ++ [[]]).length - 1 = s.cells.length + 1 := by unfold rowsS; simp
  have hbad : (firstF (badRow (rowsS s ++ [[]])) (s.cells.length + 1) 0).2 = 0 := firstF_ok.2 fun k _ hk => by
    unfold badRow
    rw [row_text hf (by omega)]
    rfl
  have hlast : lineAt (rowsS s ++ [[]]) (s.cells.length + 1) = [] := by
    unfold lineAt rowsS
    rw [List.getD_eq_getElem?_getD, List.getElem?_append_right (by simp)]
    simp
  have hs : schTo (rowsS s ++ [[]]) (s.cells.length + 1) = s := by
    rw [sch_text hf _ (Nat.le_refl _), List.take_length]
  unfold parseE parseL
  rw [cut_text hf, hl, if_neg (fun e => e hbad), hlast, if_neg (by rintro (e | e) <;> first | (exact absurd e (Nat.succ_ne_zero _)) | exact e rfl), hs, if_neg (by rw [h]; decide)]
end Go.Proofs.YtmalhidldgfeoaaGreatDoor

/- Walks: what the library's functions on texts answer: Itoa, Atoi, Split, Builder. -/
namespace Go.Proofs.YtmalhidldgfeoaaGreatDoor
open Go.RowKit Go.Eng Go.Nw

/-- What the library's tables and errors hold. -/
structure Tabs (w : World) : Prop where
  pow : Lib.TabIs Tryz.prog w "internal/strconv.uint64pow10" .u64 Lib.pow10Tab
  syn : ∃ tp p, w.var? Tryz.prog "strconv.ErrSyntax" = some #[.iface tp p]
  rng : ∃ tp p, w.var? Tryz.prog "strconv.ErrRange" = some #[.iface tp p]
  mx : ∃ m, w.cell? ⟨0, 0, none⟩ = some (.int .i64 m)
def TabsB (B : Nat) (w0 : World) : Prop := ∀ w, Below B w0 w → Tabs w
theorem TabsB.here {B : Nat} {w0 w : World} {H : List HP} (h : TabsB B w0) (hw : St B w0 H w) : TabsB w.heap.size w := fun w1 h1 => h w1 (hw.below.trans (h1.mono hw.le))
abbrev strV (l : List UInt8) : Value := .string ⟨l.toArray⟩
def strL (l : List UInt8) : List Value := [strV l]

theorem itoa_spec (n : Int) (h0 : -9223372036854775808 ≤ n) (h1 : n ≤ 9223372036854775807) {B : Nat} {w0 : World} {H : List HP} {w : World} (ht : TabsB B w0) (hw : St B w0 H w) :
    Calls Tryz.prog 137 [.int .i64 n].toArray w (Post B w0 fun v K => v = strV (Lib.itoa n) ∧ K = H) :=
  calls_grow hw ((Tryz.strconv_Itoa n h0 h1 w (ht w hw.below).pow).mono fun e w' ⟨h1, k, os, h2⟩ => ⟨h1, by rw [h2]; exact Lib.below_grow _ w (Nat.le_refl _) k os⟩)
theorem atoi_ok (l : List UInt8) (hl : l.length ≤ 1000000) (v : Int) (h : Lib.atoiAll l = .ok v) {B : Nat} {w0 : World} {H : List HP} {w : World} (hw : St B w0 H w) :
    Calls Tryz.prog 159 [strV l].toArray w (Post B w0 fun u K => u = .tuple #[.int .i64 v, .nilIface] ∧ K = H) := by
  have hs : (⟨l.toArray⟩ : ByteArray).size = l.length := by simp [ByteArray.size]
  refine calls_grow hw ((Tryz.strconv_Atoi_ok ⟨l.toArray⟩ (by omega) v h w).mono ?_)
  rintro e w' ⟨rfl, h2 | ⟨t, rfl⟩⟩
  · rw [h2]; exact ⟨rfl, Below.refl _ _⟩
  · exact ⟨rfl, Go.Joins.below_bytesWorld _ _ _ _ (Nat.le_refl _)⟩
theorem atoi_bad (l : List UInt8) (hl : l.length ≤ 1000000) (h : ∀ v, Lib.atoiAll l ≠ .ok v) {B : Nat} {w0 : World} {H : List HP} {w : World} (ht : TabsB B w0) (hw : St B w0 H w) :
    Calls Tryz.prog 159 [strV l].toArray w (Post B w0 fun u K => (∃ n t p, u = .tuple #[.int .i64 n, .iface t p]) ∧ K = H) := by
  have hs : (⟨l.toArray⟩ : ByteArray).size = l.length := by simp [ByteArray.size]
  have hT := ht w hw.below
  obtain ⟨tp1, p1, hv1⟩ := hT.syn
  obtain ⟨tp2, p2, hv2⟩ := hT.rng
  cases ha : Lib.atoiAll l
  · exact absurd ha (h _)
  · refine (Any.strconv_Atoi_syntax_var Tryz.laysC172 ⟨l.toArray⟩ (by omega) ha tp1 p1 w hv1).mono ?_
    rintro e w' ⟨N, rfl, _, _, hb⟩
    exact ⟨_, H, rfl, hw.grow hb, ⟨_, _, _, rfl⟩, rfl⟩
  · refine (Any.strconv_Atoi_range_var Tryz.laysC172 ⟨l.toArray⟩ (by omega) ha tp2 p2 w hv2).mono ?_
    rintro e w' ⟨N, rfl, _, _, hb⟩
    exact ⟨_, H, rfl, hw.grow hb, ⟨_, _, _, rfl⟩, rfl⟩
theorem split_spec (l : List UInt8) (c : UInt8) (hl : l.length ≤ 1000000) {B : Nat} {w0 : World} {H : List HP} {w : World} (ht : TabsB B w0) (hw : St B w0 H w) :
    Calls Tryz.prog 81 [strV l, .string ⟨#[c]⟩].toArray w (Post B w0 fun v K => ∃ g, v = .slice (some ⟨g, 0, none⟩) (cutC c l).length (cutC c l).length ∧ K = blk g (.cells ((cutC c l).map strV).toArray 9 (0, 0)) :: H) := by
  have hs : (⟨l.toArray⟩ : ByteArray).size = l.length := by simp [ByteArray.size]
  have hc : (⟨#[c]⟩ : ByteArray).size = 1 := rfl
  obtain ⟨m, hm⟩ := (ht w hw.below).mx
  have hlen := Lib.splitB_all ⟨#[c]⟩ (by rw [hc]; exact Nat.le_refl _) 0 _ (⟨l.toArray⟩ : ByteArray) rfl
  have hd := Lib.splitB_data ⟨#[c]⟩ 0 (Lib.countB ⟨l.toArray⟩ ⟨#[c]⟩) ⟨l.toArray⟩
  have e1 : (Lib.splitB ⟨#[c]⟩ 0 (Lib.countB ⟨l.toArray⟩ ⟨#[c]⟩) ⟨l.toArray⟩).map (·.data.toList) = cutC c l := by
    rw [hd]
    exact split_cut l
  have e2 : (cutC c l).length = Lib.countB ⟨l.toArray⟩ ⟨#[c]⟩ + 1 := by
    rw [← e1, List.length_map, hlen]
  have e3 : (Lib.splitB ⟨#[c]⟩ 0 (Lib.countB ⟨l.toArray⟩ ⟨#[c]⟩) ⟨l.toArray⟩).map Value.string = (cutC c l).map strV := by
    rw [← e1, List.map_map]
    refine List.map_congr_left fun x _ => ?_
    rfl
  refine (Tryz.strings_Split ⟨l.toArray⟩ ⟨#[c]⟩ m w (by omega) hm (by rw [hc]; exact Nat.le_refl _)).mono ?_
  rintro e w' ⟨rfl, hw'⟩
  rw [e3] at hw'
  refine ⟨_, _, rfl, by rw [hw']; exact hw.alloc _, w.heap.size, ?_, rfl⟩
  rw [e2]
end Go.Proofs.YtmalhidldgfeoaaGreatDoor

/- Walks: the cells of a slot. -/
namespace Go.Proofs.YtmalhidldgfeoaaGreatDoor
open Go.RowKit Go.Eng Go.Nw

/-- The indices of the cells of a slot, among the first k. -/
def inI (s : Sch) (slot : Int) (k : Nat) : List Nat := (List.range k).filter fun i => decide ((celAt s i).1 = slot)
def inXs (s : Sch) (slot : Int) : List (List Value) := (inI s slot s.cells.length).map fun (i : Nat) => [Value.int .i64 (i : Int)]
theorem inI_yes {s : Sch} {slot : Int} {k : Nat} (h : (celAt s k).1 = slot) : inI s slot (k + 1) = inI s slot k ++ [k] := by
  unfold inI; rw [List.range_succ, List.filter_append]; simp [h]
theorem inI_no {s : Sch} {slot : Int} {k : Nat} (h : (celAt s k).1 ≠ slot) : inI s slot (k + 1) = inI s slot k := by
  unfold inI; rw [List.range_succ, List.filter_append]; simp [h]
theorem inI_get {s : Sch} {slot : Int} {k n : Nat} (h : (celAt s k).1 = slot) (hk : k < n) : (inI s slot n)[(inI s slot k).length]? = some k := by
  obtain ⟨m, rfl⟩ : ∃ m, n = k + (m + 1) := ⟨n - k - 1, by omega⟩
  have e : inI s slot (k + (m + 1)) = inI s slot k ++ ((List.range (m + 1)).map (k + ·)).filter fun i => decide ((celAt s i).1 = slot) := by
    unfold inI; rw [List.range_add, List.filter_append]
  rw [e, List.getElem?_append_right (Nat.le_refl _), Nat.sub_self, List.range_succ_eq_map]
  simp [h]
theorem inI_mem {s : Sch} {slot : Int} {k i : Nat} : i ∈ inI s slot k ↔ i < k ∧ (celAt s i).1 = slot := by
  unfold inI; simp

def schB (g : Nat) (s : SchM) : HP := blk g (.cells #[.int .i64 s.len, .int .i64 s.off, .slice s.A s.cells.length s.cap] 30 (0, 0))
def intB (g : Nat) (x : Int) : HP := blk g (.cells #[.int .i64 x] 3 (0, 0))

set_option maxRecDepth 10000 in
set_option maxHeartbeats 1000000 in
theorem in1_iter (s : SchM) (slot : Int) (gs gt : Nat) {B : Nat} {w0 : World} {HI : List HP} (hr : Rd B w0 HI s.A (s.cells.flatMap celF)) (hl : s.cells.length ≤ 1000000000000)
    (hms : blk gs (.cells #[.int .i64 s.len, .int .i64 s.off, .slice s.A s.cells.length s.cap] 30 (0, 0)) ∈ HI) (hmt : blk gt (.cells #[.int .i64 slot] 3 (0, 0)) ∈ HI) :
    IterS Tryz.prog 118 [.pointer (some ⟨gs, 0, none⟩), .pointer (some ⟨gt, 0, none⟩)] (inXs s.sch slot) B w0 HI := by
  refine IterS_of Tryz.func118 Tryz.ntmps118 rfl rfl ?_
  intro l SS X hy L0 h0
  repeat' (first | apply (zs1 ?_) | (apply zg2; refine zs6 ?_) | (apply zg3; refine zs7 ?_) | (apply zg4; refine zs9 ?_) | apply (zs65 ?_) | apply (zs68 ?_) | apply (zs69 ?_) | apply (zs70 ?_) | apply (zs73 ?_) | fail)
  refine VC_loop1 (fun (x : Nat × List HP) => [(9, .int .i64 x.1), (8, .int .i64 s.cells.length), (7, .slice s.A s.cells.length s.cap), (0, .func (.yield l) #[] #[]), (1, .pointer (some ⟨gs, 0, none⟩)), (2, .pointer (some ⟨gt, 0, none⟩))]) (fun x => many x.2 :: HI) (fun x => x.1 ≤ s.cells.length ∧ SS (inI s.sch slot x.1).length x.2) (fun x => s.cells.length - x.1) (0, L0) ⟨Nat.zero_le _, h0⟩ ?_ (fun w hw => hw) ?_
  · (repeat (first | exact sub_nil _ | (apply sub_cons; first | exact rfl | exact congrArg (fun z : Int => some (Value.int .i64 z)) (by omega))))
  rintro ⟨i, L⟩ ⟨hi, hS⟩ K hK
  dsimp only at hi hS ⊢
  have hr := hr.cons (X := many L)
  by_cases hlt : i < s.cells.length
  · have hget : s.cells[i]? = some (celAt s.sch i) := celAt_some (s := s.sch) hlt
    have hlt2 : i < s.sch.cells.length := hlt
    iterate 22 (first | apply (zs1 ?_) | apply (zs2 ?_) | (apply zg3; refine zs61 ?_) | (apply zg5; refine zs57 ?_) | (apply (zs17 ?_ ?_) <;> intro _ <;> try (exfalso; omega)) | (apply zg22; refine zs51 ?_) | (apply zg24; (refine zs54 ?_; intro _)) | apply (zs65 ?_) | apply (zs68 ?_) | apply (zs69 ?_) | apply (zs70 ?_) | (apply zg27; refine zs71 ?_) | apply (zs73 ?_) | apply (zs76 ?_) | fail)
    refine VC_regionY 7 rfl rfl (by rintro ⟨_, _, _, _, h, _⟩; cases h) ?_
    repeat' (first | apply (zs1 ?_) | (apply zg1; first | refine zs3 ?_ | refine zs4 ?_) | (apply zg2; refine zs6 ?_) | (apply zg3; refine zs7 ?_) | (apply zg7; (refine zs15 ?_ ?_ <;> intro _ <;> try (exfalso; omega))) | apply (zs65 ?_) | fail)
    · rename_i g5 hs
      have hx : (inXs s.sch slot)[(inI s.sch slot i).length]? = some [.int .i64 (i : Int)] := by
        rw [inXs, List.getElem?_map, inI_get hs hlt2]; rfl
      have hY := hy _ _ hx [blk g5 (.cells (celF (celAt s.sch i)).toArray 40 (0, 0))] L hS
      apply VQ_yield _ _ (hy := hY)
      · exact wanted_some (j := 4) (s := 18) rfl rfl rfl
      · exact rfl
      · (repeat (first | exact args_nil | (apply args_cons; exact rfl)))
      · exact rfl
      · rintro ⟨_, _, _, _, h, _⟩; cases h
      · rintro _ ⟨L', hS', rfl⟩
        repeat' (first | apply (zs1 ?_) | (apply zg1; refine zs4 ?_) | (apply zg6; refine zs11 ?_) | (apply zg13; refine zs30 ?_) | (apply zg20; refine zs47 ?_) | apply (zs65 ?_) | apply (zs68 ?_) | apply (zs70 ?_) | (apply zg27; refine zs72 ?_) | apply (zs76 ?_) | apply (zs79 ?_) | fail)
        apply hK (i + 1, L')
        · exact ⟨by omega, by rw [inI_yes hs, List.length_append]; exact hS'⟩
        · dsimp only; omega
        · (repeat (first | exact sub_nil _ | (apply sub_cons; first | exact rfl | exact congrArg (fun z : Int => some (Value.int .i64 z)) (by omega))))
        · exact fun w hw => hw.tail
      · rintro _ ⟨L', hX', rfl⟩
        repeat' (first | (apply zg1; refine zs4 ?_) | (apply zg6; refine zs11 ?_) | (apply zg20; refine zs48 ?_) | apply (zs65 ?_) | apply (zs68 ?_) | (apply zg27; refine zs71 ?_) | apply (zs74 ?_) | apply (zs77 ?_) | apply (zs78 ?_) | fail)
        apply VQ_st (many L' :: HI)
        · exact fun w hw => hw.tail
        apply VQ_ret0; exact rfl
        exact .inr ⟨L', hX', rfl⟩
    · rename_i hs
      apply VQ_ylist (by rintro ⟨_, _, _, _, h, _⟩; cases h)
      repeat' (first | apply (zs1 ?_) | (apply zg1; refine zs3 ?_) | (apply zg6; refine zs12 ?_) | (apply zg13; refine zs30 ?_) | apply (zs65 ?_) | apply (zs68 ?_) | apply (zs70 ?_) | (apply zg27; refine zs72 ?_) | apply (zs76 ?_) | apply (zs79 ?_) | fail)
      apply hK (i + 1, L)
      · exact ⟨by omega, by rw [inI_no hs]; exact hS⟩
      · dsimp only; omega
      · (repeat (first | exact sub_nil _ | (apply sub_cons; first | exact rfl | exact congrArg (fun z : Int => some (Value.int .i64 z)) (by omega))))
      · exact fun w hw => hw.tail
  · repeat' (first | (apply (zs17 ?_ ?_) <;> intro _ <;> try (exfalso; omega)) | apply (zs65 ?_) | apply (zs68 ?_) | apply (zs69 ?_) | apply (zs70 ?_) | (apply zg27; refine zs72 ?_) | apply (zs75 ?_) | apply (zs80 ?_) | apply (zs81 ?_) | fail)
    apply VQ_end0; exact rfl
    rw [show i = s.cells.length by omega] at hS
    exact .inl ⟨L, by rw [inXs, List.length_map]; exact hS, rfl⟩
theorem inS_spec (s : SchM) (slot : Int) {B : Nat} {w0 : World} {H : List HP} {w : World} (hw : St B w0 H w) :
    Calls Tryz.prog 59 [s.val, .int .i64 slot].toArray w (Post B w0 fun v K => ∃ gs gt, v = .func (.func 118) #[] #[.pointer (some ⟨gs, 0, none⟩), .pointer (some ⟨gt, 0, none⟩)] ∧ K = intB gt slot :: schB gs s :: H) := by
  refine Calls_of_VC Tryz.func59 Tryz.ntmps59 rfl rfl hw ?_
  repeat' (first | apply (zs2 ?_) | (apply zg23; first | (refine zs52 ?_; intro _) | (refine zs53 ?_; intro _)) | apply (zs65 ?_) | apply (zs68 ?_) | apply (zs69 ?_) | apply (zs70 ?_) | apply (zs74 ?_) | (apply zg29; (apply VL_makeFunc; (repeat (first | exact args_nil | (apply args_cons; exact rfl))) ; exact rfl)) | fail)
  apply VQ_ret1; exact rfl; exact rfl
  exact ⟨_, _, rfl, rfl⟩
end Go.Proofs.YtmalhidldgfeoaaGreatDoor

/- Walks: At. -/
namespace Go.Proofs.YtmalhidldgfeoaaGreatDoor
open Go.RowKit Go.Eng Go.Nw

/-- The cells of a slot that an iterator handed over so far. -/
def celsIn (s : Sch) (slot : Int) (k : Nat) : List Cel := ((inI s slot s.cells.length).take k).map (celAt s)
theorem celsIn_all (s : Sch) (slot : Int) : celsIn s slot (inXs s slot).length = s.cells.filter fun c => decide (c.1 = slot) := by
  have e : s.cells = (List.range s.cells.length).map (celAt s) := by
    apply List.ext_getElem?
    intro i
    by_cases h : i < s.cells.length
    · rw [celAt_some h, List.getElem?_map, List.getElem?_range h]; rfl
    · rw [List.getElem?_eq_none (by omega), List.getElem?_eq_none (by simpa using h)]
  unfold celsIn inXs
  rw [List.length_map, List.take_length]
  conv => rhs; rw [e]
  rw [List.filter_map]
  rfl
theorem celsIn_step {s : Sch} {slot : Int} {k i : Nat} (h : (inI s slot s.cells.length)[k]? = some i) : celsIn s slot (k + 1) = celsIn s slot k ++ [celAt s i] := by
  unfold celsIn
  rw [List.take_add_one, h, List.map_append]; rfl
theorem inXs_get {s : Sch} {slot : Int} {k : Nat} {args : List Value} (h : (inXs s slot)[k]? = some args) : ∃ i, (inI s slot s.cells.length)[k]? = some i ∧ i < s.cells.length ∧ args = [.int .i64 (i : Int)] := by
  unfold inXs at h
  rw [List.getElem?_map] at h
  cases hi : (inI s slot s.cells.length)[k]? with
  | none => rw [hi] at h; cases h
  | some i =>
    rw [hi] at h
    cases h
    exact ⟨i, rfl, (inI_mem.1 (List.mem_of_getElem? hi)).1, rfl⟩
theorem celsIn_le {s : Sch} {slot : Int} {k : Nat} : (celsIn s slot k).length ≤ s.cells.length := by
  unfold celsIn inI
  rw [List.length_map, List.length_take]
  have := List.length_filter_le (fun i => decide ((celAt s i).1 = slot)) (List.range s.cells.length)
  rw [List.length_range] at this
  omega
structure AcM where
  A : Option Addr
  cap : Nat
  l : List Cel

set_option maxRecDepth 10000 in
set_option maxHeartbeats 1000000 in
theorem at_spec (s : SchM) (slot : Int) {B : Nat} {w0 : World} {H : List HP} {w : World} (hr : Rd B w0 H s.A (s.cells.flatMap celF)) (hl : s.cells.length ≤ 1000000000000) (hw : St B w0 H w) :
    Calls Tryz.prog 14 [s.val, .int .i64 slot].toArray w (Post B w0 fun v K => ∃ A cap, v = .slice A (atE s.sch slot).length cap ∧ K = cels A cap (atE s.sch slot) :: H) := by
  refine Calls_of_VCm Tryz.func14 Tryz.ntmps14 rfl rfl hw ?_
  have e1 : s.sch.cells = s.cells := rfl
  by_cases hf : formE s.sch = true
  rotate_left
  · have hf : formE s.sch = false := by simpa using hf
    repeat' (first | ((first | apply VL_callt en58 | apply VL_callq en58); (repeat (first | exact args_nil | (apply args_cons; exact rfl))); exact rfl; exact fun _ hw => (calls_val (congrArg Value.bool hf) (fun _ hw => form_spec s hr.cons hl hw) hw)) | apply (zs1 ?_) | apply (zs2 ?_) | (apply zg1; refine zs3 ?_) | (apply zg3; refine zs8 ?_) | (apply zg6; refine zs11 ?_) | (apply zg20; refine zs48 ?_) | (apply zg23; (refine zs52 ?_; intro _)) | apply (zs65 ?_) | apply (zs68 ?_) | apply (zs69 ?_) | apply (zs70 ?_) | (apply zg27; refine zs71 ?_) | apply (zs74 ?_) | apply (zs77 ?_) | fail)
    apply VQ_st (cels none 0 [] :: H)
    · exact fun w hw => hw.tail.nilSlice _ _
    apply VQ_m
    apply VQ_ret1; exact rfl; exact rfl
    exact ⟨none, 0, by rw [atE, if_pos (.inl hf)]; rfl, by rw [atE, if_pos (.inl hf)]⟩
  have hfr := form_iff.1 hf
  have hsz : 1 ≤ s.len ∧ s.len ≤ 512 := by
    have := of_decide_eq_true hfr.sized
    exact ⟨this.1, this.2.1⟩
  by_cases h0 : slot < 0
  · skip
    repeat' (first | ((first | apply VL_callt en58 | apply VL_callq en58); (repeat (first | exact args_nil | (apply args_cons; exact rfl))); exact rfl; exact fun _ hw => (calls_val (congrArg Value.bool hf) (fun _ hw => form_spec s hr.cons hl hw) hw)) | apply (zs1 ?_) | apply (zs2 ?_) | (apply zg1; refine zs4 ?_) | (apply zg3; refine zs8 ?_) | (apply zg6; refine zs12 ?_) | (apply (zs17 ?_ ?_) <;> intro _ <;> try (exfalso; omega)) | (apply zg20; refine zs47 ?_) | (apply zg23; (refine zs52 ?_; intro _)) | apply (zs65 ?_) | apply (zs68 ?_) | apply (zs69 ?_) | apply (zs70 ?_) | (apply zg27; refine zs71 ?_) | apply (zs74 ?_) | apply (zs77 ?_) | fail)
    apply VQ_st (cels none 0 [] :: H)
    · exact fun w hw => hw.tail.nilSlice _ _
    apply VQ_m
    apply VQ_ret1; exact rfl; exact rfl
    exact ⟨none, 0, by rw [atE, if_pos (.inr h0)]; rfl, by rw [atE, if_pos (.inr h0)]⟩
  obtain ⟨tz, hto⟩ : ∃ tz, slot % s.len = tz := ⟨_, rfl⟩
  have hat : atE s.sch slot = s.cells.filter fun c => decide (c.1 = tz) := by
    rw [atE, if_neg (by simp [hf, h0]), ← hto, ← Int.tmod_eq_emod_of_nonneg (by omega)]; rfl
  rw [hat]
  repeat' (first | ((first | apply VL_callt en58 | apply VL_callq en58); (repeat (first | exact args_nil | (apply args_cons; exact rfl))); exact rfl; exact fun _ hw => (calls_val (congrArg Value.bool hf) (fun _ hw => form_spec s hr.cons hl hw) hw)) | apply (zs1 ?_) | apply (zs2 ?_) | (apply zg1; refine zs4 ?_) | (apply zg3; refine zs8 ?_) | (apply zg6; refine zs12 ?_) | (apply (zs17 ?_ ?_) <;> intro _ <;> try (exfalso; omega)) | (apply zg20; refine zs47 ?_) | (apply zg23; (refine zs52 ?_; intro _)) | (apply zg24; (refine zs54 ?_; intro _)) | apply (zs65 ?_) | apply (zs68 ?_) | apply (zs69 ?_) | apply (zs70 ?_) | (apply zg27; refine zs72 ?_) | apply (zs76 ?_) | fail)
  rename_i gB _ gO
  apply VC_held [0, 1, 2, 3, 4] [5] [true, true]
  kernel_rfl
  kernel_rfl
  (repeat (first | with_reducible exact split_nil | with_reducible apply split_t | with_reducible apply split_f))
  (simp only [pickOps, nthO]; rfl)
  (simp only [pickOps, nthO]; rfl)
  repeat' (first | apply (zs1 ?_) | (apply zg2; refine zs6 ?_) | (apply zg3; first | refine zs7 ?_ | refine zs8 ?_) | (apply zg17; refine zs37 ?_) | (apply VL_nilh; (repeat (first | with_reducible exact app_nil | with_reducible apply app_cons | exact app_niln _))) | apply (zs93 ?_) | fail)
  apply VL_call _ en59
  (repeat (first | exact args_nil | (apply args_cons; exact rfl)))
  exact rfl
  exact fun _ hw => (inS_spec s _ (hw))
  rintro _ _ ⟨gs, gt, rfl, rfl⟩
  rw [hto]
  repeat' (first | apply (zs65 ?_) | apply (zs68 ?_) | apply (zs73 ?_) | apply (zs94 ?_) | fail)
  have hr4 : Rd B w0 (intB gt tz :: schB gs s :: schB gB s :: H) s.A (s.cells.flatMap celF) := hr.cons.cons.cons
  refine VC_nilSlice 40 5 ?_
  refine VC_rangeFunc (gf := 118) (lb := [.pointer (some ⟨gs, 0, none⟩), .pointer (some ⟨gt, 0, none⟩)]) (xs := inXs s.sch tz) (intB gt tz :: schB gs s :: schB gB s :: H) (fun x : AcM => [blk gO (.cells #[.slice x.A x.l.length x.cap] 28 (0, 0)), cels x.A x.cap x.l]) (fun i x => x.l = celsIn s.sch tz i) (fun _ _ => False) ⟨none, 0, []⟩ rfl en118 (in1_iter s tz gs gt hr4 hl (.tail _ (.head _)) (.head _)) rfl ?_ (by kernel_rfl) (by kernel_rfl) ?_ rfl ?_ ?_ (fun _ _ _ h => h.elim)
  · intro args h
    obtain ⟨k, hk⟩ := List.mem_iff_getElem?.1 h
    obtain ⟨i, _, _, rfl⟩ := inXs_get hk
    rfl
  · unfold schB intB cels
    simp only [List.cons_append, List.nil_append, List.length_nil, List.flatMap_nil]
    exact fun w hw => hw.perm (.trans (.cons _ (.cons _ (.swap _ _ _))) (.trans (.cons _ (.swap _ _ _)) (.swap _ _ _)))
  · rintro l k args R ⟨A, cap, xs⟩ hk hI
    obtain ⟨i, hi, hlt, rfl⟩ := inXs_get hk
    have hlt2 : i < s.cells.length := hlt
    dsimp only at hI ⊢
    dsimp only [putEnv, List.cons_append, List.nil_append]
    have hget : s.cells[i]? = some (celAt s.sch i) := celAt_some (s := s.sch) hlt
    repeat' (first | apply (zs2 ?_) | apply (zs65 ?_) | apply (zs70 ?_) | fail)
    apply VQ_assign rem_here
    intro R'
    unfold cels intB schB
    refine VC_st (R' :: blk gO (.cells #[.slice A xs.length cap] 28 (0, 0)) :: sl 40 5 A xs.length cap (xs.flatMap celF) :: blk gt (.cells #[.int .i64 tz] 3 (0, 0)) :: blk gs (.cells #[.int .i64 s.len, .int .i64 s.off, .slice s.A s.cells.length s.cap] 30 (0, 0)) :: blk gB (.cells #[.int .i64 s.len, .int .i64 s.off, .slice s.A s.cells.length s.cap] 30 (0, 0)) :: [many H]) (fun w hw => hw.perm (.cons _ (.cons _ (.cons _ (.cons _ (.cons _ (.cons _ (.closeT _)))))))) ?_
    have hrt : Rd B w0 [many H] s.A (s.cells.flatMap celF) := hr.tail
    repeat' (first | apply (zs73 ?_) | fail)
    apply VC_heldH [0, 1, 2, 3, 4, 5, 6] [7, 8] [false, true, false, false, false, true, true]
    kernel_rfl
    kernel_rfl
    (repeat (first | with_reducible exact split_nil | with_reducible apply split_t | with_reducible apply split_f))
    (simp only [pickOps, nthO]; rfl)
    (simp only [pickOps, nthO]; rfl)
    have hxl : xs.length ≤ 512 := by
      have h1 := celsIn_le (s := s.sch) (slot := tz) (k := k)
      rw [← hI] at h1
      exact Nat.le_trans h1 hfr.few
    repeat' (first | apply (zs1 ?_) | (apply zg2; refine zs6 ?_) | (apply zg3; first | refine zs7 ?_ | refine zs61 ?_) | (apply zg5; refine zs57 ?_) | (apply zg21; (refine zs49 ?_; intro _ _)) | (apply zg22; refine zs50 ?_) | (apply zg26; (refine zs56 ?_; intro _)) | apply (zs65 ?_) | (apply VL_nilh; (repeat (first | with_reducible exact app_nil | with_reducible apply app_cons | exact app_niln _))) | apply (zs79 ?_) | apply (zs87 ?_) | (apply VQ_heldq; (repeat (first | with_reducible exact pull_nil | (with_reducible apply pull_cons; (repeat (first | with_reducible exact rem_here | with_reducible apply rem_there)))))) | apply (zs93 ?_) | apply (zs94 ?_) | fail)
    rename_i A' cap'
    apply VQ_body (AcM.mk A' cap' (xs ++ [celAt s.sch i]))
    · show xs ++ [celAt s.sch i] = celsIn s.sch tz (k + 1)
      rw [celsIn_step hi, hI]
    · intro w hw
      rw [cels_snocR, len_snoc xs (celAt s.sch i)] at hw
      unfold cels at hw
      have h5 : St B w0 (R' :: blk gO (.cells #[.slice A' (xs ++ [celAt s.sch i]).length cap'] 28 (0, 0)) :: sl 40 5 A' (xs ++ [celAt s.sch i]).length cap' ((xs ++ [celAt s.sch i]).flatMap celF) :: blk gt (.cells #[.int .i64 tz] 3 (0, 0)) :: blk gs (.cells #[.int .i64 s.len, .int .i64 s.off, .slice s.A s.cells.length s.cap] 30 (0, 0)) :: blk gB (.cells #[.int .i64 s.len, .int .i64 s.off, .slice s.A s.cells.length s.cap] 30 (0, 0)) :: [many H]) w := by
        revert w
        (intro w hw; refine hw.perm ?_; focus repeat (first | with_reducible exact Perm.refl _ | (with_reducible apply perm_take; focus ((repeat (first | with_reducible exact rem_here | with_reducible apply rem_there)); done)) | with_reducible apply Perm.dropK))
      exact h5.perm (.cons _ (.cons _ (.cons _ (.cons _ (.cons _ (.cons _ (.openT _)))))))
  · rintro D ⟨A, cap, xs⟩ hI
    dsimp only at hI ⊢
    rw [celsIn_all, e1] at hI
    subst hI
    dsimp only [List.cons_append, List.nil_append]
    unfold cels intB schB
    repeat' (first | apply (zs2 ?_) | (apply zg3; refine zs7 ?_) | apply (zs65 ?_) | apply (zs68 ?_) | apply (zs69 ?_) | apply (zs70 ?_) | apply (zs74 ?_) | apply (zs79 ?_) | fail)
    apply VQ_mark rem_here
    apply VQ_m
    apply VQ_st (cels A cap (s.cells.filter fun c => decide (c.1 = tz)) :: H)
    · unfold cels
      (intro w hw; refine hw.perm ?_; focus repeat (first | with_reducible exact Perm.refl _ | (with_reducible apply perm_take; focus ((repeat (first | with_reducible exact rem_here | with_reducible apply rem_there)); done)) | with_reducible apply Perm.dropK))
    apply VQ_ret1; exact rfl; exact rfl
    exact ⟨A, cap, rfl, rfl⟩
end Go.Proofs.YtmalhidldgfeoaaGreatDoor

/- Walks: strings.Builder; a line of a text; Print. -/
namespace Go.Proofs.YtmalhidldgfeoaaGreatDoor
open Go.RowKit Go.Eng Go.Nw

section
variable {m : Eng.Mode} {n : Shp} {B d : Nat} {w0 : World} {ops : Array Oper} {Q : Exit → Act → World → Prop} {rest : List Oper} {env : Env} {H : List HP} {ty : TypeId} {pos : String} {after : Array Edge} {x y : Operand}
theorem VL_cat (a b : List UInt8) (hx : evo env x = some (strV a)) (hy : evo env y = some (strV b)) (hn : Nat.ble (d + 1) n.k = true) (hb : a.length + b.length ≤ 1000000) (h : VL Tryz.prog m n B w0 ops Q rest ((d, strV (a ++ b)) :: env) H) :
    VL Tryz.prog m n B w0 ops Q (⟨some d, .binOp .add 9 x y 9, ty, pos, after, none⟩ :: rest) env H := by
  have hs : ∀ l : List UInt8, (⟨l.toArray⟩ : ByteArray).size = l.length := fun l => by simp [ByteArray.size]
  refine VL_scat hx hy hn (by rw [hs, hs]; omega) ?_
  have e : (⟨a.toArray⟩ : ByteArray) ++ ⟨b.toArray⟩ = ⟨(a ++ b).toArray⟩ := by
    apply ByteArray.ext
    simp
  rw [e]
  exact h
theorem VL_toUns {g : Nat} {cs : Array Value} {fr : Nat × Nat} (hx : evo env x = some (.pointer (some ⟨g, 0, none⟩))) (hm : blk g (.cells cs 132 fr) ∈ H) (hc : cs.size = 2) (hn : Nat.ble (d + 1) n.k = true)
    (h : VL Tryz.prog none n B w0 ops Q rest ((d, .pointer (some ⟨g, 0, none⟩)) :: env) H) : VL Tryz.prog none n B w0 ops Q (⟨some d, .convert 129 245 x, ty, pos, after, none⟩ :: rest) env H := by
  refine VL_opE (fun v K' => v = .pointer (some ⟨g, 0, none⟩) ∧ K' = H) rfl rfl hn (fun a w ha hw => ?_) (by rintro _ _ ⟨rfl, rfl⟩; exact h)
  have hb := (hw.blk hm).1
  obtain ⟨j, hj, hjs⟩ := Option.map_eq_some_iff.1 (show (Tryz.prog.info? 132).map (·.size) = some 2 by kernel_rfl)
  have hr := Lib.run_to_unsafe (P := Tryz.prog) w ⟨g, 0, none⟩ Tryz.underlying129 Tryz.underlying245 hj (by rw [hjs]; decide) (show w.shape? g = some (132, 2) by simp [World.shape?, hb, hc]) (Nat.zero_lt_succ 1)
  exact ⟨_, H, w, by simp [execOp, ha.eval hx, hr], hw, rfl, rfl⟩
theorem VL_ofUns {g : Nat} {cs : Array Value} {fr : Nat × Nat} (hx : evo env x = some (.pointer (some ⟨g, 0, none⟩))) (hm : blk g (.cells cs 132 fr) ∈ H) (hc : cs.size = 2) (hn : Nat.ble (d + 1) n.k = true)
    (h : VL Tryz.prog none n B w0 ops Q rest ((d, .pointer (some ⟨g, 0, none⟩)) :: env) H) : VL Tryz.prog none n B w0 ops Q (⟨some d, .convert 245 129 x, ty, pos, after, none⟩ :: rest) env H := by
  refine VL_opE (fun v K' => v = .pointer (some ⟨g, 0, none⟩) ∧ K' = H) rfl rfl hn (fun a w ha hw => ?_) (by rintro _ _ ⟨rfl, rfl⟩; exact h)
  have hb := (hw.blk hm).1
  obtain ⟨j, hj, hjs⟩ := Option.map_eq_some_iff.1 (show (Tryz.prog.info? 132).map (·.size) = some 2 by kernel_rfl)
  have hr := Lib.run_from_unsafe (P := Tryz.prog) w ⟨g, 0, none⟩ Tryz.underlying245 Tryz.underlying129 hj (show w.shape? g = some (132, 2) by simp [World.shape?, hb, hc]) (by kernel_rfl)
  exact ⟨_, H, w, by simp [execOp, ha.eval hx, hr], hw, rfl, rfl⟩
theorem VL_noEsc {v : Value} {tys : Array TypeId} (hx : evo env x = some v) (hn : Nat.ble (d + 1) n.k = true) (h : VL Tryz.prog none n B w0 ops Q rest ((d, v) :: env) H) :
    VL Tryz.prog none n B w0 ops Q (⟨some d, .call ⟨.value (.func 196), #[x], tys⟩, ty, pos, after, none⟩ :: rest) env H := by
  refine VL_opE (fun u K' => u = v ∧ K' = H) rfl rfl hn (fun a w ha hw => ⟨v, H, w, ?_, hw, rfl, rfl⟩) (by rintro _ _ ⟨rfl, rfl⟩; exact h)
  have hr := run_callFunc_extern (P := Tryz.prog) Tryz.func196 (by kernel_rfl) (by kernel_rfl) (by kernel_rfl) (e := Extern.AbiNoEscape.same) (by kernel_rfl) #[v] w
  have he : a.eval (.func 196) = .func (.func 196) #[] #[] := rfl
  simp [execOp, resolve, invoke, ha.eval hx, he, Deferred.ofValue, hr, Lib.run_noEscape, Result.andThen]
theorem VL_pneqs {g : Addr} (hx : evo env x = some (.pointer (some g))) (hy : evo env y = some (.pointer (some g))) (hn : Nat.ble (d + 1) n.k = true) (h : VL Tryz.prog m n B w0 ops Q rest ((d, .bool false) :: env) H) :
    VL Tryz.prog m n B w0 ops Q (⟨some d, .binOp .neq 129 x y 129, ty, pos, after, none⟩ :: rest) env H := by
  obtain ⟨j, hj, hjs⟩ := Option.map_eq_some_iff.1 (show (Tryz.prog.info? 132).map (·.size) = some 2 by kernel_rfl)
  exact VL_bin hx hy hn (fun _ => rfl) (fun w => Lib.run_neq_ptr_same w g Tryz.underlying129 hj) h
end
set_option maxRecDepth 10000 in
theorem copyCheck_spec (b : Nat) (p v : Value) (hp : p = .pointer none ∨ p = .pointer (some ⟨b, 0, none⟩)) {B : Nat} {w0 : World} {H : List HP} {w : World} (hw : St B w0 (blk b (.cells #[p, v] 132 (0, 0)) :: H) w) :
    Calls Tryz.prog 136 [.pointer (some ⟨b, 0, none⟩)].toArray w (Post B w0 fun u K => u = .tuple #[] ∧ K = blk b (.cells #[.pointer (some ⟨b, 0, none⟩), v] 132 (0, 0)) :: H) := by
  refine Calls_of_VC Tryz.func136 Tryz.ntmps136 rfl rfl hw ?_
  rcases hp with rfl | rfl
  · skip
    repeat' (first | (apply VL_peql0; exact rfl; exact rfl; kernel_rfl) | (apply VL_toUns; exact rfl; (focus repeat (first | with_reducible exact List.mem_cons_self | with_reducible apply List.mem_cons_of_mem | assumption)); exact rfl; exact rfl) | (apply VL_ofUns; exact rfl; (focus repeat (first | with_reducible exact List.mem_cons_self | with_reducible apply List.mem_cons_of_mem | assumption)); exact rfl; exact rfl) | (apply VL_noEsc; exact rfl; exact rfl) | (apply VL_pneqs; exact rfl; exact rfl; exact rfl) | apply (zs1 ?_) | apply (zs5 ?_) | (apply zg2; refine zs6 ?_) | (apply zg3; refine zs7 ?_) | (apply zg22; refine zs50 ?_) | apply (zs65 ?_) | apply (zs68 ?_) | apply (zs69 ?_) | apply (zs70 ?_) | (apply zg27; refine zs71 ?_) | fail)
    apply VQ_end0; exact rfl; exact ⟨rfl, rfl⟩
  · skip
    repeat' (first | (apply VL_peql0; exact rfl; exact rfl; kernel_rfl) | (apply VL_pneqs; exact rfl; exact rfl; exact rfl) | apply (zs1 ?_) | apply (zs5 ?_) | (apply zg2; refine zs6 ?_) | (apply zg3; refine zs7 ?_) | apply (zs65 ?_) | apply (zs68 ?_) | apply (zs69 ?_) | apply (zs70 ?_) | (apply zg27; refine zs72 ?_) | apply (zs76 ?_) | fail)
    apply VQ_end0; exact rfl; exact ⟨rfl, rfl⟩
def bdP (b : Nat) (p : Value) (A : Option Addr) (cap : Nat) (l : List UInt8) (H : List HP) : List HP := blk b (.cells #[p, .slice A l.length cap] 132 (0, 0)) :: sl 5 1 A l.length cap (Lib.byteCells l) :: H
set_option maxRecDepth 10000 in
theorem write_spec (b : Nat) (p : Value) (hp : p = .pointer none ∨ p = .pointer (some ⟨b, 0, none⟩)) (A : Option Addr) (cap : Nat) (l s : List UInt8) (hl : l.length + s.length ≤ 1000000) {B : Nat} {w0 : World} {H : List HP} {w : World} (hw : St B w0 (bdP b p A cap l H) w) :
    Calls Tryz.prog 76 [.pointer (some ⟨b, 0, none⟩), strV s].toArray w (Post B w0 fun u K => u = .tuple #[.int .i64 s.length, .nilIface] ∧ ∃ A' cap', K = bdP b (.pointer (some ⟨b, 0, none⟩)) A' cap' (l ++ s) H) := by
  have hs : (⟨s.toArray⟩ : ByteArray).size = s.length := by simp [ByteArray.size]
  refine Calls_of_VC Tryz.func76 Tryz.ntmps76 rfl rfl hw ?_
  unfold bdP
  repeat' (first | apply (zs1 ?_) | apply (zs2 ?_) | apply (zs65 ?_) | apply (zs68 ?_) | apply (zs69 ?_) | apply (zs70 ?_) | fail)
  apply VL_call _ en136
  (repeat (first | exact args_nil | (apply args_cons; exact rfl)))
  exact rfl
  exact fun _ hw => (copyCheck_spec b p _ hp (hw))
  rintro _ _ ⟨rfl, rfl⟩
  repeat' (first | (apply VL_appendStr T (e := 5); exact rfl; exact rfl; exact rfl; kernel_rfl; exact rfl; exact rfl; (intro _ _; (repeat (first | with_reducible exact Upd.here _ | with_reducible apply Upd.there))); (rw [hs]; omega); intro A' cap') | apply (zs1 ?_) | apply (zs2 ?_) | apply (zs5 ?_) | (apply zg2; refine zs6 ?_) | (apply zg3; refine zs7 ?_) | (apply zg4; refine zs14 ?_) | (apply zg22; refine zs50 ?_) | apply (zs65 ?_) | apply (zs68 ?_) | apply (zs69 ?_) | apply (zs70 ?_) | apply (zs74 ?_) | fail)
  have e1 : Lib.byteCells l ++ Lib.strCells ⟨s.toArray⟩ = Lib.byteCells (l ++ s) := by
    unfold Lib.byteCells Lib.strCells
    rw [List.map_append]
  have e2 : l.length + (⟨s.toArray⟩ : ByteArray).size = (l ++ s).length := by rw [hs, List.length_append]
  apply VQ_ret2; exact rfl; exact rfl; exact rfl
  refine ⟨by rw [hs], A', cap', ?_⟩
  rw [e1, e2]
theorem bdP_is {b : Nat} {p : Value} {A : Option Addr} {cap : Nat} {l : List UInt8} {B : Nat} {w0 w : World} {H : List HP} (hp : p = .pointer none ∨ p = .pointer (some ⟨b, 0, none⟩)) (hw : St B w0 (bdP b p A cap l H) w) : Lib.IsBuilder 132 5 B b (Lib.byteCells l) w := by
  obtain ⟨_, _, S1, S2, k1, k2, k3, ⟨k4, k5⟩, S3, S4, j1, j2, j3, ⟨⟨j4, j5⟩, j6⟩, j7⟩ := hw
  have hl : (Lib.byteCells l).length = l.length := by unfold Lib.byteCells; rw [List.length_map]
  have hat : Lib.BuilderAt 132 5 B b p (Lib.byteCells l) w := by
    refine ⟨(k1 b k4).1, .slice A l.length cap, k5, ⟨by rw [hl]; omega, ?_⟩, ?_⟩
    · rw [hl]
      rcases j5 with j5 | ⟨g, c, cur, e1, e2, e3⟩
      · exact .inl j5
      · refine .inr ⟨g, c, cur, e1, ?_, e3⟩
        injection e1 with e1
        exact (k2 g (j1 g (j6 _ e1))).1
    · intro e
      cases A with
      | none => cases e
      | some a =>
        simp only [Value.ownBlock, Option.some.injEq] at e
        have := j6 a rfl
        rw [e] at this
        exact k3 b k4 (j1 b this)
  rcases hp with rfl | rfl
  · exact .inl hat
  · exact .inr hat
theorem string_spec {b : Nat} {p : Value} {A : Option Addr} {cap : Nat} {l : List UInt8} {B : Nat} {w0 w : World} {H : List HP} (hp : p = .pointer none ∨ p = .pointer (some ⟨b, 0, none⟩)) (hw : St B w0 (bdP b p A cap l H) w) :
    Calls Tryz.prog 78 [.pointer (some ⟨b, 0, none⟩)].toArray w (Post B w0 fun v K => v = strV l ∧ K = []) := by
  refine (Tryz.Builder_String_any B b l w (bdP_is hp hw) hw.le).mono ?_
  rintro e w' ⟨rfl, hb⟩
  exact ⟨_, [], rfl, ⟨hw.below.trans hb, Nat.le_trans hw.le hb.size, trivial⟩, rfl, rfl⟩
theorem itoa_len {n : Int} (h : 0 ≤ n ∧ n < 10000) : (Lib.itoa n).length ≤ 4 := by
  rw [itoa_nat h.1]; exact dec_len (by omega)
theorem body_len {w : List UInt8} : ∀ {l : List Int}, (∀ n ∈ l, 0 ≤ n ∧ n < 10000) → (bodyB w l).length ≤ w.length + 5 * l.length
  | [], _ => by simp [bodyB]
  | n :: l, h => by
    have ih := body_len (w := w) (l := l) fun m hm => h m (List.mem_cons_of_mem _ hm)
    have h1 := itoa_len (h n List.mem_cons_self)
    unfold bodyB at ih ⊢
    simp only [List.flatMap_cons, List.length_append, List.length_cons] at ih ⊢
    omega
theorem body_snoc (w : List UInt8) (l : List Int) (n : Int) : bodyB w (l ++ [n]) = bodyB w l ++ ([32] ++ Lib.itoa n) := by
  unfold bodyB; simp
set_option maxRecDepth 10000 in
theorem line_spec (word : List UInt8) (l : List Int) (h : ∀ n ∈ l, 0 ≤ n ∧ n < 10000) (h5 : l.length ≤ 100) (hwd : word.length ≤ 100) {A : Option Addr} {cap B : Nat} {w0 : World} {H : List HP} {w : World} (ht : TabsB B w0) (hr : Rd B w0 H A (l.flatMap numF)) (hw : St B w0 H w) :
    Calls Tryz.prog 104 [strV word, .slice A l.length cap].toArray w (Post B w0 fun v K => v = strV (lineB word l) ∧ K = H) := by
  refine Calls_of_VC Tryz.func104 Tryz.ntmps104 rfl rfl hw ?_
  repeat' (first | apply (zs1 ?_) | apply (zs2 ?_) | (apply zg4; refine zs9 ?_) | apply (zs65 ?_) | apply (zs68 ?_) | apply (zs69 ?_) | apply (zs70 ?_) | apply (zs73 ?_) | fail)
  refine VC_loop1 (fun (i : Nat) => [(9, .int .i64 i), (8, .int .i64 l.length), (7, .slice A l.length cap), (0, strV (bodyB word (l.take i)))]) (fun _ => H) (fun i => i ≤ l.length) (fun i => l.length - i) 0 (Nat.zero_le _) ?_ (fun w hw => hw) ?_
  · have e0 : bodyB word (l.take 0) = word := by simp [bodyB]
    rw [e0]
    (repeat (first | exact sub_nil _ | (apply sub_cons; first | exact rfl | exact congrArg (fun z : Int => some (Value.int .i64 z)) (by omega))))
  intro i hi K hK
  have hbl := body_len (w := word) (l := l.take i) fun n hn => h n (List.mem_of_mem_take hn)
  have hlt0 : (l.take i).length ≤ 100 := by rw [List.length_take]; omega
  by_cases hlt : i < l.length
  · obtain ⟨n, hn⟩ : ∃ n, l[i]? = some n := ⟨_, List.getElem?_eq_getElem hlt⟩
    have hnb := h n (List.mem_of_getElem? hn)
    have hil := itoa_len hnb
    repeat' (first | ((first | apply VL_callt en137 | apply VL_callq en137); (repeat (first | exact args_nil | (apply args_cons; exact rfl))); exact rfl; exact fun _ hw => (itoa_spec n (by omega) (by omega) ht hw)) | (apply VL_cat [32] (Lib.itoa n); exact rfl; exact rfl; exact rfl; (show 1 + _ ≤ _; omega)) | (apply VL_cat (bodyB word (l.take i)) ([32] ++ Lib.itoa n); exact rfl; exact rfl; exact rfl; (rw [List.length_append]; show _ + (1 + _) ≤ _; omega)) | apply (zs1 ?_) | apply (zs2 ?_) | (apply zg3; refine zs60 ?_) | (apply zg5; refine zs57 ?_) | (apply (zs17 ?_ ?_) <;> intro _ <;> try (exfalso; omega)) | (apply zg13; refine zs30 ?_) | apply (zs65 ?_) | apply (zs68 ?_) | apply (zs69 ?_) | apply (zs70 ?_) | (apply zg27; refine zs71 ?_) | apply (zs73 ?_) | apply (zs76 ?_) | apply (zs79 ?_) | fail)
    apply hK (i + 1)
    · show i + 1 ≤ l.length
      omega
    · omega
    · rw [List.take_add_one, hn, Option.toList_some, body_snoc]
      (repeat (first | exact sub_nil _ | (apply sub_cons; first | exact rfl | exact congrArg (fun z : Int => some (Value.int .i64 z)) (by omega))))
    · exact fun w hw => hw
  · skip
    repeat' (first | (apply VL_cat (bodyB word (l.take i)) [10]; exact rfl; exact rfl; exact rfl; (show _ + 1 ≤ _; omega)) | apply (zs1 ?_) | apply (zs2 ?_) | (apply (zs17 ?_ ?_) <;> intro _ <;> try (exfalso; omega)) | apply (zs65 ?_) | apply (zs68 ?_) | apply (zs69 ?_) | apply (zs70 ?_) | (apply zg27; refine zs72 ?_) | apply (zs74 ?_) | apply (zs75 ?_) | apply (zs80 ?_) | apply (zs81 ?_) | fail)
    apply VQ_ret1; exact rfl; exact rfl
    rw [show i = l.length by omega, List.take_length]
    exact ⟨rfl, rfl⟩

def textTo (s : Sch) (i : Nat) : List UInt8 := lineB wordS [s.len, s.off] ++ (s.cells.take i).flatMap fun c => lineB wordC (nums c)
theorem textTo_step {s : Sch} {i : Nat} (h : i < s.cells.length) : textTo s (i + 1) = textTo s i ++ lineB wordC (nums (celAt s i)) := by
  unfold textTo
  rw [List.take_add_one, celAt_some h, Option.toList_some, List.flatMap_append, List.append_assoc]
  simp
theorem line_len {w : List UInt8} {l : List Int} (h : ∀ n ∈ l, 0 ≤ n ∧ n < 10000) : (lineB w l).length ≤ w.length + 5 * l.length + 1 := by
  unfold lineB
  have := body_len (w := w) h
  rw [List.length_append]
  show _ + 1 ≤ _
  omega
theorem textTo_len {s : Sch} (h : Frm s) : ∀ i, i ≤ s.cells.length → (textTo s i).length ≤ 100 + 40 * i
  | 0, _ => by
    have h1 := line_len (w := wordS) (form_nums h).1
    unfold textTo
    simp only [List.take_zero, List.flatMap_nil, List.append_nil]
    have : wordS.length = 8 := rfl
    simp only [List.length_cons, List.length_nil] at h1
    omega
  | i + 1, hi => by
    have ih := textTo_len h i (by omega)
    have h1 := line_len (w := wordC) ((form_nums h).2 _ (celAt_mem (s := s) (i := i) (by omega)))
    rw [textTo_step (by omega), List.length_append]
    have : wordC.length = 4 := rfl
    have h2 : (nums (celAt s i)).length = 5 := rfl
    omega
set_option maxRecDepth 10000 in
set_option maxHeartbeats 1000000 in
theorem print_in (s : SchM) {B : Nat} {w0 : World} {w : World} (ht : TabsB B w0) (hr : Rd B w0 [] s.A (s.cells.flatMap celF)) (hl : s.cells.length ≤ 1000000000000) (hw : St B w0 [] w) :
    Calls Tryz.prog 47 [s.val].toArray w (Post B w0 fun v _ => v = .tuple #[strV (printE s.sch).1, .int .i64 (printE s.sch).2]) := by
  refine Calls_of_VC Tryz.func47 Tryz.ntmps47 rfl rfl hw ?_
  have e1 : s.sch.cells = s.cells := rfl
  cases hf : formE s.sch with
  | false =>
    repeat' (first | ((first | apply VL_callt en58 | apply VL_callq en58); (repeat (first | exact args_nil | (apply args_cons; exact rfl))); exact rfl; exact fun _ hw => (calls_val (congrArg Value.bool hf) (fun _ hw => form_spec s hr.cons hl hw) hw)) | apply (zs2 ?_) | (apply zg3; refine zs8 ?_) | (apply zg20; refine zs48 ?_) | (apply zg23; (refine zs52 ?_; intro _)) | apply (zs65 ?_) | apply (zs68 ?_) | apply (zs69 ?_) | apply (zs70 ?_) | (apply zg27; refine zs71 ?_) | apply (zs74 ?_) | apply (zs77 ?_) | fail)
    apply VQ_ret2; exact rfl; exact rfl; exact rfl
    rw [printE, if_pos hf]
  | true =>
    have hfr := form_iff.1 hf
    have hle : s.cells.length ≤ 512 := hfr.few
    have hnm := form_nums hfr
    have hln1 := line_len (w := wordS) hnm.1
    repeat' (first | ((first | apply VL_callt en58 | apply VL_callq en58); (repeat (first | exact args_nil | (apply args_cons; exact rfl))); exact rfl; exact fun _ hw => (calls_val (congrArg Value.bool hf) (fun _ hw => form_spec s hr.cons hl hw) hw)) | apply (zs2 ?_) | (apply zg2; refine zs6 ?_) | (apply zg3; first | refine zs7 ?_ | refine zs8 ?_) | (apply zg20; refine zs47 ?_) | (apply zg23; (refine zs52 ?_; intro _)) | (apply zg24; (refine zs54 ?_; intro _)) | (apply zg26; (refine zs56 ?_; intro _)) | apply (zs65 ?_) | apply (zs68 ?_) | apply (zs69 ?_) | apply (zs70 ?_) | (apply zg27; refine zs72 ?_) | apply (zs76 ?_) | fail)
    rename_i gs gb gl
    have hrl : Rd B w0 [blk gl (.cells #[.int .i64 s.len, .int .i64 s.off] 3 (0, 0)), blk gb (.cells (Value.agg #[.pointer none, .slice none 0 0]).cells 132 (0, 0)), blk gs (.cells #[.int .i64 s.len, .int .i64 s.off, .slice s.A s.cells.length s.cap] 30 (0, 0))] (some ⟨gl, 0, none⟩) ([s.sch.len, s.sch.off].flatMap numF) := Rd.blk (cs := #[.int .i64 s.len, .int .i64 s.off]) (.head _)
    first | apply VL_callt en104 | apply VL_callq en104
    (repeat (first | exact args_nil | (apply args_cons; exact rfl)))
    exact rfl
    exact fun _ hw => (line_spec wordS [s.sch.len, s.sch.off] hnm.1 (by show 2 ≤ 100; decide) (by decide) ht hrl hw)
    apply VL_st (bdP gb (.pointer none) none 0 [] [blk gs (.cells #[.int .i64 s.len, .int .i64 s.off, .slice s.A s.cells.length s.cap] 30 (0, 0))])
    · unfold bdP
      intro w hw
      have h5 : St B w0 [blk gb (.cells (Value.agg #[.pointer none, .slice none 0 0]).cells 132 (0, 0)), blk gs (.cells #[.int .i64 s.len, .int .i64 s.off, .slice s.A s.cells.length s.cap] 30 (0, 0))] w := by
        revert w
        (intro w hw; refine hw.perm ?_; focus repeat (first | with_reducible exact Perm.refl _ | (with_reducible apply perm_take; focus ((repeat (first | with_reducible exact rem_here | with_reducible apply rem_there)); done)) | with_reducible apply Perm.dropK))
      exact (h5.nilSlice _ _).perm (.swap _ _ _)
    apply VL_call _ en76
    (repeat (first | exact args_nil | (apply args_cons; exact rfl)))
    exact rfl
    exact fun _ hw => (write_spec gb _ (.inl rfl) none 0 [] (lineB wordS [s.sch.len, s.sch.off]) (by simp only [List.length_nil]; have : wordS.length = 8 := rfl; simp only [List.length_cons, List.length_nil] at hln1; omega) (hw))
    rintro _ _ ⟨rfl, A1, cap1, rfl⟩
    unfold bdP
    repeat' (first | apply (zs1 ?_) | (apply zg2; refine zs6 ?_) | (apply zg3; refine zs7 ?_) | (apply zg4; refine zs9 ?_) | apply (zs65 ?_) | apply (zs68 ?_) | apply (zs69 ?_) | apply (zs70 ?_) | apply (zs73 ?_) | fail)
    refine VC_loop1 (fun (z : Nat × Option Addr × Nat) => [(21, .int .i64 z.1), (20, .int .i64 s.cells.length), (19, .slice s.A s.cells.length s.cap), (4, .pointer (some ⟨gb, 0, none⟩))]) (fun z => bdP gb (.pointer (some ⟨gb, 0, none⟩)) z.2.1 z.2.2 (textTo s.sch z.1) [blk gs (.cells #[.int .i64 s.len, .int .i64 s.off, .slice s.A s.cells.length s.cap] 30 (0, 0))]) (fun z => z.1 ≤ s.cells.length) (fun z => s.cells.length - z.1) (0, A1, cap1) (Nat.zero_le _) ?_ ?_ ?_
    · (repeat (first | exact sub_nil _ | (apply sub_cons; first | exact rfl | exact congrArg (fun z : Int => some (Value.int .i64 z)) (by omega))))
    · have e0 : textTo s.sch 0 = [] ++ lineB wordS [s.sch.len, s.sch.off] := by unfold textTo; simp
      rw [e0]
      unfold bdP
      exact fun w hw => hw
    rintro ⟨i, A2, cap2⟩ hi K hK
    dsimp only at hi ⊢
    have htl := textTo_len hfr i hi
    by_cases hlt : i < s.cells.length
    · have hget : s.cells[i]? = some (celAt s.sch i) := celAt_some (s := s.sch) hlt
      have hnc := hnm.2 _ (celAt_mem (s := s.sch) hlt)
      have hln := line_len (w := wordC) hnc
      have hr' : Rd B w0 (bdP gb (.pointer (some ⟨gb, 0, none⟩)) A2 cap2 (textTo s.sch i) [blk gs (.cells #[.int .i64 s.len, .int .i64 s.off, .slice s.A s.cells.length s.cap] 30 (0, 0))]) s.A (s.cells.flatMap celF) := hr.cons.cons.cons
      repeat' (first | ((first | apply VL_callt en105 | apply VL_callq en105); (repeat (first | exact args_nil | (apply args_cons; exact rfl))); exact rfl; exact fun _ hw => (numbers_spec _ hw)) | (apply VL_slice_all T (e := 3); exact rfl; exact rfl; exact rfl) | (apply zg3; first | refine zs8 ?_ | refine zs61 ?_) | (apply zg5; refine zs57 ?_) | (apply (zs17 ?_ ?_) <;> intro _ <;> try (exfalso; omega)) | (apply zg22; refine zs51 ?_) | (apply zg24; (refine zs54 ?_; intro _)) | apply (zs65 ?_) | apply (zs68 ?_) | apply (zs69 ?_) | apply (zs70 ?_) | (apply zg27; refine zs71 ?_) | apply (zs73 ?_) | apply (zs76 ?_) | fail)
      rename_i gc ga
      have hra : ∀ X, Rd B w0 (blk ga (.cells (celF (celAt s.sch i)).toArray 183 (0, 0)) :: X) (some ⟨ga, 0, none⟩) ((nums (celAt s.sch i)).flatMap numF) := fun X => Rd.blk (cs := (celF (celAt s.sch i)).toArray) (.head _)
      first | apply VL_callt en104 | apply VL_callq en104
      (repeat (first | exact args_nil | (apply args_cons; exact rfl)))
      exact rfl
      exact fun _ hw => (line_spec wordC (nums (celAt s.sch i)) hnc (by show 5 ≤ 100; decide) (by decide) ht (hra _) hw)
      apply VL_st (bdP gb (.pointer (some ⟨gb, 0, none⟩)) A2 cap2 (textTo s.sch i) [blk gs (.cells #[.int .i64 s.len, .int .i64 s.off, .slice s.A s.cells.length s.cap] 30 (0, 0))])
      · exact fun w hw => hw.tail.tail
      have h5n : (nums (celAt s.sch i)).length = 5 := rfl
      have h4w : wordC.length = 4 := rfl
      apply VL_call _ en76
      (repeat (first | exact args_nil | (apply args_cons; exact rfl)))
      exact rfl
      exact fun _ hw => (write_spec gb _ (.inr rfl) A2 cap2 (textTo s.sch i) (lineB wordC (nums (celAt s.sch i))) (by omega) (hw))
      rintro _ _ ⟨rfl, A3, cap3, rfl⟩
      rw [← textTo_step hlt]
      repeat' (first | apply (zs1 ?_) | (apply zg13; refine zs30 ?_) | apply (zs65 ?_) | apply (zs68 ?_) | apply (zs70 ?_) | apply (zs79 ?_) | fail)
      apply hK (i + 1, A3, cap3)
      · show i + 1 ≤ s.cells.length
        omega
      · dsimp only; omega
      · (repeat (first | exact sub_nil _ | (apply sub_cons; first | exact rfl | exact congrArg (fun z : Int => some (Value.int .i64 z)) (by omega))))
      · exact fun w hw => hw
    · repeat' (first | (apply (zs17 ?_ ?_) <;> intro _ <;> try (exfalso; omega)) | apply (zs65 ?_) | apply (zs68 ?_) | apply (zs69 ?_) | apply (zs70 ?_) | (apply zg27; refine zs72 ?_) | apply (zs75 ?_) | apply (zs80 ?_) | apply (zs81 ?_) | fail)
      apply VL_call _ en78
      (repeat (first | exact args_nil | (apply args_cons; exact rfl)))
      exact rfl
      exact fun _ hw => (string_spec (l := textTo s.sch i) (.inr rfl) (hw))
      rintro _ _ ⟨rfl, rfl⟩
      repeat' (first | apply (zs2 ?_) | apply (zs65 ?_) | apply (zs68 ?_) | apply (zs74 ?_) | fail)
      apply VQ_ret2; exact rfl; exact rfl; exact rfl
      rw [printE, if_neg (by simp [hf])]
      rw [show i = s.sch.cells.length from (by have : s.sch.cells.length = s.cells.length := rfl; omega), show textTo s.sch s.sch.cells.length = textE s.sch from (by unfold textTo textE; rw [List.take_length])]
theorem print_spec (s : SchM) {B : Nat} {w0 : World} {H : List HP} {w : World} (ht : TabsB B w0) (hr : Rd B w0 H s.A (s.cells.flatMap celF)) (hl : s.cells.length ≤ 1000000000000) (hw : St B w0 H w) :
    Calls Tryz.prog 47 [s.val].toArray w (Post B w0 fun v K => v = .tuple #[strV (printE s.sch).1, .int .i64 (printE s.sch).2] ∧ K = H) :=
  calls_inner hw (print_in s (ht.here hw) (hr.here hw) hl (St.start w))
end Go.Proofs.YtmalhidldgfeoaaGreatDoor

/- Walks: the numbers of a line; Parse. -/
namespace Go.Proofs.YtmalhidldgfeoaaGreatDoor
open Go.RowKit Go.Eng Go.Nw

section
variable {m : Eng.Mode} {n : Shp} {B d : Nat} {w0 : World} {ops : Array Oper} {Q : Exit → Act → World → Prop} {rest : List Oper} {env : Env} {H : List HP} {ty : TypeId} {pos : String} {after : Array Edge} {x y : Operand}
theorem strV_inj {a b : List UInt8} : (⟨a.toArray⟩ : ByteArray) = ⟨b.toArray⟩ ↔ a = b := by
  constructor
  · intro h
    have h1 := congrArg (fun s : ByteArray => s.data.toList) h
    simpa using h1
  · rintro rfl; rfl
theorem VL_wneq (a b : List UInt8) (hx : evo env x = some (strV a)) (hy : evo env y = some (strV b)) (hn : Nat.ble (d + 1) n.k = true) (h1 : a ≠ b → VL Tryz.prog m n B w0 ops Q rest ((d, .bool true) :: env) H) (h2 : a = b → VL Tryz.prog m n B w0 ops Q rest ((d, .bool false) :: env) H) :
    VL Tryz.prog m n B w0 ops Q (⟨some d, .binOp .neq 9 x y 9, ty, pos, after, none⟩ :: rest) env H :=
  VL_sneq hx hy hn (fun h => h1 fun e => h (strV_inj.2 e)) (fun h => h2 (strV_inj.1 h))
theorem VL_errN (hx : evo env x = some .nilIface) (hn : Nat.ble (d + 1) n.k = true) (h : VL Tryz.prog m n B w0 ops Q rest ((d, .bool false) :: env) H) :
    VL Tryz.prog m n B w0 ops Q (⟨some d, .binOp .neq 134 x (.const .nilIface) 134, ty, pos, after, none⟩ :: rest) env H :=
  VL_bin (y := .const .nilIface) hx rfl hn (fun w => by simp [eqGuard]) (fun w => run_neq_nil_nil (P := Tryz.prog) (w := w) 134 (by kernel_rfl)) h
theorem VL_errS {t : TypeId} {p : Value} (hx : evo env x = some (.iface t p)) (hn : Nat.ble (d + 1) n.k = true) (h : VL Tryz.prog m n B w0 ops Q rest ((d, .bool true) :: env) H) :
    VL Tryz.prog m n B w0 ops Q (⟨some d, .binOp .neq 134 x (.const .nilIface) 134, ty, pos, after, none⟩ :: rest) env H :=
  VL_bin (y := .const .nilIface) hx rfl hn (fun w => by simp [eqGuard]) (fun w => run_neq_held_nil (P := Tryz.prog) (w := w) 134 t p (by kernel_rfl)) h
end
abbrev nrs (A : Option Addr) (cap : Nat) (l : List Int) : HP := sl 3 1 A l.length cap (l.flatMap numF)
theorem nrs_snoc (A : Option Addr) (cap : Nat) (l : List Int) (z : Int) : sl 3 1 A (l.length + 1) cap (l.flatMap numF ++ #[Value.int .i64 z].toList) = nrs A cap (l ++ [z]) := by simp [nrs, List.flatMap_append, numF]
theorem strs_flat (ps : List (List UInt8)) : (ps.map strV) = ps.flatMap strL := by induction ps with | nil => rfl | cons a l ih => simp [strL, List.flatMap_cons, ih]
theorem nums_some {ws : List (List UInt8)} (h : ∀ w ∈ ws, 0 ≤ numW w) : numsW ws = some (ws.map numW) := by
  unfold numsW
  rw [if_neg]
  rw [Bool.not_eq_true, List.any_eq_false]
  intro w hw
  have := h w hw
  simp; omega
theorem nums_none {ws : List (List UInt8)} {w : List UInt8} (hw : w ∈ ws) (h : numW w < 0) : numsW ws = none := by
  unfold numsW
  rw [if_pos]
  rw [List.any_eq_true]
  exact ⟨w, hw, by simpa using h⟩
theorem cut_len {c : UInt8} : ∀ {l : List UInt8}, ∀ p ∈ cutC c l, p.length ≤ l.length
  | [], p, hp => by
    simp only [cutC, List.mem_singleton] at hp
    subst hp; simp
  | x :: l, p, hp => by
    have ih := cut_len (c := c) (l := l)
    unfold cutC at hp
    split at hp
    · rcases List.mem_cons.1 hp with rfl | hp
      · simp
      · have := ih p hp; simp only [List.length_cons]; omega
    · cases hc : cutC c l with
      | nil => rw [hc] at hp; simp at hp; subst hp; simp
      | cons q qs =>
        rw [hc] at hp ih
        simp only [List.mem_cons] at hp ih
        rcases hp with rfl | hp
        · have := ih q (.inl rfl); simp only [List.length_cons]; omega
        · have := ih p (.inr hp); simp only [List.length_cons]; omega
def OutR (H : List HP) (r : Option (List Int)) (v : Value) (K : List HP) : Prop :=
  match r with
  | none => v = .tuple #[.slice none 0 0, .bool false] ∧ K = H
  | some x => ∃ A cap, v = .tuple #[.slice A x.length cap, .bool true] ∧ K = nrs A cap x :: H
set_option maxRecDepth 10000 in
set_option maxHeartbeats 2000000 in
theorem read_spec (line word : List UInt8) (many : Nat) (hl : line.length ≤ 100000) (hm : 1 ≤ many ∧ many ≤ 100) {B : Nat} {w0 : World} {H : List HP} {w : World} (ht : TabsB B w0) (hw : St B w0 H w) :
    Calls Tryz.prog 106 [strV line, strV word, .int .i64 many].toArray w (Post B w0 (OutR H (readE line word many))) := by
  refine Calls_of_VC Tryz.func106 Tryz.ntmps106 rfl rfl hw ?_
  repeat' (first | apply (zs1 ?_) | apply (zs2 ?_) | apply (zs65 ?_) | apply (zs68 ?_) | apply (zs69 ?_) | apply (zs70 ?_) | fail)
  apply VL_call _ en81
  (repeat (first | exact args_nil | (apply args_cons; exact rfl)))
  exact rfl
  exact fun _ hw => (split_spec line 32 (by omega) ht (hw))
  rintro _ _ ⟨g, rfl, rfl⟩
  obtain ⟨ps, hps⟩ : ∃ ps, cutC 32 line = ps := ⟨_, rfl⟩
  have hrd : readE line word many = if ps.length ≠ many + 1 ∨ ps.headD [] ≠ word then none else numsW ps.tail := by unfold readE; rw [hps]
  have hne : ps ≠ [] := hps ▸ cut_ne 32 line
  have hp0 : 1 ≤ ps.length := List.length_pos_iff.2 hne
  have hrp : Rd B w0 (blk g (.cells (ps.map strV).toArray 9 (0, 0)) :: H) (some ⟨g, 0, none⟩) (ps.flatMap strL) := by
    rw [← strs_flat]
    exact Rd.blk (cs := (ps.map strV).toArray) (.head _)
  have h0 : ps[0]? = some (ps.headD []) := by
    cases ps with
    | nil => exact absurd rfl hne
    | cons p ps => rfl
  rw [hps]
  repeat' (first | (apply VL_wneq (ps.headD []) word; exact rfl; exact rfl; exact rfl; all_goals intro hwd) | apply (zs1 ?_) | apply (zs2 ?_) | (apply zg1; first | refine zs3 ?_ | refine zs4 ?_) | (apply zg3; refine zs60 ?_) | (apply zg4; refine zs9 ?_) | (apply zg5; refine zs57 ?_) | (apply zg6; first | refine zs11 ?_ | refine zs12 ?_) | (apply zg8; (refine zs16 ?_ ?_ <;> intro _ <;> try (exfalso; omega))) | (apply zg13; refine zs30 ?_) | apply (zs65 ?_) | apply (zs68 ?_) | apply (zs69 ?_) | apply (zs70 ?_) | (apply zg27; first | refine zs71 ?_ | refine zs72 ?_) | apply (zs74 ?_) | apply (zs76 ?_) | apply (zs77 ?_) | fail)
  · rw [hrd, if_pos (.inl (by omega))]
    apply VQ_tail; apply VQ_ret2; exact rfl; exact rfl; exact rfl; exact ⟨rfl, rfl⟩
  · rw [hrd, if_pos (.inr hwd)]
    apply VQ_tail; apply VQ_ret2; exact rfl; exact rfl; exact rfl; exact ⟨rfl, rfl⟩
  have hpl : ps.length = many + 1 := by omega
  rw [hrd, if_neg (by rintro (h | h); exact h hpl; exact h hwd)]
  obtain ⟨ws, hws⟩ : ∃ ws, ps.tail = ws := ⟨_, rfl⟩
  have hwl : ws.length = many := by rw [← hws, List.length_tail]; omega
  have hwm : ∀ p ∈ ws, p.length ≤ 100000 := fun p hp => by
    have h1 := cut_len (c := 32) (l := line) p (by rw [hps]; exact List.mem_of_mem_tail (hws ▸ hp))
    omega
  rw [hws]
  apply VL_slice_lo T (n' := ws.length); exact rfl; exact rfl; exact rfl; exact rfl; omega; (rw [hwl]; show ps.length - 1 = many; omega)
  have hrw : Rd B w0 (blk g (.cells (ps.map strV).toArray 9 (0, 0)) :: H) (subA (some ⟨g, 0, none⟩) 1 ps.length 1) (ws.flatMap strL) := by
    have h1 := Rd.sub (q := 1) (o := 1) (k := ws.length) (cap := ps.length) (fun _ => rfl) hrp (Nat.le_refl _)
    rw [List.drop_one, hws, List.take_length] at h1
    exact h1
  rw [show (1 : Int).toNat = 1 from rfl]
  obtain ⟨A0, hA0⟩ : ∃ A0, subA (some ⟨g, 0, none⟩) 1 ps.length 1 = A0 := ⟨_, rfl⟩
  rw [hA0] at hrw ⊢
  repeat' (first | apply (zs1 ?_) | (apply zg4; refine zs9 ?_) | apply (zs65 ?_) | apply (zs68 ?_) | apply (zs73 ?_) | fail)
  have hnone : ∀ {p : List UInt8}, p ∈ ws → numW p < 0 → numsW ws = none := fun hp hn => nums_none hp hn
  refine VC_loop1 (fun (z : Nat × Option Addr × Nat) => [(31, .int .i64 z.1), (30, .int .i64 ws.length), (29, .slice A0 ws.length (ps.length - 1)), (9, .slice z.2.1 ((ws.take z.1).map numW).length z.2.2)]) (fun z => nrs z.2.1 z.2.2 ((ws.take z.1).map numW) :: blk g (.cells (ps.map strV).toArray 9 (0, 0)) :: H) (fun z => z.1 ≤ ws.length ∧ ∀ p ∈ ws.take z.1, 0 ≤ numW p) (fun z => ws.length - z.1) (0, none, 0) ⟨Nat.zero_le _, by simp⟩ ?_ (fun w hw => hw.nilSlice _ _) ?_
  · (repeat (first | exact sub_nil _ | (apply sub_cons; first | exact rfl | exact congrArg (fun z : Int => some (Value.int .i64 z)) (by omega))))
  rintro ⟨i, A, cap⟩ ⟨hi, hall⟩ K hK
  dsimp only at hi hall ⊢
  have hlen : ((ws.take i).map numW).length = i := by rw [List.length_map, List.length_take]; omega
  have hrw' := hrw.cons (X := nrs A cap ((ws.take i).map numW))
  by_cases hlt : i < ws.length
  · obtain ⟨p, hp⟩ : ∃ p, ws[i]? = some p := ⟨_, List.getElem?_eq_getElem hlt⟩
    have hpm := List.mem_of_getElem? hp
    have hpl := hwm p hpm
    have hs : (⟨p.toArray⟩ : ByteArray).size = p.length := by simp [ByteArray.size]
    by_cases hv : ∃ v, Lib.atoiAll p = .ok v
    · obtain ⟨v, hv⟩ := hv
      have hvb := Lib.atoiAll_bounds hv
      obtain ⟨q1, q2⟩ := prog_num hv
      repeat' (first | ((first | apply VL_callt en159 | apply VL_callq en159); (repeat (first | exact args_nil | (apply args_cons; exact rfl))); exact rfl; exact fun _ hw => (atoi_ok p (by omega) v hv hw)) | ((first | apply VL_callt en137 | apply VL_callq en137); (repeat (first | exact args_nil | (apply args_cons; exact rfl))); exact rfl; exact fun _ hw => (itoa_spec v hvb.1 hvb.2 ht hw)) | (apply VL_errN; exact rfl; exact rfl) | (apply VL_wneq (Lib.itoa v) p; exact rfl; exact rfl; exact rfl; all_goals intro hwd2) | apply (zs1 ?_) | apply (zs2 ?_) | (apply zg1; first | refine zs3 ?_ | refine zs4 ?_) | (apply zg3; refine zs60 ?_) | (apply zg4; refine zs14 ?_) | (apply zg5; refine zs57 ?_) | (apply zg6; first | refine zs11 ?_ | refine zs12 ?_) | apply (zs13 ?_) | (apply (zs17 ?_ ?_) <;> intro _ <;> try (exfalso; omega)) | (apply (zs19 ?_ ?_) <;> intro _ <;> try (exfalso; omega)) | (apply zg13; refine zs30 ?_) | (apply zg21; (refine zs49 ?_; intro _ _)) | (apply zg26; (refine zs56 ?_; intro _)) | apply (zs65 ?_) | apply (zs68 ?_) | apply (zs69 ?_) | apply (zs70 ?_) | (apply zg27; first | refine zs71 ?_ | refine zs72 ?_) | apply (zs73 ?_) | apply (zs74 ?_) | apply (zs76 ?_) | apply (zs77 ?_) | apply (zs78 ?_) | apply (zs79 ?_) | fail)
      all_goals first
        | (apply VQ_st H
           · (intro w hw; refine hw.perm ?_; focus repeat (first | with_reducible exact Perm.refl _ | (with_reducible apply perm_take; focus ((repeat (first | with_reducible exact rem_here | with_reducible apply rem_there)); done)) | with_reducible apply Perm.dropK))
           apply VQ_ret2; exact rfl; exact rfl; exact rfl
           rw [hnone hpm (q2 (by rintro ⟨c1, c2, c3⟩; first | omega | exact hwd2 c2))]
           exact ⟨rfl, rfl⟩)
        | (rename_i xA xcap
           have hq := q1 ⟨by omega, hwd2, by omega⟩
           have e5 : (ws.take i).map numW ++ [v] = (ws.take (i + 1)).map numW := by rw [List.take_add_one, hp, Option.toList_some, List.map_append, List.map_cons, List.map_nil, hq]
           rw [nrs_snoc, e5]
           apply hK (i + 1, xA, xcap)
           · refine ⟨by show i + 1 ≤ _; omega, fun p' hp' => ?_⟩
             dsimp only at hp'
             rw [List.take_add_one, hp, Option.toList_some, List.mem_append, List.mem_singleton] at hp'
             rcases hp' with hp' | rfl
             · exact hall p' hp'
             · omega
           · dsimp only; omega
           · rw [show ((ws.take i).map numW).length + 1 = ((ws.take (i + 1)).map numW).length from (by rw [← e5]; simp)]
             (repeat (first | exact sub_nil _ | (apply sub_cons; first | exact rfl | exact congrArg (fun z : Int => some (Value.int .i64 z)) (by omega))))
           · (intro w hw; refine hw.perm ?_; focus repeat (first | with_reducible exact Perm.refl _ | (with_reducible apply perm_take; focus ((repeat (first | with_reducible exact rem_here | with_reducible apply rem_there)); done)) | with_reducible apply Perm.dropK)))
    · have hbad := prog_bad (fun n hn => hv ⟨n, hn⟩)
      repeat' (first | apply (zs1 ?_) | apply (zs2 ?_) | (apply zg3; refine zs60 ?_) | (apply zg5; refine zs57 ?_) | (apply (zs17 ?_ ?_) <;> intro _ <;> try (exfalso; omega)) | apply (zs65 ?_) | apply (zs68 ?_) | apply (zs69 ?_) | apply (zs70 ?_) | (apply zg27; refine zs71 ?_) | apply (zs73 ?_) | apply (zs76 ?_) | fail)
      apply VL_call _ en159
      (repeat (first | exact args_nil | (apply args_cons; exact rfl)))
      exact rfl
      exact fun _ hw => (atoi_bad p (by omega) (fun n hn => hv ⟨n, hn⟩) ht (hw))
      rintro _ _ ⟨⟨n9, t9, p9, rfl⟩, rfl⟩
      repeat' (first | (apply VL_errS; exact rfl; exact rfl) | apply (zs1 ?_) | apply (zs2 ?_) | (apply zg1; refine zs3 ?_) | (apply zg6; refine zs11 ?_) | apply (zs13 ?_) | apply (zs65 ?_) | apply (zs68 ?_) | apply (zs69 ?_) | apply (zs70 ?_) | (apply zg27; refine zs71 ?_) | apply (zs74 ?_) | apply (zs77 ?_) | apply (zs78 ?_) | fail)
      rw [hnone hpm hbad]
      apply VQ_st H
      · (intro w hw; refine hw.perm ?_; focus repeat (first | with_reducible exact Perm.refl _ | (with_reducible apply perm_take; focus ((repeat (first | with_reducible exact rem_here | with_reducible apply rem_there)); done)) | with_reducible apply Perm.dropK))
      apply VQ_ret2; exact rfl; exact rfl; exact rfl; exact ⟨rfl, rfl⟩
  · have hie : i = ws.length := by omega
    rw [hie, List.take_length] at hall
    rw [nums_some hall]
    repeat' (first | apply (zs1 ?_) | apply (zs2 ?_) | (apply (zs17 ?_ ?_) <;> intro _ <;> try (exfalso; omega)) | apply (zs65 ?_) | apply (zs68 ?_) | apply (zs69 ?_) | apply (zs70 ?_) | (apply zg27; refine zs72 ?_) | apply (zs74 ?_) | apply (zs75 ?_) | apply (zs80 ?_) | apply (zs81 ?_) | fail)
    rw [hie, List.take_length]
    apply VQ_st (nrs A cap (ws.map numW) :: H)
    · (intro w hw; refine hw.perm ?_; focus repeat (first | with_reducible exact Perm.refl _ | (with_reducible apply perm_take; focus ((repeat (first | with_reducible exact rem_here | with_reducible apply rem_there)); done)) | with_reducible apply Perm.dropK))
    apply VQ_ret2; exact rfl; exact rfl; exact rfl
    exact ⟨A, cap, rfl, rfl⟩
end Go.Proofs.YtmalhidldgfeoaaGreatDoor

/- Walks: Parse. -/
namespace Go.Eng
open Go.RowKit
theorem VQ_retc3 {P : Program} {B : Nat} {w0 : World} {env : Env} {H : List HP} {n : Nat} (T : Tab P) {fn : Func} {Φ : Value → List HP → Prop} {p g k u s rt : Nat} {x y : Value} {cs : Array Value} {tt : TypeId} {fr : Nat × Nat} (hr : fn.results = #[.cell p rt, .tmp u, .tmp s]) (hp : get env p = some (.pointer (some ⟨g, 0, none⟩))) (hu : get env u = some x) (hs : get env s = some y)
    (hm : blk g (.cells cs tt fr) ∈ H) (ht : look T.ag rt = some k) (hk : cs.size = k) {H2 : List HP} (hH : ∀ w, St B w0 H w → St B w0 H2 w) (h : Φ (.tuple #[.agg cs, x, y]) H2) : VQ ⟨n, [], none⟩ B w0 (bodyPost P fn (Post B w0 Φ)) .ret env H := by
  refine ⟨fun a w ha hw => bodyPost_ret (v := .tuple #[.agg cs, x, y]) ?_ ha.defers ⟨_, H2, rfl, hH w hw, h⟩⟩
  have hp' := ha.slot p _ hp
  simp [results, hr, Array.getD_eq_getD_getElem?, hp', ha.slot u _ hu, ha.slot s _ hs, asAddr, run_load_blk T (hw.blk hm).1 ht hk]
end Go.Eng
namespace Go.Proofs.YtmalhidldgfeoaaGreatDoor
open Go.RowKit Go.Eng Go.Nw

theorem firstF_at {f : Nat → Int} : ∀ {r i0 i : Nat}, (∀ k, i0 ≤ k → k < i → f k = 0) → i0 ≤ i → i < i0 + r → f i ≠ 0 → firstF f r i0 = ((i : Int), f i)
  | 0, i0, i, _, h1, h2, _ => by omega
  | r + 1, i0, i, h0, h1, h2, h3 => by
    unfold firstF
    by_cases e : i0 = i
    · subst e; rw [if_neg h3]
    · rw [if_pos (h0 i0 (Nat.le_refl _) (by omega))]
      exact firstF_at (fun k hk1 hk2 => h0 k (by omega) hk2) (by omega) (by omega) h3
theorem firstF_no {f : Nat → Int} {r i0 : Nat} (h : ∀ k, i0 ≤ k → k < i0 + r → f k = 0) : firstF f r i0 = (-1, 0) := by
  have h2 := firstF_ok.2 h
  exact Prod.ext (firstF_neg h2) h2
theorem cut_count {c : UInt8} : ∀ l : List UInt8, (cutC c l).length ≤ l.length + 1
  | [] => by simp [cutC]
  | x :: l => by
    have ih := cut_count (c := c) l
    unfold cutC
    split
    · simp only [List.length_cons]; omega
    · split
      · simp
      · rename_i h t he
        rw [he] at ih
        simp only [List.length_cons] at ih ⊢
        omega
theorem schTo_len (ls : List (List UInt8)) : ∀ k, (schTo ls k).cells.length ≤ k
  | 0 => by simp [schTo, zeroS]
  | k + 1 => by
    have ih := schTo_len ls k
    show (stepS k (schTo ls k) _).cells.length ≤ k + 1
    unfold stepS
    split
    · show (schTo ls k).cells.length ≤ k + 1
      omega
    · show ((schTo ls k).cells ++ _).length ≤ k + 1
      simp; omega
def OutP (H : List HP) (R : Sch × (Int × Int)) (v : Value) (K : List HP) : Prop := ∃ A cap, v = .tuple #[.agg #[.int .i64 R.1.len, .int .i64 R.1.off, .slice A R.1.cells.length cap], .int .i64 R.2.1, .int .i64 R.2.2] ∧ K = cels A cap R.1.cells :: H
theorem outP_no {H : List HP} {R : Sch × (Int × Int)} {v : Value} (i e : Int) (hR : R = (zeroS, (i, e))) (hv : v = .tuple #[.agg #[.int .i64 0, .int .i64 0, .slice none 0 0], .int .i64 i, .int .i64 e]) : OutP H R v (cels none 0 [] :: H) := ⟨none, 0, by rw [hR]; exact hv, by rw [hR]; rfl⟩
def schP (g : Nat) (s : Sch) (A : Option Addr) (cap : Nat) : HP := blk g (.cells #[.int .i64 s.len, .int .i64 s.off, .slice A s.cells.length cap] 30 (0, 0))
set_option maxRecDepth 10000 in
set_option maxHeartbeats 4000000 in
theorem parse_spec (text : List UInt8) (hl : text.length ≤ 100000) {B : Nat} {w0 : World} {H : List HP} {w : World} (ht : TabsB B w0) (hw : St B w0 H w) :
    Calls Tryz.prog 48 [strV text].toArray w (Post B w0 (OutP H (parseE text))) := by
  refine Calls_of_VC Tryz.func48 Tryz.ntmps48 rfl rfl hw ?_
  repeat' (first | apply (zs1 ?_) | apply (zs2 ?_) | (apply zg24; (refine zs54 ?_; intro _)) | apply (zs65 ?_) | apply (zs68 ?_) | apply (zs69 ?_) | apply (zs70 ?_) | fail)
  apply VL_call _ en81
  (repeat (first | exact args_nil | (apply args_cons; exact rfl)))
  exact rfl
  exact fun _ hw => (split_spec text 10 (by omega) ht (hw))
  rintro _ _ ⟨g, rfl, rfl⟩
  obtain ⟨ls, hls⟩ : ∃ ls, cutC 10 text = ls := ⟨_, rfl⟩
  have hpe : parseE text = parseL ls := by unfold parseE; rw [hls]
  have hlc : ls.length ≤ 100001 := by have := cut_count (c := 10) text; rw [hls] at this; omega
  have hl1 : 1 ≤ ls.length := List.length_pos_iff.2 (hls ▸ cut_ne 10 text)
  have hll : ∀ p ∈ ls, p.length ≤ 100000 := fun p hp => by have := cut_len (c := 10) (l := text) p (hls ▸ hp); omega
  have hrp : ∀ {L : List HP}, blk g (.cells (ls.map strV).toArray 9 (0, 0)) ∈ L → Rd B w0 L (some ⟨g, 0, none⟩) (ls.flatMap strL) := fun h => by
    rw [← strs_flat]
    exact Rd.blk (cs := (ls.map strV).toArray) h
  rw [hls, hpe]
  repeat' (first | apply (zs1 ?_) | apply (zs2 ?_) | (apply zg4; refine zs9 ?_) | (apply zg14; refine zs31 ?_) | (apply zg24; (refine zs54 ?_; intro _)) | apply (zs65 ?_) | apply (zs68 ?_) | apply (zs69 ?_) | apply (zs70 ?_) | fail)
  rename_i gr gs
  obtain ⟨m, hm⟩ : ∃ m, ls.length = m + 1 := ⟨ls.length - 1, by omega⟩
  rw [show ((ls.length : Nat) : Int) - 1 = (m : Int) by omega]
  apply VL_slice_hi_rd T (l := ls) (n' := (ls.take m).length); exact rfl; exact rfl; exact rfl; exact rfl; omega; exact Nat.le_refl _; (rw [List.length_take]; omega)
  rw [subA_zeroC]
  repeat' (first | apply (zs1 ?_) | (apply zg4; refine zs9 ?_) | apply (zs65 ?_) | apply (zs68 ?_) | apply (zs73 ?_) | fail)
  have hlt : (ls.take m).length = m := by rw [List.length_take]; omega
  have hrt : ∀ {L : List HP}, blk g (.cells (ls.map strV).toArray 9 (0, 0)) ∈ L → Rd B w0 L (some ⟨g, 0, none⟩) ((ls.take m).flatMap strL) := fun h => Rd.take (q := 1) m (fun _ => rfl) (hrp h)
  have hpl : parseL ls = if (firstF (badRow ls) m 0).2 ≠ 0 then (zeroS, firstF (badRow ls) m 0)
    else if m = 0 ∨ lineAt ls m ≠ [] then (zeroS, ((m : Int), 3))
    else if formE (schTo ls m) = false then (zeroS, (-1, 1)) else (schTo ls m, (-1, 0)) := by
    unfold parseL
    rw [show ls.length - 1 = m by omega]
  refine VC_loop1 (fun (z : Nat × Option Addr × Nat) => [(23, .int .i64 z.1), (22, .int .i64 (ls.take m).length), (21, .slice (some ⟨g, 0, none⟩) (ls.take m).length ls.length), (5, .slice (some ⟨g, 0, none⟩) ls.length ls.length), (6, .int .i64 m), (7, .pointer (some ⟨gs, 0, none⟩)), (2, .pointer (some ⟨gr, 0, none⟩))])
    (fun z => schP gs (schTo ls z.1) z.2.1 z.2.2 :: cels z.2.1 z.2.2 (schTo ls z.1).cells :: blk g (.cells (ls.map strV).toArray 9 (0, 0)) :: blk gr (.cells #[.int .i64 0, .int .i64 0, .slice none 0 0] 30 (0, 0)) :: H) (fun z => z.1 ≤ m ∧ ∀ k, k < z.1 → badRow ls k = 0) (fun z => m - z.1) (0, none, 0) ⟨Nat.zero_le _, fun k hk => absurd hk (Nat.not_lt_zero _)⟩ ?_ (fun w hw => ?_) ?_
  · (repeat (first | exact sub_nil _ | (apply sub_cons; first | exact rfl | exact congrArg (fun z : Int => some (Value.int .i64 z)) (by omega))))
  · exact (hw.nilSlice _ _).perm (.swap _ _ _)
  rintro ⟨i, A, cap⟩ ⟨hi, hall⟩ K hK
  dsimp only at hi hall ⊢
  have hcl := schTo_len ls i
  obtain ⟨SC, hSC⟩ : ∃ SC, schTo ls i = SC := ⟨_, rfl⟩
  rw [hSC] at hcl ⊢
  unfold schP
  by_cases hlti : i < m
  · have hrt' : Rd B w0 (blk gs (.cells #[.int .i64 SC.len, .int .i64 SC.off, .slice A SC.cells.length cap] 30 (0, 0)) :: cels A cap SC.cells :: blk g (.cells (ls.map strV).toArray 9 (0, 0)) :: blk gr (.cells #[.int .i64 0, .int .i64 0, .slice none 0 0] 30 (0, 0)) :: H) (some ⟨g, 0, none⟩) ((ls.take m).flatMap strL) := hrt (by (focus repeat (first | with_reducible exact List.mem_cons_self | with_reducible apply List.mem_cons_of_mem | assumption)))
    have hget : (ls.take m)[i]? = some (lineAt ls i) := by
      rw [List.getElem?_take, if_pos hlti]
      unfold lineAt
      rw [List.getD_eq_getElem?_getD, List.getElem?_eq_getElem (by omega)]
      rfl
    have hlm : (lineAt ls i).length ≤ 100000 := hll _ (List.mem_of_mem_take (List.mem_of_getElem? hget))
    rcases Nat.eq_zero_or_pos i with h0 | h0
    · subst h0
      have hsc : SC = zeroS := hSC.symm
      subst hsc
      repeat' (first | apply (zs1 ?_) | apply (zs2 ?_) | (apply zg3; refine zs60 ?_) | (apply zg5; refine zs57 ?_) | (apply zg7; (refine zs15 ?_ ?_ <;> intro _ <;> try (exfalso; omega))) | (apply (zs17 ?_ ?_) <;> intro _ <;> try (exfalso; omega)) | apply (zs65 ?_) | apply (zs68 ?_) | apply (zs69 ?_) | apply (zs70 ?_) | (apply zg27; refine zs71 ?_) | apply (zs73 ?_) | apply (zs76 ?_) | fail)
      apply VL_call _ en106
      (repeat (first | exact args_nil | (apply args_cons; exact rfl)))
      exact rfl
      exact fun _ hw => (read_spec (lineAt ls 0) wordS 2 hlm (by omega) ht (hw))
      intro v9 K9 hr9
      cases hrow : readE (lineAt ls 0) wordS 2 with
      | none =>
        rw [hrow] at hr9
        obtain ⟨rfl, rfl⟩ := hr9
        have hbr : badRow ls 0 = 3 := by unfold badRow; rw [show rowE 0 (lineAt ls 0) = none from hrow]; rfl
        have hfa := firstF_at (f := badRow ls) (r := m) (i0 := 0) (i := 0) (fun k _ hk => absurd hk (Nat.not_lt_zero _)) (Nat.le_refl _) (by omega) (by rw [hbr]; decide)
        repeat' (first | apply (zs1 ?_) | apply (zs2 ?_) | apply (zs13 ?_) | (apply zg20; refine zs48 ?_) | (apply zg22; refine zs51 ?_) | (apply zg25; refine zs55 ?_) | apply (zs65 ?_) | apply (zs68 ?_) | apply (zs69 ?_) | apply (zs70 ?_) | (apply zg27; refine zs71 ?_) | apply (zs73 ?_) | apply (zs74 ?_) | apply (zs77 ?_) | apply (zs78 ?_) | fail)
        apply VQ_retc3 T (H2 := cels none 0 [] :: H); exact rfl; exact rfl; exact rfl; exact rfl; (focus repeat (first | with_reducible exact List.mem_cons_self | with_reducible apply List.mem_cons_of_mem | assumption)); exact rfl; exact rfl; (intro w hw; refine St.nilSlice (H := H) ?_ _ _; revert w; (intro w hw; refine hw.perm ?_; focus repeat (first | with_reducible exact Perm.refl _ | (with_reducible apply perm_take; focus ((repeat (first | with_reducible exact rem_here | with_reducible apply rem_there)); done)) | with_reducible apply Perm.dropK)))
        exact outP_no 0 3 (by rw [hpl, hfa, hbr]; rfl) rfl
      | some x =>
        rw [hrow] at hr9
        obtain ⟨Ax, capx, rfl, rfl⟩ := hr9
        have hbr : badRow ls 0 = 0 := by unfold badRow; rw [show rowE 0 (lineAt ls 0) = some x from hrow]; rfl
        obtain ⟨xa, xb, rfl⟩ : ∃ a b, x = [a, b] := by
          have h2 := (read_some hrow).2.1
          match x, h2 with
          | [a, b], _ => exact ⟨a, b, rfl⟩
        have hst : schTo ls 1 = ⟨xa, xb, []⟩ := by
          show stepS 0 zeroS _ = _
          rw [show rowE 0 (lineAt ls 0) = some [xa, xb] from hrow]; rfl
        unfold nrs
        rw [show ([xa, xb] : List Int).length = 2 from rfl, show ([xa, xb] : List Int).flatMap numF = [.int .i64 xa, .int .i64 xb] from rfl]
        repeat' (first | apply (zs1 ?_) | apply (zs2 ?_) | apply (zs13 ?_) | (apply zg7; (refine zs15 ?_ ?_ <;> intro _ <;> try (exfalso; omega))) | (apply zg20; refine zs47 ?_) | apply (zs65 ?_) | apply (zs68 ?_) | apply (zs69 ?_) | apply (zs70 ?_) | (apply zg27; first | refine zs71 ?_ | refine zs72 ?_) | apply (zs73 ?_) | fail)
        apply VC_heldH [0, 1, 2, 3, 4, 5, 6, 7] [8, 9] [true, false]
        kernel_rfl
        kernel_rfl
        (repeat (first | with_reducible exact split_nil | with_reducible apply split_t | with_reducible apply split_f))
        (simp only [pickOps, nthO]; rfl)
        (simp only [pickOps, nthO]; rfl)
        repeat' (first | (apply VL_load_sl T; exact rfl; (focus repeat (first | with_reducible exact List.mem_cons_self | with_reducible apply List.mem_cons_of_mem | assumption)); exact rfl; exact rfl; exact rfl) | apply (zs1 ?_) | (apply zg2; refine zs6 ?_) | (apply zg5; refine zs10 ?_) | (apply zg13; refine zs30 ?_) | (apply zg22; refine zs50 ?_) | apply (zs65 ?_) | (apply VL_nilh; (repeat (first | with_reducible exact app_nil | with_reducible apply app_cons | exact app_niln _))) | apply (zs68 ?_) | apply (zs70 ?_) | apply (zs79 ?_) | apply (zs87 ?_) | (apply VQ_heldq; (repeat (first | with_reducible exact pull_nil | (with_reducible apply pull_cons; (repeat (first | with_reducible exact rem_here | with_reducible apply rem_there)))))) | apply (zs93 ?_) | apply (zs94 ?_) | fail)
        apply hK (0 + 1, A, cap)
        · refine ⟨by show 0 + 1 ≤ m; omega, fun k hk => ?_⟩
          obtain rfl : k = 0 := by have : k < 0 + 1 := hk; omega
          exact hbr
        · show m - (0 + 1) < m - 0
          omega
        · (repeat (first | exact sub_nil _ | (apply sub_cons; first | exact rfl | exact congrArg (fun z : Int => some (Value.int .i64 z)) (by omega))))
        · intro w hw
          have h5 : St B w0 (blk gs (.cells #[.int .i64 xa, .int .i64 xb, .slice A zeroS.cells.length cap] 30 (0, 0)) :: cels A cap zeroS.cells :: blk g (.cells (ls.map strV).toArray 9 (0, 0)) :: blk gr (.cells #[.int .i64 0, .int .i64 0, .slice none 0 0] 30 (0, 0)) :: H) w := by
            revert w
            (intro w hw; refine hw.perm ?_; focus repeat (first | with_reducible exact Perm.refl _ | (with_reducible apply perm_take; focus ((repeat (first | with_reducible exact rem_here | with_reducible apply rem_there)); done)) | with_reducible apply Perm.dropK))
          dsimp only
          rw [hst]
          exact h5
    · have hb : badRow ls i = 0 ∨ badRow ls i = 3 := by unfold badRow; split <;> simp
      repeat' (first | apply (zs1 ?_) | apply (zs2 ?_) | (apply zg3; refine zs60 ?_) | (apply zg5; refine zs57 ?_) | (apply zg7; (refine zs15 ?_ ?_ <;> intro _ <;> try (exfalso; omega))) | (apply (zs17 ?_ ?_) <;> intro _ <;> try (exfalso; omega)) | apply (zs65 ?_) | apply (zs68 ?_) | apply (zs69 ?_) | apply (zs70 ?_) | (apply zg27; first | refine zs71 ?_ | refine zs72 ?_) | apply (zs73 ?_) | apply (zs76 ?_) | fail)
      apply VL_call _ en106
      (repeat (first | exact args_nil | (apply args_cons; exact rfl)))
      exact rfl
      exact fun _ hw => (read_spec (lineAt ls i) wordC 5 hlm (by omega) ht (hw))
      intro v9 K9 hr9
      have hro : rowE i (lineAt ls i) = readE (lineAt ls i) wordC 5 := by
        unfold rowE wordOf manyOf
        rw [if_neg (by omega), if_neg (by omega)]
      cases hrow : readE (lineAt ls i) wordC 5 with
      | none =>
        rw [hrow] at hr9
        obtain ⟨rfl, rfl⟩ := hr9
        have hbr : badRow ls i = 3 := by unfold badRow; rw [hro, hrow]; rfl
        have hfa := firstF_at (f := badRow ls) (r := m) (i0 := 0) (i := i) (fun k _ hk => hall k hk) (Nat.zero_le _) (by omega) (by rw [hbr]; decide)
        repeat' (first | apply (zs1 ?_) | apply (zs2 ?_) | apply (zs13 ?_) | (apply zg20; refine zs48 ?_) | (apply zg22; refine zs51 ?_) | (apply zg25; refine zs55 ?_) | apply (zs65 ?_) | apply (zs68 ?_) | apply (zs69 ?_) | apply (zs70 ?_) | (apply zg27; refine zs71 ?_) | apply (zs73 ?_) | apply (zs74 ?_) | apply (zs77 ?_) | apply (zs78 ?_) | fail)
        apply VQ_retc3 T (H2 := cels none 0 [] :: H); exact rfl; exact rfl; exact rfl; exact rfl; (focus repeat (first | with_reducible exact List.mem_cons_self | with_reducible apply List.mem_cons_of_mem | assumption)); exact rfl; exact rfl; (intro w hw; refine St.nilSlice (H := H) ?_ _ _; revert w; (intro w hw; refine hw.perm ?_; focus repeat (first | with_reducible exact Perm.refl _ | (with_reducible apply perm_take; focus ((repeat (first | with_reducible exact rem_here | with_reducible apply rem_there)); done)) | with_reducible apply Perm.dropK)))
        exact outP_no i 3 (by rw [hpl, hfa, hbr]; rfl) rfl
      | some x =>
        rw [hrow] at hr9
        obtain ⟨Ax, capx, rfl, rfl⟩ := hr9
        have hbr : badRow ls i = 0 := by unfold badRow; rw [hro, hrow]; rfl
        obtain ⟨x1, x2, x3, x4, x5, rfl⟩ : ∃ a b c d e, x = [a, b, c, d, e] := by
          have h2 := (read_some hrow).2.1
          match x, h2 with
          | [a, b, c, d, e], _ => exact ⟨a, b, c, d, e, rfl⟩
        have hst : schTo ls (i + 1) = ⟨SC.len, SC.off, SC.cells ++ [(x1, x2, x3, x4, x5)]⟩ := by
          show stepS i (schTo ls i) _ = _
          rw [hro, hrow, hSC]
          unfold stepS
          rw [if_neg (by omega)]
          rfl
        unfold nrs cels
        rw [show ([x1, x2, x3, x4, x5] : List Int).length = 5 from rfl, show ([x1, x2, x3, x4, x5] : List Int).flatMap numF = [.int .i64 x1, .int .i64 x2, .int .i64 x3, .int .i64 x4, .int .i64 x5] from rfl]
        repeat' (first | apply (zs1 ?_) | apply (zs2 ?_) | apply (zs13 ?_) | (apply zg7; (refine zs15 ?_ ?_ <;> intro _ <;> try (exfalso; omega))) | (apply zg20; refine zs47 ?_) | apply (zs65 ?_) | apply (zs68 ?_) | apply (zs69 ?_) | apply (zs70 ?_) | (apply zg27; refine zs72 ?_) | apply (zs73 ?_) | fail)
        apply VC_heldH [0, 1, 2, 3, 4, 5, 6, 7, 8, 9, 10, 11, 12, 13, 14, 15, 16, 17, 18] [19, 20, 21] [true, true, false]
        kernel_rfl
        kernel_rfl
        (repeat (first | with_reducible exact split_nil | with_reducible apply split_t | with_reducible apply split_f))
        (simp only [pickOps, nthO]; rfl)
        (simp only [pickOps, nthO]; rfl)
        repeat' (first | (apply VL_load_sl T; exact rfl; (focus repeat (first | with_reducible exact List.mem_cons_self | with_reducible apply List.mem_cons_of_mem | assumption)); exact rfl; exact rfl; exact rfl) | apply (zs1 ?_) | (apply zg2; refine zs6 ?_) | (apply zg3; refine zs7 ?_) | (apply zg5; refine zs10 ?_) | (apply zg13; refine zs30 ?_) | (apply zg21; (refine zs49 ?_; intro _ _)) | (apply zg22; refine zs50 ?_) | (apply zg25; refine zs55 ?_) | (apply zg26; (refine zs56 ?_; intro _)) | apply (zs65 ?_) | (apply VL_nilh; (repeat (first | with_reducible exact app_nil | with_reducible apply app_cons | exact app_niln _))) | apply (zs68 ?_) | apply (zs70 ?_) | apply (zs79 ?_) | apply (zs87 ?_) | (apply VQ_heldq; (repeat (first | with_reducible exact pull_nil | (with_reducible apply pull_cons; (repeat (first | with_reducible exact rem_here | with_reducible apply rem_there)))))) | apply (zs93 ?_) | apply (zs94 ?_) | fail)
        rename_i gq A' cap'
        apply hK (i + 1, A', cap')
        · refine ⟨by show i + 1 ≤ m; omega, fun k hk => ?_⟩
          have hk : k < i + 1 := hk
          by_cases e : k = i
          · rw [e]; exact hbr
          · exact hall k (by omega)
        · show m - (i + 1) < m - i
          omega
        · (repeat (first | exact sub_nil _ | (apply sub_cons; first | exact rfl | exact congrArg (fun z : Int => some (Value.int .i64 z)) (by omega))))
        · intro w hw
          have e6 : sl 40 5 A' (SC.cells.length + 1) cap' (SC.cells.flatMap celF ++ #[Value.int .i64 x1, .int .i64 x2, .int .i64 x3, .int .i64 x4, .int .i64 x5].toList) = cels A' cap' (SC.cells ++ [(x1, x2, x3, x4, x5)]) := cels_snocR A' cap' SC.cells (x1, x2, x3, x4, x5)
          rw [e6, len_snoc SC.cells (x1, x2, x3, x4, x5)] at hw
          dsimp only
          rw [hst]
          unfold schP
          dsimp only
          revert w
          (intro w hw; refine hw.perm ?_; focus repeat (first | with_reducible exact Perm.refl _ | (with_reducible apply perm_take; focus ((repeat (first | with_reducible exact rem_here | with_reducible apply rem_there)); done)) | with_reducible apply Perm.dropK))
  · obtain rfl : i = m := by omega
    have hrp' : Rd B w0 (blk gs (.cells #[.int .i64 SC.len, .int .i64 SC.off, .slice A SC.cells.length cap] 30 (0, 0)) :: cels A cap SC.cells :: blk g (.cells (ls.map strV).toArray 9 (0, 0)) :: blk gr (.cells #[.int .i64 0, .int .i64 0, .slice none 0 0] 30 (0, 0)) :: H) (some ⟨g, 0, none⟩) (ls.flatMap strL) := hrp (by (focus repeat (first | with_reducible exact List.mem_cons_self | with_reducible apply List.mem_cons_of_mem | assumption)))
    have hz : firstF (badRow ls) i 0 = (-1, 0) := firstF_no fun k _ hk => hall k (by omega)
    have hgm : ls[(i : Int).toNat]? = some (lineAt ls i) := by
      unfold lineAt
      rw [List.getD_eq_getElem?_getD, Int.toNat_natCast, List.getElem?_eq_getElem (by omega)]
      rfl
    rw [hpl, hz, if_neg (by simp), hSC]
    repeat' (first | (apply VL_wneq (lineAt ls i) []; exact rfl; exact rfl; exact rfl; all_goals intro hwd) | apply (zs1 ?_) | apply (zs2 ?_) | (apply zg1; first | refine zs3 ?_ | refine zs4 ?_) | (apply zg3; first | refine zs8 ?_ | refine zs60 ?_) | (apply zg5; refine zs57 ?_) | (apply zg6; first | refine zs11 ?_ | refine zs12 ?_) | (apply zg7; (refine zs15 ?_ ?_ <;> intro _ <;> try (exfalso; omega))) | (apply (zs17 ?_ ?_) <;> intro _ <;> try (exfalso; omega)) | (apply zg22; refine zs51 ?_) | (apply zg25; refine zs55 ?_) | apply (zs65 ?_) | apply (zs68 ?_) | apply (zs69 ?_) | apply (zs70 ?_) | (apply zg27; first | refine zs71 ?_ | refine zs72 ?_) | apply (zs74 ?_) | apply (zs75 ?_) | apply (zs76 ?_) | apply (zs77 ?_) | apply (zs80 ?_) | apply (zs81 ?_) | fail)
    · apply VQ_retc3 T (H2 := cels none 0 [] :: H); exact rfl; exact rfl; exact rfl; exact rfl; (focus repeat (first | with_reducible exact List.mem_cons_self | with_reducible apply List.mem_cons_of_mem | assumption)); exact rfl; exact rfl; (intro w hw; refine St.nilSlice (H := H) ?_ _ _; revert w; (intro w hw; refine hw.perm ?_; focus repeat (first | with_reducible exact Perm.refl _ | (with_reducible apply perm_take; focus ((repeat (first | with_reducible exact rem_here | with_reducible apply rem_there)); done)) | with_reducible apply Perm.dropK)))
      exact outP_no i 3 (by rw [if_pos (.inl (by omega))]) rfl
    · apply VQ_retc3 T (H2 := cels none 0 [] :: H); exact rfl; exact rfl; exact rfl; exact rfl; (focus repeat (first | with_reducible exact List.mem_cons_self | with_reducible apply List.mem_cons_of_mem | assumption)); exact rfl; exact rfl; (intro w hw; refine St.nilSlice (H := H) ?_ _ _; revert w; (intro w hw; refine hw.perm ?_; focus repeat (first | with_reducible exact Perm.refl _ | (with_reducible apply perm_take; focus ((repeat (first | with_reducible exact rem_here | with_reducible apply rem_there)); done)) | with_reducible apply Perm.dropK)))
      exact outP_no i 3 (by rw [if_pos (.inr hwd)]) rfl
    have hrc : ∀ X, Rd B w0 (blk gs (.cells #[.int .i64 SC.len, .int .i64 SC.off, .slice A SC.cells.length cap] 30 (0, 0)) :: cels A cap SC.cells :: X) A (SC.cells.flatMap celF) := fun X => Rd.cels (cap := cap) (.tail _ (.head _))
    rw [if_neg (by rintro (h | h); omega; exact h hwd)]
    obtain ⟨SM, hSM⟩ : ∃ SM : SchM, SM = ⟨SC.len, SC.off, A, cap, SC.cells⟩ := ⟨_, rfl⟩
    have hss : SM.sch = SC := by rw [hSM]; rfl
    have hfc := fun {H' : List HP} {w : World} (hr : Rd B w0 H' SM.A (SM.cells.flatMap celF)) (hw : St B w0 H' w) => form_spec SM hr (by rw [hSM]; show SC.cells.length ≤ _; omega) hw
    rw [hss, hSM] at hfc
    cases hf : formE SC with
    | false =>
      rw [hf] at hfc
      repeat' (first | ((first | apply VL_callt en58 | apply VL_callq en58); (repeat (first | exact args_nil | (apply args_cons; exact rfl))); exact rfl; exact fun _ hw => (hfc (hrc _) hw)) | apply (zs2 ?_) | (apply zg20; refine zs48 ?_) | (apply zg22; refine zs51 ?_) | (apply zg25; refine zs55 ?_) | apply (zs65 ?_) | apply (zs68 ?_) | apply (zs69 ?_) | apply (zs70 ?_) | (apply zg27; refine zs71 ?_) | apply (zs74 ?_) | apply (zs77 ?_) | fail)
      apply VQ_retc3 T (H2 := cels none 0 [] :: H); exact rfl; exact rfl; exact rfl; exact rfl; (focus repeat (first | with_reducible exact List.mem_cons_self | with_reducible apply List.mem_cons_of_mem | assumption)); exact rfl; exact rfl; (intro w hw; refine St.nilSlice (H := H) ?_ _ _; revert w; (intro w hw; refine hw.perm ?_; focus repeat (first | with_reducible exact Perm.refl _ | (with_reducible apply perm_take; focus ((repeat (first | with_reducible exact rem_here | with_reducible apply rem_there)); done)) | with_reducible apply Perm.dropK)))
      exact outP_no (-1) 1 (by rw [if_pos rfl]) rfl
    | true =>
      rw [hf] at hfc
      repeat' (first | ((first | apply VL_callt en58 | apply VL_callq en58); (repeat (first | exact args_nil | (apply args_cons; exact rfl))); exact rfl; exact fun _ hw => (hfc (hrc _) hw)) | apply (zs2 ?_) | (apply zg3; refine zs8 ?_) | (apply zg20; refine zs47 ?_) | (apply zg22; refine zs51 ?_) | apply (zs65 ?_) | apply (zs68 ?_) | apply (zs69 ?_) | apply (zs70 ?_) | (apply zg27; refine zs72 ?_) | apply (zs74 ?_) | apply (zs76 ?_) | fail)
      apply VQ_retc3 T (H2 := cels A cap SC.cells :: H); exact rfl; exact rfl; exact rfl; exact rfl; (focus repeat (first | with_reducible exact List.mem_cons_self | with_reducible apply List.mem_cons_of_mem | assumption)); exact rfl; exact rfl; (intro w hw; refine hw.perm ?_; focus repeat (first | with_reducible exact Perm.refl _ | (with_reducible apply perm_take; focus ((repeat (first | with_reducible exact rem_here | with_reducible apply rem_there)); done)) | with_reducible apply Perm.dropK))
      exact ⟨A, cap, rfl, rfl⟩
end Go.Proofs.YtmalhidldgfeoaaGreatDoor

/- From arguments that came in to rows that are only read. -/
namespace Go.Eng
open Go.ChangeShapes Go.WideShapes Go.ChangeAt Go.RowKit Go.Deep

/-- In this world the cells xs lie from A on. -/
def Old (W : World) (A : Option Addr) (xs : List Value) : Prop := ∀ j v, xs[j]? = some v → ∃ g o, A = some ⟨g, o, none⟩ ∧ g < W.heap.size ∧ W.cell? ⟨g, o + j, none⟩ = some v
theorem Old.rd {W : World} {H : List HP} {A : Option Addr} {xs : List Value} (h : Old W A xs) : Rd W.heap.size W H A xs := Rd.old h

theorem cell_lt {W : World} {a : Addr} {v : Value} (h : W.cell? a = some v) : a.block < W.heap.size := by
  unfold World.cell? at h
  rcases Nat.lt_or_ge a.block W.heap.size with h1 | h1
  · exact h1
  · rw [Array.getElem?_eq_none h1] at h; cases h

section
variable {H : Type} {enc : TypeId × Value → H} {P : Program} {W : World} {held : Bool}

/-- A slice that came in: its elements, and where they lie; f: an element's cells; good: what is known of an element. -/
theorem open_rows {α : Type} {f : α → List Value} {good : α → Prop} {t e q : Nat} {fuel : Nat} {A : Option Addr} {len cap : Nat} {x : DataW H × List MemPlace} {spare : Nat → Bool} (ht : P.underlying t = some (.slice e)) (hc : P.cellsOf e = q) (h0 : 0 < q)
    (hel : ∀ n cs y, cs.length = q → DataW.trod enc P W 0 spare held n e cs = some y → ∃ a, cs = f a ∧ good a) (h : DataW.trod enc P W 0 spare held fuel t [.slice A len cap] = some x) :
    ∃ l : List α, l.length = len ∧ Old W A (l.flatMap f) ∧ (∀ a ∈ l, good a) ∧ len ≤ maxLen ∧ (∀ a ∈ l, (f a).length = q) := by
  rcases open_slice ht h with ⟨h1, _⟩ | ⟨a, len', cap', m, n, D, Pl, h1, _, hl, hm, hmm, hxx, hx⟩
  · injection h1 with h1 _
    injection h1 with h1 h2 h3
    subst h1 h2 h3
    exact ⟨[], rfl, (fun j v hv => by simp at hv), (fun a ha => by cases ha), Nat.zero_le _, (fun a ha => by cases ha)⟩
  · injection h1 with h1 _
    injection h1 with h1 h2 h3
    subst h1 h2 h3
    have hle : len ≤ m := by rw [hmm]; split <;> omega
    rw [hc] at hx
    have key : ∀ i, i < len → ∃ b : α, W.cells? 0 (a.add (i * q)) q = some (f b) ∧ good b := fun i hi => by
      obtain ⟨cs', h2, h3⟩ := hx i (by omega)
      obtain ⟨_, h5, _⟩ := World.cells?_some h2
      obtain ⟨b, rfl, hb⟩ := hel n cs' _ h5 h3
      exact ⟨b, h2, hb⟩
    obtain ⟨l, hlen, hl2⟩ : ∃ l : List α, l.length = len ∧ ∀ i b, l[i]? = some b → W.cells? 0 (a.add (i * q)) q = some (f b) ∧ good b := by
      clear hx hmm hle h hl hm hxx
      induction len with
      | zero => exact ⟨[], rfl, fun i b hb => by simp at hb⟩
      | succ k ih =>
        obtain ⟨l, h2, h3⟩ := ih (fun i hi => key i (by omega))
        obtain ⟨b, h4⟩ := key k (by omega)
        refine ⟨l ++ [b], by simp [h2], fun i c hc => ?_⟩
        by_cases hi : i < l.length
        · rw [List.getElem?_append_left hi] at hc; exact h3 i c hc
        · rw [List.getElem?_append_right (by omega)] at hc
          have hi2 : i - l.length = 0 := by
            have := (List.getElem?_eq_some_iff.1 hc).1
            simp at this; omega
          rw [hi2] at hc
          obtain rfl : b = c := by simpa using hc
          obtain rfl : i = k := by omega
          exact h4
    have hfq : ∀ b ∈ l, (f b).length = q := fun b hb => by
      obtain ⟨i, hi⟩ := List.getElem?_of_mem hb
      exact (World.cells?_some (hl2 i b hi).1).2.1
    refine ⟨l, hlen, fun j v hv => ?_, fun b hb => ?_, by omega, hfq⟩
    · have hspl : ∃ i b, l[i]? = some b ∧ ∃ r, j = i * q + r ∧ r < q ∧ (f b)[r]? = some v := by
        clear hlen hl2 key
        induction l generalizing j with
        | nil => simp at hv
        | cons b l ih =>
          rw [List.flatMap_cons] at hv
          have hb := hfq b (by simp)
          by_cases hj : j < q
          · rw [List.getElem?_append_left (by omega)] at hv
            exact ⟨0, b, rfl, j, by omega, hj, hv⟩
          · rw [List.getElem?_append_right (by omega), hb] at hv
            obtain ⟨i, b', h5, r, h6, h7, h8⟩ := ih (fun c hc => hfq c (by simp [hc])) (j - q) hv
            exact ⟨i + 1, b', by simpa using h5, r, by rw [Nat.add_mul]; omega, h7, h8⟩
      obtain ⟨i, b, h5, r, rfl, h7, h8⟩ := hspl
      have h9 := (World.cells?_some (hl2 i b h5).1).2.2 r h7
      rw [h8, add_add] at h9
      obtain ⟨ab, ao, spot⟩ := a
      have hs0 : spot = none := by
        have h10 := World.cell?_spot h9
        unfold Addr.add at h10
        split at h10
        · exact h10
        · rename_i hne
          have hi0 : i < len := by have := (List.getElem?_eq_some_iff.1 h5).1; omega
          have h11 := (World.cells?_some (hl2 0 l[0] (List.getElem?_eq_getElem (by omega))).1).2.2 0 h0
          rw [add_add, Nat.zero_mul, Nat.zero_add] at h11
          have hf0 : ((f l[0])[0]?).isSome = true := by
            rw [List.getElem?_eq_getElem (by rw [hfq _ (List.getElem_mem _)]; exact h0)]; rfl
          cases hf1 : (f l[0])[0]? with
          | none => rw [hf1] at hf0; cases hf0
          | some u =>
            rw [hf1] at h11
            exact World.cell?_spot h11
      subst hs0
      refine ⟨ab, ao, rfl, ?_, ?_⟩
      · have := cell_lt h9
        rw [Addr.add_lit] at this
        exact this
      · rw [Addr.add_lit] at h9
        exact h9
    · obtain ⟨i, hi⟩ := List.getElem?_of_mem hb
      exact (hl2 i b hi).2

end
end Go.Eng

/- From arguments that came in to what the walks speak of: openers, built up as types are. -/
namespace Go.Eng
open Go.ChangeShapes Go.WideShapes Go.ChangeAt Go.RowKit Go.Deep

/-- A slice: where it lies, its capacity, its elements. -/
structure SlM (α : Type) where
  A : Option Addr
  cap : Nat
  xs : List α
def SlM.val {α : Type} (s : SlM α) : Value := .slice s.A s.xs.length s.cap

section
variable {H : Type} {enc : TypeId × Value → H} {P : Program} {W : World} {spare : Nat → Bool} {held : Bool}

/-- Cells that are read as a value of type t are those of some a that is good. -/
def Opn (enc : TypeId × Value → H) (P : Program) (W : World) (spare : Nat → Bool) (held : Bool) (t : TypeId) {α : Type} (f : α → List Value) (good : α → Prop) : Prop :=
  ∀ fuel cs y, DataW.trod enc P W 0 spare held fuel t cs = some y → ∃ a, cs = f a ∧ good a

theorem op_map {t : TypeId} {α β : Type} {f : α → List Value} {good : α → Prop} {f' : β → List Value} {good' : β → Prop} (h : Opn enc P W spare held t f good) (g : α → β) (hf : ∀ a, f a = f' (g a)) (hg : ∀ a, good a → good' (g a)) : Opn enc P W spare held t f' good' := by
  intro fuel cs y hy
  obtain ⟨a, h1, h2⟩ := h fuel cs y hy
  exact ⟨g a, h1.trans (hf a), hg a h2⟩

theorem op_int {t : TypeId} {k : IntKind} (ht : P.underlying t = some (.int k)) : Opn enc P W spare held t (fun z : Int => [Value.int k z]) (fun z => (Lit.int k z).wf = true) := by
  intro fuel cs y hy
  obtain ⟨m, rfl, rfl, hw⟩ := DataW.trod_int ht hy
  exact ⟨m, rfl, hw⟩

/-- What is known of a slice that came in. -/
structure SlG {α : Type} (W : World) (f : α → List Value) (good : α → Prop) (s : SlM α) : Prop where
  old : Old W s.A (s.xs.flatMap f)
  good : ∀ a ∈ s.xs, good a
  len : s.xs.length ≤ maxLen
  cap : s.xs.length ≤ s.cap

theorem op_slice {t e q : TypeId} {α : Type} {f : α → List Value} {good : α → Prop} (ht : P.underlying t = some (.slice e)) (hc : P.cellsOf e = q) (h0 : 0 < q) (h : Opn enc P W spare held e f good) : Opn enc P W spare held t (fun s : SlM α => [s.val]) (SlG W f good) := by
  intro fuel cs y hy
  rcases open_slice ht hy with ⟨rfl, _⟩ | ⟨a, len, cap, m, n, D, Pl, rfl, _, hlc, _⟩
  · exact ⟨⟨none, 0, []⟩, rfl, ⟨(fun j v hv => by simp at hv), (fun a ha => by cases ha), Nat.zero_le _, Nat.zero_le _⟩⟩
  · obtain ⟨l, h1, h2, h3, h4, _⟩ := open_rows ht hc h0 (fun n cs y _ hy => h n cs y hy) hy
    subst h1
    exact ⟨⟨some a, cap, l⟩, rfl, h2, h3, h4, hlc⟩

/-- The same for the fields of a struct, one behind the other. -/
def FOpn (enc : TypeId × Value → H) (P : Program) (W : World) (spare : Nat → Bool) (held : Bool) (ts : List TypeId) {α : Type} (f : α → List Value) (good : α → Prop) : Prop :=
  ∀ (n : Nat) (cs : List Value), cs.length = (ts.map P.cellsOf).sum → (∀ i t, ts[i]? = some t → ∃ y, DataW.trod enc P W 0 spare held n t ((cs.drop ((ts.take i).map P.cellsOf).sum).take (P.cellsOf t)) = some y) → ∃ a, cs = f a ∧ good a

theorem fop_nil : FOpn enc P W spare held [] (fun _ : Unit => []) (fun _ => True) := fun n cs h _ => ⟨(), List.eq_nil_of_length_eq_zero (by simpa using h), trivial⟩
theorem fop_cons {t : TypeId} {ts : List TypeId} {α β : Type} {f : α → List Value} {good : α → Prop} {g : β → List Value} {good' : β → Prop} (h : Opn enc P W spare held t f good) (hs : FOpn enc P W spare held ts g good') :
    FOpn enc P W spare held (t :: ts) (fun x : α × β => f x.1 ++ g x.2) (fun x => good x.1 ∧ good' x.2) := by
  intro n cs hl hx
  simp only [List.map_cons, List.sum_cons] at hl
  obtain ⟨y, hy⟩ := hx 0 t rfl
  simp only [List.take_zero, List.map_nil, List.sum_nil, List.drop_zero] at hy
  obtain ⟨a, h1, h2⟩ := h n _ y hy
  obtain ⟨b, h3, h4⟩ := hs n (cs.drop (P.cellsOf t)) (by simp; omega) (fun i u hu => by
    obtain ⟨y, hy⟩ := hx (i + 1) u (by simpa using hu)
    refine ⟨y, ?_⟩
    rw [List.drop_drop]
    simpa using hy)
  exact ⟨(a, b), by show cs = f a ++ g b; rw [← h1, ← h3, List.take_append_drop], h2, h4⟩

def offs (P : Program) : List TypeId → Nat → List Nat
  | [], _ => []
  | t :: ts, o => o :: offs P ts (o + P.cellsOf t)
theorem offs_get (P : Program) : ∀ (ts : List TypeId) (o i : Nat), i < ts.length → (offs P ts o)[i]? = some (o + ((ts.take i).map P.cellsOf).sum)
  | [], _, _, h => by simp at h
  | t :: ts, o, 0, _ => by simp [offs]
  | t :: ts, o, i + 1, h => by
    rw [offs, List.getElem?_cons_succ, offs_get P ts _ i (by simpa using h)]
    simp [Nat.add_assoc]
/-- A struct whose fields have these types, one behind the other. -/
def structB (P : Program) (t : TypeId) (ts : List TypeId) : Bool :=
  match P.underlying t with
  | some (.struct fs) => (fs.toList.map (·.type) == ts) && (fs.toList.map (·.offset) == offs P ts 0) && (P.cellsOf t == (ts.map P.cellsOf).sum)
  | _ => false

theorem op_struct {t : TypeId} {ts : List TypeId} {α : Type} {f : α → List Value} {good : α → Prop} (hB : structB P t ts = true) (h : FOpn enc P W spare held ts f good) : Opn enc P W spare held t f good := by
  intro fuel cs y hy
  unfold structB at hB
  cases hu : P.underlying t with
  | none => rw [hu] at hB; cases hB
  | some d =>
    rw [hu] at hB
    cases d with
    | struct fs =>
      simp only [Bool.and_eq_true, beq_iff_eq] at hB
      obtain ⟨⟨h1, h2⟩, h3⟩ := hB
      obtain ⟨xs, n, _, _, hl, hn, hx⟩ := DataW.trod_struct hu hy
      refine h n cs (hl.trans h3) fun i u hi => ?_
      have hlt : i < ts.length := (List.getElem?_eq_some_iff.1 hi).1
      have hlf : i < fs.toList.length := by rw [← h1] at hlt; simpa using hlt
      have hf : fs[i]? = some (fs.toList[i]) := by rw [← Array.getElem?_toList, List.getElem?_eq_getElem hlf]
      have ht : (fs.toList[i]).type = u := by
        rw [← h1, List.getElem?_map, List.getElem?_eq_getElem hlf] at hi
        simpa using hi
      have ho : (fs.toList[i]).offset = ((ts.take i).map P.cellsOf).sum := by
        have h5 := offs_get P ts 0 i hlt
        rw [← h2, List.getElem?_map, List.getElem?_eq_getElem hlf] at h5
        simpa using h5
      have h6 := hx i _ hf
      rw [ht, ho] at h6
      have hlx : i < xs.length := by rw [hn]; simpa using hlf
      exact ⟨xs[i], by rw [h6, List.getElem?_eq_getElem hlx]⟩
    | _ => cases hB

end
end Go.Eng

/- A network that came in as an argument. -/
namespace Go.Proofs.YtmalhidldgfeoaaGreatDoor
open Go.ChangeShapes Go.WideShapes Go.ChangeAt Go.RowKit Go.Eng Go.Nw

section
variable {H : Type} {enc : TypeId × Value → H} {W : World} {spare : Nat → Bool} {held : Bool}
abbrev I64 (z : Int) : Prop := (Lit.int .i64 z).wf = true
theorem op_i : Opn enc Tryz.prog W spare held 3 numF I64 := op_int Tryz.underlying3
theorem op_ints : Opn enc Tryz.prog W spare held 24 (fun s : SlM Int => [s.val]) (SlG W numF I64) := op_slice (q := 1) Tryz.underlying24 (by kernel_rfl) (by decide) op_i
theorem op_rows : Opn enc Tryz.prog W spare held 22 (fun s : SlM (SlM Int) => [s.val]) (SlG W (fun s : SlM Int => [s.val]) (SlG W numF I64)) := op_slice (q := 1) Tryz.underlying22 (by kernel_rfl) (by decide) op_ints
theorem op_link : Opn enc Tryz.prog W spare held 172 lkF (fun l => I64 l.1 ∧ I64 l.2.1 ∧ I64 l.2.2) :=
  op_map (op_struct (ts := [3, 3, 3]) (by kernel_rfl) (fop_cons op_i (fop_cons op_i (fop_cons op_i fop_nil)))) (fun x => (x.1, x.2.1, x.2.2.1)) (fun _ => rfl) (fun _ h => ⟨h.1, h.2.1, h.2.2.1⟩)
theorem op_links : Opn enc Tryz.prog W spare held 23 (fun s : SlM Lk => [s.val]) (SlG W lkF fun l => I64 l.1 ∧ I64 l.2.1 ∧ I64 l.2.2) := op_slice (q := 3) Tryz.underlying23 (by kernel_rfl) (by decide) op_link

structure NetG (W : World) (n : NetM) : Prop where
  nodes : I64 n.nodes
  pw : Old W n.pA (n.rows.flatMap rowF)
  rw_ : ∀ r ∈ n.rows, Old W r.A (r.xs.flatMap numF)
  noise : I64 n.noise
  thr : I64 n.thr
  lk : Old W n.lA (n.links.flatMap lkF)
  mg : Old W n.mA (n.margin.flatMap numF)
  s1 : n.rows.length ≤ 9223372036854775807
  s2 : ∀ r ∈ n.rows, r.xs.length ≤ 9223372036854775807
  s3 : n.links.length ≤ 9223372036854775807
  s4 : n.margin.length ≤ 9223372036854775807
  w1 : ∀ r ∈ n.rows, ∀ z ∈ r.xs, I64 z
  w2 : ∀ l ∈ n.links, I64 l.1 ∧ I64 l.2.1 ∧ I64 l.2.2
  w3 : ∀ z ∈ n.margin, I64 z
  c3 : n.links.length ≤ n.lcap
  c4 : n.margin.length ≤ n.mcap
theorem NetG.In {n : NetM} {K : List HP} (h : NetG W n) : n.In W.heap.size W K := ⟨h.pw.rd, fun r hr => (h.rw_ r hr).rd, h.lk.rd, h.mg.rd, h.s1, h.s2, h.s3, h.s4⟩

def netF (n : NetM) : List Value := [.int .i64 n.nodes, .slice n.pA n.rows.length n.pcap, .int .i64 n.noise, .int .i64 n.thr, .slice n.lA n.links.length n.lcap, .slice n.mA n.margin.length n.mcap]
def rowOf (s : SlM Int) : RowM := ⟨s.A, s.cap, s.xs⟩
theorem flat_rowOf (l : List (SlM Int)) : (l.map rowOf).flatMap rowF = l.flatMap fun s => [s.val] := by rw [List.flatMap_map]; rfl
theorem maxL : maxLen ≤ 9223372036854775807 := by decide
theorem op_net : Opn enc Tryz.prog W spare held 26 netF (NetG W) :=
  op_map (op_struct (ts := [3, 22, 3, 3, 23, 24]) (by kernel_rfl) (fop_cons op_i (fop_cons op_rows (fop_cons op_i (fop_cons op_i (fop_cons op_links (fop_cons op_ints fop_nil)))))))
    (fun x => ⟨x.1, x.2.1.A, x.2.1.cap, x.2.1.xs.map rowOf, x.2.2.1, x.2.2.2.1, x.2.2.2.2.1.A, x.2.2.2.2.1.cap, x.2.2.2.2.1.xs, x.2.2.2.2.2.1.A, x.2.2.2.2.2.1.cap, x.2.2.2.2.2.1.xs⟩)
    (fun x => by simp [netF, numF, SlM.val])
    (fun x h => by
      obtain ⟨h1, h2, h3, h4, h5, h6, _⟩ := h
      have hm := maxL
      refine ⟨h1, ?_, ?_, h3, h4, h5.old, h6.old, ?_, ?_, Nat.le_trans h5.len hm, Nat.le_trans h6.len hm, ?_, h5.good, h6.good, h5.cap, h6.cap⟩
      · rw [flat_rowOf]; exact h2.old
      · intro r hr
        obtain ⟨s, hs, rfl⟩ := List.mem_map.1 hr
        exact (h2.good s hs).old
      · rw [List.length_map]; exact Nat.le_trans h2.len hm
      · intro r hr
        obtain ⟨s, hs, rfl⟩ := List.mem_map.1 hr
        exact Nat.le_trans (h2.good s hs).len hm
      · intro r hr
        obtain ⟨s, hs, rfl⟩ := List.mem_map.1 hr
        exact (h2.good s hs).good)

set_option maxRecDepth 100000 in
theorem open_net {r : Reach} {b0 : Nat} {v : Value} {d : DataW H} {p : List MemPlace} (hv : Value.okWide Tryz.prog W r b0 26 v) (h : DataW.Trod enc Tryz.prog W 0 spare held 26 v d p) : ∃ n : NetM, v = n.val ∧ NetG W n := by
  obtain ⟨cs, rfl, _⟩ := okWide_struct Tryz.underlying26 hv
  obtain ⟨fuel, hf⟩ := h
  obtain ⟨n, h1, h2⟩ := op_net fuel _ _ hf
  refine ⟨n, ?_, h2⟩
  have : cs = (netF n).toArray := by rw [← h1]; simp [Value.cells]
  rw [this]; rfl
end
end Go.Proofs.YtmalhidldgfeoaaGreatDoor

/- From a walk to a row: a law that returns true and leaves memory below as it was. -/
namespace Go.Proofs.YtmalhidldgfeoaaGreatDoor
open Go.ChangeShapes Go.WideShapes Go.ChangeAt Go.RowKit

section
variable {H : Type} {enc : TypeId × Value → H} {P : Program}

theorem trodAll_keep (hl : laidOutB P = true) {W W' : World} {sp : Nat → Bool} : ∀ {ts : List TypeId} {vs : List Value} {ds : List (DataW H)} {ps : List MemPlace}, (ts.all fun t => P.readableRec t && decide (t < P.types.size)) = true →
    DataW.TrodAll enc P W 0 (fun _ => true) true ts vs ds ps → (∀ p ∈ ps, W.sameAt W' p) → (∀ p ∈ ps, sp p.block = true) → DataW.TrodAll enc P W' 0 sp true ts vs ds ps
  | [], [], [], _, _, h, _, _ => h
  | [], [], _ :: _, _, _, h, _, _ => h.elim
  | [], _ :: _, _, _, _, h, _, _ => h.elim
  | _ :: _, [], _, _, _, h, _, _ => h.elim
  | _ :: _, _ :: _, [], _, _, h, _, _ => h.elim
  | t :: ts, v :: vs, d :: ds, ps, hr, h, hs, hp => by
    obtain ⟨p, q, h1, h2, rfl⟩ := h
    simp only [List.all_cons, Bool.and_eq_true, decide_eq_true_eq] at hr
    exact ⟨p, q, WideElems.Trod_stays hl hr.1.1 hr.1.2 h1 (fun x hx => hs x (by simp [hx])) (fun x hx => hp x (by simp [hx])), trodAll_keep hl hr.2 h2 (fun x hx => hs x (by simp [hx])) (fun x hx => hp x (by simp [hx])), rfl⟩

/-- The call returned true, and below the heap's old end nothing is changed: what the row asks. -/
theorem post_true {f : Func} {s : ChangeSpec} {apart fresh handsOn again : Bool} {W W' : World} {args : Array Value} {ds gs : List (DataW H)} {before : List MemPlace} {tb : TypeId} (hl : laidOutB P = true)
    (hrd : (f.params.toList.all fun t => P.readableRec t && decide (t < P.types.size)) = true) (hv : s.vars = []) (hrt : f.resultTypes = #[tb]) (htb : P.underlying tb = some .bool)
    (hW : DataW.Whole enc P f.params.toList s.vars apart W args.toList ds gs before) (hb : Below W.heap.size W W')
    (hres : (s.fn H (ds ++ gs)).results = [.lit (.bool true)]) (hargs : (s.fn H (ds ++ gs)).args = ds) (hvars : (s.fn H (ds ++ gs)).vars = []) :
    s.post enc P f apart fresh handsOn again W args (.bool true) W' := by
  have hlt : ∀ p ∈ before, p.block < W.heap.size := fun p hp => hW.lt p hp
  have hW0 := hW
  obtain ⟨p, q, hA, hV, rfl, hz, hn⟩ := hW
  rw [hv] at hV
  have hq : gs = [] ∧ q = [] := by
    cases gs with
    | nil => exact ⟨rfl, hV⟩
    | cons _ _ => exact hV.elim
  obtain ⟨rfl, rfl⟩ := hq
  have hkeep : ∀ sp : Nat → Bool, (∀ x ∈ p ++ [], sp x.block = true) → DataW.TrodAll enc P W' 0 sp true f.params.toList args.toList ds p := fun sp hsp =>
    trodAll_keep hl hrd hA (fun x hx => hb.same (hlt x (by simpa using hx))) (fun x hx => hsp x (by simpa using hx))
  have hR : ∀ (b : Nat) (sp : Nat → Bool) (hd : Bool), DataW.TrodAll enc P W' b sp hd f.resultTypes.toList ((Value.bool true).resultList f.resultTypes.size) (s.fn H (ds ++ [])).results [] := by
    intro b sp hd
    rw [hres, hrt]
    exact trodAll_mk1 (shut_bool htb true)
  have hok := ok_one (P := P) (W' := W') (f := f) (v := .bool true) hrt rfl (okWide_bool_mk htb true)
  have hold : ∀ x ∈ p ++ [], (fun b => decide (b < W.heap.size)) x.block = true := fun x hx => by simpa using hlt x hx
  refine ⟨ds, [], p ++ [], [], p, [], hW0, hR _ _ _, by rw [hargs]; exact hkeep _ hold, by rw [hvars, hv]; rfl, World.keptBut_mono (fun x hx => ⟨hx, Or.inr (by simpa using hx)⟩) (hb.frame (· ∈ p ++ [])), fun _ => ?_⟩
  refine ⟨hok, _, _, ([] ++ p) ++ [], ⟨[] ++ p, [], trodAll_append (hkeep _ (fun _ _ => rfl)) (hR _ _ _), (show DataW.TrodVars enc P W' (fun _ => true) s.vars [] [] by rw [hv]; rfl), rfl, ?_, ?_⟩, ?_⟩
  · intro b off hp
    have hin : MemPlace.cell b off ∈ p ++ [] := by simpa using hp
    rw [hb.frozen (hlt _ hin)]
    exact hz b off hin
  · intro ha
    simpa using hn ha
  · intro x hx _
    simpa using hx
end
end Go.Proofs.YtmalhidldgfeoaaGreatDoor
