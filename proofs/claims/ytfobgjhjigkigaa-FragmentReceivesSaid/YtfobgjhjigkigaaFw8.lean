/- Walks: the receiver's inner functions. -/
import Derived.Test.YtfobgjhjigkigaaFw7

namespace Go.Proofs.Ytfobgjhjigkigaa
open Go.RowKit Go.Eng

/-- A datagram of a receiver: where it lies, the stamp of its entry in the map, and what it holds. -/
structure Dg where
  g : Nat
  born : Nat
  tag : Int
  cnt : Int
  size : Int
  part : Int
  last : Int
  bm : Nat
  parts : List ByteArray

namespace Dg
def strs (d : Dg) : List Value := d.parts.map Value.string
def cells (d : Dg) : List Value := .int .i64 d.cnt :: .int .i64 d.size :: .int .i64 d.part :: .int .i64 d.last :: .int .i64 d.bm :: d.strs
def hp (d : Dg) : HP := blk d.g (.cells d.cells.toArray 84 (0, 0))
def ent (d : Dg) : Int × Value × Nat := (d.tag, .pointer (some ⟨d.g, 0, none⟩), d.born)
end Dg

/-- The cells of a receiver. -/
abbrev rcells (hold time : Int) (m : Nat) : Obj := .cells #[.int .i64 hold, .int .i64 time, .map (some m)] 79 (0, 0)
def old (hold time : Int) (d : Dg) : Bool := decide (d.last < time - hold)

theorem bld_rcv (h : Int) (m : Nat) (w : World) : (Instr.build 79 [(0, .int .i64 h), (2, .map (some m))].toArray).run Try.prog w = .ok (.agg #[.int .i64 h, .int .i64 0, .map (some m)]) w := by kernel_rfl

theorem newReceiver_spec (hold : Int) {B : Nat} {w0 : World} {H : List HP} {w : World} (hw : St B w0 H w) (h0 : 0 ≤ hold) (h1 : hold ≤ 4096) :
    Calls Try.prog 21 [.int .i64 hold].toArray w (Post B w0 fun v K => ∃ r m, v = .tuple #[.pointer (some ⟨r, 0, none⟩), .int .i64 0] ∧ K = blk r (rcells hold 0 m) :: blk m (mobj [] 0) :: many [] :: H) := by
  refine Calls_of_VC Try.func21 Try.ntmps21 rfl rfl (hw.perm (.noMany H)) ?_
  repeat' (first | (apply VL_makeMap; exact rfl; intro _) | (apply VL_build; (repeat (first | exact parts_nil | (apply parts_cons; exact rfl))); exact bld_rcv _ _; exact rfl) | (apply VL_move; exact rfl; exact rfl) | (apply VL_assign; exact rfl; exact rfl) | (apply VL_guard_yes; exact rfl; exact rfl; exact rfl) | (apply VL_pick_false; exact rfl; exact rfl; exact rfl) | (apply VL_lss; exact rfl; exact rfl; exact rfl; all_goals (intro _; try (exfalso; omega))) | (apply VL_gtr; exact rfl; exact rfl; exact rfl; all_goals (intro _; try (exfalso; omega))) | (apply VL_box_agg; exact rfl; exact rfl; intro _) | apply VL_nil | apply VQ_then | apply VC_seq | apply VC_region | (apply VC_cond_false; exact rfl) | apply VC_ret | apply VC_skip)
  apply VQ_ret2; exact rfl; exact rfl; exact rfl
  exact ⟨_, _, rfl, rfl⟩

theorem newReceiver_err (hold : Int) {B : Nat} {w0 : World} {H : List HP} {w : World} (hw : St B w0 H w) (h0 : hold < 0 ∨ 4096 < hold) :
    Calls Try.prog 21 [.int .i64 hold].toArray w (Post B w0 fun v K => v = .tuple #[.pointer none, .int .i64 2] ∧ K = H) := by
  refine Calls_of_VC Try.func21 Try.ntmps21 rfl rfl hw ?_
  repeat' (first | (apply VL_move; exact rfl; exact rfl) | (apply VL_assign; exact rfl; exact rfl) | (apply VL_guard_no; exact rfl; exact rfl; exact rfl; exact rfl; exact rfl) | (apply VL_guard_yes; exact rfl; exact rfl; exact rfl) | (apply VL_pick_true; exact rfl; exact rfl; exact rfl) | (apply VL_pick_false; exact rfl; exact rfl; exact rfl) | (apply VL_lss; exact rfl; exact rfl; exact rfl; all_goals (intro _; try (exfalso; omega))) | (apply VL_gtr; exact rfl; exact rfl; exact rfl; all_goals (intro _; try (exfalso; omega))) | apply VL_nil | apply VQ_then | apply VC_seq | apply VC_region | (apply VC_cond_true; exact rfl) | apply VC_ret | apply VQ_then_ret)
  all_goals (apply VQ_ret2; exact rfl; exact rfl; exact rfl; exact ⟨rfl, rfl⟩)

theorem old_spec (hold time : Int) (m r bx : Nat) (d : Dg) (key : Int) (hh : 0 ≤ hold ∧ hold ≤ 4096) (ht : 0 ≤ time ∧ time ≤ 109951162) {B : Nat} {w0 : World} {H : List HP} {w : World} (hw : St B w0 H w)
    (h1 : d.hp ∈ H) (h2 : blk r (rcells hold time m) ∈ H) (h3 : blk bx (.cells #[.pointer (some ⟨r, 0, none⟩)] 40 (0, 0)) ∈ H) :
    Calls Try.prog 45 [.int .i64 key, .pointer (some ⟨d.g, 0, none⟩), .pointer (some ⟨bx, 0, none⟩)].toArray w (Post B w0 fun v K => v = .bool (old hold time d) ∧ K = H) := by
  refine Calls_of_VC Try.func45 Try.ntmps45 rfl rfl hw ?_
  repeat' (first | (apply VL_load T; exact rfl; exact h1; exact rfl; exact rfl; exact rfl) | (apply VL_load T; exact rfl; exact h2; exact rfl; exact rfl; exact rfl) | (apply VL_load T; exact rfl; exact h3; exact rfl; exact rfl; exact rfl) | (apply VL_move; exact rfl; exact rfl) | (apply VL_assign; exact rfl; exact rfl) | (apply VL_nilCheck; exact rfl; exact rfl) | (apply VL_fieldAddr T; exact rfl; exact rfl; exact rfl) | (apply VL_lss; exact rfl; exact rfl; exact rfl; all_goals (intro _; try (exfalso; omega))) | (apply VL_sub; exact rfl; exact rfl; exact rfl; omega) | apply VL_nil | apply VL_nilq | apply VQ_then | apply VC_seq | apply VC_region | apply VC_ret | (apply VC_drawp; exact rfl; kernel_rfl; kernel_rfl))
  · apply VQ_ret1; exact rfl; exact rfl
    exact ⟨congrArg _ (by unfold old; simp; omega), rfl⟩
  · apply VQ_ret1; exact rfl; exact rfl
    exact ⟨congrArg _ (by unfold old; simp; omega), rfl⟩

/-- What is left behind some entries were looked at. -/
def left (hold time : Int) (ds : List Dg) (seen : Array Nat) : List Dg := ds.filter fun d => !(seen.contains d.born && old hold time d)

theorem left_push {hold time : Int} {ds cur : List Dg} {seen : Array Nat} {d : Dg} (h : cur = left hold time ds seen) : left hold time ds (seen.push d.born) = cur.filter fun x => !(x.born == d.born && old hold time x) := by
  subst h
  unfold left
  rw [List.filter_filter]
  congr 1
  funext x
  simp only [Array.contains_push]
  cases seen.contains x.born <;> cases hb : x.born == d.born <;> cases old hold time x <;> simp

theorem filter_one {p : Dg → Bool} {l1 l2 : List Dg} {d : Dg} (hn : ((l1 ++ d :: l2).map (·.born)).Nodup) (hp : p d = true) : (l1 ++ d :: l2).filter (fun x => !(x.born == d.born && p x)) = l1 ++ l2 := by
  rw [List.filter_append, List.filter_cons]
  have hne : ∀ x ∈ l1 ++ l2, x.born ≠ d.born := by
    intro x hx e
    rw [List.map_append, List.map_cons, List.nodup_append] at hn
    obtain ⟨_, h2, h3⟩ := hn
    rcases List.mem_append.1 hx with hx | hx
    · exact h3 _ (List.mem_map.2 ⟨x, hx, rfl⟩) _ (by simp) e
    · rw [List.nodup_cons] at h2
      exact h2.1 (List.mem_map.2 ⟨x, hx, e⟩)
  have h1 : ∀ l : List Dg, (∀ x ∈ l, x.born ≠ d.born) → l.filter (fun x => !(x.born == d.born && p x)) = l := by
    intro l hl
    rw [List.filter_eq_self]
    intro x hx
    have : (x.born == d.born) = false := by simpa using hl x hx
    simp [this]
  rw [h1 l1 (fun x hx => hne x (by simp [hx])), h1 l2 (fun x hx => hne x (by simp [hx]))]
  simp [hp]
theorem nodup_inj {α : Type} {f : Dg → α} {l : List Dg} (hn : (l.map f).Nodup) {x y : Dg} (hx : x ∈ l) (hy : y ∈ l) (e : f x = f y) : x = y := by
  induction l with
  | nil => cases hx
  | cons a l ih =>
    rw [List.map_cons, List.nodup_cons] at hn
    rcases List.mem_cons.1 hx with h1 | h1 <;> rcases List.mem_cons.1 hy with h2 | h2
    · rw [h1, h2]
    · exact absurd (List.mem_map.2 ⟨y, h2, by rw [← e, h1]⟩) hn.1
    · exact absurd (List.mem_map.2 ⟨x, h1, by rw [e, h2]⟩) hn.1
    · exact ih hn.2 h1 h2
theorem filter_none {p : Dg → Bool} {l : List Dg} {d : Dg} (hn : (l.map (·.born)).Nodup) (hd : d ∈ l) (hp : p d = false) : l.filter (fun x => !(x.born == d.born && p x)) = l := by
  rw [List.filter_eq_self]
  intro x hx
  by_cases e : x.born = d.born
  · have : x = d := nodup_inj hn hx hd e
    subst this
    simp [hp]
  · have : (x.born == d.born) = false := by simpa using e
    simp [this]

/-- Datagrams as a receiver's map has them. -/
structure Maps (ds : List Dg) (clock : Nat) : Prop where
  tags : (ds.map (·.tag)).Nodup
  borns : (ds.map (·.born)).Nodup
  lt : ∀ d ∈ ds, d.born < clock
theorem Maps.filter {ds : List Dg} {clock : Nat} (h : Maps ds clock) (p : Dg → Bool) : Maps (ds.filter p) clock :=
  ⟨h.tags.sublist (List.filter_sublist.map _), h.borns.sublist (List.filter_sublist.map _), fun d hd => h.lt d (List.mem_filter.1 hd).1⟩

/-- The pieces of a receiver. -/
def rpcs (r m : Nat) (hold time : Int) (ds : List Dg) (clock : Nat) (H : List HP) : List HP := blk r (rcells hold time m) :: blk m (mobj (ds.map Dg.ent) clock) :: many (ds.map Dg.hp) :: H

theorem deleteFunc_spec (hold time : Int) (m r bx : Nat) (ds : List Dg) (clock : Nat) (hm : Maps ds clock) (hh : 0 ≤ hold ∧ hold ≤ 4096) (ht : 0 ≤ time ∧ time ≤ 109951162) {B : Nat} {w0 : World} {H : List HP} {w : World}
    (hw : St B w0 (rpcs r m hold time ds clock H) w) (h3 : blk bx (.cells #[.pointer (some ⟨r, 0, none⟩)] 40 (0, 0)) ∈ H) :
    Calls Try.prog 44 [.map (some m), .func (.func 45) #[] #[.pointer (some ⟨bx, 0, none⟩)]].toArray w (Post B w0 fun v K => v = .tuple #[] ∧ K = rpcs r m hold time (ds.filter fun d => !old hold time d) clock H) := by
  refine Calls_of_VC Try.func44 Try.ntmps44 rfl rfl hw ?_
  unfold rpcs
  repeat' (first | (apply VL_range (kt := 3) (et := 81); exact rfl; (focus repeat (first | with_reducible exact List.mem_cons_self | with_reducible apply List.mem_cons_of_mem | assumption)); kernel_rfl; exact rfl; intro _) | (apply VL_move; exact rfl; exact rfl) | apply VL_nil | apply VQ_then | apply VC_seq | apply VC_region | apply VC_block)
  rename_i it
  refine VC_loop2 (fun (cur : List Dg) (seen : Array Nat) => [(7, .pointer (some ⟨it, 0, none⟩)), (0, .map (some m)), (1, .func (.func 45) #[] #[.pointer (some ⟨bx, 0, none⟩)])])
    (fun cur seen => blk it (.mapIter (some m) clock seen clock) :: rpcs r m hold time cur clock H)
    (fun cur seen => cur = left hold time ds seen) (fun _ seen => (ds.filter fun d => !seen.contains d.born).length) ds #[] (by unfold left; rw [List.filter_eq_self.2]; simp) ?_ (fun w hw => hw) ?_
  · (repeat (first | exact sub_nil _ | (apply sub_cons; first | exact rfl | exact congrArg (fun z : Int => some (Value.int .i64 z)) (by omega))))
  intro cur seen hcur K hK
  have hmc : Maps cur clock := by rw [hcur]; exact hm.filter _
  have hsub : ∀ d ∈ cur, d ∈ ds := fun d hd => by rw [hcur] at hd; exact (List.mem_filter.1 hd).1
  have hold' : ∀ e ∈ cur.map Dg.ent, e.2.2 < clock := by
    intro e he
    obtain ⟨d, hd, rfl⟩ := List.mem_map.1 he
    exact hmc.lt d hd
  have hnd : ((cur.map Dg.ent).map (·.2.2)).Nodup := by rw [List.map_map]; exact hmc.borns
  unfold rpcs
  repeat' (first | apply VC_seq | apply VC_block | apply VC_region)
  apply VL_next (g := m)
  · exact rfl
  · (focus repeat (first | with_reducible exact List.mem_cons_self | with_reducible apply List.mem_cons_of_mem | assumption))
  · exact rfl
  · intro _; (repeat (first | with_reducible exact Upd.here _ | with_reducible apply Upd.there))
  · exact hold'
  · exact Nat.le_refl _
  · intro hall
    repeat' (first | (apply VL_extract; exact rfl; exact rfl; exact rfl) | apply VL_nil | apply VQ_then | apply VC_seq | (apply VC_cond_false; exact rfl) | apply VC_exit | apply VQ_then_exit | apply VQ_block_exit)
    apply VQ_tail
    apply VQ_end0; exact rfl
    refine ⟨rfl, ?_⟩
    have hfin : ds.filter (fun d => !old hold time d) = cur := by
      rw [hcur]
      unfold left
      apply List.filter_congr
      intro d hd
      cases ho : old hold time d with
      | false => simp
      | true =>
        cases hs : seen.contains d.born with
        | true => rfl
        | false =>
          have hmem : d ∈ cur := by rw [hcur]; unfold left; rw [List.mem_filter]; exact ⟨hd, by rw [hs]; rfl⟩
          have := hall d.ent (List.mem_map.2 ⟨d, hmem, rfl⟩)
          rw [show d.ent.2.2 = d.born from rfl, hs] at this
          cases this
    rw [hfin]
  · intro e he hs
    obtain ⟨d, hd, rfl⟩ := List.mem_map.1 he
    repeat' (first | (apply VL_entry (g := m); exact rfl; (focus repeat (first | with_reducible exact List.mem_cons_self | with_reducible apply List.mem_cons_of_mem | assumption)); (focus repeat (first | with_reducible exact List.mem_cons_self | with_reducible apply List.mem_cons_of_mem | assumption)); exact rfl; exact he; exact hnd) | (apply VL_move; exact rfl; exact rfl) | (apply VL_assign; exact rfl; exact rfl) | (apply VL_extract; exact rfl; exact rfl; exact rfl) | apply VL_nil | apply VQ_then | apply VC_seq | apply VC_region | (apply VC_cond_true; exact rfl) | apply VC_block | apply VC_skip)
    obtain ⟨l1, l2, rfl⟩ := List.append_of_mem hd
    have hmeas : (ds.filter fun x => !(seen.push d.born).contains x.born).length < (ds.filter fun x => !seen.contains x.born).length := by
      have e1 : (ds.filter fun x => !(seen.push d.born).contains x.born) = (ds.filter fun x => !seen.contains x.born).filter fun x => !(x.born == d.born) := by
        rw [List.filter_filter]; congr 1; funext x; simp only [Array.contains_push]; cases seen.contains x.born <;> cases x.born == d.born <;> rfl
      rw [e1]
      have hmem : d ∈ ds.filter fun x => !seen.contains x.born := List.mem_filter.2 ⟨hsub d hd, by rw [show seen.contains d.born = false from hs]; rfl⟩
      exact List.length_filter_lt_length_iff_exists.2 ⟨d, hmem, by simp⟩
    rw [List.map_append, List.map_cons]
    rw [List.map_append, List.map_cons]
    apply VL_st (d.hp :: many (l1.map Dg.hp ++ l2.map Dg.hp) :: blk it (.mapIter (some m) clock (seen.push d.born) clock) :: blk r (rcells hold time m) :: blk m (mobj (l1.map Dg.ent ++ (d.tag, .pointer (some ⟨d.g, 0, none⟩), d.born) :: l2.map Dg.ent) clock) :: H)
    · intro w hw
      exact (hw.front 3).perm (.pull _ _ _ _)
    apply VL_callv (fun v K => v = .bool (old hold time d) ∧ K = d.hp :: many (l1.map Dg.hp ++ l2.map Dg.hp) :: blk it (.mapIter (some m) clock (seen.push d.born) clock) :: blk r (rcells hold time m) :: blk m (mobj (l1.map Dg.ent ++ (d.tag, .pointer (some ⟨d.g, 0, none⟩), d.born) :: l2.map Dg.ent) clock) :: H) (cs := [.pointer (some ⟨bx, 0, none⟩)])
    · exact rfl
    · exact en45
    · (repeat (first | exact args_nil | (apply args_cons; exact rfl)))
    · exact rfl
    · exact fun w hw => old_spec hold time m r bx d d.tag hh ht hw (by simp) (by simp) (by simp [h3])
    rintro _ _ ⟨rfl, rfl⟩
    cases ho : old hold time d with
    | true =>
      have hne : ∀ e ∈ l1.map Dg.ent, e.1 ≠ d.tag := by
        intro e he e'
        obtain ⟨x, hx, rfl⟩ := List.mem_map.1 he
        have ht := hmc.tags
        rw [List.map_append, List.map_cons, List.nodup_append] at ht
        exact ht.2.2 _ (List.mem_map.2 ⟨x, hx, rfl⟩) _ (by simp) e'
      repeat' (first | (apply VL_delete (et := 81) (k := d.tag) (v0 := .pointer (some ⟨d.g, 0, none⟩)) (b := d.born) (l1 := l1.map Dg.ent) (l2 := l2.map Dg.ent); exact rfl; exact rfl; kernel_rfl; (repeat (first | with_reducible exact Upd.here _ | with_reducible apply Upd.there)); exact hne) | (apply VL_move; exact rfl; exact rfl) | apply VL_nil | apply VQ_then | apply VC_region | (apply VC_cond_true; exact rfl) | apply VQ_block_normal)
      apply hK (l1 ++ l2) (seen.push d.born)
      · rw [left_push hcur, filter_one hmc.borns ho]
      · exact hmeas
      · (repeat (first | exact sub_nil _ | (apply sub_cons; first | exact rfl | exact congrArg (fun z : Int => some (Value.int .i64 z)) (by omega))))
      · intro w hw
        unfold rpcs
        rw [List.map_append, List.map_append]
        exact hw.tail.perm (.trans (.swap _ _ _) (.cons _ (.trans (.swap _ _ _) (.cons _ (.swap _ _ _)))))
    | false =>
      repeat' (first | apply VL_nil | apply VQ_then | (apply VC_cond_false; exact rfl) | apply VC_skip | apply VQ_block_normal)
      apply hK (l1 ++ d :: l2) (seen.push d.born)
      · rw [left_push hcur, filter_none hmc.borns hd ho]
      · exact hmeas
      · (repeat (first | exact sub_nil _ | (apply sub_cons; first | exact rfl | exact congrArg (fun z : Int => some (Value.int .i64 z)) (by omega))))
      · intro w hw
        unfold rpcs
        rw [List.map_append, List.map_append, List.map_cons, List.map_cons]
        have h5 := hw.perm (.push _ _ _ _)
        exact h5.perm (.trans (.swap _ _ _) (.cons _ (.trans (.swap _ _ _) (.cons _ (.swap _ _ _)))))
end Go.Proofs.Ytfobgjhjigkigaa
