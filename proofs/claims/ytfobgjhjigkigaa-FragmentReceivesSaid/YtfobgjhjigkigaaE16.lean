/- An engine for walks, part 16: regions that draw their order, whose last operations (also such that only read) come in a forced order. -/
import Derived.Test.YtfobgjhjigkigaaE15
namespace Go.Eng
open Go.RowKit
section
variable {P : Program} {n B : Nat} {w0 : World} {ops : Array Oper} {Q : Exit → Act → World → Prop} {rest : List Oper} {env : Env} {H : List HP}

def orderT (ops : Array Oper) : List Nat → Array Bool → Bool
  | [], listed => (Region.ready .any ops listed).isEmpty
  | i :: rest, listed => decide (Region.ready .any ops listed = [i]) && orderT ops rest (listed.setIfInBounds i true)
def orderH (ops : Array Oper) (last : List Nat) : List Nat → Array Bool → Bool
  | [], listed => orderT ops last listed
  | i :: rest, listed =>
    (match ops[i]? with
      | some o => if eff o then decide (Region.ready .any ops listed = [i]) else (Region.ready .any ops listed).contains i && Region.free .any ops listed i
      | none => false) && orderH ops last rest (listed.setIfInBounds i true)
def lastH (ops : Array Oper) (last : List Nat) : Bool :=
  last.all fun j => decide (j < ops.size) && (List.range ops.size).all fun i => last.contains i || (match ops[i]? with | some o => eff o | none => false) || ancB ops ops.size j i

theorem lastH_spec {last : List Nat} (h : lastH ops last = true) : (∀ j, last.contains j = true → ∃ o, ops[j]? = some o) ∧ ∀ i oi, ops[i]? = some oi → eff oi = false → last.contains i = false → ∀ j, last.contains j = true → ∃ f, ancB ops f j i = true := by
  refine ⟨fun j hj => ?_, fun i oi hi he hil j hj => ?_⟩
  · have h1 := List.all_eq_true.1 h j (by simpa using hj)
    simp only [Bool.and_eq_true, decide_eq_true_eq] at h1
    exact ⟨_, Array.getElem?_eq_getElem h1.1⟩
  · have h1 := List.all_eq_true.1 h j (by simpa using hj)
    simp only [Bool.and_eq_true] at h1
    have hlt : i < ops.size := (Array.getElem?_eq_some_iff.1 hi).1
    have h2 := List.all_eq_true.1 h1.2 i (List.mem_range.2 hlt)
    rw [hi, hil] at h2
    simp only [he, Bool.false_or] at h2
    exact ⟨_, h2⟩

theorem tail_soundH {S : World → Prop} {last : List Nat} (l : List Oper) (hl : ops = l.toArray) (hef : ∀ j, last.contains j = true → ∃ o, ops[j]? = some o) (hlo : ¬ LetsOut Q) :
    ∀ (o2 : List Nat) (listed : Array Bool) (a : Act) (w : World), (∀ j ∈ o2, last.contains j = true) → orderT ops o2 listed = true → wpList P ops Q (pickOps l o2) a w → wpAnyN P ops Q S last o2.length listed a w
  | [], listed, a, w, _, hB, h => ⟨by simpa [orderT] using hB, h⟩
  | i :: rest, listed, a, w, hin, hB, h => by
    simp only [orderT, Bool.and_eq_true, decide_eq_true_eq] at hB
    obtain ⟨h1, h2⟩ := hB
    obtain ⟨o, ho⟩ := hef i (hin i (by simp))
    have hget : nthO l i = o := nthO_get hl ho
    simp only [pickOps, hget] at h
    unfold wpList at h
    refine ⟨fun h0 => (by rw [h1] at h0; cases h0), fun k hk => ?_⟩
    rw [h1] at hk
    obtain rfl : k = i := by simpa using hk
    unfold wpOp
    simp only [ho]
    have hc : last.contains k = true := hin k (by simp)
    by_cases hw : Region.wanted o (yielded ops a.tmps) = true
    · rw [if_pos hw] at h ⊢
      rcases h with h | ⟨_, h⟩
      · exact .inl (Oper.wp_mono (fun a' w' h' => ⟨fun hf => (by rw [hc] at hf; cases hf), tail_soundH l hl hef hlo rest _ a' w' (fun j hj => hin j (by simp [hj])) h2 h'⟩) h)
      · exact (hlo h).elim
    · rw [if_neg hw] at h ⊢
      exact ⟨fun hf => (by rw [hc] at hf; cases hf), tail_soundH l hl hef hlo rest _ _ w (fun j hj => hin j (by simp [hj])) h2 h⟩

theorem held_soundH {S : World → Prop} {last : List Nat} (hs : Region.noSelect ops = true) (hQ : ∀ c (a : Act) (w : World), ¬ Q (.panic c) a w) (hlo : ¬ LetsOut Q) (l : List Oper) (hl : ops = l.toArray) (hlast : lastH ops last = true) :
    ∀ (o1 : List Nat) (listed : Array Bool) (a : Act) (w : World), Closed ops listed → (∀ j ∈ o1, last.contains j = false) → orderH ops last o1 listed = true → S w → wpHeld P ops (TailQ P ops Q (pickOps l last)) S (pickOps l o1) a w →
      wpAnyN P ops Q S last (o1 ++ last).length listed a w
  | [], listed, a, w, _, _, hB, _, h => tail_soundH l hl (lastH_spec hlast).1 hlo last listed a w (fun j hj => by simpa using hj) hB h
  | i :: rest, listed, a, w, hcl, hno, hB, hS, h => by
    simp only [orderH, Bool.and_eq_true] at hB
    obtain ⟨h1, h2⟩ := hB
    have hno' : ∀ j ∈ rest, last.contains j = false := fun j hj => hno j (by simp [hj])
    cases ho : ops[i]? with
    | none => rw [ho] at h1; cases h1
    | some o =>
      rw [ho] at h1
      have hget : nthO l i = o := nthO_get hl ho
      simp only [pickOps, hget] at h
      by_cases he : eff o = true
      · simp only [he, if_true, decide_eq_true_eq] at h1
        unfold wpHeld at h
        rw [if_pos he] at h
        refine ⟨fun h0 => (by rw [h1] at h0; cases h0), fun k hk => ?_⟩
        have hk' := hk
        rw [h1] at hk
        obtain rfl : k = i := by simpa using hk
        unfold wpOp
        simp only [ho]
        by_cases hw : Region.wanted o (yielded ops a.tmps) = true
        · rw [if_pos hw] at h ⊢
          refine .inl (Oper.wp_mono_noQ' (fun c a w h => by cases h) (Oper.wp_mono (fun a' w' h' => ⟨fun _ => h'.1, held_soundH hs hQ hlo l hl hlast rest _ a' w' (hcl.set hk') hno' h2 h'.1 h'.2⟩) h))
        · rw [if_neg hw] at h ⊢
          exact ⟨fun _ => hS, held_soundH hs hQ hlo l hl hlast rest _ _ w (hcl.set hk') hno' h2 hS h⟩
      · simp only [he] at h1
        simp only [Bool.false_eq_true, if_false, Bool.and_eq_true] at h1
        unfold wpHeld at h
        rw [if_neg he] at h
        obtain ⟨v, hy, h3⟩ := h
        have hr : i ∈ Region.ready .any ops listed := by simpa using h1.1
        exact wpAnyN_first ho (Region.noSelect_spec hs) hQ ((lastH_spec hlast).2 i o ho (by simpa using he) (hno i (by simp))) (hno i (by simp)) _ listed a w hcl (Region.free_spec ho h1.2) hr hy hS (held_soundH hs hQ hlo l hl hlast rest _ _ w (hcl.set hr) hno' h2 hS h3)

/-- As VC_held, but the last operations may be any that come in a forced order, behind all those that only read. -/
theorem VC_heldH {id : Nat} {l : List Oper} (o1 last : List Nat) (mask : List Bool) {Hc F : List HP} (hm : P.follows .mixedOrders = true)
    (hB : (Region.noSelect l.toArray && decide ((o1 ++ last).length = l.toArray.size) && lastH l.toArray last && (o1.all fun j => !last.contains j) && orderH l.toArray last o1 (Array.replicate l.toArray.size false)) = true)
    (hsp : Split mask H Hc F) {l1 l2 : List Oper} (hl1 : pickOps l o1 = l1) (hl2 : pickOps l last = l2) (h : VL P (some (some F)) n B w0 l.toArray (TailQ P l.toArray (Only Q) l2) l1 env Hc) : VC P n B w0 (.region id l.toArray true) Q env H := by
  simp only [Bool.and_eq_true, decide_eq_true_eq] at hB
  obtain ⟨⟨⟨⟨h1, h2⟩, h3⟩, h4⟩, h5⟩ := hB
  refine ⟨fun a w ha hw => wp_mono (Q := Only Q) ?_ fun e a w h => by cases e <;> first | exact h | cases h⟩
  have hst : St B w0 (Hc ++ F) w.drew := (hw.perm (split_perm hsp)).drew
  have hr : wpHeld P l.toArray (TailQ P l.toArray (Only Q) l2) (St B w0 Hc) l1 a w.drew := h.run a ha w.drew hst
  rw [← hl1, ← hl2] at hr
  have := held_soundH (S := St B w0 Hc) h1 (fun c a w h => h) (by rintro ⟨_, _, h⟩; exact h) l rfl h3 o1 _ a w.drew (closed_none _ _) (fun j hj => by simpa using List.all_eq_true.1 h4 j hj) h5 hst.prefix_ hr
  rw [h2] at this
  exact wp_region_any hm (wpAny_of_N _ _ _ _ this)
end
end Go.Eng
