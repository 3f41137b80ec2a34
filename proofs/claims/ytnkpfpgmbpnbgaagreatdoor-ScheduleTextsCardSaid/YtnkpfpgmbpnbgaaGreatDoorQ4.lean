/- The law ScheduleTexts returns true at every input, and its arguments read behind the call as they read before: the statement Rows.ScheduleTextsCardSaid. Condition: the listed package-level variables start as the program's text lays them, to which the card ties them. -/
import Derived.Test.YtnkpfpgmbpnbgaaGreatDoorRows
import Derived.Lib.LaidU8
import Derived.LaidMore
import Derived.Deep.DeepLaidRun
import Derived.Stop.Joined
import Derived.Deep.Slices
import Derived.Lib.SmallJoins
import Derived.OpenShut
import Derived.Test.YtnkpfpgmbpnbgaaGreatDoorCards
import Derived.Test.YtnkpfpgmbpnbgaaGreatDoorTie
import Derived.SevenTiedAt
import Derived.Test.YtnkpfpgmbpnbgaaGreatDoorQ3

/- From a walk to a tied card: what the listed variables hold; a world that meets the condition. -/
namespace Go.Proofs.YtnkpfpgmbpnbgaaGreatDoor
open Go.ChangeShapes Go.WideShapes Go.ChangeAt Go.RowKit Go.Eng

section
variable {H : Type} {enc : TypeId × Value → H}
/-- The wrap of a row that lists variables, the world's shape kept. -/
theorem handed_and_shaped {a : Assume} {C : Checked} {os : Os} {f : FuncId} {fn : Func} {s : ChangeSpec} {conds : List PathCond} {apart fresh handsOn again : Bool} {X : World → Prop} (hX : ∀ w w' : World, w.heap = w'.heap → X w → X w')
    (own : ownKnob C.prog.godebug = none) (started : os.Started) (noInit : C.prog.inits.idxOf? f = none) (hfn : C.prog.funcs[f]? = some fn)
    (witness : ∃ (w : World) (tape : Tape) (i : Input), w.os = os ∧ (w.forCall tape i).Shaped C.prog ∧ i.vars = [] ∧ Input.okWide C.prog (w.forCall tape i) .any w.heap.size f i ∧
      ((s.pre enc C.prog fn conds apart (w.forCall tape i).memory i.args ∧ X (w.forCall tape i).memory) ∧ sizedMet enc C.prog fn (OpenSpec.ofChange s) apart (w.forCall tape i).memory i.args) ∧ a.holds C.prog (lone (Frame.enter C.prog f i.args .normal) [] (w.forCall tape i)))
    (contract : ∀ (W : World) (base : Nat) (args : Array Value) (ds gs : List (DataW H)) (before : List MemPlace),
      (∀ (j : Nat) t v, fn.params[j]? = some t → args[j]? = some v → Value.okWide C.prog W .any base t v) →
      DataW.Whole enc C.prog fn.params.toList s.vars apart W args.toList ds gs before → X W → W.ShapedOpen C.prog →
      Calls C.prog f args W fun e W' => ∃ v, e = .returned v ∧ s.post enc C.prog fn apart fresh handsOn again W args v W') :
    ReturnsInHanded a C os f .any (fun w args => (s.pre enc C.prog fn conds apart w args ∧ X w) ∧ sizedMet enc C.prog fn (OpenSpec.ofChange s) apart w args) (s.post enc C.prog fn apart fresh handsOn again) := by
  refine returnsInHanded_of_calls own started noInit witness ?_
  intro w tape i _ hsh _ hok hpre _
  obtain ⟨_, _, _, fn', hfn', _, _, _, _, hval⟩ := hok
  have e : fn' = fn := Option.some.inj (hfn'.symm.trans hfn)
  subst e
  obtain ⟨⟨⟨ds, gs, before, hw, _⟩, hx⟩, _⟩ := hpre
  have hw' := DataW.Whole.of_heap (w' := w.forCall tape i) (by rfl) hw
  refine (contract (w.forCall tape i) w.heap.size i.args ds gs before hval hw' (hX _ _ (by rfl) hx) hsh).mono fun e W' ⟨v, he, hp⟩ => ?_
  subst he
  exact ChangeSpec.post_blind hp
end

/-- The variables that each row of this layer lists. -/
def laidL : List (String × DataW Unit) := [("math/bits.deBruijn32tab", Rows.laid_math_bits_deBruijn32tab), ("math/bits.deBruijn64tab", Rows.laid_math_bits_deBruijn64tab), ("internal/strconv.uint64pow10", Rows.laid_internal_strconv_uint64pow10), ("unicode/utf8.acceptRanges", Rows.laid_unicode_utf8_acceptRanges), ("strconv.ErrRange", Rows.laid_strconv_ErrRange), ("strconv.ErrSyntax", Rows.laid_strconv_ErrSyntax), ("unicode/utf8.first", Rows.laid_unicode_utf8_first)]
def litV : DataW Unit → Value
  | .lit (.int k z) => .int k z
  | _ => .bool false
def litsV : DataW Unit → List Value
  | .agg l => l.map litV
  | _ => []
/-- The world that the door leaves, utf8's table laid. -/
noncomputable def laidWorld (os : Os) : World :=
  let w0 := World.doorLaid Tryz.prog 72 os
  { w0 with heap := w0.heap.modify ((Tryz.prog.globalNamed "unicode/utf8.first").getD 0) fun
      | .cells _ t frozen => .cells (litsV Go.Pinned.utf8First).toArray t frozen
      | o => o }
theorem laidL_plain (w : World) : laidMetH Tryz.prog laidL w = laidMet Tryz.prog laidL w := MakeChecks.laidMetH_plain _ _ _ (by kernel_rfl)
theorem laidWorld_met (os : Os) (args : Array Value) : laidMetH Tryz.prog laidL ((laidWorld os).forCall (fun _ _ => 0) ⟨#[], args, []⟩).memory := by
  rw [laidL_plain]
  exact laidMet_of_run3 8 (by kernel_rfl) (by kernel_rfl) (by kernel_rfl)
theorem laidWorld_shaped (os : Os) (args : Array Value) : ((laidWorld os).forCall (fun _ _ => 0) ⟨#[], args, []⟩).Shaped Tryz.prog := World.shaped_of_RefB (by kernel_rfl) (by kernel_rfl)

theorem var_below {W w : World} {n : String} {cs : Array Value} (h : W.var? Tryz.prog n = some cs) (hb : Below W.heap.size W w) : w.var? Tryz.prog n = some cs := by
  unfold World.var? at h ⊢
  cases hg : Tryz.prog.globalNamed n with
  | none => rw [hg] at h; cases h
  | some g =>
    rw [hg] at h
    simp only [Option.bind_some] at h ⊢
    rcases Nat.lt_or_ge g W.heap.size with hlt | hge
    · rw [hb.block g hlt]; exact h
    · rw [Array.getElem?_eq_none hge] at h; cases h
theorem err_cell {W : World} {n : String} {s : String} {d : DataW Unit} (hT : (Tryz.prog.globalNamed n).bind (fun g => (Tryz.prog.globals[g]?).map (·.type)) = some 85) (h : Lib.VarReads Tryz.prog W n (.iface s d)) : ∃ tp p, W.var? Tryz.prog n = some #[.iface tp p] := by
  obtain ⟨g, t, cs, fuel, p, h1, h2, h3, h4⟩ := h
  rw [h1] at hT
  obtain rfl : t = 85 := Option.some.inj (h2.symm.trans hT)
  obtain ⟨_, u, v, e, _⟩ := iface_of_trod Tryz.underlying85 h4
  refine ⟨u, v, ?_⟩
  rw [h3, Array.eq_one_of_toList e]
theorem tabs_of {W : World} (hL : laidMetH Tryz.prog laidL W) (hsh : W.ShapedOpen Tryz.prog) : TabsB W.heap.size W := by
  rw [laidL_plain] at hL
  have hpow : Lib.TabIs Tryz.prog W "internal/strconv.uint64pow10" .u64 Lib.pow10Tab := by
    obtain ⟨g, t, cs, fuel, p, h1, h2, h3, h4⟩ := Lib.laidMet.reads hL (n := "internal/strconv.uint64pow10") (d := Rows.laid_internal_strconv_uint64pow10) (by unfold laidL; simp)
    have hT : (Tryz.prog.globalNamed "internal/strconv.uint64pow10").bind (fun g => (Tryz.prog.globals[g]?).map (·.type)) = some 175 := by kernel_rfl
    rw [h1] at hT
    obtain rfl : t = 175 := Option.some.inj (h2.symm.trans hT)
    have h5 : Rows.laid_internal_strconv_uint64pow10 (H := Unit) = Lib.tabData .u64 Lib.pow10Tab := by kernel_rfl
    rw [h5] at h4
    have h6 := Lib.cells_of_tab Tryz.underlying175 Tryz.underlying162 (by kernel_rfl) (by kernel_rfl) h4
    unfold Lib.TabIs
    rw [h3, ← h6]
  obtain ⟨tp1, p1, hsy⟩ := err_cell (n := "strconv.ErrSyntax") (by kernel_rfl) (Lib.laidMet.reads hL (n := "strconv.ErrSyntax") (d := Rows.laid_strconv_ErrSyntax) (by unfold laidL; simp))
  obtain ⟨tp2, p2, hrg⟩ := err_cell (n := "strconv.ErrRange") (by kernel_rfl) (Lib.laidMet.reads hL (n := "strconv.ErrRange") (d := Rows.laid_strconv_ErrRange) (by unfold laidL; simp))
  obtain ⟨m, hm⟩ := Go.Proofs.cell_of_shapedOpen_int (P := Tryz.prog) (g := 0) (k := .i64) (zero := #[.int .i64 0]) (t := 3) hsh (of_decide_eq_true (by kernel_rfl)) (by kernel_rfl) rfl (by kernel_rfl) (by kernel_rfl) Tryz.underlying3
  intro w hb
  refine ⟨var_below hpow hb, ⟨tp1, p1, var_below hsy hb⟩, ⟨tp2, p2, var_below hrg hb⟩, m, ?_⟩
  have hlt : 0 < W.heap.size := by
    rcases Nat.eq_zero_or_pos W.heap.size with h | h
    · simp [World.cell?, Array.getElem?_eq_none (show W.heap.size ≤ 0 by omega)] at hm
    · exact h
  exact (hb.cell (p := ⟨0, 0, none⟩) hlt).trans hm
theorem Tryz.own : ownKnob Tryz.prog.godebug = none := by kernel_rfl
theorem Tryz.laidOut : laidOutB Tryz.prog = true := by kernel_rfl
end Go.Proofs.YtnkpfpgmbpnbgaaGreatDoor

/- From arguments that came in to rows that are only read. -/
namespace Go.Eng
open Go.ChangeShapes Go.WideShapes Go.ChangeAt Go.RowKit Go.Deep

/-- In this world the cells xs lie from A on. -/
def Old (W : World) (A : Option Addr) (xs : List Value) : Prop := ∀ j v, xs[j]? = some v → ∃ g o, A = some ⟨g, o, none⟩ ∧ g < W.heap.size ∧ W.cell? ⟨g, o + j, none⟩ = some v
theorem Old.rd {W : World} {H : List HP} {A : Option Addr} {xs : List Value} (h : Old W A xs) : Rd W.heap.size W H A xs := Rd.old h

theorem cell_lt {W : World} {a : Addr} {v : Value} (h : W.cell? a = some v) : a.block < W.heap.size := by
  unfold World.cell? at h
  rcases Nat.lt_or_ge a.block W.heap.size with h1 | h1
  · exact h1
  · rw [Array.getElem?_eq_none h1] at h; cases h

section
variable {H : Type} {enc : TypeId × Value → H} {P : Program} {W : World} {held : Bool}

/-- A slice that came in: its elements, and where they lie; f: an element's cells; good: what is known of an element. -/
theorem open_rows {α : Type} {f : α → List Value} {good : α → Prop} {t e q : Nat} {fuel : Nat} {A : Option Addr} {len cap : Nat} {x : DataW H × List MemPlace} {spare : Nat → Bool} (ht : P.underlying t = some (.slice e)) (hc : P.cellsOf e = q) (h0 : 0 < q)
    (hel : ∀ n cs y, cs.length = q → DataW.trod enc P W 0 spare held n e cs = some y → ∃ a, cs = f a ∧ good a) (h : DataW.trod enc P W 0 spare held fuel t [.slice A len cap] = some x) :
    ∃ l : List α, l.length = len ∧ Old W A (l.flatMap f) ∧ (∀ a ∈ l, good a) ∧ len ≤ maxLen ∧ (∀ a ∈ l, (f a).length = q) := by
  rcases open_slice ht h with ⟨h1, _⟩ | ⟨a, len', cap', m, n, D, Pl, h1, _, hl, hm, hmm, hxx, hx⟩
  · injection h1 with h1 _
    injection h1 with h1 h2 h3
    subst h1 h2 h3
    exact ⟨[], rfl, (fun j v hv => by simp at hv), (fun a ha => by cases ha), Nat.zero_le _, (fun a ha => by cases ha)⟩
  · injection h1 with h1 _
    injection h1 with h1 h2 h3
    subst h1 h2 h3
    have hle : len ≤ m := by rw [hmm]; split <;> omega
    rw [hc] at hx
    have key : ∀ i, i < len → ∃ b : α, W.cells? 0 (a.add (i * q)) q = some (f b) ∧ good b := fun i hi => by
      obtain ⟨cs', h2, h3⟩ := hx i (by omega)
      obtain ⟨_, h5, _⟩ := World.cells?_some h2
      obtain ⟨b, rfl, hb⟩ := hel n cs' _ h5 h3
      exact ⟨b, h2, hb⟩
    obtain ⟨l, hlen, hl2⟩ : ∃ l : List α, l.length = len ∧ ∀ i b, l[i]? = some b → W.cells? 0 (a.add (i * q)) q = some (f b) ∧ good b := by
      clear hx hmm hle h hl hm hxx
      induction len with
      | zero => exact ⟨[], rfl, fun i b hb => by simp at hb⟩
      | succ k ih =>
        obtain ⟨l, h2, h3⟩ := ih (fun i hi => key i (by omega))
        obtain ⟨b, h4⟩ := key k (by omega)
        refine ⟨l ++ [b], by simp [h2], fun i c hc => ?_⟩
        by_cases hi : i < l.length
        · rw [List.getElem?_append_left hi] at hc; exact h3 i c hc
        · rw [List.getElem?_append_right (by omega)] at hc
          have hi2 : i - l.length = 0 := by
            have := (List.getElem?_eq_some_iff.1 hc).1
            simp at this; omega
          rw [hi2] at hc
          obtain rfl : b = c := by simpa using hc
          obtain rfl : i = k := by omega
          exact h4
    have hfq : ∀ b ∈ l, (f b).length = q := fun b hb => by
      obtain ⟨i, hi⟩ := List.getElem?_of_mem hb
      exact (World.cells?_some (hl2 i b hi).1).2.1
    refine ⟨l, hlen, fun j v hv => ?_, fun b hb => ?_, by omega, hfq⟩
    · have hspl : ∃ i b, l[i]? = some b ∧ ∃ r, j = i * q + r ∧ r < q ∧ (f b)[r]? = some v := by
        clear hlen hl2 key
        induction l generalizing j with
        | nil => simp at hv
        | cons b l ih =>
          rw [List.flatMap_cons] at hv
          have hb := hfq b (by simp)
          by_cases hj : j < q
          · rw [List.getElem?_append_left (by omega)] at hv
            exact ⟨0, b, rfl, j, by omega, hj, hv⟩
          · rw [List.getElem?_append_right (by omega), hb] at hv
            obtain ⟨i, b', h5, r, h6, h7, h8⟩ := ih (fun c hc => hfq c (by simp [hc])) (j - q) hv
            exact ⟨i + 1, b', by simpa using h5, r, by rw [Nat.add_mul]; omega, h7, h8⟩
      obtain ⟨i, b, h5, r, rfl, h7, h8⟩ := hspl
      have h9 := (World.cells?_some (hl2 i b h5).1).2.2 r h7
      rw [h8, add_add] at h9
      obtain ⟨ab, ao, spot⟩ := a
      have hs0 : spot = none := by
        have h10 := World.cell?_spot h9
        unfold Addr.add at h10
        split at h10
        · exact h10
        · rename_i hne
          have hi0 : i < len := by have := (List.getElem?_eq_some_iff.1 h5).1; omega
          have h11 := (World.cells?_some (hl2 0 l[0] (List.getElem?_eq_getElem (by omega))).1).2.2 0 h0
          rw [add_add, Nat.zero_mul, Nat.zero_add] at h11
          have hf0 : ((f l[0])[0]?).isSome = true := by
            rw [List.getElem?_eq_getElem (by rw [hfq _ (List.getElem_mem _)]; exact h0)]; rfl
          cases hf1 : (f l[0])[0]? with
          | none => rw [hf1] at hf0; cases hf0
          | some u =>
            rw [hf1] at h11
            exact World.cell?_spot h11
      subst hs0
      refine ⟨ab, ao, rfl, ?_, ?_⟩
      · have := cell_lt h9
        rw [Addr.add_lit] at this
        exact this
      · rw [Addr.add_lit] at h9
        exact h9
    · obtain ⟨i, hi⟩ := List.getElem?_of_mem hb
      exact (hl2 i b hi).2

end
end Go.Eng

/- From arguments that came in to what the walks speak of: openers, built up as types are. -/
namespace Go.Eng
open Go.ChangeShapes Go.WideShapes Go.ChangeAt Go.RowKit Go.Deep

/-- A slice: where it lies, its capacity, its elements. -/
structure SlM (α : Type) where
  A : Option Addr
  cap : Nat
  xs : List α
def SlM.val {α : Type} (s : SlM α) : Value := .slice s.A s.xs.length s.cap

section
variable {H : Type} {enc : TypeId × Value → H} {P : Program} {W : World} {spare : Nat → Bool} {held : Bool}

/-- Cells that are read as a value of type t are those of some a that is good. -/
def Opn (enc : TypeId × Value → H) (P : Program) (W : World) (spare : Nat → Bool) (held : Bool) (t : TypeId) {α : Type} (f : α → List Value) (good : α → Prop) : Prop :=
  ∀ fuel cs y, DataW.trod enc P W 0 spare held fuel t cs = some y → ∃ a, cs = f a ∧ good a

theorem op_map {t : TypeId} {α β : Type} {f : α → List Value} {good : α → Prop} {f' : β → List Value} {good' : β → Prop} (h : Opn enc P W spare held t f good) (g : α → β) (hf : ∀ a, f a = f' (g a)) (hg : ∀ a, good a → good' (g a)) : Opn enc P W spare held t f' good' := by
  intro fuel cs y hy
  obtain ⟨a, h1, h2⟩ := h fuel cs y hy
  exact ⟨g a, h1.trans (hf a), hg a h2⟩

theorem op_int {t : TypeId} {k : IntKind} (ht : P.underlying t = some (.int k)) : Opn enc P W spare held t (fun z : Int => [Value.int k z]) (fun z => (Lit.int k z).wf = true) := by
  intro fuel cs y hy
  obtain ⟨m, rfl, rfl, hw⟩ := DataW.trod_int ht hy
  exact ⟨m, rfl, hw⟩

/-- What is known of a slice that came in. -/
structure SlG {α : Type} (W : World) (f : α → List Value) (good : α → Prop) (s : SlM α) : Prop where
  old : Old W s.A (s.xs.flatMap f)
  good : ∀ a ∈ s.xs, good a
  len : s.xs.length ≤ maxLen
  cap : s.xs.length ≤ s.cap

theorem op_slice {t e q : TypeId} {α : Type} {f : α → List Value} {good : α → Prop} (ht : P.underlying t = some (.slice e)) (hc : P.cellsOf e = q) (h0 : 0 < q) (h : Opn enc P W spare held e f good) : Opn enc P W spare held t (fun s : SlM α => [s.val]) (SlG W f good) := by
  intro fuel cs y hy
  rcases open_slice ht hy with ⟨rfl, _⟩ | ⟨a, len, cap, m, n, D, Pl, rfl, _, hlc, _⟩
  · exact ⟨⟨none, 0, []⟩, rfl, ⟨(fun j v hv => by simp at hv), (fun a ha => by cases ha), Nat.zero_le _, Nat.zero_le _⟩⟩
  · obtain ⟨l, h1, h2, h3, h4, _⟩ := open_rows ht hc h0 (fun n cs y _ hy => h n cs y hy) hy
    subst h1
    exact ⟨⟨some a, cap, l⟩, rfl, h2, h3, h4, hlc⟩

/-- The same for the fields of a struct, one behind the other. -/
def FOpn (enc : TypeId × Value → H) (P : Program) (W : World) (spare : Nat → Bool) (held : Bool) (ts : List TypeId) {α : Type} (f : α → List Value) (good : α → Prop) : Prop :=
  ∀ (n : Nat) (cs : List Value), cs.length = (ts.map P.cellsOf).sum → (∀ i t, ts[i]? = some t → ∃ y, DataW.trod enc P W 0 spare held n t ((cs.drop ((ts.take i).map P.cellsOf).sum).take (P.cellsOf t)) = some y) → ∃ a, cs = f a ∧ good a

theorem fop_nil : FOpn enc P W spare held [] (fun _ : Unit => []) (fun _ => True) := fun n cs h _ => ⟨(), List.eq_nil_of_length_eq_zero (by simpa using h), trivial⟩
theorem fop_cons {t : TypeId} {ts : List TypeId} {α β : Type} {f : α → List Value} {good : α → Prop} {g : β → List Value} {good' : β → Prop} (h : Opn enc P W spare held t f good) (hs : FOpn enc P W spare held ts g good') :
    FOpn enc P W spare held (t :: ts) (fun x : α × β => f x.1 ++ g x.2) (fun x => good x.1 ∧ good' x.2) := by
  intro n cs hl hx
  simp only [List.map_cons, List.sum_cons] at hl
  obtain ⟨y, hy⟩ := hx 0 t rfl
  simp only [List.take_zero, List.map_nil, List.sum_nil, List.drop_zero] at hy
  obtain ⟨a, h1, h2⟩ := h n _ y hy
  obtain ⟨b, h3, h4⟩ := hs n (cs.drop (P.cellsOf t)) (by simp; omega) (fun i u hu => by
    obtain ⟨y, hy⟩ := hx (i + 1) u (by simpa using hu)
    refine ⟨y, ?_⟩
    rw [List.drop_drop]
    simpa using hy)
  exact ⟨(a, b), by show cs = f a ++ g b; rw [← h1, ← h3, List.take_append_drop], h2, h4⟩

def offs (P : Program) : List TypeId → Nat → List Nat
  | [], _ => []
  | t :: ts, o => o :: offs P ts (o + P.cellsOf t)
theorem offs_get (P : Program) : ∀ (ts : List TypeId) (o i : Nat), i < ts.length → (offs P ts o)[i]? = some (o + ((ts.take i).map P.cellsOf).sum)
  | [], _, _, h => by simp at h
  | t :: ts, o, 0, _ => by simp [offs]
  | t :: ts, o, i + 1, h => by
    rw [offs, List.getElem?_cons_succ, offs_get P ts _ i (by simpa using h)]
    simp [Nat.add_assoc]
/-- A struct whose fields have these types, one behind the other. -/
def structB (P : Program) (t : TypeId) (ts : List TypeId) : Bool :=
  match P.underlying t with
  | some (.struct fs) => (fs.toList.map (·.type) == ts) && (fs.toList.map (·.offset) == offs P ts 0) && (P.cellsOf t == (ts.map P.cellsOf).sum)
  | _ => false

theorem op_struct {t : TypeId} {ts : List TypeId} {α : Type} {f : α → List Value} {good : α → Prop} (hB : structB P t ts = true) (h : FOpn enc P W spare held ts f good) : Opn enc P W spare held t f good := by
  intro fuel cs y hy
  unfold structB at hB
  cases hu : P.underlying t with
  | none => rw [hu] at hB; cases hB
  | some d =>
    rw [hu] at hB
    cases d with
    | struct fs =>
      simp only [Bool.and_eq_true, beq_iff_eq] at hB
      obtain ⟨⟨h1, h2⟩, h3⟩ := hB
      obtain ⟨xs, n, _, _, hl, hn, hx⟩ := DataW.trod_struct hu hy
      refine h n cs (hl.trans h3) fun i u hi => ?_
      have hlt : i < ts.length := (List.getElem?_eq_some_iff.1 hi).1
      have hlf : i < fs.toList.length := by rw [← h1] at hlt; simpa using hlt
      have hf : fs[i]? = some (fs.toList[i]) := by rw [← Array.getElem?_toList, List.getElem?_eq_getElem hlf]
      have ht : (fs.toList[i]).type = u := by
        rw [← h1, List.getElem?_map, List.getElem?_eq_getElem hlf] at hi
        simpa using hi
      have ho : (fs.toList[i]).offset = ((ts.take i).map P.cellsOf).sum := by
        have h5 := offs_get P ts 0 i hlt
        rw [← h2, List.getElem?_map, List.getElem?_eq_getElem hlf] at h5
        simpa using h5
      have h6 := hx i _ hf
      rw [ht, ho] at h6
      have hlx : i < xs.length := by rw [hn]; simpa using hlf
      exact ⟨xs[i], by rw [h6, List.getElem?_eq_getElem hlx]⟩
    | _ => cases hB

end
end Go.Eng

/- A network that came in as an argument. -/
namespace Go.Proofs.YtnkpfpgmbpnbgaaGreatDoor
open Go.ChangeShapes Go.WideShapes Go.ChangeAt Go.RowKit Go.Eng Go.Nw

section
variable {H : Type} {enc : TypeId × Value → H} {W : World} {spare : Nat → Bool} {held : Bool}
abbrev I64 (z : Int) : Prop := (Lit.int .i64 z).wf = true
theorem op_i : Opn enc Tryz.prog W spare held 3 numF I64 := op_int Tryz.underlying3
structure NetG (W : World) (n : NetM) : Prop where
  nodes : I64 n.nodes
  pw : Old W n.pA (n.rows.flatMap rowF)
  rw_ : ∀ r ∈ n.rows, Old W r.A (r.xs.flatMap numF)
  noise : I64 n.noise
  thr : I64 n.thr
  lk : Old W n.lA (n.links.flatMap lkF)
  mg : Old W n.mA (n.margin.flatMap numF)
  s1 : n.rows.length ≤ 9223372036854775807
  s2 : ∀ r ∈ n.rows, r.xs.length ≤ 9223372036854775807
  s3 : n.links.length ≤ 9223372036854775807
  s4 : n.margin.length ≤ 9223372036854775807
  w1 : ∀ r ∈ n.rows, ∀ z ∈ r.xs, I64 z
  w2 : ∀ l ∈ n.links, I64 l.1 ∧ I64 l.2.1 ∧ I64 l.2.2
  w3 : ∀ z ∈ n.margin, I64 z
  c3 : n.links.length ≤ n.lcap
  c4 : n.margin.length ≤ n.mcap
theorem NetG.In {n : NetM} {K : List HP} (h : NetG W n) : n.In W.heap.size W K := ⟨h.pw.rd, fun r hr => (h.rw_ r hr).rd, h.lk.rd, h.mg.rd, h.s1, h.s2, h.s3, h.s4⟩

theorem maxL : maxLen ≤ 9223372036854775807 := by decide
end
end Go.Proofs.YtnkpfpgmbpnbgaaGreatDoor

/- From a row's argument to a schedule, a cell, a list of flows, a text. -/
namespace Go.Proofs.YtnkpfpgmbpnbgaaGreatDoor
open Go.ChangeShapes Go.WideShapes Go.ChangeAt Go.RowKit Go.Eng Go.Nw
open Go.ChangeMaps (open_string)

section
variable {H : Type} {enc : TypeId × Value → H} {W : World} {spare : Nat → Bool} {held : Bool}
abbrev CelG (c : Cel) : Prop := I64 c.1 ∧ I64 c.2.1 ∧ I64 c.2.2.1 ∧ I64 c.2.2.2.1 ∧ I64 c.2.2.2.2
theorem op_cell : Opn enc Tryz.prog W spare held 51 celF CelG :=
  op_map (op_struct (ts := [3, 3, 3, 3, 3]) (by kernel_rfl) (fop_cons op_i (fop_cons op_i (fop_cons op_i (fop_cons op_i (fop_cons op_i fop_nil)))))) (fun x => (x.1, x.2.1, x.2.2.1, x.2.2.2.1, x.2.2.2.2.1)) (fun _ => rfl) (fun _ h => ⟨h.1, h.2.1, h.2.2.1, h.2.2.2.1, h.2.2.2.2.1⟩)
theorem op_cells : Opn enc Tryz.prog W spare held 28 (fun s : SlM Cel => [s.val]) (SlG W celF CelG) := op_slice (q := 5) Tryz.underlying28 (by kernel_rfl) (by decide) op_cell
structure SchG (W : World) (s : SchM) : Prop where
  len : I64 s.len
  off : I64 s.off
  old : Old W s.A (s.cells.flatMap celF)
  few : s.cells.length ≤ 9223372036854775807
  good : ∀ c ∈ s.cells, CelG c
  cap : s.cells.length ≤ s.cap
def schF (s : SchM) : List Value := [.int .i64 s.len, .int .i64 s.off, .slice s.A s.cells.length s.cap]
theorem op_sch : Opn enc Tryz.prog W spare held 30 schF (SchG W) :=
  op_map (op_struct (ts := [3, 3, 28]) (by kernel_rfl) (fop_cons op_i (fop_cons op_i (fop_cons op_cells fop_nil))))
    (fun x => ⟨x.1, x.2.1, x.2.2.1.A, x.2.2.1.cap, x.2.2.1.xs⟩) (fun x => by simp [schF, numF, SlM.val])
    (fun x h => by
      obtain ⟨h1, h2, h3, _⟩ := h
      exact ⟨h1, h2, h3.old, Nat.le_trans h3.len maxL, h3.good, h3.cap⟩)
set_option maxRecDepth 100000 in
theorem open_sch {r : Reach} {b0 : Nat} {v : Value} {d : DataW H} {p : List MemPlace} (hv : Value.okWide Tryz.prog W r b0 30 v) (h : DataW.Trod enc Tryz.prog W 0 spare held 30 v d p) : ∃ s : SchM, v = s.val ∧ SchG W s := by
  obtain ⟨cs, rfl, _⟩ := okWide_struct Tryz.underlying30 hv
  obtain ⟨fuel, hf⟩ := h
  obtain ⟨n, h1, h2⟩ := op_sch fuel _ _ hf
  refine ⟨n, ?_, h2⟩
  have : cs = (schF n).toArray := by rw [← h1]; simp [Value.cells]
  rw [this]; rfl
theorem str_list (s : ByteArray) : ∃ l : List UInt8, s = ⟨l.toArray⟩ := ⟨s.data.toList, by cases s; simp⟩
end
end Go.Proofs.YtnkpfpgmbpnbgaaGreatDoor

/- The law ScheduleTexts returns true at every input, and its arguments read behind the call as they read before: the statement Rows.ScheduleTextsCardSaid. Condition: the listed package-level variables start as the program's text lays them, to which the card ties them. -/
namespace Go.Proofs.YtnkpfpgmbpnbgaaGreatDoor
open Go.ChangeShapes Go.WideShapes Go.ChangeAt Go.RowKit Go.Eng
open Go.ChangeMaps (open_string)

set_option maxRecDepth 100000 in
theorem stexts_lifted (os : Os) (started : os.Started) (H : Type) (enc : TypeId × Value → H) :
    ReturnsInHanded {} Tryz.checked os 4 .any (fun w args => (Rows.scheduleTextsSpec.pre enc Tryz.prog Tryz.f4 [] false w args ∧ laidMetH Tryz.prog laidL w) ∧ sizedMet enc Tryz.prog Tryz.f4 (OpenSpec.ofChange Rows.scheduleTextsSpec) false w args)
      (Rows.scheduleTextsSpec.post enc Tryz.prog Tryz.f4 false true false false) := by
  refine handed_and_shaped (C := Tryz.checked) (X := fun w => laidMetH Tryz.prog laidL w) (fun _ _ hh h => h.of_heap hh) Tryz.own started (by kernel_rfl) Tryz.func4
    (ChangeSpec.witness_shaped (enc := enc) (C := Tryz.checked) (os := os) (X := fun w _ => laidMetH Tryz.prog laidL w) false (laidWorld os) #[.agg #[.int .i64 0, .int .i64 0, .slice none 0 0], .string ⟨#[]⟩] 8 rfl (laidWorld_shaped os _) (by kernel_rfl) (by kernel_rfl) (by kernel_rfl) (laidWorld_met os _)) ?_
  intro W base args ds gs before hval0 hW hL hsh
  have hval : ∀ (j : Nat) t v, Tryz.f4.params[j]? = some t → args[j]? = some v → Value.okWide Tryz.prog W .any base t v := hval0
  have hW' : DataW.Whole enc Tryz.prog Tryz.f4.params.toList Rows.scheduleTextsSpec.vars false W args.toList ds gs before := hW
  obtain ⟨p, q, hA0, hV, rfl, hfz, hnd⟩ := hW
  have hA : DataW.TrodAll enc Tryz.prog W 0 (fun _ => true) true Tryz.f4.params.toList args.toList ds p := hA0
  obtain ⟨rfl, rfl⟩ := trodVars_none hV
  rw [Tryz.params4] at hA hval
  obtain ⟨v0, v1, d0, d1, p0, p1, rfl, rfl, rfl, h0, h1⟩ := trodAll_two hA
  obtain ⟨s, rfl, hs⟩ := open_sch (hval 0 _ v0 rfl rfl) h0
  obtain ⟨bx, rfl, -, -, hx⟩ := open_string Tryz.underlying9 (hval 1 _ v1 rfl rfl) h1
  obtain ⟨x, rfl⟩ := str_list bx
  have ht := tabs_of hL hsh
  refine (law_texts s x ht hs.old.rd (St.start W)).mono ?_
  rintro e' W' ⟨v, K, rfl, hst, rfl, -⟩
  exact ⟨_, rfl, post_true Tryz.laidOut (by kernel_rfl) rfl rfl Tryz.underlying4 hW' hst.below rfl rfl rfl⟩
theorem stexts_row : Rows.ScheduleTextsSaid :=
  OpenClaim.holds_of_wide 4 Tryz.f4 rfl rfl rfl rfl rfl rfl rfl ⟨rfl, rfl, rfl, rfl, rfl⟩ rfl rfl rfl rfl rfl (by kernel_rfl) Tryz.func4 (by kernel_rfl)
    (of_decide_eq_true (by kernel_rfl)) (by unfold Func.isWrapper; first | (rw [if_pos (by decide +kernel)]; kernel_rfl) | (rw [if_neg (by decide +kernel)]; exact ⟨rfl, rfl⟩))
    (fun os started H enc _ => stexts_lifted os started H enc)
theorem stexts_holds : Rows.ScheduleTextsCardSaid :=
  Claim7.holds_tied_plain_at .later [] [.data, .data, .data, .data, .sentinel, .sentinel, .pinned] true _ true
    stexts_row (fun _ h => by cases h) (by kernel_rfl) (fun _ h => by cases h) scheduleTexts_row_tie rfl ⟨rfl, rfl⟩ (by kernel_rfl) rfl
    (fun f fn hf hfn => by
      obtain rfl : f = 4 := Option.some.inj ((show Tryz.prog.funcNamed Tryz.f4.name = some 4 by kernel_rfl).symm.trans hf) |>.symm
      obtain rfl : fn = Tryz.f4 := (Option.some.inj (Tryz.func4.symm.trans hfn)).symm
      exact ⟨by kernel_rfl, fun j t htj => by
        have hm := Array.mem_of_getElem? htj
        have hall : (Tryz.f4.params.toList.all fun u => !Tryz.prog.wantsStandIn u) = true := by kernel_rfl
        exact (show Tryz.prog.wantsStandIn t = false by simpa using List.all_eq_true.1 hall t (by simpa using hm))⟩)
    (by kernel_rfl)
end Go.Proofs.YtnkpfpgmbpnbgaaGreatDoor
