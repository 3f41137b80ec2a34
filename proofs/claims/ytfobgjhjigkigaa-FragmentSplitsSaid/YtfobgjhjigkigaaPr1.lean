/- The row FragmentSplits. -/
import Derived.Test.YtfobgjhjigkigaaRows
import Derived.Test.YtfobgjhjigkigaaFw12
import Derived.Test.YtfobgjhjigkigaaRow
import Derived.Lib.SmallJoins
import Derived.OpenShut
import Derived.Laws.IdiomArrays
namespace Go.Proofs.Ytfobgjhjigkigaa
open Go.ChangeShapes Go.WideShapes Go.ChangeAt Go.RowKit Go.Eng
open Go.ChangeMaps (open_string)

theorem Try.own : ownKnob Try.prog.godebug = none := by kernel_rfl
theorem Try.laidOut : laidOutB Try.prog = true := by kernel_rfl

section
variable {H : Type} {enc : TypeId × Value → H} {w : World} {base : Nat} {spare : Nat → Bool} {held : Bool}
set_option maxRecDepth 100000 in
theorem open_frag {r : Reach} {b0 : Nat} {v : Value} {d : DataW H} {p : List MemPlace} (hv : Value.okWide Try.prog w r b0 23 v) (h : DataW.Trod enc Try.prog w base spare held 23 v d p) :
    ∃ (a b c e : Int) (s : ByteArray), v = .agg #[.int .i64 a, .int .i64 b, .int .i64 c, .int .i64 e, .string s] ∧ s.size ≤ maxLen := by
  obtain ⟨cs, rfl, hsz⟩ := okWide_struct Try.underlying23 hv
  obtain ⟨fuel, hf⟩ := h
  obtain ⟨xs, n, _, _, hl, hx, hall⟩ := DataW.trod_struct Try.underlying23 hf
  have hc5 : Try.prog.cellsOf 23 = 5 := by kernel_rfl
  have hc3 : Try.prog.cellsOf 3 = 1 := by kernel_rfl
  have hc9 : Try.prog.cellsOf 9 = 1 := by kernel_rfl
  rw [hc5] at hl
  obtain ⟨l⟩ := cs
  match l, hl, xs, hx with
  | [c0, c1, c2, c3, c4], _, [x0, x1, x2, x3, x4], _ =>
    have h0 := hall 0 _ rfl
    have h1 := hall 1 _ rfl
    have h2 := hall 2 _ rfl
    have h3 := hall 3 _ rfl
    have h4 := hall 4 _ rfl
    simp [Value.cells, hc3, hc9] at h0 h1 h2 h3 h4
    obtain ⟨a, ea, _, _⟩ := DataW.trod_int Try.underlying3 h0
    obtain ⟨b, eb, _, _⟩ := DataW.trod_int Try.underlying3 h1
    obtain ⟨c, ec, _, _⟩ := DataW.trod_int Try.underlying3 h2
    obtain ⟨e, ee, _, _⟩ := DataW.trod_int Try.underlying3 h3
    obtain ⟨s, es, _, hs⟩ := DataW.trod_string Try.underlying9 h4
    simp at ea eb ec ee es
    subst ea eb ec ee es
    exact ⟨a, b, c, e, s, rfl, hs⟩
set_option maxRecDepth 100000 in
theorem open_int4 {r : Reach} {b0 : Nat} {v : Value} {d : DataW H} {p : List MemPlace} (hv : Value.okWide Try.prog w r b0 24 v) (h : DataW.Trod enc Try.prog w base spare held 24 v d p) :
    ∃ a b c e : Int, v = .agg #[.int .i64 a, .int .i64 b, .int .i64 c, .int .i64 e] ∧ e ≤ 9223372036854775807 := by
  have hc4 : Try.prog.cellsOf 24 = 4 := by kernel_rfl
  have hc3 : Try.prog.cellsOf 3 = 1 := by kernel_rfl
  obtain ⟨⟨l⟩, rfl, hsz⟩ : ∃ cs : Array Value, v = .agg cs ∧ cs.size = Try.prog.cellsOf 24 := by
    simp only [Value.okWide, Try.underlying24] at hv
    obtain ⟨cs, h1, h2, _⟩ := hv
    exact ⟨cs, h1, h2⟩
  rw [hc4] at hsz
  obtain ⟨fuel, hf⟩ := h
  match l, hsz with
  | [c0, c1, c2, c3], _ =>
    obtain ⟨_, _, _, _, _, _, h0, h1, h2, h3⟩ := trod_array4 Try.underlying24 hc3 (show DataW.trod enc Try.prog w base spare held fuel 24 [c0, c1, c2, c3] = some (d, p) from hf)
    obtain ⟨a, ea, _, _⟩ := DataW.trod_int Try.underlying3 h0
    obtain ⟨b, eb, _, _⟩ := DataW.trod_int Try.underlying3 h1
    obtain ⟨c, ec, _, _⟩ := DataW.trod_int Try.underlying3 h2
    obtain ⟨e, ee, _, he⟩ := DataW.trod_int Try.underlying3 h3
    simp at ea eb ec ee
    subst ea eb ec ee
    exact ⟨a, b, c, e, rfl, (bounds_i64 he).2⟩
end

set_option maxRecDepth 100000 in
theorem splits_lifted (os : Os) (started : os.Started) (H : Type) (enc : TypeId × Value → H) :
    ReturnsInHanded {} Try.checked os 3 .any (Rows.fragmentSplitsSpec.pre6 enc Try.prog Try.f3 Rows.fragmentSplitsRow.domain false) (Rows.fragmentSplitsSpec.post enc Try.prog Try.f3 false true false false) := by
  refine returnsInHanded_of_change (C := Try.checked) Try.own started (by kernel_rfl) Try.func3
    (ChangeSpec.witness6 (enc := enc) (C := Try.checked) false ⟨#[], #[.agg #[.int .i64 0, .int .i64 0, .int .i64 0, .int .i64 0, .string ⟨#[]⟩], .string ⟨#[]⟩, .agg #[.int .i64 0, .int .i64 0, .int .i64 0, .int .i64 0]], []⟩ 8 (by kernel_rfl) (by kernel_rfl) (by kernel_rfl) (by kernel_rfl)) ?_
  intro W base args ds gs before hval0 hW hcnd _
  have hval : ∀ (j : Nat) t v, Try.f3.params[j]? = some t → args[j]? = some v → Value.okWide Try.prog W .any base t v := hval0
  have hW' : DataW.Whole enc Try.prog Try.f3.params.toList Rows.fragmentSplitsSpec.vars false W args.toList ds gs before := hW
  obtain ⟨p, q, hA0, hV, rfl, hfz, hnd⟩ := hW
  have hA : DataW.TrodAll enc Try.prog W 0 (fun _ => true) true Try.f3.params.toList args.toList ds p := hA0
  obtain ⟨rfl, rfl⟩ := trodVars_none hV
  rw [Try.params3] at hA hval
  obtain ⟨v0, v1, v2, d0, d1, d2, p0, p1, p2, rfl, rfl, rfl, h0, h1, h2⟩ := trodAll_three hA
  obtain ⟨a, b, c, e, s, rfl, hs⟩ := open_frag (hval 0 _ v0 rfl rfl) h0
  obtain ⟨data, rfl, -, -, hd⟩ := open_string Try.underlying9 (hval 1 _ v1 rfl rfl) h1
  obtain ⟨x0, x1, x2, x3, rfl, hx⟩ := open_int4 (hval 2 _ v2 rfl rfl) h2
  have hm : maxLen ≤ 9223372036854775807 := by decide
  refine (splits_spec a b c e s data x0 x1 x2 x3 (by omega) (by omega) hx (St.start W)).mono ?_
  rintro e' W' ⟨v, K, rfl, hst, rfl, rfl⟩
  exact ⟨_, rfl, post_true Try.laidOut (by kernel_rfl) rfl rfl Try.underlying4 hW' hst.below rfl rfl rfl⟩

theorem splits_holds : Rows.FragmentSplitsSaid :=
  OpenClaim.holds_of_wide 3 Try.f3 rfl rfl rfl rfl rfl rfl rfl ⟨rfl, rfl, rfl, rfl, rfl⟩ rfl rfl rfl rfl rfl (by kernel_rfl) Try.func3 (by kernel_rfl)
    (of_decide_eq_true (by kernel_rfl)) (by unfold Func.isWrapper; first | (rw [if_pos (by decide +kernel)]; kernel_rfl) | (rw [if_neg (by decide +kernel)]; exact ⟨rfl, rfl⟩))
    (fun os started H enc _ => splits_lifted os started H enc)
end Go.Proofs.Ytfobgjhjigkigaa
