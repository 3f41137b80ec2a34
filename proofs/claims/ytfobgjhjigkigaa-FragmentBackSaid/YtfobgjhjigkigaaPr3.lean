/- The law FragmentBack returns true at every input, and its arguments read behind the call as they read before: the statement Rows.FragmentBackSaid. No condition. -/
import Derived.Test.YtfobgjhjigkigaaRows
import Derived.Test.YtfobgjhjigkigaaFw18
import Derived.Test.YtfobgjhjigkigaaRow
import Derived.Lib.SmallJoins
import Derived.OpenShut
namespace Go.Proofs.Ytfobgjhjigkigaa
open Go.ChangeShapes Go.WideShapes Go.ChangeAt Go.RowKit Go.Eng
open Go.ChangeMaps (open_string)

theorem Try.own : ownKnob Try.prog.godebug = none := by kernel_rfl
theorem Try.laidOut : laidOutB Try.prog = true := by kernel_rfl

set_option maxRecDepth 100000 in
theorem back_lifted (os : Os) (started : os.Started) (H : Type) (enc : TypeId × Value → H) :
    ReturnsInHanded {} Try.checked os 6 .any (Rows.fragmentBackSpec.pre6 enc Try.prog Try.f6 Rows.fragmentBackRow.domain false) (Rows.fragmentBackSpec.post enc Try.prog Try.f6 false true false false) := by
  refine returnsInHanded_of_change (C := Try.checked) Try.own started (by kernel_rfl) Try.func6
    (ChangeSpec.witness6 (enc := enc) (C := Try.checked) false ⟨#[], #[.int .i64 0, .string ⟨#[]⟩, .int .i64 0], []⟩ 8 (by kernel_rfl) (by kernel_rfl) (by kernel_rfl) (by kernel_rfl)) ?_
  intro W base args ds gs before hval0 hW hcnd _
  have hval : ∀ (j : Nat) t v, Try.f6.params[j]? = some t → args[j]? = some v → Value.okWide Try.prog W .any base t v := hval0
  have hW' : DataW.Whole enc Try.prog Try.f6.params.toList Rows.fragmentBackSpec.vars false W args.toList ds gs before := hW
  obtain ⟨p, q, hA0, hV, rfl, hfz, hnd⟩ := hW
  have hA : DataW.TrodAll enc Try.prog W 0 (fun _ => true) true Try.f6.params.toList args.toList ds p := hA0
  obtain ⟨rfl, rfl⟩ := trodVars_none hV
  rw [Try.params6] at hA hval
  obtain ⟨v0, v1, v2, d0, d1, d2, p0, p1, p2, rfl, rfl, rfl, h0, h1, h2⟩ := trodAll_three hA
  obtain ⟨tag, rfl, -, -, -⟩ := open_int Try.underlying3 (hval 0 _ v0 rfl rfl) h0
  obtain ⟨data, rfl, -, -, hd⟩ := open_string Try.underlying9 (hval 1 _ v1 rfl rfl) h1
  obtain ⟨most, rfl, -, -, -⟩ := open_int Try.underlying3 (hval 2 _ v2 rfl rfl) h2
  have hm : maxLen ≤ 9223372036854775807 := by decide
  refine (back_spec tag most data (by omega) (St.start W)).mono ?_
  rintro e' W' ⟨v, K, rfl, hst, rfl, rfl⟩
  exact ⟨_, rfl, post_true Try.laidOut (by kernel_rfl) rfl rfl Try.underlying4 hW' hst.below rfl rfl rfl⟩

theorem back_holds : Rows.FragmentBackSaid :=
  OpenClaim.holds_of_wide 6 Try.f6 rfl rfl rfl rfl rfl rfl rfl ⟨rfl, rfl, rfl, rfl, rfl⟩ rfl rfl rfl rfl rfl (by kernel_rfl) Try.func6 (by kernel_rfl)
    (of_decide_eq_true (by kernel_rfl)) (by unfold Func.isWrapper; first | (rw [if_pos (by decide +kernel)]; kernel_rfl) | (rw [if_neg (by decide +kernel)]; exact ⟨rfl, rfl⟩))
    (fun os started H enc _ => back_lifted os started H enc)
end Go.Proofs.Ytfobgjhjigkigaa
