/- The law FragmentReceives returns true at every input, and its arguments read behind the call as they read before: the statement Rows.FragmentReceivesSaid. No condition. -/
import Derived.Test.YtfobgjhjigkigaaRows
import Derived.Test.YtfobgjhjigkigaaFr8
import Derived.Test.YtfobgjhjigkigaaFop2
import Derived.Test.YtfobgjhjigkigaaRow2
namespace Go.Proofs.Ytfobgjhjigkigaa
open Go.ChangeShapes Go.WideShapes Go.ChangeAt Go.RowKit Go.Eng
open Go.ChangeMaps (open_string)

theorem Try.own : ownKnob Try.prog.godebug = none := by kernel_rfl
theorem Try.laidOut : laidOutB Try.prog = true := by kernel_rfl

set_option maxRecDepth 100000 in
theorem receives_lifted (os : Os) (started : os.Started) (H : Type) (enc : TypeId × Value → H) :
    ReturnsInHanded {} Try.checked os 7 .any (Rows.fragmentReceivesSpec.pre6 enc Try.prog Try.f7 Rows.fragmentReceivesRow.domain false) (Rows.fragmentReceivesSpec.post enc Try.prog Try.f7 false true false false) := by
  refine returnsInHanded_of_change (C := Try.checked) Try.own started (by kernel_rfl) Try.func7
    (ChangeSpec.witness6 (enc := enc) (C := Try.checked) false ⟨#[], #[.int .i64 0, .slice none 0 0], []⟩ 8 (by kernel_rfl) (by kernel_rfl) (by kernel_rfl) (by kernel_rfl)) ?_
  intro W base args ds gs before hval0 hW hcnd _
  have hval : ∀ (j : Nat) t v, Try.f7.params[j]? = some t → args[j]? = some v → Value.okWide Try.prog W .any base t v := hval0
  have hW' : DataW.Whole enc Try.prog Try.f7.params.toList Rows.fragmentReceivesSpec.vars false W args.toList ds gs before := hW
  obtain ⟨p, q, hA0, hV, rfl, hfz, hnd⟩ := hW
  have hA : DataW.TrodAll enc Try.prog W 0 (fun _ => true) true Try.f7.params.toList args.toList ds p := hA0
  obtain ⟨rfl, rfl⟩ := trodVars_none hV
  rw [Try.params7] at hA hval
  obtain ⟨v0, v1, d0, d1, p0, p1, rfl, rfl, rfl, h0, h1⟩ := trodAll_two hA
  obtain ⟨hold, rfl, -, -, hwhold⟩ := open_int Try.underlying3 (hval 0 _ v0 rfl rfl) h0
  have hhold := wf_i64 hwhold
  obtain ⟨l, rfl, hl⟩ := open_arrs (hval 1 _ v1 rfl rfl) h1
  refine (law_receives hold l.xs (Nat.le_trans hl.len (by decide)) (fun a ha => Nat.le_trans (hl.good a ha) (by decide)) hl.old.rd (St.start W)).mono ?_
  rintro e' W' ⟨v, K, rfl, hst, rfl, -⟩
  exact ⟨_, rfl, post_true Try.laidOut (by kernel_rfl) rfl rfl Try.underlying4 hW' hst.below rfl rfl rfl⟩

theorem receives_holds : Rows.FragmentReceivesSaid :=
  OpenClaim.holds_of_wide 7 Try.f7 rfl rfl rfl rfl rfl rfl rfl ⟨rfl, rfl, rfl, rfl, rfl⟩ rfl rfl rfl rfl rfl (by kernel_rfl) Try.func7 (by kernel_rfl)
    (of_decide_eq_true (by kernel_rfl)) (by unfold Func.isWrapper; first | (rw [if_pos (by decide +kernel)]; kernel_rfl) | (rw [if_neg (by decide +kernel)]; exact ⟨rfl, rfl⟩))
    (fun os started H enc _ => receives_lifted os started H enc)
end Go.Proofs.Ytfobgjhjigkigaa
