/- The law FragmentTags returns true at every input, and its arguments read behind the call as they read before: the statement Rows.FragmentTagsSaid. No condition. -/
import Derived.Test.YtfobgjhjigkigaaRows
import Derived.Test.YtfobgjhjigkigaaFw26
import Derived.Test.YtfobgjhjigkigaaOp
import Derived.Test.YtfobgjhjigkigaaRow2
namespace Go.Proofs.Ytfobgjhjigkigaa
open Go.ChangeShapes Go.WideShapes Go.ChangeAt Go.RowKit Go.Eng
open Go.ChangeMaps (open_string)

theorem cells_u8 : Try.prog.cellsOf 5 = 1 := by kernel_rfl

theorem flat_nat : ∀ l : List Int, (∀ z ∈ l, 0 ≤ z) → ((l.map Int.toNat).flatMap fun b : Nat => [Value.int .u8 (b : Int)]) = l.flatMap fun z => [Value.int .u8 z]
  | [], _ => rfl
  | z :: l, h => by
    have h1 := h z (by simp)
    simp only [List.map_cons, List.flatMap_cons, flat_nat l (fun y hy => h y (by simp [hy]))]
    rw [show ((z.toNat : Nat) : Int) = z by omega]

theorem Try.own : ownKnob Try.prog.godebug = none := by kernel_rfl
theorem Try.laidOut : laidOutB Try.prog = true := by kernel_rfl

set_option maxRecDepth 100000 in
theorem tags_lifted (os : Os) (started : os.Started) (H : Type) (enc : TypeId × Value → H) :
    ReturnsInHanded {} Try.checked os 9 .any (Rows.fragmentTagsSpec.pre6 enc Try.prog Try.f9 Rows.fragmentTagsRow.domain false) (Rows.fragmentTagsSpec.post enc Try.prog Try.f9 false true false false) := by
  refine returnsInHanded_of_change (C := Try.checked) Try.own started (by kernel_rfl) Try.func9
    (ChangeSpec.witness6 (enc := enc) (C := Try.checked) false ⟨#[], #[.slice none 0 0], []⟩ 8 (by kernel_rfl) (by kernel_rfl) (by kernel_rfl) (by kernel_rfl)) ?_
  intro W base args ds gs before hval0 hW hcnd _
  have hval : ∀ (j : Nat) t v, Try.f9.params[j]? = some t → args[j]? = some v → Value.okWide Try.prog W .any base t v := hval0
  have hW' : DataW.Whole enc Try.prog Try.f9.params.toList Rows.fragmentTagsSpec.vars false W args.toList ds gs before := hW
  obtain ⟨p, q, hA0, hV, rfl, hfz, hnd⟩ := hW
  have hA : DataW.TrodAll enc Try.prog W 0 (fun _ => true) true Try.f9.params.toList args.toList ds p := hA0
  obtain ⟨rfl, rfl⟩ := trodVars_none hV
  rw [Try.params9] at hA hval
  obtain ⟨v0, d0, rfl, rfl, h0⟩ := trodAll_one hA
  obtain ⟨A, len, cap, rfl⟩ := okWide_slice Try.underlying39 (hval 0 _ v0 rfl rfl)
  obtain ⟨fuel, hf⟩ := h0
  obtain ⟨l, rfl, hold, hwf, hlen⟩ := open_nums Try.underlying39 Try.underlying5 cells_u8 hf
  have hm : maxLen ≤ 9223372036854775807 := by decide
  have h256 : ∀ z ∈ l, 0 ≤ z ∧ z < 256 := fun z hz => by
    have := hwf z hz
    simp only [Lit.wf, Bool.and_eq_true, decide_eq_true_eq] at this
    have e1 : IntKind.min .u8 = 0 := by decide
    have e2 : IntKind.max .u8 = 255 := by decide
    omega
  have hrd := hold.rd (H := [])
  rw [← flat_nat l (fun z hz => (h256 z hz).1)] at hrd
  have hspec := law_tags (l.map Int.toNat) (A0 := A) (cap0 := cap) (fun b hb => by
    obtain ⟨z, hz, rfl⟩ := List.mem_map.1 hb
    have := h256 z hz
    omega) (by rw [List.length_map]; omega) hrd (St.start W)
  rw [List.length_map] at hspec
  refine hspec.mono ?_
  rintro e' W' ⟨v, K, rfl, hst, rfl, -⟩
  exact ⟨_, rfl, post_true Try.laidOut (by kernel_rfl) rfl rfl Try.underlying4 hW' hst.below rfl rfl rfl⟩

theorem tags_holds : Rows.FragmentTagsSaid :=
  OpenClaim.holds_of_wide 9 Try.f9 rfl rfl rfl rfl rfl rfl rfl ⟨rfl, rfl, rfl, rfl, rfl⟩ rfl rfl rfl rfl rfl (by kernel_rfl) Try.func9 (by kernel_rfl)
    (of_decide_eq_true (by kernel_rfl)) (by unfold Func.isWrapper; first | (rw [if_pos (by decide +kernel)]; kernel_rfl) | (rw [if_neg (by decide +kernel)]; exact ⟨rfl, rfl⟩))
    (fun os started H enc _ => tags_lifted os started H enc)
end Go.Proofs.Ytfobgjhjigkigaa
