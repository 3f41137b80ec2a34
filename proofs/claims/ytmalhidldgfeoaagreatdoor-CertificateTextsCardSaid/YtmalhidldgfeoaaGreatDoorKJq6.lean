/- The law CertificateTexts returns true at every input, and its arguments read behind the call as they read before: the statement Rows.CertificateTextsCardSaid. Condition: the listed package-level variables start as the program's text lays them, to which the card ties them. -/
import Derived.Test.YtmalhidldgfeoaaGreatDoorRows
import Derived.Test.YtmalhidldgfeoaaGreatDoorCards
import Derived.Test.YtmalhidldgfeoaaGreatDoorTie
import Derived.SevenTiedAt
import Derived.Test.YtmalhidldgfeoaaGreatDoorQ6
namespace Go.Proofs.YtmalhidldgfeoaaGreatDoor
open Go.ChangeShapes Go.WideShapes Go.ChangeAt Go.RowKit Go.Eng
open Go.ChangeMaps (open_string)

set_option maxRecDepth 100000 in
theorem ctexts_lifted (os : Os) (started : os.Started) (H : Type) (enc : TypeId × Value → H) :
    ReturnsInHanded {} Tryz.checked os 6 .any (fun w args => (Rows.certificateTextsSpec.pre enc Tryz.prog Tryz.f6 [] false w args ∧ laidMetH Tryz.prog Qp w) ∧ sizedMet enc Tryz.prog Tryz.f6 (OpenSpec.ofChange Rows.certificateTextsSpec) false w args)
      (Rows.certificateTextsSpec.post enc Tryz.prog Tryz.f6 false true false false) := by
  refine Yei (C := Tryz.checked) (X := fun w => laidMetH Tryz.prog Qp w) (fun _ _ hh h => h.of_heap hh) Tryz.own started (by kernel_rfl) Tryz.func6
    (ChangeSpec.witness_shaped (enc := enc) (C := Tryz.checked) (os := os) (X := fun w _ => laidMetH Tryz.prog Qp w) false (YaK os) #[.slice none 0 0, .string ⟨#[]⟩] 8 rfl (YeW os _) (by kernel_rfl) (by kernel_rfl) (by kernel_rfl) (YgV os _)) ?_
  intro W base args ds gs before hval0 hW hL hsh
  have hval : ∀ (j : Nat) t v, Tryz.f6.params[j]? = some t → args[j]? = some v → Value.okWide Tryz.prog W .any base t v := hval0
  have hW' : DataW.Whole enc Tryz.prog Tryz.f6.params.toList Rows.certificateTextsSpec.vars false W args.toList ds gs before := hW
  obtain ⟨p, q, hA0, hV, rfl, hfz, hnd⟩ := hW
  have hA : DataW.TrodAll enc Tryz.prog W 0 (fun _ => true) true Tryz.f6.params.toList args.toList ds p := hA0
  obtain ⟨rfl, rfl⟩ := trodVars_none hV
  rw [Tryz.params6] at hA hval
  obtain ⟨v0, v1, d0, d1, p0, p1, rfl, rfl, rfl, h0, h1⟩ := trodAll_two hA
  obtain ⟨c, rfl, hc⟩ := Yiw (hval 0 _ v0 rfl rfl) h0
  obtain ⟨bx, rfl, -, -, hx⟩ := open_string Tryz.underlying9 (hval 1 _ v1 rfl rfl) h1
  obtain ⟨x, rfl⟩ := Yi2 bx
  have ht := tabs_of hL hsh
  refine (YhY c.xs x (A := c.A) (cap := c.cap) ht (cert_bg hc) (St.start W)).mono ?_
  rintro e' W' ⟨v, K, rfl, hst, rfl, -⟩
  exact ⟨_, rfl, Yix Tryz.laidOut (by kernel_rfl) rfl rfl Tryz.underlying4 hW' hst.below rfl rfl rfl⟩
theorem ctexts_k1 : (Rows.certificateTextsRow.inPlace == Tryz.pinned.checked.prog.inPlace 6) = true := by kernel_rfl
theorem ctexts_k2 : (Rows.certificateTextsRow.unfollowed == Tryz.pinned.checked.prog.unfollowed 6) = true := by kernel_rfl
theorem ctexts_k3 : (Rows.certificateTextsRow.recurses == Tryz.pinned.checked.prog.recurses 6) = true := by kernel_rfl
theorem ctexts_k4 : (Rows.certificateTextsRow.named == Tryz.pinned.checked.prog.varsNamed 6) = true := by kernel_rfl
theorem ctexts_k5 : Tryz.pinned.checked.prog.funcNamed Rows.certificateTextsRow.func = some 6 := by kernel_rfl
theorem ctexts_k6 : mapsRowed Tryz.pinned.checked.prog = true := by kernel_rfl
theorem ctexts_k7 : Tryz.pinned.checked.prog.stopsHeard = true := by kernel_rfl
theorem ctexts_k8 : Tryz.pinned.checked.prog.mayEnter = true := by kernel_rfl
theorem ctexts_k9 : (Rows.certificateTextsRow.lifted == Tryz.pinned.checked.prog.liftsFinal) = true := by kernel_rfl
theorem ctexts_k0 : (Tryz.pinned.checked.prog.make == some Rows.certificateTextsRow.make) = true := by kernel_rfl
theorem ctexts_facts : joinedFacts Tryz.pinned.checked.prog 6 Tryz.f6 Rows.certificateTextsSpec Rows.certificateTextsRow = true := by
  unfold joinedFacts
  rw [ctexts_k1, ctexts_k2, ctexts_k3, ctexts_k4, show laidOutB Tryz.pinned.checked.prog = true from Tryz.laidOut, ctexts_k6, ctexts_k7, ctexts_k8, ctexts_k9, ctexts_k0]
  kernel_rfl
theorem ctexts_row : Rows.CertificateTextsSaid :=
  OpenClaim.holds_of_wide 6 Tryz.f6 rfl rfl rfl rfl rfl rfl rfl ⟨rfl, rfl, rfl, rfl, rfl⟩ rfl rfl rfl rfl rfl ctexts_k5 Tryz.func6 ctexts_facts
    (of_decide_eq_true (by kernel_rfl)) (by unfold Func.isWrapper; first | (rw [if_pos (by decide +kernel)]; kernel_rfl) | (rw [if_neg (by decide +kernel)]; exact ⟨rfl, rfl⟩))
    (fun os started H enc _ => ctexts_lifted os started H enc)
theorem ctexts_holds : Rows.CertificateTextsCardSaid :=
  Claim7.holds_tied_plain_at .later [] [.data, .data, .data, .data, .sentinel, .sentinel, .pinned] true _ true
    ctexts_row (fun _ h => by cases h) (by kernel_rfl) (fun _ h => by cases h) certificateTexts_row_tie rfl ⟨rfl, rfl⟩ (by kernel_rfl) rfl
    (fun f fn hf hfn => by
      obtain rfl : f = 6 := Option.some.inj ((show Tryz.prog.funcNamed Tryz.f6.name = some 6 from ctexts_k5).symm.trans hf) |>.symm
      obtain rfl : fn = Tryz.f6 := (Option.some.inj (Tryz.func6.symm.trans hfn)).symm
      exact ⟨by kernel_rfl, fun j t htj => by
        have hm := Array.mem_of_getElem? htj
        have hall : (Tryz.f6.params.toList.all fun u => !Tryz.prog.wantsStandIn u) = true := by kernel_rfl
        exact (show Tryz.prog.wantsStandIn t = false by simpa using List.all_eq_true.1 hall t (by simpa using hm))⟩)
    (by kernel_rfl)
end Go.Proofs.YtmalhidldgfeoaaGreatDoor
