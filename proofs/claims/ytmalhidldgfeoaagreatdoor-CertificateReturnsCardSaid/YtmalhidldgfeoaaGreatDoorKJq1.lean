/- The law CertificateReturns returns true at every input, and its arguments read behind the call as they read before: the statement Rows.CertificateReturnsCardSaid. Condition: the listed package-level variables start as the program's text lays them, to which the card ties them. -/
import Derived.Test.YtmalhidldgfeoaaGreatDoorRows
import Derived.Test.YtmalhidldgfeoaaGreatDoorCards
import Derived.Test.YtmalhidldgfeoaaGreatDoorTie
import Derived.SevenTiedAt
import Derived.Test.YtmalhidldgfeoaaGreatDoorQ5
namespace Go.Proofs.YtmalhidldgfeoaaGreatDoor
open Go.ChangeShapes Go.WideShapes Go.ChangeAt Go.RowKit Go.Eng
open Go.ChangeMaps (open_string)

set_option maxRecDepth 100000 in
theorem creturns_lifted (os : Os) (started : os.Started) (H : Type) (enc : TypeId × Value → H) :
    ReturnsInHanded {} Tryz.checked os 8 .any (fun w args => (Rows.certificateReturnsSpec.pre enc Tryz.prog Tryz.f8 [] false w args ∧ laidMetH Tryz.prog VB w) ∧ sizedMet enc Tryz.prog Tryz.f8 (OpenSpec.ofChange Rows.certificateReturnsSpec) false w args)
      (Rows.certificateReturnsSpec.post enc Tryz.prog Tryz.f8 false true false false) := by
  refine Uu (C := Tryz.checked) (X := fun w => laidMetH Tryz.prog VB w) (fun _ _ hh h => h.of_heap hh) Tryz.own started (by kernel_rfl) Tryz.func8
    (ChangeSpec.witness_shaped (enc := enc) (C := Tryz.checked) (os := os) (X := fun w _ => laidMetH Tryz.prog VB w) false (UO os) #[.slice none 0 0, .string ⟨#[]⟩] 8 rfl (UG os _) (by kernel_rfl) (by kernel_rfl) (by kernel_rfl) (Qw os _)) ?_
  intro W base args ds gs before hval0 hW hL hsh
  have hval : ∀ (j : Nat) t v, Tryz.f8.params[j]? = some t → args[j]? = some v → Value.okWide Tryz.prog W .any base t v := hval0
  have hW' : DataW.Whole enc Tryz.prog Tryz.f8.params.toList Rows.certificateReturnsSpec.vars false W args.toList ds gs before := hW
  obtain ⟨p, q, hA0, hV, rfl, hfz, hnd⟩ := hW
  have hA : DataW.TrodAll enc Tryz.prog W 0 (fun _ => true) true Tryz.f8.params.toList args.toList ds p := hA0
  obtain ⟨rfl, rfl⟩ := trodVars_none hV
  rw [Tryz.params8] at hA hval
  obtain ⟨v0, v1, d0, d1, p0, p1, rfl, rfl, rfl, h0, h1⟩ := trodAll_two hA
  obtain ⟨c, rfl, hc⟩ := YdV (hval 0 _ v0 rfl rfl) h0
  obtain ⟨bx, rfl, -, -, hx⟩ := open_string Tryz.underlying9 (hval 1 _ v1 rfl rfl) h1
  obtain ⟨x, rfl⟩ := Ye9 bx
  have ht := Yga hL hsh
  refine (Qm (A := c.A) (cap := c.cap) c.xs x ht (Ygo hc) (St.start W)).mono ?_
  rintro e' W' ⟨v, K, rfl, hst, rfl, -⟩
  exact ⟨_, rfl, Yd8 Tryz.laidOut (by kernel_rfl) rfl rfl Tryz.underlying4 hW' hst.below rfl rfl rfl⟩
theorem creturns_k1 : (Rows.certificateReturnsRow.inPlace == Tryz.pinned.checked.prog.inPlace 8) = true := by kernel_rfl
theorem creturns_k2 : (Rows.certificateReturnsRow.unfollowed == Tryz.pinned.checked.prog.unfollowed 8) = true := by kernel_rfl
theorem creturns_k3 : (Rows.certificateReturnsRow.recurses == Tryz.pinned.checked.prog.recurses 8) = true := by kernel_rfl
theorem creturns_k4 : (Rows.certificateReturnsRow.named == Tryz.pinned.checked.prog.varsNamed 8) = true := by kernel_rfl
theorem creturns_k5 : Tryz.pinned.checked.prog.funcNamed Rows.certificateReturnsRow.func = some 8 := by kernel_rfl
theorem creturns_k6 : mapsRowed Tryz.pinned.checked.prog = true := by kernel_rfl
theorem creturns_k7 : Tryz.pinned.checked.prog.stopsHeard = true := by kernel_rfl
theorem creturns_k8 : Tryz.pinned.checked.prog.mayEnter = true := by kernel_rfl
theorem creturns_k9 : (Rows.certificateReturnsRow.lifted == Tryz.pinned.checked.prog.liftsFinal) = true := by kernel_rfl
theorem creturns_k0 : (Tryz.pinned.checked.prog.make == some Rows.certificateReturnsRow.make) = true := by kernel_rfl
theorem creturns_facts : joinedFacts Tryz.pinned.checked.prog 8 Tryz.f8 Rows.certificateReturnsSpec Rows.certificateReturnsRow = true := by
  unfold joinedFacts
  rw [creturns_k1, creturns_k2, creturns_k3, creturns_k4, show laidOutB Tryz.pinned.checked.prog = true from Tryz.laidOut, creturns_k6, creturns_k7, creturns_k8, creturns_k9, creturns_k0]
  kernel_rfl
theorem creturns_row : Rows.CertificateReturnsSaid :=
  OpenClaim.holds_of_wide 8 Tryz.f8 rfl rfl rfl rfl rfl rfl rfl ⟨rfl, rfl, rfl, rfl, rfl⟩ rfl rfl rfl rfl rfl creturns_k5 Tryz.func8 creturns_facts
    (of_decide_eq_true (by kernel_rfl)) (by unfold Func.isWrapper; first | (rw [if_pos (by decide +kernel)]; kernel_rfl) | (rw [if_neg (by decide +kernel)]; exact ⟨rfl, rfl⟩))
    (fun os started H enc _ => creturns_lifted os started H enc)
theorem creturns_holds : Rows.CertificateReturnsCardSaid :=
  Claim7.holds_tied_plain_at .later [] [.data, .data, .data, .data, .sentinel, .sentinel, .pinned] true _ true
    creturns_row (fun _ h => by cases h) (by kernel_rfl) (fun _ h => by cases h) certificateReturns_row_tie rfl ⟨rfl, rfl⟩ (by kernel_rfl) rfl
    (fun f fn hf hfn => by
      obtain rfl : f = 8 := Option.some.inj ((show Tryz.prog.funcNamed Tryz.f8.name = some 8 from creturns_k5).symm.trans hf) |>.symm
      obtain rfl : fn = Tryz.f8 := (Option.some.inj (Tryz.func8.symm.trans hfn)).symm
      exact ⟨by kernel_rfl, fun j t htj => by
        have hm := Array.mem_of_getElem? htj
        have hall : (Tryz.f8.params.toList.all fun u => !Tryz.prog.wantsStandIn u) = true := by kernel_rfl
        exact (show Tryz.prog.wantsStandIn t = false by simpa using List.all_eq_true.1 hall t (by simpa using hm))⟩)
    (by kernel_rfl)
end Go.Proofs.YtmalhidldgfeoaaGreatDoor
