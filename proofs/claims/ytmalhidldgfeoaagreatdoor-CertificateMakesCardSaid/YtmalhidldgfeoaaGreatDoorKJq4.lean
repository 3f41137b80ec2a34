/- The law CertificateMakes returns true at every input, and its arguments read behind the call as they read before: the statement Rows.CertificateMakesCardSaid. Condition: the listed package-level variables start as the program's text lays them, to which the card ties them. -/
import Derived.Test.YtmalhidldgfeoaaGreatDoorRows
import Derived.Test.YtmalhidldgfeoaaGreatDoorCards
import Derived.Test.YtmalhidldgfeoaaGreatDoorTie
import Derived.SevenTiedAt
import Derived.Test.YtmalhidldgfeoaaGreatDoorQ6
namespace Go.Proofs.YtmalhidldgfeoaaGreatDoor
open Go.ChangeShapes Go.WideShapes Go.ChangeAt Go.RowKit Go.Eng
open Go.ChangeMaps (open_string)

set_option maxRecDepth 100000 in
theorem cmakes_lifted (os : Os) (started : os.Started) (H : Type) (enc : TypeId × Value → H) :
    ReturnsInHanded {} Tryz.checked os 4 .any (fun w args => (Rows.certificateMakesSpec.pre enc Tryz.prog Tryz.f4 [] false w args ∧ laidMetH Tryz.prog QX w) ∧ sizedMet enc Tryz.prog Tryz.f4 (OpenSpec.ofChange Rows.certificateMakesSpec) false w args)
      (Rows.certificateMakesSpec.post enc Tryz.prog Tryz.f4 false true false false) := by
  refine Ye7 (C := Tryz.checked) (X := fun w => laidMetH Tryz.prog QX w) (fun _ _ hh h => h.of_heap hh) Tryz.own started (by kernel_rfl) Tryz.func4
    (ChangeSpec.witness_shaped (enc := enc) (C := Tryz.checked) (os := os) (X := fun w _ => laidMetH Tryz.prog QX w) false (Ybv os) #[.agg #[.int .i64 0, .slice none 0 0, .int .i64 0, .int .i64 0, .slice none 0 0, .slice none 0 0], .slice none 0 0, .agg #[.int .i64 0, .int .i64 0, .slice none 0 0]] 8 rfl (YfG os _) (by kernel_rfl) (by kernel_rfl) (by kernel_rfl) (YhI os _)) ?_
  intro W base args ds gs before hval0 hW hL hsh
  have hval : ∀ (j : Nat) t v, Tryz.f4.params[j]? = some t → args[j]? = some v → Value.okWide Tryz.prog W .any base t v := hval0
  have hW' : DataW.Whole enc Tryz.prog Tryz.f4.params.toList Rows.certificateMakesSpec.vars false W args.toList ds gs before := hW
  obtain ⟨p, q, hA0, hV, rfl, hfz, hnd⟩ := hW
  have hA : DataW.TrodAll enc Tryz.prog W 0 (fun _ => true) true Tryz.f4.params.toList args.toList ds p := hA0
  obtain ⟨rfl, rfl⟩ := trodVars_none hV
  rw [Tryz.params4] at hA hval
  obtain ⟨v0, v1, v2, d0, d1, d2, p0, p1, p2, rfl, rfl, rfl, h0, h1, h2⟩ := trodAll_three hA
  obtain ⟨n, rfl, hn⟩ := Yj8 (hval 0 _ v0 rfl rfl) h0
  obtain ⟨q, rfl, hq⟩ := Yjy (hval 1 _ v1 rfl rfl) h1
  obtain ⟨s, rfl, hs⟩ := Yj9 (hval 2 _ v2 rfl rfl) h2
  have ht := tabs_of hL hsh
  refine (YiZ n q.xs s (A := q.A) (cap := q.cap) ht hn.In (req_bg hq) hs.old.rd hs.few (St.start W)).mono ?_
  rintro e' W' ⟨v, K, rfl, hst, rfl, -⟩
  exact ⟨_, rfl, Yjz Tryz.laidOut (by kernel_rfl) rfl rfl Tryz.underlying4 hW' hst.below rfl rfl rfl⟩
theorem cmakes_k1 : (Rows.certificateMakesRow.inPlace == Tryz.pinned.checked.prog.inPlace 4) = true := by kernel_rfl
theorem cmakes_k2 : (Rows.certificateMakesRow.unfollowed == Tryz.pinned.checked.prog.unfollowed 4) = true := by kernel_rfl
theorem cmakes_k3 : (Rows.certificateMakesRow.recurses == Tryz.pinned.checked.prog.recurses 4) = true := by kernel_rfl
theorem cmakes_k4 : (Rows.certificateMakesRow.named == Tryz.pinned.checked.prog.varsNamed 4) = true := by kernel_rfl
theorem cmakes_k5 : Tryz.pinned.checked.prog.funcNamed Rows.certificateMakesRow.func = some 4 := by kernel_rfl
theorem cmakes_k6 : mapsRowed Tryz.pinned.checked.prog = true := by kernel_rfl
theorem cmakes_k7 : Tryz.pinned.checked.prog.stopsHeard = true := by kernel_rfl
theorem cmakes_k8 : Tryz.pinned.checked.prog.mayEnter = true := by kernel_rfl
theorem cmakes_k9 : (Rows.certificateMakesRow.lifted == Tryz.pinned.checked.prog.liftsFinal) = true := by kernel_rfl
theorem cmakes_k0 : (Tryz.pinned.checked.prog.make == some Rows.certificateMakesRow.make) = true := by kernel_rfl
theorem cmakes_facts : joinedFacts Tryz.pinned.checked.prog 4 Tryz.f4 Rows.certificateMakesSpec Rows.certificateMakesRow = true := by
  unfold joinedFacts
  rw [cmakes_k1, cmakes_k2, cmakes_k3, cmakes_k4, show laidOutB Tryz.pinned.checked.prog = true from Tryz.laidOut, cmakes_k6, cmakes_k7, cmakes_k8, cmakes_k9, cmakes_k0]
  kernel_rfl
theorem cmakes_row : Rows.CertificateMakesSaid :=
  OpenClaim.holds_of_wide 4 Tryz.f4 rfl rfl rfl rfl rfl rfl rfl ⟨rfl, rfl, rfl, rfl, rfl⟩ rfl rfl rfl rfl rfl cmakes_k5 Tryz.func4 cmakes_facts
    (of_decide_eq_true (by kernel_rfl)) (by unfold Func.isWrapper; first | (rw [if_pos (by decide +kernel)]; kernel_rfl) | (rw [if_neg (by decide +kernel)]; exact ⟨rfl, rfl⟩))
    (fun os started H enc _ => cmakes_lifted os started H enc)
theorem cmakes_holds : Rows.CertificateMakesCardSaid :=
  Claim7.holds_tied_plain_at .later [] [.data, .data, .data, .data, .sentinel, .sentinel, .pinned] true _ true
    cmakes_row (fun _ h => by cases h) (by kernel_rfl) (fun _ h => by cases h) certificateMakes_row_tie rfl ⟨rfl, rfl⟩ (by kernel_rfl) rfl
    (fun f fn hf hfn => by
      obtain rfl : f = 4 := Option.some.inj ((show Tryz.prog.funcNamed Tryz.f4.name = some 4 from cmakes_k5).symm.trans hf) |>.symm
      obtain rfl : fn = Tryz.f4 := (Option.some.inj (Tryz.func4.symm.trans hfn)).symm
      exact ⟨by kernel_rfl, fun j t htj => by
        have hm := Array.mem_of_getElem? htj
        have hall : (Tryz.f4.params.toList.all fun u => !Tryz.prog.wantsStandIn u) = true := by kernel_rfl
        exact (show Tryz.prog.wantsStandIn t = false by simpa using List.all_eq_true.1 hall t (by simpa using hm))⟩)
    (by kernel_rfl)
end Go.Proofs.YtmalhidldgfeoaaGreatDoor
