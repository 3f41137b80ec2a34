/- The law CertificateChecks returns true at every input, and its arguments read behind the call as they read before: the statement Rows.CertificateChecksCardSaid. Condition: the listed package-level variables start as the program's text lays them, to which the card ties them. -/
import Derived.Test.YtmalhidldgfeoaaGreatDoorRows
import Derived.Test.YtmalhidldgfeoaaGreatDoorCards
import Derived.Test.YtmalhidldgfeoaaGreatDoorTie
import Derived.SevenTiedAt
import Derived.Test.YtmalhidldgfeoaaGreatDoorQ6
namespace Go.Proofs.YtmalhidldgfeoaaGreatDoor
open Go.ChangeShapes Go.WideShapes Go.ChangeAt Go.RowKit Go.Eng
open Go.ChangeMaps (open_string)

set_option maxRecDepth 100000 in
theorem cchecks_lifted (os : Os) (started : os.Started) (H : Type) (enc : TypeId × Value → H) :
    ReturnsInHanded {} Tryz.checked os 5 .any (fun w args => (Rows.certificateChecksSpec.pre enc Tryz.prog Tryz.f5 [] false w args ∧ laidMetH Tryz.prog QX w) ∧ sizedMet enc Tryz.prog Tryz.f5 (OpenSpec.ofChange Rows.certificateChecksSpec) false w args)
      (Rows.certificateChecksSpec.post enc Tryz.prog Tryz.f5 false true false false) := by
  refine Ye7 (C := Tryz.checked) (X := fun w => laidMetH Tryz.prog QX w) (fun _ _ hh h => h.of_heap hh) Tryz.own started (by kernel_rfl) Tryz.func5
    (ChangeSpec.witness_shaped (enc := enc) (C := Tryz.checked) (os := os) (X := fun w _ => laidMetH Tryz.prog QX w) false (Ybv os) #[.agg #[.int .i64 0, .slice none 0 0, .int .i64 0, .int .i64 0, .slice none 0 0, .slice none 0 0], .slice none 0 0, .agg #[.int .i64 0, .int .i64 0, .slice none 0 0], .slice none 0 0] 8 rfl (YfG os _) (by kernel_rfl) (by kernel_rfl) (by kernel_rfl) (YhI os _)) ?_
  intro W base args ds gs before hval0 hW hL hsh
  have hval : ∀ (j : Nat) t v, Tryz.f5.params[j]? = some t → args[j]? = some v → Value.okWide Tryz.prog W .any base t v := hval0
  have hW' : DataW.Whole enc Tryz.prog Tryz.f5.params.toList Rows.certificateChecksSpec.vars false W args.toList ds gs before := hW
  obtain ⟨p, q, hA0, hV, rfl, hfz, hnd⟩ := hW
  have hA : DataW.TrodAll enc Tryz.prog W 0 (fun _ => true) true Tryz.f5.params.toList args.toList ds p := hA0
  obtain ⟨rfl, rfl⟩ := trodVars_none hV
  rw [Tryz.params5] at hA hval
  obtain ⟨v0, v1, v2, v3, d0, d1, d2, d3, p0, p1, p2, p3, rfl, rfl, rfl, h0, h1, h2, h3⟩ := trodAll_four hA
  obtain ⟨n, rfl, hn⟩ := Yj8 (hval 0 _ v0 rfl rfl) h0
  obtain ⟨q, rfl, hq⟩ := Yjy (hval 1 _ v1 rfl rfl) h1
  obtain ⟨s, rfl, hs⟩ := Yj9 (hval 2 _ v2 rfl rfl) h2
  obtain ⟨c, rfl, hc⟩ := Yjx (hval 3 _ v3 rfl rfl) h3
  have ht := tabs_of hL hsh
  refine (Yib n q.xs s c.xs (A := q.A) (cap := q.cap) (A1 := c.A) (cap1 := c.cap) ht hn.In (req_bg hq) hs.old.rd hs.few (cert_bg hc) (St.start W)).mono ?_
  rintro e' W' ⟨v, K, rfl, hst, rfl, -⟩
  exact ⟨_, rfl, Yjz Tryz.laidOut (by kernel_rfl) rfl rfl Tryz.underlying4 hW' hst.below rfl rfl rfl⟩
theorem cchecks_k1 : (Rows.certificateChecksRow.inPlace == Tryz.pinned.checked.prog.inPlace 5) = true := by kernel_rfl
theorem cchecks_k2 : (Rows.certificateChecksRow.unfollowed == Tryz.pinned.checked.prog.unfollowed 5) = true := by kernel_rfl
theorem cchecks_k3 : (Rows.certificateChecksRow.recurses == Tryz.pinned.checked.prog.recurses 5) = true := by kernel_rfl
theorem cchecks_k4 : (Rows.certificateChecksRow.named == Tryz.pinned.checked.prog.varsNamed 5) = true := by kernel_rfl
theorem cchecks_k5 : Tryz.pinned.checked.prog.funcNamed Rows.certificateChecksRow.func = some 5 := by kernel_rfl
theorem cchecks_k6 : mapsRowed Tryz.pinned.checked.prog = true := by kernel_rfl
theorem cchecks_k7 : Tryz.pinned.checked.prog.stopsHeard = true := by kernel_rfl
theorem cchecks_k8 : Tryz.pinned.checked.prog.mayEnter = true := by kernel_rfl
theorem cchecks_k9 : (Rows.certificateChecksRow.lifted == Tryz.pinned.checked.prog.liftsFinal) = true := by kernel_rfl
theorem cchecks_k0 : (Tryz.pinned.checked.prog.make == some Rows.certificateChecksRow.make) = true := by kernel_rfl
theorem cchecks_facts : joinedFacts Tryz.pinned.checked.prog 5 Tryz.f5 Rows.certificateChecksSpec Rows.certificateChecksRow = true := by
  unfold joinedFacts
  rw [cchecks_k1, cchecks_k2, cchecks_k3, cchecks_k4, show laidOutB Tryz.pinned.checked.prog = true from Tryz.laidOut, cchecks_k6, cchecks_k7, cchecks_k8, cchecks_k9, cchecks_k0]
  kernel_rfl
theorem cchecks_row : Rows.CertificateChecksSaid :=
  OpenClaim.holds_of_wide 5 Tryz.f5 rfl rfl rfl rfl rfl rfl rfl ⟨rfl, rfl, rfl, rfl, rfl⟩ rfl rfl rfl rfl rfl cchecks_k5 Tryz.func5 cchecks_facts
    (of_decide_eq_true (by kernel_rfl)) (by unfold Func.isWrapper; first | (rw [if_pos (by decide +kernel)]; kernel_rfl) | (rw [if_neg (by decide +kernel)]; exact ⟨rfl, rfl⟩))
    (fun os started H enc _ => cchecks_lifted os started H enc)
theorem cchecks_holds : Rows.CertificateChecksCardSaid :=
  Claim7.holds_tied_plain_at .later [] [.data, .data, .data, .data, .sentinel, .sentinel, .pinned] true _ true
    cchecks_row (fun _ h => by cases h) (by kernel_rfl) (fun _ h => by cases h) certificateChecks_row_tie rfl ⟨rfl, rfl⟩ (by kernel_rfl) rfl
    (fun f fn hf hfn => by
      obtain rfl : f = 5 := Option.some.inj ((show Tryz.prog.funcNamed Tryz.f5.name = some 5 from cchecks_k5).symm.trans hf) |>.symm
      obtain rfl : fn = Tryz.f5 := (Option.some.inj (Tryz.func5.symm.trans hfn)).symm
      exact ⟨by kernel_rfl, fun j t htj => by
        have hm := Array.mem_of_getElem? htj
        have hall : (Tryz.f5.params.toList.all fun u => !Tryz.prog.wantsStandIn u) = true := by kernel_rfl
        exact (show Tryz.prog.wantsStandIn t = false by simpa using List.all_eq_true.1 hall t (by simpa using hm))⟩)
    (by kernel_rfl)
end Go.Proofs.YtmalhidldgfeoaaGreatDoor
