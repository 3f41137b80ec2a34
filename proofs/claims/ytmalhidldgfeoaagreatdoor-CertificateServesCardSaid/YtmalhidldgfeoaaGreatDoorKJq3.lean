/- The law CertificateServes returns true at every input, and its arguments read behind the call as they read before: the statement Rows.CertificateServesCardSaid. Condition: the listed package-level variables start as the program's text lays them, to which the card ties them. -/
import Derived.Test.YtmalhidldgfeoaaGreatDoorRows
import Derived.Test.YtmalhidldgfeoaaGreatDoorCards
import Derived.Test.YtmalhidldgfeoaaGreatDoorTie
import Derived.SevenTiedAt
import Derived.Test.YtmalhidldgfeoaaGreatDoorQ6
namespace Go.Proofs.YtmalhidldgfeoaaGreatDoor
open Go.ChangeShapes Go.WideShapes Go.ChangeAt Go.RowKit Go.Eng
open Go.ChangeMaps (open_string)

set_option maxRecDepth 100000 in
theorem cserves_lifted (os : Os) (started : os.Started) (H : Type) (enc : TypeId × Value → H) :
    ReturnsInHanded {} Tryz.checked os 9 .any (fun w args => (Rows.certificateServesSpec.pre enc Tryz.prog Tryz.f9 [] false w args ∧ laidMetH Tryz.prog JA w) ∧ sizedMet enc Tryz.prog Tryz.f9 (OpenSpec.ofChange Rows.certificateServesSpec) false w args)
      (Rows.certificateServesSpec.post enc Tryz.prog Tryz.f9 false true false false) := by
  refine Jh (C := Tryz.checked) (X := fun w => laidMetH Tryz.prog JA w) (fun _ _ hh h => h.of_heap hh) Tryz.own started (by kernel_rfl) Tryz.func9
    (ChangeSpec.witness_shaped (enc := enc) (C := Tryz.checked) (os := os) (X := fun w _ => laidMetH Tryz.prog JA w) false (VG os) #[.agg #[.int .i64 0, .slice none 0 0, .int .i64 0, .int .i64 0, .slice none 0 0, .slice none 0 0], .slice none 0 0, .agg #[.int .i64 0, .int .i64 0, .slice none 0 0]] 8 rfl (Jp os _) (by kernel_rfl) (by kernel_rfl) (by kernel_rfl) (V9 os _)) ?_
  intro W base args ds gs before hval0 hW hL hsh
  have hval : ∀ (j : Nat) t v, Tryz.f9.params[j]? = some t → args[j]? = some v → Value.okWide Tryz.prog W .any base t v := hval0
  have hW' : DataW.Whole enc Tryz.prog Tryz.f9.params.toList Rows.certificateServesSpec.vars false W args.toList ds gs before := hW
  obtain ⟨p, q, hA0, hV, rfl, hfz, hnd⟩ := hW
  have hA : DataW.TrodAll enc Tryz.prog W 0 (fun _ => true) true Tryz.f9.params.toList args.toList ds p := hA0
  obtain ⟨rfl, rfl⟩ := trodVars_none hV
  rw [Tryz.params9] at hA hval
  obtain ⟨v0, v1, v2, d0, d1, d2, p0, p1, p2, rfl, rfl, rfl, h0, h1, h2⟩ := trodAll_three hA
  obtain ⟨n, rfl, hn⟩ := Yc1 (hval 0 _ v0 rfl rfl) h0
  obtain ⟨q, rfl, hq⟩ := Yan (hval 1 _ v1 rfl rfl) h1
  obtain ⟨s, rfl, hs⟩ := Yce (hval 2 _ v2 rfl rfl) h2
  have ht := Yd6 hL hsh
  refine (YbA n q.xs s (A := q.A) (cap := q.cap) ht hn.In (Yfw hq) hs.old.rd hs.few (St.start W)).mono ?_
  rintro e' W' ⟨v, K, rfl, hst, rfl, -⟩
  exact ⟨_, rfl, YaK Tryz.laidOut (by kernel_rfl) rfl rfl Tryz.underlying4 hW' hst.below rfl rfl rfl⟩
theorem cserves_k1 : (Rows.certificateServesRow.inPlace == Tryz.pinned.checked.prog.inPlace 9) = true := by kernel_rfl
theorem cserves_k2 : (Rows.certificateServesRow.unfollowed == Tryz.pinned.checked.prog.unfollowed 9) = true := by kernel_rfl
theorem cserves_k3 : (Rows.certificateServesRow.recurses == Tryz.pinned.checked.prog.recurses 9) = true := by kernel_rfl
theorem cserves_k4 : (Rows.certificateServesRow.named == Tryz.pinned.checked.prog.varsNamed 9) = true := by kernel_rfl
theorem cserves_k5 : Tryz.pinned.checked.prog.funcNamed Rows.certificateServesRow.func = some 9 := by kernel_rfl
theorem cserves_k6 : mapsRowed Tryz.pinned.checked.prog = true := by kernel_rfl
theorem cserves_k7 : Tryz.pinned.checked.prog.stopsHeard = true := by kernel_rfl
theorem cserves_k8 : Tryz.pinned.checked.prog.mayEnter = true := by kernel_rfl
theorem cserves_k9 : (Rows.certificateServesRow.lifted == Tryz.pinned.checked.prog.liftsFinal) = true := by kernel_rfl
theorem cserves_k0 : (Tryz.pinned.checked.prog.make == some Rows.certificateServesRow.make) = true := by kernel_rfl
theorem cserves_facts : joinedFacts Tryz.pinned.checked.prog 9 Tryz.f9 Rows.certificateServesSpec Rows.certificateServesRow = true := by
  unfold joinedFacts
  rw [cserves_k1, cserves_k2, cserves_k3, cserves_k4, show laidOutB Tryz.pinned.checked.prog = true from Tryz.laidOut, cserves_k6, cserves_k7, cserves_k8, cserves_k9, cserves_k0]
  kernel_rfl
theorem cserves_row : Rows.CertificateServesSaid :=
  OpenClaim.holds_of_wide 9 Tryz.f9 rfl rfl rfl rfl rfl rfl rfl ⟨rfl, rfl, rfl, rfl, rfl⟩ rfl rfl rfl rfl rfl cserves_k5 Tryz.func9 cserves_facts
    (of_decide_eq_true (by kernel_rfl)) (by unfold Func.isWrapper; first | (rw [if_pos (by decide +kernel)]; kernel_rfl) | (rw [if_neg (by decide +kernel)]; exact ⟨rfl, rfl⟩))
    (fun os started H enc _ => cserves_lifted os started H enc)
theorem cserves_holds : Rows.CertificateServesCardSaid :=
  Claim7.holds_tied_plain_at .later [] [.data, .data, .data, .data, .sentinel, .sentinel, .pinned] true _ true
    cserves_row (fun _ h => by cases h) (by kernel_rfl) (fun _ h => by cases h) certificateServes_row_tie rfl ⟨rfl, rfl⟩ (by kernel_rfl) rfl
    (fun f fn hf hfn => by
      obtain rfl : f = 9 := Option.some.inj ((show Tryz.prog.funcNamed Tryz.f9.name = some 9 from cserves_k5).symm.trans hf) |>.symm
      obtain rfl : fn = Tryz.f9 := (Option.some.inj (Tryz.func9.symm.trans hfn)).symm
      exact ⟨by kernel_rfl, fun j t htj => by
        have hm := Array.mem_of_getElem? htj
        have hall : (Tryz.f9.params.toList.all fun u => !Tryz.prog.wantsStandIn u) = true := by kernel_rfl
        exact (show Tryz.prog.wantsStandIn t = false by simpa using List.all_eq_true.1 hall t (by simpa using hm))⟩)
    (by kernel_rfl)
end Go.Proofs.YtmalhidldgfeoaaGreatDoor
