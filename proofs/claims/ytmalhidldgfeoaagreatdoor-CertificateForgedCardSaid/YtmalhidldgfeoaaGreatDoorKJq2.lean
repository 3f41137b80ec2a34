/- The law CertificateForged returns true at every input, and its arguments read behind the call as they read before: the statement Rows.CertificateForgedCardSaid. Condition: the listed package-level variables start as the program's text lays them, to which the card ties them. -/
import Derived.Test.YtmalhidldgfeoaaGreatDoorRows
import Derived.Test.YtmalhidldgfeoaaGreatDoorCards
import Derived.Test.YtmalhidldgfeoaaGreatDoorTie
import Derived.SevenTiedAt
import Derived.Test.YtmalhidldgfeoaaGreatDoorQ6
namespace Go.Proofs.YtmalhidldgfeoaaGreatDoor
open Go.ChangeShapes Go.WideShapes Go.ChangeAt Go.RowKit Go.Eng
open Go.ChangeMaps (open_string)

set_option maxRecDepth 100000 in
theorem cforged_lifted (os : Os) (started : os.Started) (H : Type) (enc : TypeId × Value → H) :
    ReturnsInHanded {} Tryz.checked os 7 .any (fun w args => (Rows.certificateForgedSpec.pre enc Tryz.prog Tryz.f7 [] false w args ∧ laidMetH Tryz.prog JA w) ∧ sizedMet enc Tryz.prog Tryz.f7 (OpenSpec.ofChange Rows.certificateForgedSpec) false w args)
      (Rows.certificateForgedSpec.post enc Tryz.prog Tryz.f7 false true false false) := by
  refine Jh (C := Tryz.checked) (X := fun w => laidMetH Tryz.prog JA w) (fun _ _ hh h => h.of_heap hh) Tryz.own started (by kernel_rfl) Tryz.func7
    (ChangeSpec.witness_shaped (enc := enc) (C := Tryz.checked) (os := os) (X := fun w _ => laidMetH Tryz.prog JA w) false (VG os) #[.agg #[.int .i64 0, .slice none 0 0, .int .i64 0, .int .i64 0, .slice none 0 0, .slice none 0 0], .slice none 0 0, .agg #[.int .i64 0, .int .i64 0, .slice none 0 0], .int .u8 0, .int .u8 0, .int .u8 0] 8 rfl (Jp os _) (by kernel_rfl) (by kernel_rfl) (by kernel_rfl) (V9 os _)) ?_
  intro W base args ds gs before hval0 hW hL hsh
  have hval : ∀ (j : Nat) t v, Tryz.f7.params[j]? = some t → args[j]? = some v → Value.okWide Tryz.prog W .any base t v := hval0
  have hW' : DataW.Whole enc Tryz.prog Tryz.f7.params.toList Rows.certificateForgedSpec.vars false W args.toList ds gs before := hW
  obtain ⟨p, q, hA0, hV, rfl, hfz, hnd⟩ := hW
  have hA : DataW.TrodAll enc Tryz.prog W 0 (fun _ => true) true Tryz.f7.params.toList args.toList ds p := hA0
  obtain ⟨rfl, rfl⟩ := trodVars_none hV
  rw [Tryz.params7] at hA hval
  obtain ⟨v0, v1, v2, v3, v4, v5, d0, d1, d2, d3, d4, d5, p0, p1, p2, p3, p4, p5, rfl, rfl, rfl, h0, h1, h2, h3, h4, h5⟩ := Ydd hA
  obtain ⟨n, rfl, hn⟩ := Yc1 (hval 0 _ v0 rfl rfl) h0
  obtain ⟨q, rfl, hq⟩ := Yan (hval 1 _ v1 rfl rfl) h1
  obtain ⟨s, rfl, hs⟩ := Yce (hval 2 _ v2 rfl rfl) h2
  obtain ⟨wh, rfl, -, -, hwwh⟩ := open_int Tryz.underlying5 (hval 3 _ v3 rfl rfl) h3
  have hwh := Ygh hwwh
  obtain ⟨wr, rfl, -, -, hwwr⟩ := open_int Tryz.underlying5 (hval 4 _ v4 rfl rfl) h4
  have hwr := Ygh hwwr
  obtain ⟨ad, rfl, -, -, hwad⟩ := open_int Tryz.underlying5 (hval 5 _ v5 rfl rfl) h5
  have had := Ygh hwad
  have ht := Yd6 hL hsh
  refine (Yba n q.xs s wh wr ad (A := q.A) (cap := q.cap) ht hn.In (Yfw hq) hs.old.rd hs.few hwh hwr had (St.start W)).mono ?_
  rintro e' W' ⟨v, K, rfl, hst, rfl, -⟩
  exact ⟨_, rfl, YaK Tryz.laidOut (by kernel_rfl) rfl rfl Tryz.underlying4 hW' hst.below rfl rfl rfl⟩
theorem cforged_k1 : (Rows.certificateForgedRow.inPlace == Tryz.pinned.checked.prog.inPlace 7) = true := by kernel_rfl
theorem cforged_k2 : (Rows.certificateForgedRow.unfollowed == Tryz.pinned.checked.prog.unfollowed 7) = true := by kernel_rfl
theorem cforged_k3 : (Rows.certificateForgedRow.recurses == Tryz.pinned.checked.prog.recurses 7) = true := by kernel_rfl
theorem cforged_k4 : (Rows.certificateForgedRow.named == Tryz.pinned.checked.prog.varsNamed 7) = true := by kernel_rfl
theorem cforged_k5 : Tryz.pinned.checked.prog.funcNamed Rows.certificateForgedRow.func = some 7 := by kernel_rfl
theorem cforged_k6 : mapsRowed Tryz.pinned.checked.prog = true := by kernel_rfl
theorem cforged_k7 : Tryz.pinned.checked.prog.stopsHeard = true := by kernel_rfl
theorem cforged_k8 : Tryz.pinned.checked.prog.mayEnter = true := by kernel_rfl
theorem cforged_k9 : (Rows.certificateForgedRow.lifted == Tryz.pinned.checked.prog.liftsFinal) = true := by kernel_rfl
theorem cforged_k0 : (Tryz.pinned.checked.prog.make == some Rows.certificateForgedRow.make) = true := by kernel_rfl
theorem cforged_facts : joinedFacts Tryz.pinned.checked.prog 7 Tryz.f7 Rows.certificateForgedSpec Rows.certificateForgedRow = true := by
  unfold joinedFacts
  rw [cforged_k1, cforged_k2, cforged_k3, cforged_k4, show laidOutB Tryz.pinned.checked.prog = true from Tryz.laidOut, cforged_k6, cforged_k7, cforged_k8, cforged_k9, cforged_k0]
  kernel_rfl
theorem cforged_row : Rows.CertificateForgedSaid :=
  OpenClaim.holds_of_wide 7 Tryz.f7 rfl rfl rfl rfl rfl rfl rfl ⟨rfl, rfl, rfl, rfl, rfl⟩ rfl rfl rfl rfl rfl cforged_k5 Tryz.func7 cforged_facts
    (of_decide_eq_true (by kernel_rfl)) (by unfold Func.isWrapper; first | (rw [if_pos (by decide +kernel)]; kernel_rfl) | (rw [if_neg (by decide +kernel)]; exact ⟨rfl, rfl⟩))
    (fun os started H enc _ => cforged_lifted os started H enc)
theorem cforged_holds : Rows.CertificateForgedCardSaid :=
  Claim7.holds_tied_plain_at .later [] [.data, .data, .data, .data, .sentinel, .sentinel, .pinned] true _ true
    cforged_row (fun _ h => by cases h) (by kernel_rfl) (fun _ h => by cases h) certificateForged_row_tie rfl ⟨rfl, rfl⟩ (by kernel_rfl) rfl
    (fun f fn hf hfn => by
      obtain rfl : f = 7 := Option.some.inj ((show Tryz.prog.funcNamed Tryz.f7.name = some 7 from cforged_k5).symm.trans hf) |>.symm
      obtain rfl : fn = Tryz.f7 := (Option.some.inj (Tryz.func7.symm.trans hfn)).symm
      exact ⟨by kernel_rfl, fun j t htj => by
        have hm := Array.mem_of_getElem? htj
        have hall : (Tryz.f7.params.toList.all fun u => !Tryz.prog.wantsStandIn u) = true := by kernel_rfl
        exact (show Tryz.prog.wantsStandIn t = false by simpa using List.all_eq_true.1 hall t (by simpa using hm))⟩)
    (by kernel_rfl)
end Go.Proofs.YtmalhidldgfeoaaGreatDoor
