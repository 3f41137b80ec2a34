/- The law CertificateKept returns true at every input, and its arguments read behind the call as they read before: the statement Rows.CertificateKeptCardSaid. Condition: the listed package-level variables start as the program's text lays them, to which the card ties them. -/
import Derived.Test.YtmalhidldgfeoaaGreatDoorRows
import Derived.Test.YtmalhidldgfeoaaGreatDoorCards
import Derived.Test.YtmalhidldgfeoaaGreatDoorTie
import Derived.SevenTiedAt
import Derived.Test.YtmalhidldgfeoaaGreatDoorQ6
namespace Go.Proofs.YtmalhidldgfeoaaGreatDoor
open Go.ChangeShapes Go.WideShapes Go.ChangeAt Go.RowKit Go.Eng
open Go.ChangeMaps (open_string)

set_option maxRecDepth 100000 in
theorem ckept_lifted (os : Os) (started : os.Started) (H : Type) (enc : TypeId × Value → H) :
    ReturnsInHanded {} Tryz.checked os 10 .any (fun w args => (Rows.certificateKeptSpec.pre enc Tryz.prog Tryz.f10 [] false w args ∧ laidMetH Tryz.prog Yah w) ∧ sizedMet enc Tryz.prog Tryz.f10 (OpenSpec.ofChange Rows.certificateKeptSpec) false w args)
      (Rows.certificateKeptSpec.post enc Tryz.prog Tryz.f10 false true false false) := by
  refine Ygm (C := Tryz.checked) (X := fun w => laidMetH Tryz.prog Yah w) (fun _ _ hh h => h.of_heap hh) Tryz.own started (by kernel_rfl) Tryz.func10
    (ChangeSpec.witness_shaped (enc := enc) (C := Tryz.checked) (os := os) (X := fun w _ => laidMetH Tryz.prog Yah w) false (YbV os) #[.agg #[.int .i64 0, .slice none 0 0, .int .i64 0, .int .i64 0, .slice none 0 0, .slice none 0 0], .slice none 0 0, .agg #[.int .i64 0, .int .i64 0, .slice none 0 0], .slice none 0 0] 8 rfl (Yhd os _) (by kernel_rfl) (by kernel_rfl) (by kernel_rfl) (Yjt os _)) ?_
  intro W base args ds gs before hval0 hW hL hsh
  have hval : ∀ (j : Nat) t v, Tryz.f10.params[j]? = some t → args[j]? = some v → Value.okWide Tryz.prog W .any base t v := hval0
  have hW' : DataW.Whole enc Tryz.prog Tryz.f10.params.toList Rows.certificateKeptSpec.vars false W args.toList ds gs before := hW
  obtain ⟨p, q, hA0, hV, rfl, hfz, hnd⟩ := hW
  have hA : DataW.TrodAll enc Tryz.prog W 0 (fun _ => true) true Tryz.f10.params.toList args.toList ds p := hA0
  obtain ⟨rfl, rfl⟩ := trodVars_none hV
  rw [Tryz.params10] at hA hval
  obtain ⟨v0, v1, v2, v3, d0, d1, d2, d3, p0, p1, p2, p3, rfl, rfl, rfl, h0, h1, h2, h3⟩ := trodAll_four hA
  obtain ⟨n, rfl, hn⟩ := Ymd (hval 0 _ v0 rfl rfl) h0
  obtain ⟨q, rfl, hq⟩ := Yly (hval 1 _ v1 rfl rfl) h1
  obtain ⟨s, rfl, hs⟩ := Yme (hval 2 _ v2 rfl rfl) h2
  obtain ⟨x, rfl, hx⟩ := YkR (hval 3 _ v3 rfl rfl) h3
  have ht := tabs_of hL hsh
  refine (Yld n q.xs s x.xs (A := q.A) (cap := q.cap) (xA := x.A) (xc := x.cap) ht hn.In (req_bg hq) hs.old.rd hs.few (YlA hx) (Yll hx) (St.start W)).mono ?_
  rintro e' W' ⟨v, K, rfl, hst, rfl, -⟩
  exact ⟨_, rfl, Ylz Tryz.laidOut (by kernel_rfl) rfl rfl Tryz.underlying4 hW' hst.below rfl rfl rfl⟩
theorem ckept_k1 : (Rows.certificateKeptRow.inPlace == Tryz.pinned.checked.prog.inPlace 10) = true := by kernel_rfl
theorem ckept_k2 : (Rows.certificateKeptRow.unfollowed == Tryz.pinned.checked.prog.unfollowed 10) = true := by kernel_rfl
theorem ckept_k3 : (Rows.certificateKeptRow.recurses == Tryz.pinned.checked.prog.recurses 10) = true := by kernel_rfl
theorem ckept_k4 : (Rows.certificateKeptRow.named == Tryz.pinned.checked.prog.varsNamed 10) = true := by kernel_rfl
theorem ckept_k5 : Tryz.pinned.checked.prog.funcNamed Rows.certificateKeptRow.func = some 10 := by kernel_rfl
theorem ckept_k6 : mapsRowed Tryz.pinned.checked.prog = true := by kernel_rfl
theorem ckept_k7 : Tryz.pinned.checked.prog.stopsHeard = true := by kernel_rfl
theorem ckept_k8 : Tryz.pinned.checked.prog.mayEnter = true := by kernel_rfl
theorem ckept_k9 : (Rows.certificateKeptRow.lifted == Tryz.pinned.checked.prog.liftsFinal) = true := by kernel_rfl
theorem ckept_k0 : (Tryz.pinned.checked.prog.make == some Rows.certificateKeptRow.make) = true := by kernel_rfl
theorem ckept_facts : joinedFacts Tryz.pinned.checked.prog 10 Tryz.f10 Rows.certificateKeptSpec Rows.certificateKeptRow = true := by
  unfold joinedFacts
  rw [ckept_k1, ckept_k2, ckept_k3, ckept_k4, show laidOutB Tryz.pinned.checked.prog = true from Tryz.laidOut, ckept_k6, ckept_k7, ckept_k8, ckept_k9, ckept_k0]
  kernel_rfl
theorem ckept_row : Rows.CertificateKeptSaid :=
  OpenClaim.holds_of_wide 10 Tryz.f10 rfl rfl rfl rfl rfl rfl rfl ⟨rfl, rfl, rfl, rfl, rfl⟩ rfl rfl rfl rfl rfl ckept_k5 Tryz.func10 ckept_facts
    (of_decide_eq_true (by kernel_rfl)) (by unfold Func.isWrapper; first | (rw [if_pos (by decide +kernel)]; kernel_rfl) | (rw [if_neg (by decide +kernel)]; exact ⟨rfl, rfl⟩))
    (fun os started H enc _ => ckept_lifted os started H enc)
theorem ckept_holds : Rows.CertificateKeptCardSaid :=
  Claim7.holds_tied_plain_at .later [] [.data, .data, .data, .data, .sentinel, .sentinel, .pinned] true _ true
    ckept_row (fun _ h => by cases h) (by kernel_rfl) (fun _ h => by cases h) certificateKept_row_tie rfl ⟨rfl, rfl⟩ (by kernel_rfl) rfl
    (fun f fn hf hfn => by
      obtain rfl : f = 10 := Option.some.inj ((show Tryz.prog.funcNamed Tryz.f10.name = some 10 from ckept_k5).symm.trans hf) |>.symm
      obtain rfl : fn = Tryz.f10 := (Option.some.inj (Tryz.func10.symm.trans hfn)).symm
      exact ⟨by kernel_rfl, fun j t htj => by
        have hm := Array.mem_of_getElem? htj
        have hall : (Tryz.f10.params.toList.all fun u => !Tryz.prog.wantsStandIn u) = true := by kernel_rfl
        exact (show Tryz.prog.wantsStandIn t = false by simpa using List.all_eq_true.1 hall t (by simpa using hm))⟩)
    (by kernel_rfl)
end Go.Proofs.YtmalhidldgfeoaaGreatDoor
