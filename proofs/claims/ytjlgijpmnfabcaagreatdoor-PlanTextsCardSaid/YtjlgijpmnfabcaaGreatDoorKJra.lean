/- The law PlanTexts returns true at every input, and its arguments read behind the call as they read before: the statement Rows.PlanTextsCardSaid. Condition: the listed package-level variables start as the program's text lays them, to which the card ties them. -/
import Derived.Test.YtjlgijpmnfabcaaGreatDoorRows
import Derived.Test.YtjlgijpmnfabcaaGreatDoorCards
import Derived.Test.YtjlgijpmnfabcaaGreatDoorTie
import Derived.SevenTiedAt
import GoSem.ClaimGoes
import Derived.Test.YtjlgijpmnfabcaaGreatDoorQ22
namespace Go.Proofs.YtjlgijpmnfabcaaGreatDoor
open Go.ChangeShapes Go.WideShapes Go.ChangeAt Go.RowKit Go.Eng
open Go.ChangeMaps (open_string)
set_option maxRecDepth 100000 in
theorem ptexts_lifted(os:Os)(started:os.Started)(H:Type)(enc:TypeId×Value→H):
 ReturnsInHanded {} Tryz.checked os 3 .any (fun w args=>(Rows.planTextsSpec.pre enc Tryz.prog Tryz.f3 [] false w args∧laidMetH Tryz.prog YhS w)∧sizedMet enc Tryz.prog Tryz.f3 (OpenSpec.ofChange Rows.planTextsSpec) false w args)
  (Rows.planTextsSpec.post enc Tryz.prog Tryz.f3 false true false false):=by
 refine Ylw (C:=Tryz.checked) (X:=fun w=>laidMetH Tryz.prog YhS w) (fun _ _ hh h=>h.of_heap hh) Tryz.own started (by kernel_rfl) Tryz.func3
  (ChangeSpec.witness_shaped (enc:=enc) (C:=Tryz.checked) (os:=os) (X:=fun w _=>laidMetH Tryz.prog YhS w) false (YeQ os) #[.agg #[.int .i64 0,.slice none 0 0,.int .i64 0,.int .i64 0,.slice none 0 0,.slice none 0 0,.slice none 0 0,.int .i64 0,.int .i64 0,.slice none 0 0,.slice none 0 0,.slice none 0 0],.agg #[.int .i64 0,.slice none 0 0,.int .i64 0,.int .i64 0,.slice none 0 0,.slice none 0 0,.slice none 0 0,.int .i64 0,.int .i64 0,.slice none 0 0,.slice none 0 0,.slice none 0 0]] 8 rfl (Ynb os _) (by kernel_rfl) (by kernel_rfl) (by kernel_rfl) (YqN os _)) ?_
 intro W base args ds gs before hval0 hW hL hsh
 have hval:∀(j:Nat) t v,Tryz.f3.params[j]? =some t→args[j]? =some v→Value.okWide Tryz.prog W .any base t v:=hval0
 have hW':DataW.Whole enc Tryz.prog Tryz.f3.params.toList Rows.planTextsSpec.vars false W args.toList ds gs before:=hW
 obtain⟨p,q,hA0,hV,rfl,hfz,hnd⟩:=hW
 have hA:DataW.TrodAll enc Tryz.prog W 0 (fun _=>true) true Tryz.f3.params.toList args.toList ds p:=hA0
 obtain⟨rfl,rfl⟩:=trodVars_none hV
 rw[Tryz.params3]at hA hval
 obtain⟨v0,v1,d0,d1,p0,p1,rfl,rfl,rfl,h0,h1⟩:=trodAll_two hA
 obtain⟨pl,rfl,hpl⟩:=YvV (hval 0 _ v0 rfl rfl) h0
 obtain⟨pm,rfl,hpm⟩:=YvV (hval 1 _ v1 rfl rfl) h1
 have ht:=tabs_of hL hsh
 refine(YsW pl pm ht hpl.bg hpm.bg (St.start W)).mono ?_
 rintro e' W' ⟨v,K,rfl,hst,rfl,-⟩
 exact⟨_,rfl,YuR Tryz.laidOut (by kernel_rfl) rfl rfl Tryz.underlying4 hW' hst.below rfl rfl rfl⟩
theorem ptexts_k1:(Rows.planTextsRow.inPlace==Tryz.pinned.checked.prog.inPlace 3)=true:=by kernel_rfl
theorem ptexts_k2:(Rows.planTextsRow.unfollowed==Tryz.pinned.checked.prog.unfollowed 3)=true:=by kernel_rfl
theorem ptexts_k3:(Rows.planTextsRow.recurses==Tryz.pinned.checked.prog.recurses 3)=true:=by kernel_rfl
theorem ptexts_k4:(Rows.planTextsRow.named==Tryz.pinned.checked.prog.varsNamed 3)=true:=by kernel_rfl
theorem ptexts_k5:Tryz.pinned.checked.prog.funcNamed Rows.planTextsRow.func=some 3:=by kernel_rfl
theorem ptexts_k6:mapsRowed Tryz.pinned.checked.prog=true:=by kernel_rfl
theorem ptexts_k7:Tryz.pinned.checked.prog.stopsHeard=true:=by kernel_rfl
theorem ptexts_k8:Tryz.pinned.checked.prog.mayEnter=true:=by kernel_rfl
theorem ptexts_k9:(Rows.planTextsRow.lifted==Tryz.pinned.checked.prog.liftsFinal)=true:=by kernel_rfl
theorem ptexts_k0:(Tryz.pinned.checked.prog.make==some Rows.planTextsRow.make)=true:=by kernel_rfl
theorem ptexts_facts:joinedFacts Tryz.pinned.checked.prog 3 Tryz.f3 Rows.planTextsSpec Rows.planTextsRow=true:=by
 unfold joinedFacts
 rw[ptexts_k1,ptexts_k2,ptexts_k3,ptexts_k4,show laidOutB Tryz.pinned.checked.prog=true from Tryz.laidOut,ptexts_k6,ptexts_k7,ptexts_k8,ptexts_k9,ptexts_k0]
 kernel_rfl
theorem ptexts_row:Rows.PlanTextsSaid:=
 OpenClaim.holds_of_wide 3 Tryz.f3 rfl rfl rfl rfl rfl rfl rfl ⟨rfl,rfl,rfl,rfl,rfl⟩ rfl rfl rfl rfl rfl ptexts_k5 Tryz.func3 ptexts_facts
  (of_decide_eq_true (by kernel_rfl)) (by unfold Func.isWrapper;first|(rw[if_pos (by decide+kernel)];kernel_rfl)|(rw[if_neg (by decide+kernel)];exact⟨rfl,rfl⟩))
  (fun os started H enc _=>ptexts_lifted os started H enc)
theorem ptexts_k11:Rows.planTextsRow.wfByText (OpenSpec.ofChange Rows.planTextsSpec)=true:=by kernel_rfl
theorem ptexts_k12:Tryz.pinned.checked.prog.mainIs=some (Rows.planTextsCard.stood.harness.1,Rows.planTextsCard.stood.harness.2.toList):=by kernel_rfl
theorem ptexts_k13:true=Tryz.pinned.checked.prog.looks []:=by kernel_rfl
theorem goes_none{P:Program}(h:P.funcs.toList.any Func.goes=false)(f:FuncId):P.goes f=false:=by
 have h':P.funcs.any Func.goes=false:=by rw[←Array.any_toList];exact h
 unfold Program.goes
 rw[h',Bool.and_false,Bool.or_false,List.any_eq_false]
 intro g _ hg
 cases hf:P.funcs[g]? with
 |none=>rw[hf]at hg;cases hg
 |some fn=>
  rw[hf]at hg
  rw[List.any_eq_false]at h
  exact h fn (Array.mem_toList_iff.2 (Array.mem_of_getElem? hf)) hg
theorem goes_by{P:Program}(h:P.funcs.toList.any Func.goes=false)(c:OpenClaim)(hs:c.start=.entering):false=c.goesBy P:=by
 unfold OpenClaim.goesBy Program.goesAt Program.goesFrom
 rw[hs]
 cases P.funcNamed c.func with
 |none=>rfl
 |some f=>
  show false=(P.goes f||false)
  rw[goes_none h];rfl
theorem ptexts_goes:Tryz.pinned.checked.prog.funcs.toList.any Func.goes=false:=by kernel_rfl
theorem ptexts_k14:false=Rows.planTextsRow.goesBy Tryz.pinned.checked.prog:=goes_by ptexts_goes _ rfl
theorem ptexts_k15:(Tryz.f3.params.toList.all fun u=>!Tryz.prog.wantsStandIn u)=true:=by kernel_rfl
theorem ptexts_holds:Rows.PlanTextsCardSaid:=
 Claim7.holds_tied_plain_at .later [] [.data,.data,.data] true _ true
  ptexts_row (fun _ h=>by cases h) ptexts_k11 (fun _ h=>by cases h) planTexts_row_tie rfl ⟨rfl,rfl⟩ ptexts_k12 rfl
  (fun f fn hf hfn=>by
   obtain rfl:f=3:=Option.some.inj ((show Tryz.prog.funcNamed Tryz.f3.name=some 3 from ptexts_k5).symm.trans hf)|>.symm
   obtain rfl:fn=Tryz.f3:=(Option.some.inj (Tryz.func3.symm.trans hfn)).symm
   exact⟨ptexts_k13,fun j t htj=>by
    have hm:=Array.mem_of_getElem? htj
    exact(show Tryz.prog.wantsStandIn t=false by simpa using List.all_eq_true.1 ptexts_k15 t (by simpa using hm))⟩)
  ptexts_k14
end Go.Proofs.YtjlgijpmnfabcaaGreatDoor
