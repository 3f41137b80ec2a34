/- The law PlanBack returns true at every input, and its arguments read behind the call as they read before: the statement Rows.PlanBackCardSaid. Condition: the listed package-level variables start as the program's text lays them, to which the card ties them. -/
import Derived.Test.YtaholidehobiiaaGreatDoorRows
import Derived.Test.YtaholidehobiiaaGreatDoorCards
import Derived.Test.YtaholidehobiiaaGreatDoorTie
import Derived.SevenTiedAt
import GoSem.ClaimGoes
import Derived.Test.YtaholidehobiiaaGreatDoorQ35
import Derived.Test.YtaholidehobiiaaGreatDoorQ37
namespace Go.Proofs.YtaholidehobiiaaGreatDoor
open Go.ChangeShapes Go.WideShapes Go.ChangeAt Go.RowKit Go.Eng
open Go.ChangeMaps (open_string)
set_option maxRecDepth 100000 in
theorem pback_lifted(os:Os)(started:os.Started)(H:Type)(enc:TypeId×Value→H):
 ReturnsInHanded {} Tryz.checked os 7 .any (fun w args=>(Rows.planBackSpec.pre enc Tryz.prog Tryz.f7 [] false w args∧laidMetH Tryz.prog YjJ w)∧sizedMet enc Tryz.prog Tryz.f7 (OpenSpec.ofChange Rows.planBackSpec) false w args)
  (Rows.planBackSpec.post enc Tryz.prog Tryz.f7 false true false false):=by
 refine Yny (C:=Tryz.checked) (X:=fun w=>laidMetH Tryz.prog YjJ w) (fun _ _ hh h=>h.of_heap hh) Tryz.own started (by kernel_rfl) Tryz.func7
  (ChangeSpec.witness_shaped (enc:=enc) (C:=Tryz.checked) (os:=os) (X:=fun w _=>laidMetH Tryz.prog YjJ w) false (Ygn os) #[.agg #[.int .i64 0,.slice none 0 0,.int .i64 0,.int .i64 0,.slice none 0 0,.slice none 0 0,.slice none 0 0,.int .i64 0,.int .i64 0,.slice none 0 0,.slice none 0 0,.slice none 0 0],.agg #[.int .i64 0,.int .i64 0,.int .i64 0,.int .i64 0,.int .i64 0,.int .i64 0],.int .i64 0] 8 rfl (Ypd os _) (by kernel_rfl) (by kernel_rfl) (by kernel_rfl) (YsS os _)) ?_
 intro W base args ds gs before hval0 hW hL hsh
 have hval:∀(j:Nat) t v,Tryz.f7.params[j]? =some t→args[j]? =some v→Value.okWide Tryz.prog W .any base t v:=hval0
 have hW':DataW.Whole enc Tryz.prog Tryz.f7.params.toList Rows.planBackSpec.vars false W args.toList ds gs before:=hW
 obtain⟨p,q,hA0,hV,rfl,hfz,hnd⟩:=hW
 have hA:DataW.TrodAll enc Tryz.prog W 0 (fun _=>true) true Tryz.f7.params.toList args.toList ds p:=hA0
 obtain⟨rfl,rfl⟩:=trodVars_none hV
 rw[Tryz.params7]at hA hval
 obtain⟨v0,v1,v2,d0,d1,d2,p0,p1,p2,rfl,rfl,rfl,h0,h1,h2⟩:=trodAll_three hA
 obtain⟨pl,rfl,hpl⟩:=Yx0 (hval 0 _ v0 rfl rfl) h0
 obtain⟨fl,rfl,hfl⟩:=YxY (hval 1 _ v1 rfl rfl) h1
 obtain⟨ident,rfl,-,-,hwident⟩:=open_int Tryz.underlying3 (hval 2 _ v2 rfl rfl) h2
 have hident:=wf_i64 hwident
 have ht:=tabs_of hL hsh
 refine(YwA pl fl ident ht hpl.bg (St.start W)).mono ?_
 rintro e' W' ⟨v,K,rfl,hst,rfl,-⟩
 exact⟨_,rfl,YwZ Tryz.laidOut (by kernel_rfl) rfl rfl Tryz.underlying4 hW' hst.below rfl rfl rfl⟩
theorem pback_k1:(Rows.planBackRow.inPlace==Tryz.pinned.checked.prog.inPlace 7)=true:=by kernel_rfl
theorem pback_k2:(Rows.planBackRow.unfollowed==Tryz.pinned.checked.prog.unfollowed 7)=true:=by kernel_rfl
theorem pback_k3:(Rows.planBackRow.recurses==Tryz.pinned.checked.prog.recurses 7)=true:=by kernel_rfl
theorem pback_k4:(Rows.planBackRow.named==Tryz.pinned.checked.prog.varsNamed 7)=true:=by kernel_rfl
theorem pback_k5:Tryz.pinned.checked.prog.funcNamed Rows.planBackRow.func=some 7:=by kernel_rfl
theorem pback_k6:mapsRowed Tryz.pinned.checked.prog=true:=by kernel_rfl
theorem pback_k7:Tryz.pinned.checked.prog.stopsHeard=true:=by kernel_rfl
theorem pback_k8:Tryz.pinned.checked.prog.mayEnter=true:=by kernel_rfl
theorem pback_k9:(Rows.planBackRow.lifted==Tryz.pinned.checked.prog.liftsFinal)=true:=by kernel_rfl
theorem pback_k0:(Tryz.pinned.checked.prog.make==some Rows.planBackRow.make)=true:=by kernel_rfl
theorem pback_facts:joinedFacts Tryz.pinned.checked.prog 7 Tryz.f7 Rows.planBackSpec Rows.planBackRow=true:=by
 unfold joinedFacts
 rw[pback_k1,pback_k2,pback_k3,pback_k4,show laidOutB Tryz.pinned.checked.prog=true from Tryz.laidOut,pback_k6,pback_k7,pback_k8,pback_k9,pback_k0]
 kernel_rfl
theorem pback_row:Rows.PlanBackSaid:=
 OpenClaim.holds_of_wide 7 Tryz.f7 rfl rfl rfl rfl rfl rfl rfl ⟨rfl,rfl,rfl,rfl,rfl⟩ rfl rfl rfl rfl rfl pback_k5 Tryz.func7 pback_facts
  (of_decide_eq_true (by kernel_rfl)) (by unfold Func.isWrapper;first|(rw[if_pos (by decide+kernel)];kernel_rfl)|(rw[if_neg (by decide+kernel)];exact⟨rfl,rfl⟩))
  (fun os started H enc _=>pback_lifted os started H enc)
theorem pback_k11:Rows.planBackRow.wfByText (OpenSpec.ofChange Rows.planBackSpec)=true:=by kernel_rfl
theorem pback_k12:Tryz.pinned.checked.prog.mainIs=some (Rows.planBackCard.stood.harness.1,Rows.planBackCard.stood.harness.2.toList):=by kernel_rfl
theorem pback_k13:true=Tryz.pinned.checked.prog.looks []:=by kernel_rfl
theorem goes_none{P:Program}(h:P.funcs.toList.any Func.goes=false)(f:FuncId):P.goes f=false:=by
 have h':P.funcs.any Func.goes=false:=by rw[←Array.any_toList];exact h
 unfold Program.goes
 rw[h',Bool.and_false,Bool.or_false,List.any_eq_false]
 intro g _ hg
 cases hf:P.funcs[g]? with
 |none=>rw[hf]at hg;cases hg
 |some fn=>
  rw[hf]at hg
  rw[List.any_eq_false]at h
  exact h fn (Array.mem_toList_iff.2 (Array.mem_of_getElem? hf)) hg
theorem goes_by{P:Program}(h:P.funcs.toList.any Func.goes=false)(c:OpenClaim)(hs:c.start=.entering):false=c.goesBy P:=by
 unfold OpenClaim.goesBy Program.goesAt Program.goesFrom
 rw[hs]
 cases P.funcNamed c.func with
 |none=>rfl
 |some f=>
  show false=(P.goes f||false)
  rw[goes_none h];rfl
theorem pback_goes:Tryz.pinned.checked.prog.funcs.toList.any Func.goes=false:=by kernel_rfl
theorem pback_k14:false=Rows.planBackRow.goesBy Tryz.pinned.checked.prog:=goes_by pback_goes _ rfl
theorem pback_k15:(Tryz.f7.params.toList.all fun u=>!Tryz.prog.wantsStandIn u)=true:=by kernel_rfl
theorem pback_holds:Rows.PlanBackCardSaid:=
 Claim7.holds_tied_plain_at .later [] [.data,.data,.data] true _ true
  pback_row (fun _ h=>by cases h) pback_k11 (fun _ h=>by cases h) planBack_row_tie rfl ⟨rfl,rfl⟩ pback_k12 rfl
  (fun f fn hf hfn=>by
   obtain rfl:f=7:=Option.some.inj ((show Tryz.prog.funcNamed Tryz.f7.name=some 7 from pback_k5).symm.trans hf)|>.symm
   obtain rfl:fn=Tryz.f7:=(Option.some.inj (Tryz.func7.symm.trans hfn)).symm
   exact⟨pback_k13,fun j t htj=>by
    have hm:=Array.mem_of_getElem? htj
    exact(show Tryz.prog.wantsStandIn t=false by simpa using List.all_eq_true.1 pback_k15 t (by simpa using hm))⟩)
  pback_k14
end Go.Proofs.YtaholidehobiiaaGreatDoor
