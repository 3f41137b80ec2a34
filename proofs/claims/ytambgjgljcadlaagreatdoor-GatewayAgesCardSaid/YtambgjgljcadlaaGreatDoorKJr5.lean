/- The law GatewayAges returns true at every input, and its arguments read behind the call as they read before: the statement Rows.GatewayAgesCardSaid. Condition: the listed package-level variables start as the program's text lays them, to which the card ties them. -/
import Derived.Test.YtambgjgljcadlaaGreatDoorRows
import Derived.Test.YtambgjgljcadlaaGreatDoorCards
import Derived.Test.YtambgjgljcadlaaGreatDoorTie
import Derived.SevenTiedAt
import GoSem.ClaimGoes
import Derived.Test.YtambgjgljcadlaaGreatDoorQ26
namespace Go.Proofs.YtambgjgljcadlaaGreatDoor
open Go.ChangeShapes Go.WideShapes Go.ChangeAt Go.RowKit Go.Eng
open Go.ChangeMaps (open_string)
set_option maxRecDepth 100000 in
theorem gages_lifted(os:Os)(started:os.Started)(H:Type)(enc:TypeId×Value→H):
 ReturnsInHanded {} Tryz.checked os 6 .any (fun w args=>(Rows.gatewayAgesSpec.pre enc Tryz.prog Tryz.f6 [] false w args∧laidMetH Tryz.prog YiD w)∧sizedMet enc Tryz.prog Tryz.f6 (OpenSpec.ofChange Rows.gatewayAgesSpec) false w args)
  (Rows.gatewayAgesSpec.post enc Tryz.prog Tryz.f6 false true false false):=by
 refine Yma (C:=Tryz.checked) (X:=fun w=>laidMetH Tryz.prog YiD w) (fun _ _ hh h=>h.of_heap hh) Tryz.own started (by kernel_rfl) Tryz.func6
  (ChangeSpec.witness_shaped (enc:=enc) (C:=Tryz.checked) (os:=os) (X:=fun w _=>laidMetH Tryz.prog YiD w) false (Yfr os) #[.agg #[.int .i64 0,.slice none 0 0,.int .i64 0,.int .i64 0,.slice none 0 0,.slice none 0 0,.slice none 0 0,.int .i64 0,.int .i64 0,.slice none 0 0,.slice none 0 0,.slice none 0 0,.slice none 0 0,.slice none 0 0]] 8 rfl (YnN os _) (by kernel_rfl) (by kernel_rfl) (by kernel_rfl) (Yrz os _)) ?_
 intro W base args ds gs before hval0 hW hL hsh
 have hval:∀(j:Nat) t v,Tryz.f6.params[j]? =some t→args[j]? =some v→Value.okWide Tryz.prog W .any base t v:=hval0
 have hW':DataW.Whole enc Tryz.prog Tryz.f6.params.toList Rows.gatewayAgesSpec.vars false W args.toList ds gs before:=hW
 obtain⟨p,q,hA0,hV,rfl,hfz,hnd⟩:=hW
 have hA:DataW.TrodAll enc Tryz.prog W 0 (fun _=>true) true Tryz.f6.params.toList args.toList ds p:=hA0
 obtain⟨rfl,rfl⟩:=trodVars_none hV
 rw[Tryz.params6]at hA hval
 obtain⟨v0,d0,rfl,rfl,h0⟩:=trodAll_one hA
 obtain⟨gw,rfl,hgw⟩:=YwK (hval 0 _ v0 rfl rfl) h0
 have ht:=tabs_of hL hsh
 refine(Yvo gw ht hgw.bg (St.start W)).mono ?_
 rintro e' W' ⟨v,K,rfl,hst,rfl,-⟩
 exact⟨_,rfl,YvQ Tryz.laidOut (by kernel_rfl) rfl rfl Tryz.underlying4 hW' hst.below rfl rfl rfl⟩
theorem gages_k1:(Rows.gatewayAgesRow.inPlace==Tryz.pinned.checked.prog.inPlace 6)=true:=by kernel_rfl
theorem gages_k2:(Rows.gatewayAgesRow.unfollowed==Tryz.pinned.checked.prog.unfollowed 6)=true:=by kernel_rfl
theorem gages_k3:(Rows.gatewayAgesRow.recurses==Tryz.pinned.checked.prog.recurses 6)=true:=by kernel_rfl
theorem gages_k4:(Rows.gatewayAgesRow.named==Tryz.pinned.checked.prog.varsNamed 6)=true:=by kernel_rfl
theorem gages_k5:Tryz.pinned.checked.prog.funcNamed Rows.gatewayAgesRow.func=some 6:=by kernel_rfl
theorem gages_k6:mapsRowed Tryz.pinned.checked.prog=true:=by kernel_rfl
theorem gages_k7:Tryz.pinned.checked.prog.stopsHeard=true:=by kernel_rfl
theorem gages_k8:Tryz.pinned.checked.prog.mayEnter=true:=by kernel_rfl
theorem gages_k9:(Rows.gatewayAgesRow.lifted==Tryz.pinned.checked.prog.liftsFinal)=true:=by kernel_rfl
theorem gages_k0:(Tryz.pinned.checked.prog.make==some Rows.gatewayAgesRow.make)=true:=by kernel_rfl
theorem gages_facts:joinedFacts Tryz.pinned.checked.prog 6 Tryz.f6 Rows.gatewayAgesSpec Rows.gatewayAgesRow=true:=by
 unfold joinedFacts
 rw[gages_k1,gages_k2,gages_k3,gages_k4,show laidOutB Tryz.pinned.checked.prog=true from Tryz.laidOut,gages_k6,gages_k7,gages_k8,gages_k9,gages_k0]
 kernel_rfl
theorem gages_row:Rows.GatewayAgesSaid:=
 OpenClaim.holds_of_wide 6 Tryz.f6 rfl rfl rfl rfl rfl rfl rfl ⟨rfl,rfl,rfl,rfl,rfl⟩ rfl rfl rfl rfl rfl gages_k5 Tryz.func6 gages_facts
  (of_decide_eq_true (by kernel_rfl)) (by unfold Func.isWrapper;first|(rw[if_pos (by decide+kernel)];kernel_rfl)|(rw[if_neg (by decide+kernel)];exact⟨rfl,rfl⟩))
  (fun os started H enc _=>gages_lifted os started H enc)
theorem gages_k11:Rows.gatewayAgesRow.wfByText (OpenSpec.ofChange Rows.gatewayAgesSpec)=true:=by kernel_rfl
theorem gages_k12:Tryz.pinned.checked.prog.mainIs=some (Rows.gatewayAgesCard.stood.harness.1,Rows.gatewayAgesCard.stood.harness.2.toList):=by kernel_rfl
theorem gages_k13:true=Tryz.pinned.checked.prog.looks []:=by kernel_rfl
theorem goes_none{P:Program}(h:P.funcs.toList.any Func.goes=false)(f:FuncId):P.goes f=false:=by
 have h':P.funcs.any Func.goes=false:=by rw[←Array.any_toList];exact h
 unfold Program.goes
 rw[h',Bool.and_false,Bool.or_false,List.any_eq_false]
 intro g _ hg
 cases hf:P.funcs[g]? with
 |none=>rw[hf]at hg;cases hg
 |some fn=>
  rw[hf]at hg
  rw[List.any_eq_false]at h
  exact h fn (Array.mem_toList_iff.2 (Array.mem_of_getElem? hf)) hg
theorem goes_by{P:Program}(h:P.funcs.toList.any Func.goes=false)(c:OpenClaim)(hs:c.start=.entering):false=c.goesBy P:=by
 unfold OpenClaim.goesBy Program.goesAt Program.goesFrom
 rw[hs]
 cases P.funcNamed c.func with
 |none=>rfl
 |some f=>
  show false=(P.goes f||false)
  rw[goes_none h];rfl
theorem gages_goes:Tryz.pinned.checked.prog.funcs.toList.any Func.goes=false:=by kernel_rfl
theorem gages_k14:false=Rows.gatewayAgesRow.goesBy Tryz.pinned.checked.prog:=goes_by gages_goes _ rfl
theorem gages_k15:(Tryz.f6.params.toList.all fun u=>!Tryz.prog.wantsStandIn u)=true:=by kernel_rfl
theorem gages_holds:Rows.GatewayAgesCardSaid:=
 Claim7.holds_tied_plain_at .later [] [.data,.data,.data] true _ true
  gages_row (fun _ h=>by cases h) gages_k11 (fun _ h=>by cases h) gatewayAges_row_tie rfl ⟨rfl,rfl⟩ gages_k12 rfl
  (fun f fn hf hfn=>by
   obtain rfl:f=6:=Option.some.inj ((show Tryz.prog.funcNamed Tryz.f6.name=some 6 from gages_k5).symm.trans hf)|>.symm
   obtain rfl:fn=Tryz.f6:=(Option.some.inj (Tryz.func6.symm.trans hfn)).symm
   exact⟨gages_k13,fun j t htj=>by
    have hm:=Array.mem_of_getElem? htj
    exact(show Tryz.prog.wantsStandIn t=false by simpa using List.all_eq_true.1 gages_k15 t (by simpa using hm))⟩)
  gages_k14
end Go.Proofs.YtambgjgljcadlaaGreatDoor
