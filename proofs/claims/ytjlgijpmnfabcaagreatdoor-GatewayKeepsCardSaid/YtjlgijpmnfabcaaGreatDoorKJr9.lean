/- The law GatewayKeeps returns true at every input, and its arguments read behind the call as they read before: the statement Rows.GatewayKeepsCardSaid. Condition: the listed package-level variables start as the program's text lays them, to which the card ties them. -/
import Derived.Test.YtjlgijpmnfabcaaGreatDoorRows
import Derived.Test.YtjlgijpmnfabcaaGreatDoorCards
import Derived.Test.YtjlgijpmnfabcaaGreatDoorTie
import Derived.SevenTiedAt
import GoSem.ClaimGoes
import Derived.Test.YtjlgijpmnfabcaaGreatDoorQ23
namespace Go.Proofs.YtjlgijpmnfabcaaGreatDoor
open Go.ChangeShapes Go.WideShapes Go.ChangeAt Go.RowKit Go.Eng
open Go.ChangeMaps (open_string)
set_option maxRecDepth 100000 in
theorem gkeeps_lifted(os:Os)(started:os.Started)(H:Type)(enc:TypeId×Value→H):
 ReturnsInHanded {} Tryz.checked os 5 .any (fun w args=>(Rows.gatewayKeepsSpec.pre enc Tryz.prog Tryz.f5 [] false w args∧laidMetH Tryz.prog Yib w)∧sizedMet enc Tryz.prog Tryz.f5 (OpenSpec.ofChange Rows.gatewayKeepsSpec) false w args)
  (Rows.gatewayKeepsSpec.post enc Tryz.prog Tryz.f5 false true false false):=by
 refine YlO (C:=Tryz.checked) (X:=fun w=>laidMetH Tryz.prog Yib w) (fun _ _ hh h=>h.of_heap hh) Tryz.own started (by kernel_rfl) Tryz.func5
  (ChangeSpec.witness_shaped (enc:=enc) (C:=Tryz.checked) (os:=os) (X:=fun w _=>laidMetH Tryz.prog Yib w) false (Ye6 os) #[.agg #[.int .i64 0,.slice none 0 0,.int .i64 0,.int .i64 0,.slice none 0 0,.slice none 0 0,.slice none 0 0,.int .i64 0,.int .i64 0,.slice none 0 0,.slice none 0 0,.slice none 0 0,.slice none 0 0,.slice none 0 0],.slice none 0 0,.int .i64 0] 8 rfl (Ynj os _) (by kernel_rfl) (by kernel_rfl) (by kernel_rfl) (Yq1 os _)) ?_
 intro W base args ds gs before hval0 hW hL hsh
 have hval:∀(j:Nat) t v,Tryz.f5.params[j]? =some t→args[j]? =some v→Value.okWide Tryz.prog W .any base t v:=hval0
 have hW':DataW.Whole enc Tryz.prog Tryz.f5.params.toList Rows.gatewayKeepsSpec.vars false W args.toList ds gs before:=hW
 obtain⟨p,q,hA0,hV,rfl,hfz,hnd⟩:=hW
 have hA:DataW.TrodAll enc Tryz.prog W 0 (fun _=>true) true Tryz.f5.params.toList args.toList ds p:=hA0
 obtain⟨rfl,rfl⟩:=trodVars_none hV
 rw[Tryz.params5]at hA hval
 obtain⟨v0,v1,v2,d0,d1,d2,p0,p1,p2,rfl,rfl,rfl,h0,h1,h2⟩:=trodAll_three hA
 obtain⟨gw,rfl,hgw⟩:=YwW (hval 0 _ v0 rfl rfl) h0
 obtain⟨x,rfl,hx⟩:=Ytu (hval 1 _ v1 rfl rfl) h1
 obtain⟨slots,rfl,-,-,hwslots⟩:=open_int Tryz.underlying3 (hval 2 _ v2 rfl rfl) h2
 have hslots:=wf_i64 hwslots
 have ht:=tabs_of hL hsh
 refine(Yts gw x.xs slots (xA:=x.A) (xc:=x.cap) ht hgw.bg (YvD hx) (Yvn hx) (St.start W)).mono ?_
 rintro e' W' ⟨v,K,rfl,hst,rfl,-⟩
 exact⟨_,rfl,YvC Tryz.laidOut (by kernel_rfl) rfl rfl Tryz.underlying4 hW' hst.below rfl rfl rfl⟩
theorem gkeeps_k1:(Rows.gatewayKeepsRow.inPlace==Tryz.pinned.checked.prog.inPlace 5)=true:=by kernel_rfl
theorem gkeeps_k2:(Rows.gatewayKeepsRow.unfollowed==Tryz.pinned.checked.prog.unfollowed 5)=true:=by kernel_rfl
theorem gkeeps_k3:(Rows.gatewayKeepsRow.recurses==Tryz.pinned.checked.prog.recurses 5)=true:=by kernel_rfl
theorem gkeeps_k4:(Rows.gatewayKeepsRow.named==Tryz.pinned.checked.prog.varsNamed 5)=true:=by kernel_rfl
theorem gkeeps_k5:Tryz.pinned.checked.prog.funcNamed Rows.gatewayKeepsRow.func=some 5:=by kernel_rfl
theorem gkeeps_k6:mapsRowed Tryz.pinned.checked.prog=true:=by kernel_rfl
theorem gkeeps_k7:Tryz.pinned.checked.prog.stopsHeard=true:=by kernel_rfl
theorem gkeeps_k8:Tryz.pinned.checked.prog.mayEnter=true:=by kernel_rfl
theorem gkeeps_k9:(Rows.gatewayKeepsRow.lifted==Tryz.pinned.checked.prog.liftsFinal)=true:=by kernel_rfl
theorem gkeeps_k0:(Tryz.pinned.checked.prog.make==some Rows.gatewayKeepsRow.make)=true:=by kernel_rfl
theorem gkeeps_facts:joinedFacts Tryz.pinned.checked.prog 5 Tryz.f5 Rows.gatewayKeepsSpec Rows.gatewayKeepsRow=true:=by
 unfold joinedFacts
 rw[gkeeps_k1,gkeeps_k2,gkeeps_k3,gkeeps_k4,show laidOutB Tryz.pinned.checked.prog=true from Tryz.laidOut,gkeeps_k6,gkeeps_k7,gkeeps_k8,gkeeps_k9,gkeeps_k0]
 kernel_rfl
theorem gkeeps_row:Rows.GatewayKeepsSaid:=
 OpenClaim.holds_of_wide 5 Tryz.f5 rfl rfl rfl rfl rfl rfl rfl ⟨rfl,rfl,rfl,rfl,rfl⟩ rfl rfl rfl rfl rfl gkeeps_k5 Tryz.func5 gkeeps_facts
  (of_decide_eq_true (by kernel_rfl)) (by unfold Func.isWrapper;first|(rw[if_pos (by decide+kernel)];kernel_rfl)|(rw[if_neg (by decide+kernel)];exact⟨rfl,rfl⟩))
  (fun os started H enc _=>gkeeps_lifted os started H enc)
theorem gkeeps_k11:Rows.gatewayKeepsRow.wfByText (OpenSpec.ofChange Rows.gatewayKeepsSpec)=true:=by kernel_rfl
theorem gkeeps_k12:Tryz.pinned.checked.prog.mainIs=some (Rows.gatewayKeepsCard.stood.harness.1,Rows.gatewayKeepsCard.stood.harness.2.toList):=by kernel_rfl
theorem gkeeps_k13:true=Tryz.pinned.checked.prog.looks []:=by kernel_rfl
theorem goes_none{P:Program}(h:P.funcs.toList.any Func.goes=false)(f:FuncId):P.goes f=false:=by
 have h':P.funcs.any Func.goes=false:=by rw[←Array.any_toList];exact h
 unfold Program.goes
 rw[h',Bool.and_false,Bool.or_false,List.any_eq_false]
 intro g _ hg
 cases hf:P.funcs[g]? with
 |none=>rw[hf]at hg;cases hg
 |some fn=>
  rw[hf]at hg
  rw[List.any_eq_false]at h
  exact h fn (Array.mem_toList_iff.2 (Array.mem_of_getElem? hf)) hg
theorem goes_by{P:Program}(h:P.funcs.toList.any Func.goes=false)(c:OpenClaim)(hs:c.start=.entering):false=c.goesBy P:=by
 unfold OpenClaim.goesBy Program.goesAt Program.goesFrom
 rw[hs]
 cases P.funcNamed c.func with
 |none=>rfl
 |some f=>
  show false=(P.goes f||false)
  rw[goes_none h];rfl
theorem gkeeps_goes:Tryz.pinned.checked.prog.funcs.toList.any Func.goes=false:=by kernel_rfl
theorem gkeeps_k14:false=Rows.gatewayKeepsRow.goesBy Tryz.pinned.checked.prog:=goes_by gkeeps_goes _ rfl
theorem gkeeps_k15:(Tryz.f5.params.toList.all fun u=>!Tryz.prog.wantsStandIn u)=true:=by kernel_rfl
theorem gkeeps_holds:Rows.GatewayKeepsCardSaid:=
 Claim7.holds_tied_plain_at .later [] [.data,.data,.data] true _ true
  gkeeps_row (fun _ h=>by cases h) gkeeps_k11 (fun _ h=>by cases h) gatewayKeeps_row_tie rfl ⟨rfl,rfl⟩ gkeeps_k12 rfl
  (fun f fn hf hfn=>by
   obtain rfl:f=5:=Option.some.inj ((show Tryz.prog.funcNamed Tryz.f5.name=some 5 from gkeeps_k5).symm.trans hf)|>.symm
   obtain rfl:fn=Tryz.f5:=(Option.some.inj (Tryz.func5.symm.trans hfn)).symm
   exact⟨gkeeps_k13,fun j t htj=>by
    have hm:=Array.mem_of_getElem? htj
    exact(show Tryz.prog.wantsStandIn t=false by simpa using List.all_eq_true.1 gkeeps_k15 t (by simpa using hm))⟩)
  gkeeps_k14
end Go.Proofs.YtjlgijpmnfabcaaGreatDoor
