/- The law GatewayNew returns true at every input, and its arguments read behind the call as they read before: the statement Rows.GatewayNewCardSaid. Condition: the listed package-level variables start as the program's text lays them, to which the card ties them. -/
import Derived.Test.YtjlgijpmnfabcaaGreatDoorRows
import Derived.Test.YtjlgijpmnfabcaaGreatDoorCards
import Derived.Test.YtjlgijpmnfabcaaGreatDoorTie
import Derived.SevenTiedAt
import GoSem.ClaimGoes
import Derived.Test.YtjlgijpmnfabcaaGreatDoorQ22
namespace Go.Proofs.YtjlgijpmnfabcaaGreatDoor
open Go.ChangeShapes Go.WideShapes Go.ChangeAt Go.RowKit Go.Eng
open Go.ChangeMaps (open_string)
set_option maxRecDepth 100000 in
theorem gnew_lifted(os:Os)(started:os.Started)(H:Type)(enc:TypeId×Value→H):
 ReturnsInHanded {} Tryz.checked os 4 .any (fun w args=>(Rows.gatewayNewSpec.pre enc Tryz.prog Tryz.f4 [] false w args∧laidMetH Tryz.prog YhN w)∧sizedMet enc Tryz.prog Tryz.f4 (OpenSpec.ofChange Rows.gatewayNewSpec) false w args)
  (Rows.gatewayNewSpec.post enc Tryz.prog Tryz.f4 false true false false):=by
 refine Ylk (C:=Tryz.checked) (X:=fun w=>laidMetH Tryz.prog YhN w) (fun _ _ hh h=>h.of_heap hh) Tryz.own started (by kernel_rfl) Tryz.func4
  (ChangeSpec.witness_shaped (enc:=enc) (C:=Tryz.checked) (os:=os) (X:=fun w _=>laidMetH Tryz.prog YhN w) false (YeW os) #[.agg #[.int .i64 0,.slice none 0 0,.int .i64 0,.int .i64 0,.slice none 0 0,.slice none 0 0],.int .i64 0,.int .i64 0,.agg #[.int .i64 0,.slice none 0 0,.int .i64 0,.int .i64 0,.slice none 0 0,.slice none 0 0,.slice none 0 0,.int .i64 0,.int .i64 0,.slice none 0 0,.slice none 0 0,.slice none 0 0,.slice none 0 0,.slice none 0 0]] 8 rfl (YmF os _) (by kernel_rfl) (by kernel_rfl) (by kernel_rfl) (Yqa os _)) ?_
 intro W base args ds gs before hval0 hW hL hsh
 have hval:∀(j:Nat) t v,Tryz.f4.params[j]? =some t→args[j]? =some v→Value.okWide Tryz.prog W .any base t v:=hval0
 have hW':DataW.Whole enc Tryz.prog Tryz.f4.params.toList Rows.gatewayNewSpec.vars false W args.toList ds gs before:=hW
 obtain⟨p,q,hA0,hV,rfl,hfz,hnd⟩:=hW
 have hA:DataW.TrodAll enc Tryz.prog W 0 (fun _=>true) true Tryz.f4.params.toList args.toList ds p:=hA0
 obtain⟨rfl,rfl⟩:=trodVars_none hV
 rw[Tryz.params4]at hA hval
 obtain⟨v0,v1,v2,v3,d0,d1,d2,d3,p0,p1,p2,p3,rfl,rfl,rfl,h0,h1,h2,h3⟩:=trodAll_four hA
 obtain⟨n,rfl,hn⟩:=YvV (hval 0 _ v0 rfl rfl) h0
 obtain⟨len,rfl,-,-,hwlen⟩:=open_int Tryz.underlying3 (hval 1 _ v1 rfl rfl) h1
 have hlen:=wf_i64 hwlen
 obtain⟨off,rfl,-,-,hwoff⟩:=open_int Tryz.underlying3 (hval 2 _ v2 rfl rfl) h2
 have hoff:=wf_i64 hwoff
 obtain⟨gw,rfl,hgw⟩:=YvU (hval 3 _ v3 rfl rfl) h3
 have ht:=tabs_of hL hsh
 refine(YuA n len off gw ht hn.In hgw.bg (St.start W)).mono ?_
 rintro e' W' ⟨v,K,rfl,hst,rfl,-⟩
 exact⟨_,rfl,YuB Tryz.laidOut (by kernel_rfl) rfl rfl Tryz.underlying4 hW' hst.below rfl rfl rfl⟩
theorem gnew_k1:(Rows.gatewayNewRow.inPlace==Tryz.pinned.checked.prog.inPlace 4)=true:=by kernel_rfl
theorem gnew_k2:(Rows.gatewayNewRow.unfollowed==Tryz.pinned.checked.prog.unfollowed 4)=true:=by kernel_rfl
theorem gnew_k3:(Rows.gatewayNewRow.recurses==Tryz.pinned.checked.prog.recurses 4)=true:=by kernel_rfl
theorem gnew_k4:(Rows.gatewayNewRow.named==Tryz.pinned.checked.prog.varsNamed 4)=true:=by kernel_rfl
theorem gnew_k5:Tryz.pinned.checked.prog.funcNamed Rows.gatewayNewRow.func=some 4:=by kernel_rfl
theorem gnew_k6:mapsRowed Tryz.pinned.checked.prog=true:=by kernel_rfl
theorem gnew_k7:Tryz.pinned.checked.prog.stopsHeard=true:=by kernel_rfl
theorem gnew_k8:Tryz.pinned.checked.prog.mayEnter=true:=by kernel_rfl
theorem gnew_k9:(Rows.gatewayNewRow.lifted==Tryz.pinned.checked.prog.liftsFinal)=true:=by kernel_rfl
theorem gnew_k0:(Tryz.pinned.checked.prog.make==some Rows.gatewayNewRow.make)=true:=by kernel_rfl
theorem gnew_facts:joinedFacts Tryz.pinned.checked.prog 4 Tryz.f4 Rows.gatewayNewSpec Rows.gatewayNewRow=true:=by
 unfold joinedFacts
 rw[gnew_k1,gnew_k2,gnew_k3,gnew_k4,show laidOutB Tryz.pinned.checked.prog=true from Tryz.laidOut,gnew_k6,gnew_k7,gnew_k8,gnew_k9,gnew_k0]
 kernel_rfl
theorem gnew_row:Rows.GatewayNewSaid:=
 OpenClaim.holds_of_wide 4 Tryz.f4 rfl rfl rfl rfl rfl rfl rfl ⟨rfl,rfl,rfl,rfl,rfl⟩ rfl rfl rfl rfl rfl gnew_k5 Tryz.func4 gnew_facts
  (of_decide_eq_true (by kernel_rfl)) (by unfold Func.isWrapper;first|(rw[if_pos (by decide+kernel)];kernel_rfl)|(rw[if_neg (by decide+kernel)];exact⟨rfl,rfl⟩))
  (fun os started H enc _=>gnew_lifted os started H enc)
theorem gnew_k11:Rows.gatewayNewRow.wfByText (OpenSpec.ofChange Rows.gatewayNewSpec)=true:=by kernel_rfl
theorem gnew_k12:Tryz.pinned.checked.prog.mainIs=some (Rows.gatewayNewCard.stood.harness.1,Rows.gatewayNewCard.stood.harness.2.toList):=by kernel_rfl
theorem gnew_k13:true=Tryz.pinned.checked.prog.looks []:=by kernel_rfl
theorem goes_none{P:Program}(h:P.funcs.toList.any Func.goes=false)(f:FuncId):P.goes f=false:=by
 have h':P.funcs.any Func.goes=false:=by rw[←Array.any_toList];exact h
 unfold Program.goes
 rw[h',Bool.and_false,Bool.or_false,List.any_eq_false]
 intro g _ hg
 cases hf:P.funcs[g]? with
 |none=>rw[hf]at hg;cases hg
 |some fn=>
  rw[hf]at hg
  rw[List.any_eq_false]at h
  exact h fn (Array.mem_toList_iff.2 (Array.mem_of_getElem? hf)) hg
theorem goes_by{P:Program}(h:P.funcs.toList.any Func.goes=false)(c:OpenClaim)(hs:c.start=.entering):false=c.goesBy P:=by
 unfold OpenClaim.goesBy Program.goesAt Program.goesFrom
 rw[hs]
 cases P.funcNamed c.func with
 |none=>rfl
 |some f=>
  show false=(P.goes f||false)
  rw[goes_none h];rfl
theorem gnew_goes:Tryz.pinned.checked.prog.funcs.toList.any Func.goes=false:=by kernel_rfl
theorem gnew_k14:false=Rows.gatewayNewRow.goesBy Tryz.pinned.checked.prog:=goes_by gnew_goes _ rfl
theorem gnew_k15:(Tryz.f4.params.toList.all fun u=>!Tryz.prog.wantsStandIn u)=true:=by kernel_rfl
theorem gnew_holds:Rows.GatewayNewCardSaid:=
 Claim7.holds_tied_plain_at .later [] [.data,.data,.data] true _ true
  gnew_row (fun _ h=>by cases h) gnew_k11 (fun _ h=>by cases h) gatewayNew_row_tie rfl ⟨rfl,rfl⟩ gnew_k12 rfl
  (fun f fn hf hfn=>by
   obtain rfl:f=4:=Option.some.inj ((show Tryz.prog.funcNamed Tryz.f4.name=some 4 from gnew_k5).symm.trans hf)|>.symm
   obtain rfl:fn=Tryz.f4:=(Option.some.inj (Tryz.func4.symm.trans hfn)).symm
   exact⟨gnew_k13,fun j t htj=>by
    have hm:=Array.mem_of_getElem? htj
    exact(show Tryz.prog.wantsStandIn t=false by simpa using List.all_eq_true.1 gnew_k15 t (by simpa using hm))⟩)
  gnew_k14
end Go.Proofs.YtjlgijpmnfabcaaGreatDoor
