/- The law GatewayDismisses returns true at every input, and its arguments read behind the call as they read before: the statement Rows.GatewayDismissesCardSaid. Condition: the listed package-level variables start as the program's text lays them, to which the card ties them. -/
import Derived.Test.YtjommdkgfbhbdaaGreatDoorRows
import Derived.Test.YtjommdkgfbhbdaaGreatDoorCards
import Derived.Test.YtjommdkgfbhbdaaGreatDoorTie
import Derived.SevenTiedAt
import GoSem.ClaimGoes
import Derived.Test.YtjommdkgfbhbdaaGreatDoorQ22
namespace Go.Proofs.YtjommdkgfbhbdaaGreatDoor
open Go.ChangeShapes Go.WideShapes Go.ChangeAt Go.RowKit Go.Eng
open Go.ChangeMaps (open_string)
set_option maxRecDepth 100000 in
theorem gdismisses_lifted(os:Os)(started:os.Started)(H:Type)(enc:TypeId×Value→H):
 ReturnsInHanded {} Tryz.checked os 7 .any (fun w args=>(Rows.gatewayDismissesSpec.pre enc Tryz.prog Tryz.f7 [] false w args∧laidMetH Tryz.prog Yh6 w)∧sizedMet enc Tryz.prog Tryz.f7 (OpenSpec.ofChange Rows.gatewayDismissesSpec) false w args)
  (Rows.gatewayDismissesSpec.post enc Tryz.prog Tryz.f7 false true false false):=by
 refine YlA (C:=Tryz.checked) (X:=fun w=>laidMetH Tryz.prog Yh6 w) (fun _ _ hh h=>h.of_heap hh) Tryz.own started (by kernel_rfl) Tryz.func7
  (ChangeSpec.witness_shaped (enc:=enc) (C:=Tryz.checked) (os:=os) (X:=fun w _=>laidMetH Tryz.prog Yh6 w) false (YeX os) #[.agg #[.int .i64 0,.slice none 0 0,.int .i64 0,.int .i64 0,.slice none 0 0,.slice none 0 0,.slice none 0 0,.int .i64 0,.int .i64 0,.slice none 0 0,.slice none 0 0,.slice none 0 0,.slice none 0 0,.slice none 0 0],.int .i64 0] 8 rfl (Ync os _) (by kernel_rfl) (by kernel_rfl) (by kernel_rfl) (Yq3 os _)) ?_
 intro W base args ds gs before hval0 hW hL hsh
 have hval:∀(j:Nat) t v,Tryz.f7.params[j]? =some t→args[j]? =some v→Value.okWide Tryz.prog W .any base t v:=hval0
 have hW':DataW.Whole enc Tryz.prog Tryz.f7.params.toList Rows.gatewayDismissesSpec.vars false W args.toList ds gs before:=hW
 obtain⟨p,q,hA0,hV,rfl,hfz,hnd⟩:=hW
 have hA:DataW.TrodAll enc Tryz.prog W 0 (fun _=>true) true Tryz.f7.params.toList args.toList ds p:=hA0
 obtain⟨rfl,rfl⟩:=trodVars_none hV
 rw[Tryz.params7]at hA hval
 obtain⟨v0,v1,d0,d1,p0,p1,rfl,rfl,rfl,h0,h1⟩:=trodAll_two hA
 obtain⟨gw,rfl,hgw⟩:=Yx0 (hval 0 _ v0 rfl rfl) h0
 obtain⟨id,rfl,-,-,hwid⟩:=open_int Tryz.underlying3 (hval 1 _ v1 rfl rfl) h1
 have hid:=wf_i64 hwid
 have ht:=tabs_of hL hsh
 refine(YvU gw id hgw.p.q.cap ht hgw.bg (St.start W)).mono ?_
 rintro e' W' ⟨v,K,rfl,hst,rfl,-⟩
 exact⟨_,rfl,YvV Tryz.laidOut (by kernel_rfl) rfl rfl Tryz.underlying4 hW' hst.below rfl rfl rfl⟩
theorem gdismisses_k1:(Rows.gatewayDismissesRow.inPlace==Tryz.pinned.checked.prog.inPlace 7)=true:=by kernel_rfl
theorem gdismisses_k2:(Rows.gatewayDismissesRow.unfollowed==Tryz.pinned.checked.prog.unfollowed 7)=true:=by kernel_rfl
theorem gdismisses_k3:(Rows.gatewayDismissesRow.recurses==Tryz.pinned.checked.prog.recurses 7)=true:=by kernel_rfl
theorem gdismisses_k4:(Rows.gatewayDismissesRow.named==Tryz.pinned.checked.prog.varsNamed 7)=true:=by kernel_rfl
theorem gdismisses_k5:Tryz.pinned.checked.prog.funcNamed Rows.gatewayDismissesRow.func=some 7:=by kernel_rfl
theorem gdismisses_k6:mapsRowed Tryz.pinned.checked.prog=true:=by kernel_rfl
theorem gdismisses_k7:Tryz.pinned.checked.prog.stopsHeard=true:=by kernel_rfl
theorem gdismisses_k8:Tryz.pinned.checked.prog.mayEnter=true:=by kernel_rfl
theorem gdismisses_k9:(Rows.gatewayDismissesRow.lifted==Tryz.pinned.checked.prog.liftsFinal)=true:=by kernel_rfl
theorem gdismisses_k0:(Tryz.pinned.checked.prog.make==some Rows.gatewayDismissesRow.make)=true:=by kernel_rfl
theorem gdismisses_facts:joinedFacts Tryz.pinned.checked.prog 7 Tryz.f7 Rows.gatewayDismissesSpec Rows.gatewayDismissesRow=true:=by
 unfold joinedFacts
 rw[gdismisses_k1,gdismisses_k2,gdismisses_k3,gdismisses_k4,show laidOutB Tryz.pinned.checked.prog=true from Tryz.laidOut,gdismisses_k6,gdismisses_k7,gdismisses_k8,gdismisses_k9,gdismisses_k0]
 kernel_rfl
theorem gdismisses_row:Rows.GatewayDismissesSaid:=
 OpenClaim.holds_of_wide 7 Tryz.f7 rfl rfl rfl rfl rfl rfl rfl ⟨rfl,rfl,rfl,rfl,rfl⟩ rfl rfl rfl rfl rfl gdismisses_k5 Tryz.func7 gdismisses_facts
  (of_decide_eq_true (by kernel_rfl)) (by unfold Func.isWrapper;first|(rw[if_pos (by decide+kernel)];kernel_rfl)|(rw[if_neg (by decide+kernel)];exact⟨rfl,rfl⟩))
  (fun os started H enc _=>gdismisses_lifted os started H enc)
theorem gdismisses_k11:Rows.gatewayDismissesRow.wfByText (OpenSpec.ofChange Rows.gatewayDismissesSpec)=true:=by kernel_rfl
theorem gdismisses_k12:Tryz.pinned.checked.prog.mainIs=some (Rows.gatewayDismissesCard.stood.harness.1,Rows.gatewayDismissesCard.stood.harness.2.toList):=by kernel_rfl
theorem gdismisses_k13:true=Tryz.pinned.checked.prog.looks []:=by kernel_rfl
theorem goes_none{P:Program}(h:P.funcs.toList.any Func.goes=false)(f:FuncId):P.goes f=false:=by
 have h':P.funcs.any Func.goes=false:=by rw[←Array.any_toList];exact h
 unfold Program.goes
 rw[h',Bool.and_false,Bool.or_false,List.any_eq_false]
 intro g _ hg
 cases hf:P.funcs[g]? with
 |none=>rw[hf]at hg;cases hg
 |some fn=>
  rw[hf]at hg
  rw[List.any_eq_false]at h
  exact h fn (Array.mem_toList_iff.2 (Array.mem_of_getElem? hf)) hg
theorem goes_by{P:Program}(h:P.funcs.toList.any Func.goes=false)(c:OpenClaim)(hs:c.start=.entering):false=c.goesBy P:=by
 unfold OpenClaim.goesBy Program.goesAt Program.goesFrom
 rw[hs]
 cases P.funcNamed c.func with
 |none=>rfl
 |some f=>
  show false=(P.goes f||false)
  rw[goes_none h];rfl
theorem gdismisses_goes:Tryz.pinned.checked.prog.funcs.toList.any Func.goes=false:=by kernel_rfl
theorem gdismisses_k14:false=Rows.gatewayDismissesRow.goesBy Tryz.pinned.checked.prog:=goes_by gdismisses_goes _ rfl
theorem gdismisses_k15:(Tryz.f7.params.toList.all fun u=>!Tryz.prog.wantsStandIn u)=true:=by kernel_rfl
theorem gdismisses_holds:Rows.GatewayDismissesCardSaid:=
 Claim7.holds_tied_plain_at .later [] [.data,.data,.data] true _ true
  gdismisses_row (fun _ h=>by cases h) gdismisses_k11 (fun _ h=>by cases h) gatewayDismisses_row_tie rfl ⟨rfl,rfl⟩ gdismisses_k12 rfl
  (fun f fn hf hfn=>by
   obtain rfl:f=7:=Option.some.inj ((show Tryz.prog.funcNamed Tryz.f7.name=some 7 from gdismisses_k5).symm.trans hf)|>.symm
   obtain rfl:fn=Tryz.f7:=(Option.some.inj (Tryz.func7.symm.trans hfn)).symm
   exact⟨gdismisses_k13,fun j t htj=>by
    have hm:=Array.mem_of_getElem? htj
    exact(show Tryz.prog.wantsStandIn t=false by simpa using List.all_eq_true.1 gdismisses_k15 t (by simpa using hm))⟩)
  gdismisses_k14
end Go.Proofs.YtjommdkgfbhbdaaGreatDoor
