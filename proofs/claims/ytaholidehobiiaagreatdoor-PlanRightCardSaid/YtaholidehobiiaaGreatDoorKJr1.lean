/- The law PlanRight returns true at every input, and its arguments read behind the call as they read before: the statement Rows.PlanRightCardSaid. Condition: the listed package-level variables start as the program's text lays them, to which the card ties them. -/
import Derived.Test.YtaholidehobiiaaGreatDoorRows
import Derived.Test.YtaholidehobiiaaGreatDoorCards
import Derived.Test.YtaholidehobiiaaGreatDoorTie
import Derived.SevenTiedAt
import GoSem.ClaimGoes
import Derived.Test.YtaholidehobiiaaGreatDoorQ7
namespace Go.Proofs.YtaholidehobiiaaGreatDoor
open Go.ChangeShapes Go.WideShapes Go.ChangeAt Go.RowKit Go.Eng
open Go.ChangeMaps (open_string)
set_option maxRecDepth 100000 in
theorem pright_lifted(os:Os)(started:os.Started)(H:Type)(enc:TypeId×Value→H):
 ReturnsInHanded {} Tryz.checked os 5 .any (fun w args=>(Rows.planRightSpec.pre enc Tryz.prog Tryz.f5 [] false w args∧laidMetH Tryz.prog Yia w)∧sizedMet enc Tryz.prog Tryz.f5 (OpenSpec.ofChange Rows.planRightSpec) false w args)
  (Rows.planRightSpec.post enc Tryz.prog Tryz.f5 false true false false):=by
 refine YlA (C:=Tryz.checked) (X:=fun w=>laidMetH Tryz.prog Yia w) (fun _ _ hh h=>h.of_heap hh) Tryz.own started (by kernel_rfl) Tryz.func5
  (ChangeSpec.witness_shaped (enc:=enc) (C:=Tryz.checked) (os:=os) (X:=fun w _=>laidMetH Tryz.prog Yia w) false (Ye5 os) #[.agg #[.int .i64 0,.slice none 0 0,.int .i64 0,.int .i64 0,.slice none 0 0,.slice none 0 0],.slice none 0 0,.int .i64 0,.int .i64 0] 8 rfl (Ym6 os _) (by kernel_rfl) (by kernel_rfl) (by kernel_rfl) (Yqj os _)) ?_
 intro W base args ds gs before hval0 hW hL hsh
 have hval:∀(j:Nat) t v,Tryz.f5.params[j]? =some t→args[j]? =some v→Value.okWide Tryz.prog W .any base t v:=hval0
 have hW':DataW.Whole enc Tryz.prog Tryz.f5.params.toList Rows.planRightSpec.vars false W args.toList ds gs before:=hW
 obtain⟨p,q,hA0,hV,rfl,hfz,hnd⟩:=hW
 have hA:DataW.TrodAll enc Tryz.prog W 0 (fun _=>true) true Tryz.f5.params.toList args.toList ds p:=hA0
 obtain⟨rfl,rfl⟩:=trodVars_none hV
 rw[Tryz.params5]at hA hval
 obtain⟨v0,v1,v2,v3,d0,d1,d2,d3,p0,p1,p2,p3,rfl,rfl,rfl,h0,h1,h2,h3⟩:=trodAll_four hA
 obtain⟨n,rfl,hn⟩:=Yui (hval 0 _ v0 rfl rfl) h0
 obtain⟨l,rfl,hl⟩:=Ys3 (hval 1 _ v1 rfl rfl) h1
 obtain⟨len,rfl,-,-,hwlen⟩:=open_int Tryz.underlying3 (hval 2 _ v2 rfl rfl) h2
 have hlen:=wf_i64 hwlen
 obtain⟨off,rfl,-,-,hwoff⟩:=open_int Tryz.underlying3 (hval 3 _ v3 rfl rfl) h3
 have hoff:=wf_i64 hwoff
 have ht:=tabs_of hL hsh
 refine(Yso n l.xs len off (Nat.le_trans hl.len maxL) (A:=l.A) (cap:=l.cap) ht hn.In hl.old.rd (St.start W)).mono ?_
 rintro e' W' ⟨v,K,rfl,hst,rfl,-⟩
 exact⟨_,rfl,Ytn Tryz.laidOut (by kernel_rfl) rfl rfl Tryz.underlying4 hW' hst.below rfl rfl rfl⟩
theorem pright_k1:(Rows.planRightRow.inPlace==Tryz.pinned.checked.prog.inPlace 5)=true:=by kernel_rfl
theorem pright_k2:(Rows.planRightRow.unfollowed==Tryz.pinned.checked.prog.unfollowed 5)=true:=by kernel_rfl
theorem pright_k3:(Rows.planRightRow.recurses==Tryz.pinned.checked.prog.recurses 5)=true:=by kernel_rfl
theorem pright_k4:(Rows.planRightRow.named==Tryz.pinned.checked.prog.varsNamed 5)=true:=by kernel_rfl
theorem pright_k5:Tryz.pinned.checked.prog.funcNamed Rows.planRightRow.func=some 5:=by kernel_rfl
theorem pright_k6:mapsRowed Tryz.pinned.checked.prog=true:=by kernel_rfl
theorem pright_k7:Tryz.pinned.checked.prog.stopsHeard=true:=by kernel_rfl
theorem pright_k8:Tryz.pinned.checked.prog.mayEnter=true:=by kernel_rfl
theorem pright_k9:(Rows.planRightRow.lifted==Tryz.pinned.checked.prog.liftsFinal)=true:=by kernel_rfl
theorem pright_k0:(Tryz.pinned.checked.prog.make==some Rows.planRightRow.make)=true:=by kernel_rfl
theorem pright_facts:joinedFacts Tryz.pinned.checked.prog 5 Tryz.f5 Rows.planRightSpec Rows.planRightRow=true:=by
 unfold joinedFacts
 rw[pright_k1,pright_k2,pright_k3,pright_k4,show laidOutB Tryz.pinned.checked.prog=true from Tryz.laidOut,pright_k6,pright_k7,pright_k8,pright_k9,pright_k0]
 kernel_rfl
theorem pright_row:Rows.PlanRightSaid:=
 OpenClaim.holds_of_wide 5 Tryz.f5 rfl rfl rfl rfl rfl rfl rfl ⟨rfl,rfl,rfl,rfl,rfl⟩ rfl rfl rfl rfl rfl pright_k5 Tryz.func5 pright_facts
  (of_decide_eq_true (by kernel_rfl)) (by unfold Func.isWrapper;first|(rw[if_pos (by decide+kernel)];kernel_rfl)|(rw[if_neg (by decide+kernel)];exact⟨rfl,rfl⟩))
  (fun os started H enc _=>pright_lifted os started H enc)
theorem pright_k11:Rows.planRightRow.wfByText (OpenSpec.ofChange Rows.planRightSpec)=true:=by kernel_rfl
theorem pright_k12:Tryz.pinned.checked.prog.mainIs=some (Rows.planRightCard.stood.harness.1,Rows.planRightCard.stood.harness.2.toList):=by kernel_rfl
theorem pright_k13:true=Tryz.pinned.checked.prog.looks []:=by kernel_rfl
theorem goes_none{P:Program}(h:P.funcs.toList.any Func.goes=false)(f:FuncId):P.goes f=false:=by
 have h':P.funcs.any Func.goes=false:=by rw[←Array.any_toList];exact h
 unfold Program.goes
 rw[h',Bool.and_false,Bool.or_false,List.any_eq_false]
 intro g _ hg
 cases hf:P.funcs[g]? with
 |none=>rw[hf]at hg;cases hg
 |some fn=>
  rw[hf]at hg
  rw[List.any_eq_false]at h
  exact h fn (Array.mem_toList_iff.2 (Array.mem_of_getElem? hf)) hg
theorem goes_by{P:Program}(h:P.funcs.toList.any Func.goes=false)(c:OpenClaim)(hs:c.start=.entering):false=c.goesBy P:=by
 unfold OpenClaim.goesBy Program.goesAt Program.goesFrom
 rw[hs]
 cases P.funcNamed c.func with
 |none=>rfl
 |some f=>
  show false=(P.goes f||false)
  rw[goes_none h];rfl
theorem pright_goes:Tryz.pinned.checked.prog.funcs.toList.any Func.goes=false:=by kernel_rfl
theorem pright_k14:false=Rows.planRightRow.goesBy Tryz.pinned.checked.prog:=goes_by pright_goes _ rfl
theorem pright_k15:(Tryz.f5.params.toList.all fun u=>!Tryz.prog.wantsStandIn u)=true:=by kernel_rfl
theorem pright_holds:Rows.PlanRightCardSaid:=
 Claim7.holds_tied_plain_at .later [] [.data,.data,.data] true _ true
  pright_row (fun _ h=>by cases h) pright_k11 (fun _ h=>by cases h) planRight_row_tie rfl ⟨rfl,rfl⟩ pright_k12 rfl
  (fun f fn hf hfn=>by
   obtain rfl:f=5:=Option.some.inj ((show Tryz.prog.funcNamed Tryz.f5.name=some 5 from pright_k5).symm.trans hf)|>.symm
   obtain rfl:fn=Tryz.f5:=(Option.some.inj (Tryz.func5.symm.trans hfn)).symm
   exact⟨pright_k13,fun j t htj=>by
    have hm:=Array.mem_of_getElem? htj
    exact(show Tryz.prog.wantsStandIn t=false by simpa using List.all_eq_true.1 pright_k15 t (by simpa using hm))⟩)
  pright_k14
end Go.Proofs.YtaholidehobiiaaGreatDoor
