/- The law PlanRoutes returns true at every input, and its arguments read behind the call as they read before: the statement Rows.PlanRoutesCardSaid. Condition: the listed package-level variables start as the program's text lays them, to which the card ties them. -/
import Derived.Test.YtaholidehobiiaaGreatDoorRows
import Derived.Test.YtaholidehobiiaaGreatDoorCards
import Derived.Test.YtaholidehobiiaaGreatDoorTie
import Derived.SevenTiedAt
import GoSem.ClaimGoes
import Derived.Test.YtaholidehobiiaaGreatDoorQ40
namespace Go.Proofs.YtaholidehobiiaaGreatDoor
open Go.ChangeShapes Go.WideShapes Go.ChangeAt Go.RowKit Go.Eng
open Go.ChangeMaps (open_string)
set_option maxRecDepth 100000 in
theorem proutes_lifted(os:Os)(started:os.Started)(H:Type)(enc:TypeId×Value→H):
 ReturnsInHanded {} Tryz.checked os 3 .any (fun w args=>(Rows.planRoutesSpec.pre enc Tryz.prog Tryz.f3 [] false w args∧laidMetH Tryz.prog YjJ w)∧sizedMet enc Tryz.prog Tryz.f3 (OpenSpec.ofChange Rows.planRoutesSpec) false w args)
  (Rows.planRoutesSpec.post enc Tryz.prog Tryz.f3 false true false false):=by
 refine Yny (C:=Tryz.checked) (X:=fun w=>laidMetH Tryz.prog YjJ w) (fun _ _ hh h=>h.of_heap hh) Tryz.own started (by kernel_rfl) Tryz.func3
  (ChangeSpec.witness_shaped (enc:=enc) (C:=Tryz.checked) (os:=os) (X:=fun w _=>laidMetH Tryz.prog YjJ w) false (Ygn os) #[.agg #[.int .i64 0,.slice none 0 0,.int .i64 0,.int .i64 0,.slice none 0 0,.slice none 0 0],.slice none 0 0] 8 rfl (Ypd os _) (by kernel_rfl) (by kernel_rfl) (by kernel_rfl) (YsS os _)) ?_
 intro W base args ds gs before hval0 hW hL hsh
 have hval:∀(j:Nat) t v,Tryz.f3.params[j]? =some t→args[j]? =some v→Value.okWide Tryz.prog W .any base t v:=hval0
 have hW':DataW.Whole enc Tryz.prog Tryz.f3.params.toList Rows.planRoutesSpec.vars false W args.toList ds gs before:=hW
 obtain⟨p,q,hA0,hV,rfl,hfz,hnd⟩:=hW
 have hA:DataW.TrodAll enc Tryz.prog W 0 (fun _=>true) true Tryz.f3.params.toList args.toList ds p:=hA0
 obtain⟨rfl,rfl⟩:=trodVars_none hV
 rw[Tryz.params3]at hA hval
 obtain⟨v0,v1,d0,d1,p0,p1,rfl,rfl,rfl,h0,h1⟩:=trodAll_two hA
 obtain⟨n,rfl,hn⟩:=YxZ (hval 0 _ v0 rfl rfl) h0
 obtain⟨l,rfl,hl⟩:=YwG (hval 1 _ v1 rfl rfl) h1
 have ht:=tabs_of hL hsh
 refine(YtK n l.xs (Nat.le_trans hl.len maxL) (A:=l.A) (cap:=l.cap) ht hn.In hl.old.rd (St.start W)).mono ?_
 rintro e' W' ⟨v,K,rfl,hst,rfl,-⟩
 exact⟨_,rfl,YwZ Tryz.laidOut (by kernel_rfl) rfl rfl Tryz.underlying4 hW' hst.below rfl rfl rfl⟩
theorem proutes_k1:(Rows.planRoutesRow.inPlace==Tryz.pinned.checked.prog.inPlace 3)=true:=by kernel_rfl
theorem proutes_k2:(Rows.planRoutesRow.unfollowed==Tryz.pinned.checked.prog.unfollowed 3)=true:=by kernel_rfl
theorem proutes_k3:(Rows.planRoutesRow.recurses==Tryz.pinned.checked.prog.recurses 3)=true:=by kernel_rfl
theorem proutes_k4:(Rows.planRoutesRow.named==Tryz.pinned.checked.prog.varsNamed 3)=true:=by kernel_rfl
theorem proutes_k5:Tryz.pinned.checked.prog.funcNamed Rows.planRoutesRow.func=some 3:=by kernel_rfl
theorem proutes_k6:mapsRowed Tryz.pinned.checked.prog=true:=by kernel_rfl
theorem proutes_k7:Tryz.pinned.checked.prog.stopsHeard=true:=by kernel_rfl
theorem proutes_k8:Tryz.pinned.checked.prog.mayEnter=true:=by kernel_rfl
theorem proutes_k9:(Rows.planRoutesRow.lifted==Tryz.pinned.checked.prog.liftsFinal)=true:=by kernel_rfl
theorem proutes_k0:(Tryz.pinned.checked.prog.make==some Rows.planRoutesRow.make)=true:=by kernel_rfl
theorem proutes_facts:joinedFacts Tryz.pinned.checked.prog 3 Tryz.f3 Rows.planRoutesSpec Rows.planRoutesRow=true:=by
 unfold joinedFacts
 rw[proutes_k1,proutes_k2,proutes_k3,proutes_k4,show laidOutB Tryz.pinned.checked.prog=true from Tryz.laidOut,proutes_k6,proutes_k7,proutes_k8,proutes_k9,proutes_k0]
 kernel_rfl
theorem proutes_row:Rows.PlanRoutesSaid:=
 OpenClaim.holds_of_wide 3 Tryz.f3 rfl rfl rfl rfl rfl rfl rfl ⟨rfl,rfl,rfl,rfl,rfl⟩ rfl rfl rfl rfl rfl proutes_k5 Tryz.func3 proutes_facts
  (of_decide_eq_true (by kernel_rfl)) (by unfold Func.isWrapper;first|(rw[if_pos (by decide+kernel)];kernel_rfl)|(rw[if_neg (by decide+kernel)];exact⟨rfl,rfl⟩))
  (fun os started H enc _=>proutes_lifted os started H enc)
theorem proutes_k11:Rows.planRoutesRow.wfByText (OpenSpec.ofChange Rows.planRoutesSpec)=true:=by kernel_rfl
theorem proutes_k12:Tryz.pinned.checked.prog.mainIs=some (Rows.planRoutesCard.stood.harness.1,Rows.planRoutesCard.stood.harness.2.toList):=by kernel_rfl
theorem proutes_k13:true=Tryz.pinned.checked.prog.looks []:=by kernel_rfl
theorem goes_none{P:Program}(h:P.funcs.toList.any Func.goes=false)(f:FuncId):P.goes f=false:=by
 have h':P.funcs.any Func.goes=false:=by rw[←Array.any_toList];exact h
 unfold Program.goes
 rw[h',Bool.and_false,Bool.or_false,List.any_eq_false]
 intro g _ hg
 cases hf:P.funcs[g]? with
 |none=>rw[hf]at hg;cases hg
 |some fn=>
  rw[hf]at hg
  rw[List.any_eq_false]at h
  exact h fn (Array.mem_toList_iff.2 (Array.mem_of_getElem? hf)) hg
theorem goes_by{P:Program}(h:P.funcs.toList.any Func.goes=false)(c:OpenClaim)(hs:c.start=.entering):false=c.goesBy P:=by
 unfold OpenClaim.goesBy Program.goesAt Program.goesFrom
 rw[hs]
 cases P.funcNamed c.func with
 |none=>rfl
 |some f=>
  show false=(P.goes f||false)
  rw[goes_none h];rfl
theorem proutes_goes:Tryz.pinned.checked.prog.funcs.toList.any Func.goes=false:=by kernel_rfl
theorem proutes_k14:false=Rows.planRoutesRow.goesBy Tryz.pinned.checked.prog:=goes_by proutes_goes _ rfl
theorem proutes_k15:(Tryz.f3.params.toList.all fun u=>!Tryz.prog.wantsStandIn u)=true:=by kernel_rfl
theorem proutes_holds:Rows.PlanRoutesCardSaid:=
 Claim7.holds_tied_plain_at .later [] [.data,.data,.data] true _ true
  proutes_row (fun _ h=>by cases h) proutes_k11 (fun _ h=>by cases h) planRoutes_row_tie rfl ⟨rfl,rfl⟩ proutes_k12 rfl
  (fun f fn hf hfn=>by
   obtain rfl:f=3:=Option.some.inj ((show Tryz.prog.funcNamed Tryz.f3.name=some 3 from proutes_k5).symm.trans hf)|>.symm
   obtain rfl:fn=Tryz.f3:=(Option.some.inj (Tryz.func3.symm.trans hfn)).symm
   exact⟨proutes_k13,fun j t htj=>by
    have hm:=Array.mem_of_getElem? htj
    exact(show Tryz.prog.wantsStandIn t=false by simpa using List.all_eq_true.1 proutes_k15 t (by simpa using hm))⟩)
  proutes_k14
end Go.Proofs.YtaholidehobiiaaGreatDoor
