/- The law PlanChecks returns true at every input, and its arguments read behind the call as they read before: the statement Rows.PlanChecksCardSaid. Condition: the listed package-level variables start as the program's text lays them, to which the card ties them. -/
import Derived.Test.YtjommdkgfbhbdaaGreatDoorRows
import Derived.Test.YtjommdkgfbhbdaaGreatDoorCards
import Derived.Test.YtjommdkgfbhbdaaGreatDoorTie
import Derived.SevenTiedAt
import GoSem.ClaimGoes
import Derived.Test.YtjommdkgfbhbdaaGreatDoorQ24
namespace Go.Proofs.YtjommdkgfbhbdaaGreatDoor
open Go.ChangeShapes Go.WideShapes Go.ChangeAt Go.RowKit Go.Eng
open Go.ChangeMaps (open_string)
set_option maxRecDepth 100000 in
theorem pchecks_lifted(os:Os)(started:os.Started)(H:Type)(enc:TypeId×Value→H):
 ReturnsInHanded {} Tryz.checked os 5 .any (fun w args=>(Rows.planChecksSpec.pre enc Tryz.prog Tryz.f5 [] false w args∧laidMetH Tryz.prog Yii w)∧sizedMet enc Tryz.prog Tryz.f5 (OpenSpec.ofChange Rows.planChecksSpec) false w args)
  (Rows.planChecksSpec.post enc Tryz.prog Tryz.f5 false true false false):=by
 refine YlY (C:=Tryz.checked) (X:=fun w=>laidMetH Tryz.prog Yii w) (fun _ _ hh h=>h.of_heap hh) Tryz.own started (by kernel_rfl) Tryz.func5
  (ChangeSpec.witness_shaped (enc:=enc) (C:=Tryz.checked) (os:=os) (X:=fun w _=>laidMetH Tryz.prog Yii w) false (Yfq os) #[.agg #[.int .i64 0,.slice none 0 0,.int .i64 0,.int .i64 0,.slice none 0 0,.slice none 0 0,.slice none 0 0,.int .i64 0,.int .i64 0,.slice none 0 0,.slice none 0 0,.slice none 0 0]] 8 rfl (YnC os _) (by kernel_rfl) (by kernel_rfl) (by kernel_rfl) (Yq3 os _)) ?_
 intro W base args ds gs before hval0 hW hL hsh
 have hval:∀(j:Nat) t v,Tryz.f5.params[j]? =some t→args[j]? =some v→Value.okWide Tryz.prog W .any base t v:=hval0
 have hW':DataW.Whole enc Tryz.prog Tryz.f5.params.toList Rows.planChecksSpec.vars false W args.toList ds gs before:=hW
 obtain⟨p,q,hA0,hV,rfl,hfz,hnd⟩:=hW
 have hA:DataW.TrodAll enc Tryz.prog W 0 (fun _=>true) true Tryz.f5.params.toList args.toList ds p:=hA0
 obtain⟨rfl,rfl⟩:=trodVars_none hV
 rw[Tryz.params5]at hA hval
 obtain⟨v0,d0,rfl,rfl,h0⟩:=trodAll_one hA
 obtain⟨pw,rfl,hpw⟩:=Yxp (hval 0 _ v0 rfl rfl) h0
 have ht:=tabs_of hL hsh
 refine(YrP pw ht hpw.bg (St.start W)).mono ?_
 rintro e' W' ⟨v,K,rfl,hst,rfl,-⟩
 exact⟨_,rfl,YvD Tryz.laidOut (by kernel_rfl) rfl rfl Tryz.underlying4 hW' hst.below rfl rfl rfl⟩
theorem pchecks_k1:(Rows.planChecksRow.inPlace==Tryz.pinned.checked.prog.inPlace 5)=true:=by kernel_rfl
theorem pchecks_k2:(Rows.planChecksRow.unfollowed==Tryz.pinned.checked.prog.unfollowed 5)=true:=by kernel_rfl
theorem pchecks_k3:(Rows.planChecksRow.recurses==Tryz.pinned.checked.prog.recurses 5)=true:=by kernel_rfl
theorem pchecks_k4:(Rows.planChecksRow.named==Tryz.pinned.checked.prog.varsNamed 5)=true:=by kernel_rfl
theorem pchecks_k5:Tryz.pinned.checked.prog.funcNamed Rows.planChecksRow.func=some 5:=by kernel_rfl
theorem pchecks_k6:mapsRowed Tryz.pinned.checked.prog=true:=by kernel_rfl
theorem pchecks_k7:Tryz.pinned.checked.prog.stopsHeard=true:=by kernel_rfl
theorem pchecks_k8:Tryz.pinned.checked.prog.mayEnter=true:=by kernel_rfl
theorem pchecks_k9:(Rows.planChecksRow.lifted==Tryz.pinned.checked.prog.liftsFinal)=true:=by kernel_rfl
theorem pchecks_k0:(Tryz.pinned.checked.prog.make==some Rows.planChecksRow.make)=true:=by kernel_rfl
theorem pchecks_facts:joinedFacts Tryz.pinned.checked.prog 5 Tryz.f5 Rows.planChecksSpec Rows.planChecksRow=true:=by
 unfold joinedFacts
 rw[pchecks_k1,pchecks_k2,pchecks_k3,pchecks_k4,show laidOutB Tryz.pinned.checked.prog=true from Tryz.laidOut,pchecks_k6,pchecks_k7,pchecks_k8,pchecks_k9,pchecks_k0]
 kernel_rfl
theorem pchecks_row:Rows.PlanChecksSaid:=
 OpenClaim.holds_of_wide 5 Tryz.f5 rfl rfl rfl rfl rfl rfl rfl ⟨rfl,rfl,rfl,rfl,rfl⟩ rfl rfl rfl rfl rfl pchecks_k5 Tryz.func5 pchecks_facts
  (of_decide_eq_true (by kernel_rfl)) (by unfold Func.isWrapper;first|(rw[if_pos (by decide+kernel)];kernel_rfl)|(rw[if_neg (by decide+kernel)];exact⟨rfl,rfl⟩))
  (fun os started H enc _=>pchecks_lifted os started H enc)
theorem pchecks_k11:Rows.planChecksRow.wfByText (OpenSpec.ofChange Rows.planChecksSpec)=true:=by kernel_rfl
theorem pchecks_k12:Tryz.pinned.checked.prog.mainIs=some (Rows.planChecksCard.stood.harness.1,Rows.planChecksCard.stood.harness.2.toList):=by kernel_rfl
theorem pchecks_k13:true=Tryz.pinned.checked.prog.looks []:=by kernel_rfl
theorem goes_none{P:Program}(h:P.funcs.toList.any Func.goes=false)(f:FuncId):P.goes f=false:=by
 have h':P.funcs.any Func.goes=false:=by rw[←Array.any_toList];exact h
 unfold Program.goes
 rw[h',Bool.and_false,Bool.or_false,List.any_eq_false]
 intro g _ hg
 cases hf:P.funcs[g]? with
 |none=>rw[hf]at hg;cases hg
 |some fn=>
  rw[hf]at hg
  rw[List.any_eq_false]at h
  exact h fn (Array.mem_toList_iff.2 (Array.mem_of_getElem? hf)) hg
theorem goes_by{P:Program}(h:P.funcs.toList.any Func.goes=false)(c:OpenClaim)(hs:c.start=.entering):false=c.goesBy P:=by
 unfold OpenClaim.goesBy Program.goesAt Program.goesFrom
 rw[hs]
 cases P.funcNamed c.func with
 |none=>rfl
 |some f=>
  show false=(P.goes f||false)
  rw[goes_none h];rfl
theorem pchecks_goes:Tryz.pinned.checked.prog.funcs.toList.any Func.goes=false:=by kernel_rfl
theorem pchecks_k14:false=Rows.planChecksRow.goesBy Tryz.pinned.checked.prog:=goes_by pchecks_goes _ rfl
theorem pchecks_k15:(Tryz.f5.params.toList.all fun u=>!Tryz.prog.wantsStandIn u)=true:=by kernel_rfl
theorem pchecks_holds:Rows.PlanChecksCardSaid:=
 Claim7.holds_tied_plain_at .later [] [.data,.data,.data] true _ true
  pchecks_row (fun _ h=>by cases h) pchecks_k11 (fun _ h=>by cases h) planChecks_row_tie rfl ⟨rfl,rfl⟩ pchecks_k12 rfl
  (fun f fn hf hfn=>by
   obtain rfl:f=5:=Option.some.inj ((show Tryz.prog.funcNamed Tryz.f5.name=some 5 from pchecks_k5).symm.trans hf)|>.symm
   obtain rfl:fn=Tryz.f5:=(Option.some.inj (Tryz.func5.symm.trans hfn)).symm
   exact⟨pchecks_k13,fun j t htj=>by
    have hm:=Array.mem_of_getElem? htj
    exact(show Tryz.prog.wantsStandIn t=false by simpa using List.all_eq_true.1 pchecks_k15 t (by simpa using hm))⟩)
  pchecks_k14
end Go.Proofs.YtjommdkgfbhbdaaGreatDoor
