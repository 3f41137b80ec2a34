/- The law PlanDelivers returns true at every input, and its arguments read behind the call as they read before: the statement Rows.PlanDeliversCardSaid. Condition: the listed package-level variables start as the program's text lays them, to which the card ties them. -/
import Derived.Test.YtambgjgljcadlaaGreatDoorRows
import Derived.Test.YtambgjgljcadlaaGreatDoorCards
import Derived.Test.YtambgjgljcadlaaGreatDoorTie
import Derived.SevenTiedAt
import GoSem.ClaimGoes
import Derived.Test.YtambgjgljcadlaaGreatDoorQ23
namespace Go.Proofs.YtambgjgljcadlaaGreatDoor
open Go.ChangeShapes Go.WideShapes Go.ChangeAt Go.RowKit Go.Eng
open Go.ChangeMaps (open_string)
set_option maxRecDepth 100000 in
theorem pdelivers_lifted(os:Os)(started:os.Started)(H:Type)(enc:TypeId×Value→H):
 ReturnsInHanded {} Tryz.checked os 3 .any (fun w args=>(Rows.planDeliversSpec.pre enc Tryz.prog Tryz.f3 [] false w args∧laidMetH Tryz.prog Yie w)∧sizedMet enc Tryz.prog Tryz.f3 (OpenSpec.ofChange Rows.planDeliversSpec) false w args)
  (Rows.planDeliversSpec.post enc Tryz.prog Tryz.f3 false true false false):=by
 refine YlX (C:=Tryz.checked) (X:=fun w=>laidMetH Tryz.prog Yie w) (fun _ _ hh h=>h.of_heap hh) Tryz.own started (by kernel_rfl) Tryz.func3
  (ChangeSpec.witness_shaped (enc:=enc) (C:=Tryz.checked) (os:=os) (X:=fun w _=>laidMetH Tryz.prog Yie w) false (Ye3 os) #[.agg #[.int .i64 0,.slice none 0 0,.int .i64 0,.int .i64 0,.slice none 0 0,.slice none 0 0,.slice none 0 0,.int .i64 0,.int .i64 0,.slice none 0 0,.slice none 0 0,.slice none 0 0],.slice none 0 0] 8 rfl (Ynz os _) (by kernel_rfl) (by kernel_rfl) (by kernel_rfl) (Yq5 os _)) ?_
 intro W base args ds gs before hval0 hW hL hsh
 have hval:∀(j:Nat) t v,Tryz.f3.params[j]? =some t→args[j]? =some v→Value.okWide Tryz.prog W .any base t v:=hval0
 have hW':DataW.Whole enc Tryz.prog Tryz.f3.params.toList Rows.planDeliversSpec.vars false W args.toList ds gs before:=hW
 obtain⟨p,q,hA0,hV,rfl,hfz,hnd⟩:=hW
 have hA:DataW.TrodAll enc Tryz.prog W 0 (fun _=>true) true Tryz.f3.params.toList args.toList ds p:=hA0
 obtain⟨rfl,rfl⟩:=trodVars_none hV
 rw[Tryz.params3]at hA hval
 obtain⟨v0,v1,d0,d1,p0,p1,rfl,rfl,rfl,h0,h1⟩:=trodAll_two hA
 obtain⟨pl,rfl,hpl⟩:=YwJ (hval 0 _ v0 rfl rfl) h0
 obtain⟨x,rfl,hx⟩:=Ytp (hval 1 _ v1 rfl rfl) h1
 have ht:=tabs_of hL hsh
 refine(YpU pl x.xs (xA:=x.A) (xc:=x.cap) ht hpl.bg (Yvx hx) (Yvh hx) (St.start W)).mono ?_
 rintro e' W' ⟨v,K,rfl,hst,rfl,-⟩
 exact⟨_,rfl,Yvw Tryz.laidOut (by kernel_rfl) rfl rfl Tryz.underlying4 hW' hst.below rfl rfl rfl⟩
theorem pdelivers_row:Rows.PlanDeliversSaid:=
 OpenClaim.holds_of_wide 3 Tryz.f3 rfl rfl rfl rfl rfl rfl rfl ⟨rfl,rfl,rfl,rfl,rfl⟩ rfl rfl rfl rfl rfl Ysq Tryz.func3 Yoo
  (of_decide_eq_true (by kernel_rfl)) (by unfold Func.isWrapper;first|(rw[if_pos (by decide+kernel)];kernel_rfl)|(rw[if_neg (by decide+kernel)];exact⟨rfl,rfl⟩))
  (fun os started H enc _=>pdelivers_lifted os started H enc)
theorem pdelivers_holds:Rows.PlanDeliversCardSaid:=
 Claim7.holds_tied_plain_at .later [] [.data,.data,.data] true _ true
  pdelivers_row (fun _ h=>by cases h) Yq6 (fun _ h=>by cases h) planDelivers_row_tie rfl ⟨rfl,rfl⟩ Yq7 rfl
  (fun f fn hf hfn=>by
   obtain rfl:f=3:=Option.some.inj ((show Tryz.prog.funcNamed Tryz.f3.name=some 3 from Ysq).symm.trans hf)|>.symm
   obtain rfl:fn=Tryz.f3:=(Option.some.inj (Tryz.func3.symm.trans hfn)).symm
   exact⟨Yq8,fun j t htj=>by
    have hm:=Array.mem_of_getElem? htj
    exact(show Tryz.prog.wantsStandIn t=false by simpa using List.all_eq_true.1 Yra t (by simpa using hm))⟩)
  Yq9
end Go.Proofs.YtambgjgljcadlaaGreatDoor
