/- Lemmas. -/
import Derived.Test.YtjlgijpmnfabcaaGreatDoorQ6
import Derived.Test.YtjlgijpmnfabcaaGreatDoorQ7
set_option maxRecDepth 100000
set_option maxHeartbeats 8000000
set_option linter.all false
namespace Go.Proofs.YtjlgijpmnfabcaaGreatDoor
open Go.ChangeShapes Go.WideShapes Go.ChangeAt Go.RowKit Go.Eng Go.Nw
open Go.ChangeMaps (open_string)
def flwF(f:Flw):List Value:=[.int .i64 f.1,.int .i64 f.2.1,.int .i64 f.2.2.1,.int .i64 f.2.2.2.1,.int .i64 f.2.2.2.2.1,.int .i64 f.2.2.2.2.2]
section
variable {H:Type}{enc:TypeId×Value->H}{W:World}{spare:Nat->Bool}{held:Bool}
abbrev CelG(c:Cel):Prop:=I64 c.1/\I64 c.2.1/\I64 c.2.2.1/\I64 c.2.2.2.1/\I64 c.2.2.2.2
abbrev FlwG(f:Flw):Prop:=I64 f.1/\I64 f.2.1/\I64 f.2.2.1/\I64 f.2.2.2.1/\I64 f.2.2.2.2.1/\I64 f.2.2.2.2.2
theorem YrF:Opn enc Tryz.prog W spare held 48 celF CelG:=
 Uk (Z6 (ts:=[3,3,3,3,3]) (by kernel_rfl) (Yw op_i (Yw op_i (Yw op_i (Yw op_i (Yw op_i V5)))))) (λx=>(x.1,x.2.1,x.2.2.1,x.2.2.2.1,x.2.2.2.2.1)) (λ_=>rfl) (λ_ h=>⟨h.1,h.2.1,h.2.2.1,h.2.2.2.1,h.2.2.2.2.1⟩)
theorem YpM:Opn enc Tryz.prog W spare held 28 (λs:SlM Cel=>[s.val]) (SlG W celF CelG):=ZG (q:=5) Tryz.underlying28 (by kernel_rfl) (by decide) YrF
theorem YrG:Opn enc Tryz.prog W spare held 66 flwF FlwG:=
 Uk (Z6 (ts:=[3,3,3,3,3,3]) (by kernel_rfl) (Yw op_i (Yw op_i (Yw op_i (Yw op_i (Yw op_i (Yw op_i V5))))))) (λx=>(x.1,x.2.1,x.2.2.1,x.2.2.2.1,x.2.2.2.2.1,x.2.2.2.2.2.1)) (λ_=>rfl) (λ_ h=>⟨h.1,h.2.1,h.2.2.1,h.2.2.2.1,h.2.2.2.2.1,h.2.2.2.2.2.1⟩)
structure SchG(W:World)(s:SchM):Prop where
 len:I64 s.len
 off:I64 s.off
 old:Old W s.A (s.cells.flatMap celF)
 few:s.cells.length<=9223372036854775807
 good:∀c∈s.cells,CelG c
 cap:s.cells.length<=s.cap
def schF(s:SchM):List Value:=[.int .i64 s.len,.int .i64 s.off,.slice s.A s.cells.length s.cap]
theorem Yuw:Opn enc Tryz.prog W spare held 30 schF (SchG W):=
 Uk (Z6 (ts:=[3,3,28]) (by kernel_rfl) (Yw op_i (Yw op_i (Yw YpM V5))))
  (λx=>⟨x.1,x.2.1,x.2.2.1.A,x.2.2.1.cap,x.2.2.1.xs⟩) (λx=>by simp[schF,numF,SlM.val])
  (λx h=>by
   obtain⟨h1,h2,h3,_⟩:=h
   exact⟨h1,h2,h3.old,TY h3.len maxL,h3.good,h3.cap⟩)
end
end Go.Proofs.YtjlgijpmnfabcaaGreatDoor
namespace Go.Eng
open Go.RowKit
section
variable {P:Program}{B:Nat}{w0:World}{env:Env}{H:List HP}{Q:Exit->Act->World->Prop}
theorem YgD{α:Type}{k:Nat}{r:Option Nat}{ds0:List Deferred}(DS:α->List Deferred)(E:α->Env)(HH:α->List HP)(I:α->Prop)(μ:α->Nat){c:Code}(x0:α)(h0:I x0)(hd:DS x0=ds0)
 (he:∀t v,get (E x0) t=some v->get env t=some v) (hH:∀w,St B w0 H w->St B w0 (HH x0) w)
 (round:∀x,I x->∀K:Act->World->Prop,(∀x',I x'->μ x'<μ x->∀env' H',(∀t v,get (E x') t=some v->get env' t=some v)->(∀w,St B w0 H' w->St B w0 (HH x') w)->VQ ⟨k,DS x',r⟩ B w0 (Exit.then K Q) .normal env' H')->
  VC P ⟨k,DS x,r⟩ B w0 c (Exit.then K Q) (E x) (HH x)):VC P ⟨k,ds0,r⟩ B w0 (.loop c) Q env H:=by
 subst hd
 refine⟨λa w ha hw=>YiQ (λj a w=>∃x,μ x=j/\I x/\Fits ⟨k,DS x,r⟩ a (E x)/\St B w0 (HH x) w) (μ x0) ⟨x0,rfl,h0,ha.sub he,hH w hw⟩ ?_⟩
 rintro j a w ⟨x,rfl,hx,ha,hw⟩
 refine Zp ((round x hx (λa w=>∃y,I y/\μ y<μ x/\Fits ⟨k,DS y,r⟩ a (E y)/\St B w0 (HH y) w) (λy hI hμ env' H' he' hH'=>⟨λa w ha hw=>⟨y,hI,hμ,ha.sub he',hH' w hw⟩⟩)).run a w ha hw) ?_
 intro e a w hq
 cases e with
 |normal=>exact YtC
 |exit id=>exact hq
 |goto l=>exact hq
 |ret=>exact hq
 |panic ch=>exact hq
 |outgrown=>exact hq
abbrev mkD(D:Nat):Deferred:=⟨.collected D,#[]⟩
abbrev mkB(D:Nat):HP:=blk D (.deferred (some []))
theorem Yg1{n:Nat}{ds:List Deferred}{fn:Func}{R:Ending->World->Prop}:∀{Ds:List Nat}{H H':List HP},(∀w,St B w0 H w->St B w0 (Ds.map mkB++H') w)->VQ ⟨n,ds,none⟩ B w0 (bodyPostM Fence.wide 0 P fn R) .ret env H'->
 VQ ⟨n,Ds.map mkD++ds,none⟩ B w0 (bodyPostM Fence.wide 0 P fn R) .ret env H
 |[],_,_,hp,h=>Yh _ hp h
 |D::Ds,_,H',hp,h=>by
  refine Yh (mkB D::(Ds.map mkB++H')) hp ?_
  exact Zr Yq (Yg1 (λw hw=>hw) h)
end
end Go.Eng
