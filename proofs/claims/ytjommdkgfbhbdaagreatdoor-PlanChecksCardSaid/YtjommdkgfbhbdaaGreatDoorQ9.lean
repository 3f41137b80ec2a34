/- Lemmas. -/
import Derived.Test.YtjommdkgfbhbdaaGreatDoorQ6
set_option maxRecDepth 100000
set_option maxHeartbeats 8000000
set_option linter.all false
namespace Go.Eng
open Go.RowKit
section
variable {P:Program}{B:Nat}{w0:World}{env:Env}{H:List HP}{Q:Exit->Act->World->Prop}
theorem Yg3{α:Type}{k:Nat}{r:Option Nat}{ds0:List Deferred}(DS:α->List Deferred)(E:α->Env)(HH:α->List HP)(I:α->Prop)(μ:α->Nat){c:Code}(x0:α)(h0:I x0)(hd:DS x0=ds0)
 (he:∀t v,get (E x0) t=some v->get env t=some v) (hH:∀w,St B w0 H w->St B w0 (HH x0) w)
 (round:∀x,I x->∀K:Act->World->Prop,(∀x',I x'->μ x'<μ x->∀env' H',(∀t v,get (E x') t=some v->get env' t=some v)->(∀w,St B w0 H' w->St B w0 (HH x') w)->VQ ⟨k,DS x',r⟩ B w0 (Exit.then K Q) .normal env' H')->
  VC P ⟨k,DS x,r⟩ B w0 c (Exit.then K Q) (E x) (HH x)):VC P ⟨k,ds0,r⟩ B w0 (.loop c) Q env H:=by
 subst hd
 refine⟨λa w ha hw=>Yjq (λj a w=>∃x,μ x=j/\I x/\Fits ⟨k,DS x,r⟩ a (E x)/\St B w0 (HH x) w) (μ x0) ⟨x0,rfl,h0,ha.sub he,hH w hw⟩ ?_⟩
 rintro j a w ⟨x,rfl,hx,ha,hw⟩
 refine ZX ((round x hx (λa w=>∃y,I y/\μ y<μ x/\Fits ⟨k,DS y,r⟩ a (E y)/\St B w0 (HH y) w) (λy hI hμ env' H' he' hH'=>⟨λa w ha hw=>⟨y,hI,hμ,ha.sub he',hH' w hw⟩⟩)).run a w ha hw) ?_
 intro e a w hq
 cases e with
 |normal=>exact Yum
 |exit id=>exact hq
 |goto l=>exact hq
 |ret=>exact hq
 |panic ch=>exact hq
 |outgrown=>exact hq
abbrev mkD(D:Nat):Deferred:=⟨.collected D,#[]⟩
abbrev mkB(D:Nat):HP:=blk D (.deferred (some []))
theorem Yhp{n:Nat}{ds:List Deferred}{fn:Func}{R:Ending->World->Prop}:∀{Ds:List Nat}{H H':List HP},(∀w,St B w0 H w->St B w0 (Ds.map mkB++H') w)->VQ ⟨n,ds,none⟩ B w0 (bodyPostM Fence.wide 0 P fn R) .ret env H'->
 VQ ⟨n,Ds.map mkD++ds,none⟩ B w0 (bodyPostM Fence.wide 0 P fn R) .ret env H
 |[],_,_,hp,h=>Yf _ hp h
 |D::Ds,_,H',hp,h=>by
  refine Yf (mkB D::(Ds.map mkB++H')) hp ?_
  exact ZZ Yo (Yhp (λw hw=>hw) h)
end
end Go.Eng
