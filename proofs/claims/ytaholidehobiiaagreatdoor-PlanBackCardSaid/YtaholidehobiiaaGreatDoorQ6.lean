/- Lemmas for the claim, part 6. -/
import Derived.WideKeyRuns
import Derived.Test.YtaholidehobiiaaGreatDoorQ2
import Derived.Test.YtaholidehobiiaaGreatDoorQ3
set_option maxRecDepth 100000
set_option maxHeartbeats 8000000
set_option linter.all false
namespace Go.Rt
open Go.Nw
structure FA where
 f:Int
 t:Int
 c:Int
 u:Bool
def fwd(x:FA):Ed:=⟨x.f,x.t,x.c,if x.u=true then 0 else 1⟩
def rev(x:FA):Ed:=⟨x.t,x.f,-x.c,if x.u=true then 1 else 0⟩
def YS:List FA->List Ed
 |[]=>[]
 |x::l=>fwd x::rev x::YS l
def Vw(x:FA):FA:=⟨x.f,x.t,x.c,!x.u⟩
theorem Vd:∀(l:List FA) (j:Nat),(YS l)[2*j]? =(l[j]?).map fwd
 |[],_=>rfl
 |x::l,0=>rfl
 |x::l,j+1=>by
  rw[show 2*(j+1)=2*j+1+1 by omega]
  simp only[YS,Ns,Vd l j]
theorem Ve:∀(l:List FA) (j:Nat),(YS l)[2*j+1]? =(l[j]?).map rev
 |[],_=>rfl
 |x::l,0=>rfl
 |x::l,j+1=>by
  rw[show 2*(j+1)+1=2*j+1+1+1 by omega]
  simp only[YS,Ns,Ve l j]
theorem Ybp:∀(l:List FA) (j:Nat) (y:FA),((YS l).set (2*j) (fwd y)).set (2*j+1) (rev y)=YS (l.set j y)
 |[],_,_=>rfl
 |x::l,0,y=>rfl
 |x::l,j+1,y=>by
  rw[show 2*(j+1)+1=2*j+1+1+1 by omega,show 2*(j+1)=2*j+1+1 by omega]
  simp only[YS,NQ,Ybp l j y]
theorem Qq{e:Ed}:∀{l:List FA},e∈YS l->∃x∈l,e=fwd x\/e=rev x
 |x::l,h=>by
  simp only[YS,TL]at h
  rcases h with h|h|h
  ·simp_all
  ·simp_all
  ·obtain⟨y,hy,h⟩:=Qq h
   grind
theorem V5{x:FA}:∀{l:List FA},x∈l->fwd x∈YS l/\rev x∈YS l
 |y::l,h=>by
  simp only[YS,TL]
  rcases TL.1 h with rfl|h
  ·simp_all
  ·obtain⟨h1,h2⟩:=V5 h
   simp_all
def sumI{α:Type}(g:α->Int)(l:List α):Int:=(l.map g).sum
variable {α:Type}
theorem YV(g:α->Int)(a:α)(l:List α):sumI g (a::l)=g a+sumI g l:=by simp[sumI]
theorem Ysn(g:α->Int):sumI g []=0:=rfl
theorem JJ(g:α->Int)(l m:List α):sumI g (l++m)=sumI g l+sumI g m:=by
 grind [sumI]
theorem V8(g:α->Int){l m:List α}(h:l.Perm m):sumI g l=sumI g m:=by
 induction h with
 |nil=>rfl
 |cons a _ ih=>grind [YV]
 |swap a b l=>rw[YV,YV,YV,YV];omega
 |trans _ _ h1 h2=>omega
theorem YeM{α:Type}(g:α->Int){x y:α}:∀{l:List α}{j:Nat},l[j]? =some x->sumI g (l.set j y)=sumI g l-g x+g y
 |[],_,h=>by simp at h
 |a::l,0,h=>by
  obtain rfl:a=x:=by simp_all
  rw[NB,YV,YV];omega
 |a::l,j+1,h=>by
  have:=YeM g (y:=y) (l:=l) (j:=j) (by simpa using h)
  grind [YV]
theorem UX{α:Type}{g:α->Int}:∀{l:List α},(∀x∈l,0<=g x)->0<=sumI g l
 |[],_=>R7 _
 |a::l,h=>by
  have h2:=UX (l:=l) λx hx=>h x (TA _ hx)
  grind [YV]
theorem YeL{β:Type}(g:β->Int)(f:α->β)(l:List α):sumI g (l.map f)=sumI (λx=>g (f x)) l:=by
 grind [sumI,Function.comp_def]
abbrev E3:=Int×Int×Int
def Zk(L:List FA):List E3:=L.map λx=>(x.f,x.t,x.c)
def balG(p:Int->Int)(x:FA):Int:=if x.u=true then p x.t-p x.f else 0
def bal(L:List FA)(p:Int->Int):Int:=sumI (balG p) L
def Yi5(x:FA):Int:=if x.u=true then x.c else 0
def UF(L:List FA):Int:=sumI Yi5 L
variable {L:List FA}{e:Ed}
theorem YtR{i:Nat}(hi:(YS L)[i]? =some e)(hr:0<e.r):∃j x,L[j]? =some x/\i/2=j/\twin i<(YS L).length/\VR (VR (YS L) i (-1)) (twin i) 1=YS (L.set j (Vw x))/\((i=2*j/\x.u=false/\e=fwd x)\/(i=2*j+1/\x.u=true/\e=rev x)):=by
 have hlt:=(Tj.1 hi).1
 rcases Nat.mod_two_eq_zero_or_one i with h|h
 ·obtain⟨j,rfl⟩:∃j,i=2*j:=⟨i/2,by omega⟩
  have ht:twin (2*j)=2*j+1:=by simp_all [twin]
  rw[Vd]at hi
  cases hx:L[j]? with
  |none=>simp_all
  |some x=>
   have hu:x.u=false:=by
    cases hu:x.u with
    |false=>rfl
    |true=>grind [fwd]
   have h1:VR (YS L) (2*j) (-1)=(YS L).set (2*j) (fwd (Vw x)):=by
    grind [VR,Vd,fwd,Vw]
   grind [Vw,rev,Ve,VR,Ybp]
 ·obtain⟨j,rfl⟩:∃j,i=2*j+1:=⟨i/2,by omega⟩
  have ht:twin (2*j+1)=2*j:=by simp_all [twin]
  rw[Ve]at hi
  cases hx:L[j]? with
  |none=>simp_all
  |some x=>
   rw[hx]at hi
   obtain rfl:rev x=e:=Tv hi
   have hu:x.u=true:=by
    cases hu:x.u with
    |true=>rfl
    |false=>grind [rev]
   refine⟨j,x,hx,by omega,by omega,?_,.inr ⟨rfl,hu,rfl⟩⟩
   have h1:VR (YS L) (2*j+1) (-1)=(YS L).set (2*j+1) (rev (Vw x)):=by
    grind [VR,Ve,rev,Vw]
   have h2:((YS L).set (2*j+1) (rev (Vw x)))[2*j]? =some (fwd x):=by
    grind [Vd]
   rw[h1]
   unfold VR
   rw[<-Ybp,List.set_comm _ _ (by omega)]
   grind [fwd,Vw]
variable {j m n sides:Nat}{x:FA}
theorem YoO(hx:L[j]? =some x):Zk (L.set j (Vw x))=Zk L:=by
 unfold Zk
 rw[List.map_set]
 apply Sv
 intro i
 by_cases h:j=i
 ·subst h
  have hj:=(Tj.1 hx).1
  rw[S0 (by simp_all),TR,hx];rfl
 simp_all
variable {π:Int->Int}
theorem YrX(_hx:L[j]? =some x)(he:(x.u=false/\e=fwd x)\/(x.u=true/\e=rev x))(hp:PotE (YS L) π)(ht:π e.f+e.c=π e.t):PotE (YS (L.set j (Vw x))) π:=by
 intro e' he' hr'
 obtain⟨y,hy,h⟩:=Qq he'
 rcases ND hy with hy|rfl
 ·obtain⟨h1,h2⟩:=V5 hy
  rcases h with rfl|rfl
  ·exact hp _ h1 hr'
  ·exact hp _ h2 hr'
 grind [fwd,Vw,rev]
theorem Yfm{y:FA}(h:m/2≠j):(YS (L.set j y))[m]? =(YS L)[m]? :=by
 rcases Nat.mod_two_eq_zero_or_one m with hm|hm
 ·obtain⟨k,rfl⟩:∃k,m=2*k:=⟨m/2,by omega⟩
  grind [Vd]
 ·obtain⟨k,rfl⟩:∃k,m=2*k+1:=⟨m/2,by omega⟩
  grind [Ve]
variable {by_:List Int}{s v w:Int}
theorem Chain.other{T:Ed->Prop}(hv:Chain (YS L) by_ s T v (n+1))(hi:(YS L)[(Yf by_ v).toNat]? =some e)(het:e.t=v)(hx:L[j]? =some x)(_hj:(Yf by_ v).toNat/2=j)(hex:((Yf by_ v).toNat=2*j/\e=fwd x)\/((Yf by_ v).toNat=2*j+1/\e=rev x))(h:Chain (YS L) by_ s T w m)(hm:m<=n):Chain (YS (L.set j (Vw x))) by_ s T w m:=by
 induction h with
 |here=>exact .here
 |@step w m e' hne h0 hi' ht hr hT h ih=>
  refine .step hne h0 ?_ ht hr hT (ih (by omega))
  rw[Yfm];exact hi'
  intro hjj
  have hfull:Chain (YS L) by_ s T w (m+1):=.step hne h0 hi' ht hr hT h
  have hwv:w≠v:=by grind [Go.Rt.Chain.uniq]
  by_cases hsame:(Yf by_ w).toNat=(Yf by_ v).toNat
  ·simp_all
  ·rcases hex with⟨h1,rfl⟩|⟨h1,rfl⟩
   ·have h2:(Yf by_ w).toNat=2*j+1:=by omega
    rw[h2,Ve,hx]at hi'
    have:(rev x).f=v:=het
    grind [Go.Rt.Chain.uniq]
   ·have h2:(Yf by_ w).toNat=2*j:=by omega
    rw[h2,Vd,hx]at hi'
    have:(fwd x).f=v:=het
    grind [Go.Rt.Chain.uniq]
theorem YmP{by_ far:List Int}{s:Int}{T:Ed->Prop}{π:Int->Int}(hT:∀e,T e->π e.f+e.c=π e.t/\Yf far e.f+e.c=Yf far e.t):∀(n k:Nat) (v:Int) (L:List FA),Chain (YS L) by_ s T v n->n<k->PotE (YS L) π->
 ∃L',YbS k (YS L) by_ s v=some (YS L')/\Zk L'=Zk L/\(∀p,bal L' p=bal L p+(p v-p s))/\UF L'=UF L+(Yf far v-Yf far s)/\PotE (YS L') π
 |_,0,_,_,_,h,_=>by omega
 |0,k+1,v,L,h,_,hp=>by
  cases h
  refine⟨L,by simp_all [YbS],rfl,λp=>by omega,by omega,hp⟩
 |n+1,k+1,v,L,h,hk,hp=>by
  cases id h with
  |@step _ _ e hne h0 hi ht hr hTe h'=>
   obtain⟨j,x,hx,hj,htw,hmv,hcase⟩:=YtR hi hr
   obtain⟨t1,t2⟩:=hT e hTe
   have hcase2:(x.u=false/\e=fwd x)\/(x.u=true/\e=rev x):=by
    grind
   have hex:((Yf by_ v).toNat=2*j/\e=fwd x)\/((Yf by_ v).toNat=2*j+1/\e=rev x):=by
    grind
   obtain⟨L',b1,b2,b3,b4,b5⟩:=YmP hT n k e.f (L.set j (Vw x)) (Chain.other h hi ht hx hj hex h' (TJ _)) (by omega) (YrX hx hcase2 hp t1)
   refine⟨L',?_,by rw[b2,YoO hx],λp=>?_,?_,b5⟩
   ·simp_all [YbS]
   ·have:bal (L.set j (Vw x)) p=bal L p+(p e.t-p e.f):=by
     grind [bal,YeM,balG,Vw,fwd,rev]
    grind
   ·have:UF (L.set j (Vw x))=UF L+e.c:=by
     grind [UF,YeM,Yi5,Vw,fwd,rev]
    grind
theorem YoD{es:List Ed}(hp:PotE es π){far:List Int}{D:Int}(_hs:sides<=1000)(h:Chain es by_ s (Tle far) w n)(hd:Yf far w-π w<=D):Chain es by_ s (λe=>Tle far e/\Yf far e.t-π e.t<=D/\Yf far e.f-π e.f<=D) w n:=by
 induction h with
 |here=>exact .here
 |@step w n e hne h0 hi ht hr hT h ih=>
  have hpe:=hp e (Tc hi) hr
  obtain⟨t1,t2⟩:=id hT
  subst ht
  exact .step hne h0 hi rfl hr ⟨hT,hd,by omega⟩ (ih (by omega))
theorem Yaf:(Zx sides s).length=sides:=by grind [Zx]
theorem ZG(hs:0<=s/\s<sides)(hv:0<=v/\v<sides):Yf (Zx sides s) v=if v=s then 0 else YP:=by
 unfold Zx
 split
 ·grind [Zt]
 ·rw[XN (by omega)]
  simp_all [Yf]
structure YsT(sides:Nat)(L:List FA)(s t x W:Int)(es':List Ed)(L':List FA)(π':Int->Int):Prop where
 es:es'=YS L'
 ends:Zk L'=Zk L
 bal_:∀p,bal L' p=bal L p+(p t-p s)
 cost:UF L'=UF L+x
 pot:PotE (YS L') π'
 bd:∀v:Int,0<=v->v<sides-> -W<=π' v/\π' v<=3*W+8*sides
structure Yqa(L:List FA)(s t x:Int)(es':List Ed)(R:Int->Bool):Prop where
 es:es'=YS L
 x0:x=0
 rs:R s=true
 rt:R t=false
 cl:∀e∈YS L,0<e.r->R e.f=true->R e.t=true
theorem YhR{fuel:Nat}{t W:Int}(hs:sides<=100)(hes:Ed8 sides (YS L))(hp:PotE (YS L) π)(hW:0<=W/\W<=100000)(hb:∀v:Int,0<=v->v<sides-> -W<=π v/\π v<=W)(hs0:0<=s/\s<sides)(ht0:0<=t/\t<sides)(hf:sides*(8*sides+1+(2*W).natAbs)<fuel)(hf2:sides<fuel):
 ∃r,Ycj fuel sides (YS L) s t=some r/\((r.2.1=false/\∃R,Yqa L s t r.1 r.2.2 R)\/(r.2.1=true/\∃L' π',YsT sides L s t r.1 W r.2.2 L' π')):=by
 have hn:=YaO
 have hps:=hb s hs0.1 hs0.2
 have hplo:PotE (YS L) (λv=>π v-π s):=λe he hr=>by have:=hp e he hr;grind
 have hL:∀v:Int,0<=v->v<sides-> -(2*W)<=(λv=>π v-π s) v:=by grind
 have hG:RelG sides (λv=>π v-π s) (Zx sides s,List.replicate sides (-1),false):=by
  refine⟨Yaf,Rr,λv h0 h1=>?_,λv h0 h1=>?_,λv h0 h1=>?_⟩
  ·simp only
   rw[ZG hs0 ⟨h0,h1⟩]
   grind
  ·simp only
   rw[ZG hs0 ⟨h0,h1⟩]
   omega
  ·simp only
   rw[ZG hs0 ⟨h0,h1⟩]
   omega
 have hC:RelC sides (YS L) s (Zx sides s) (List.replicate sides (-1)):=by
  refine⟨by simp_all [ZG],λv h0 h1 h2=>?_⟩
  rw[ZG hs0 ⟨h0,h1⟩]at h2
  by_cases h:v=s
  ·rw[h];exact⟨0,.here⟩
  omega
 have hm:=YwC (sides:=sides) (L:= -(2*W)) (far:=Zx sides s) Yaf (by omega)
 rw[Int.natAbs_neg]at hm
 obtain⟨⟨far,by_⟩,hr,hG2,hC2,hcl⟩:=YbD (by omega) hes hplo hL (RelC sides (YS L) s) (λi e st hi hG h=>YgF hes hplo hs0 (Int.sub_self _) i e st hi hG h) fuel _ _ hG hC (by omega)
 simp only at hG2 hC2 hcl
 unfold Ycj
 rw[hr]
 simp only
 obtain⟨l1,l2,hlo,hhi,htop⟩:=hG2
 simp only at l1 l2 hlo hhi htop
 have hcn:=Yld far
 have hfin:∀v:Int,0<=v->v<sides->Yf far v<YP->Yf far v<=8*sides:=by grind
 have hclosed:∀e∈YS L,0<e.r->Yf far e.f<YP->Yf far e.t<=Yf far e.f+e.c/\Yf far e.t<YP:=by
  intro e he hr hf
  obtain⟨⟨e1,e2⟩,⟨e3,e4⟩,⟨e5,e6⟩⟩:=hes e he
  have h1:=hfin e.f e1 e2 hf
  have h2:Yf far e.t<=Yf far e.f+e.c:=by
   rcases Me (Yf far e.f+e.c) (Yf far e.t)with h|h
   ·exact absurd ⟨hr,hf,h⟩ (hcl e he)
   omega
  omega
 by_cases hno:YP<=Yf far t
 ·rw[Tn hno]
  refine⟨_,rfl,.inl ⟨rfl,λv=>decide (Yf far v<YP),rfl,rfl,?_,?_,?_⟩⟩
  ·grind [Go.Rt.RelC.s0]
  all_goals simp_all
 ·rw[Tf hno]
  have hto:Yf far t<YP:=by omega
  obtain⟨n,hn'⟩:=hC2.ch t ht0.1 ht0.2 hto
  have hlt:=hlo t ht0.1 ht0.2
  have hft:=hfin t ht0.1 ht0.2 hto
  have hpt:=hb t ht0.1 ht0.2
  obtain⟨D,hD⟩:∃D,Yf far t-π t=D:=⟨_,rfl⟩
  have hlow:=YoD (sides:=sides) hp (by omega) hn' (Int.le_of_eq hD)
  --the new numbers
  let π':Int->Int:=λv=>if Yf far v<YP/\Yf far v-π v<=D then Yf far v+π s else π v+D+π s
  have hlowv:∀v,Yf far v<YP->Yf far v-π v<=D->π' v=Yf far v+π s:=by grind
  have hhiv:∀v,¬(Yf far v<YP/\Yf far v-π v<=D)->π' v=π v+D+π s:=λv h=>Tf h
  have hpot:PotE (YS L) π':=by
   intro e he hr
   have hpe:=hp e he hr
   grind
  have hch:Chain (YS L) by_ s (λe=>π' e.f+e.c=π' e.t/\Yf far e.f+e.c=Yf far e.t) t n:=by
   refine hlow.imp λe he hr ⟨⟨h1,h2⟩,h3,h4⟩=>?_
   grind
  have hnl:=hn'.len hes
  obtain⟨L',b1,b2,b3,b4,b5⟩:=YmP (λ_ h=>h) n fuel t L hch (by omega) hpot
  rw[b1]
  refine⟨_,rfl,.inr ⟨rfl,L',π',rfl,b2,b3,?_,b5,?_⟩⟩
  ·rw[b4,hC2.s0];omega
  grind
def balE(E:List E3)(p:Int->Int):Int:=sumI (λe=>p e.2.1-p e.1) E
def Jm(E:List E3):Int:=sumI (λe:E3=>e.2.2) E
variable {L:List FA}{E R:List E3}
theorem dual{q:Int->Int}{κ:E3->Int}(h1:∀x∈L,x.u=true->0<=q x.t-q x.f-κ (x.f,x.t,x.c))(h0:∀x∈L,x.u=false->q x.t-q x.f-κ (x.f,x.t,x.c)<=0)(hE:(Zk L).Perm (E++R)):balE E q-sumI κ E<=bal L q-sumI (λx:FA=>if x.u=true then κ (x.f,x.t,x.c)else 0) L:=by
 have e1:sumI (λe:E3=>max 0 (q e.2.1-q e.1-κ e)) (Zk L)=bal L q-sumI (λx:FA=>if x.u=true then κ (x.f,x.t,x.c)else 0) L:=by
  unfold Zk bal
  rw[YeL]
  clear hE
  induction L with
  |nil=>rfl
  |cons x L ih=>
   rw[YV,YV,YV,ih (λy hy=>h1 y (TA _ hy)) (λy hy=>h0 y (TA _ hy))]
   unfold balG
   grind
 rw[V8 _ hE,JJ]at e1
 have h2:0<=sumI (λe:E3=>max 0 (q e.2.1-q e.1-κ e)) R:=UX λe _=>by omega
 have h3:balE E q-sumI κ E<=sumI (λe:E3=>max 0 (q e.2.1-q e.1-κ e)) E:=by
  clear hE e1 h2
  unfold balE
  induction E with
  |nil=>exact R7 _
  |cons e E ih=>grind [YV]
 omega
theorem YoN{π:Int->Int}(hp:PotE (YS L) π)(hE:(Zk L).Perm (E++R))(hb:balE E π=bal L π):UF L<=Jm E:=by
 have h:=dual (q:=π) (κ:=λe=>e.2.2) (L:=L) (λx hx hu=>?_) (λx hx hu=>?_) hE
 ·unfold UF Jm
  have e:sumI Yi5 L=sumI (λx:FA=>if x.u=true then(x.f,x.t,x.c).snd.snd else 0) L:=rfl
  omega
 ·have:=hp _ (V5 hx).2 (by grind [rev])
  grind [rev]
 ·have:=hp _ (V5 hx).1 (by grind [fwd])
  grind [fwd]
theorem cut{s t x:Int}{es':List Ed}{R:Int->Bool}(h:Yqa L s t x es' R){R':List E3}(hE:(Zk L).Perm (E++R')):balE E (λv=>if R v=true then 0 else 1)<=bal L (λv=>if R v=true then 0 else 1):=by
 have hd:=dual (q:=λv=>if R v=true then 0 else 1) (κ:=λ_=>0) (L:=L) (λx hx hu=>?_) (λx hx hu=>?_) hE
 ·have e1:sumI (λ_:E3=>(0:Int)) E=0:=by
   clear hd hE
   induction E with
   |nil=>rfl
   |cons a E ih=>grind [YV]
  have e2:sumI (λx:FA=>if x.u=true then(0:Int)else 0) L=0:=by
   clear hd hE h
   induction L with
   |nil=>rfl
   |cons a E ih=>grind [YV]
  omega
 ·have:=h.cl _ (V5 hx).2 (by grind [rev])
  simp only[rev]at this
  grind
 ·have:=h.cl _ (V5 hx).1 (by grind [fwd])
  simp only[fwd]at this
  grind
def Q8(closed:Int->Bool)(k:Nat):List FA:=(List.range k).flatMap λv:Nat=>if closed (v:Int)=true then []else [⟨2*(v:Int),2*(v:Int)+1,0,false⟩]
def YmL(l:List Lk):List FA:=l.map λa=>⟨2*a.1+1,2*a.2.1,a.2.2,false⟩
def Jj(nodes:Nat)(l:List Lk)(closed:Int->Bool):List FA:=Q8 closed nodes++YmL l
theorem WP:∀(l m:List FA),YS (l++m)=YS l++YS m
 |[],_=>rfl
 |x::l,m=>by simp only[TD,YS,WP l m]
theorem YpK(nodes:Nat)(l:List Lk)(closed:Int->Bool):W4 nodes l closed=YS (Jj nodes l closed):=by
 unfold W4 Jj
 rw[WP]
 congr 1
 ·unfold Z6 Q8
  generalize List.range nodes=r
  induction r with
  |nil=>rfl
  |cons v r ih=>
   rw[TZ,TZ,ih,WP]
   split
   ·rfl
   ·rfl
 ·unfold UD YmL
  induction l with
  |nil=>rfl
  |cons a l ih=>
   rw[TZ,Rh,ih]
   rfl
def Arcs8(nodes:Nat)(l:List Lk):Prop:=∀a∈l,(0<=a.1/\a.1<nodes)/\(0<=a.2.1/\a.2.1<nodes)/\(1<=a.2.2/\a.2.2<=8)
def arc3(a:Lk):E3:=(2*a.1+1,2*a.2.1,a.2.2)
def JV(v:Int):E3:=(2*v,2*v+1,0)
variable {l:List Lk}{closed:Int->Bool}
theorem OP{nodes:Nat}{e:E3}:e∈Zk (Jj nodes l closed)↔(∃v:Int,(0<=v/\v<nodes)/\closed v=false/\e=JV v)\/∃a∈l,e=arc3 a:=by
 unfold Zk Jj
 rw[Rb,TI]
 constructor
 ·rintro(h|h)
  ·obtain⟨x,hx,rfl⟩:=TC.1 h
   obtain⟨v,hv,h⟩:=RJ.1 hx
   have hv:=TQ.1 hv
   cases hc:closed (v:Int)with
   |true=>simp_all
   |false=>
    rw[hc,Tf (by decide)]at h
    obtain rfl:=TG.1 h
    exact .inl ⟨(v:Int),by omega,hc,rfl⟩
  ·obtain⟨x,hx,rfl⟩:=TC.1 h
   obtain⟨a,ha,rfl⟩:=TC.1 hx
   exact .inr ⟨a,ha,rfl⟩
 ·rintro(⟨v,⟨h0,h1⟩,hc,rfl⟩|⟨a,ha,rfl⟩)
  ·left
   refine TC.2 ⟨⟨2*v,2*v+1,0,false⟩,RJ.2 ⟨v.toNat,TQ.2 (by omega),?_⟩,rfl⟩
   grind
  ·right
   exact TC.2 ⟨⟨2*a.1+1,2*a.2.1,a.2.2,false⟩,TC.2 ⟨a,ha,rfl⟩,rfl⟩
variable {α β:Type}
theorem U0{f:α->β}(hf:∀a b,f a=f b->a=b){l:List α}(h:l.Nodup):(l.map f).Nodup:=
 by grind
theorem JW{f:α->β}{l:List α}(h:(l.map f).Nodup):l.Nodup:=
 List.Pairwise.imp (λhne e=>hne (TE f e)) (NV.1 h)
theorem YiO(a b:Lk)(h:arc3 a=arc3 b):a=b:=by
 grind [arc3]
theorem Ypp(a b:Int)(h:JV a=JV b):a=b:=by
 grind [JV]
theorem YiP(a:Lk)(v:Int):arc3 a≠JV v:=by
 grind [arc3,JV]
theorem YaN(closed:Int->Bool):∀k,((Q8 closed k).map λx:FA=>(x.f,x.t,x.c)).Nodup/\∀e∈(Q8 closed k).map λx:FA=>(x.f,x.t,x.c),∃v:Int,v<k/\e=JV v
 |0=>⟨List.nodup_nil,λe he=>by cases he⟩
 |k+1=>by
  obtain⟨h1,h2⟩:=YaN closed k
  have e:Q8 closed (k+1)=Q8 closed k++(if closed (k:Int)=true then []else [⟨2*(k:Int),2*(k:Int)+1,0,false⟩]):=by
   grind [Q8,Rx]
  rw[e,Rb]
  by_cases hc:closed (k:Int)=true
  ·grind
  ·rw[Tf hc]
   refine⟨Rk.2 ⟨h1,by simp,λa ha b hb=>?_⟩,λe he=>?_⟩
   ·grind [JV]
   ·rcases TI.1 he with he|he
    ·grind
    ·exact⟨(k:Int),by omega,by grind [JV]⟩
theorem Ylk{nodes:Nat}(hl:l.Nodup):(Zk (Jj nodes l closed)).Nodup:=by
 unfold Zk Jj
 rw[Rb]
 obtain⟨h1,h2⟩:=YaN closed nodes
 have h3:(YmL l).map (λx:FA=>(x.f,x.t,x.c))=l.map arc3:=by
  unfold YmL;rw[NX];rfl
 rw[h3]
 refine Rk.2 ⟨h1,U0 YiO hl,λa ha b hb=>?_⟩
 grind [YiP]
theorem Ywt{sides:Nat}(h:∀e∈Zk L,(0<=e.1/\e.1<sides)/\(0<=e.2.1/\e.2.1<sides)/\(-8<=e.2.2/\e.2.2<=8)):Ed8 sides (YS L):=by
 intro e he
 obtain⟨x,hx,h2⟩:=Qq he
 have h3:=h (x.f,x.t,x.c) (TC.2 ⟨x,hx,rfl⟩)
 rcases h2 with rfl|rfl
 ·exact h3
 grind [rev]
theorem Ycp{nodes:Nat}(hl:Arcs8 nodes l):∀e∈Zk (Jj nodes l closed),(0<=e.1/\e.1<(2*nodes:Nat))/\(0<=e.2.1/\e.2.1<(2*nodes:Nat))/\(0<=e.2.2/\e.2.2<=8):=by
 intro e he
 rcases OP.1 he with⟨v,hv,_,rfl⟩|⟨a,ha,rfl⟩
 ·grind [JV]
 ·obtain⟨h1,h2,h3⟩:=hl a ha
  grind [arc3]
theorem Yic{nodes:Nat}:∀x∈Jj nodes l closed,x.u=false:=by
 intro x hx
 rcases TI.1 hx with h|h
 ·obtain⟨v,_,h⟩:=RJ.1 h
  simp_all
 ·obtain⟨a,_,rfl⟩:=TC.1 h;rfl
def want(a b to:Int)(p:Int->Int):Int:=(p (2*to)-p (2*a+1))+(p (2*to)-p (2*b+1))
theorem Ydh(h:∀x∈L,x.u=false)(p:Int->Int):bal L p=0:=by
 unfold bal
 induction L with
 |nil=>rfl
 |cons x L ih=>
  grind [YV,balG]
theorem YoH(h:∀x∈L,x.u=false):UF L=0:=by
 unfold UF
 induction L with
 |nil=>rfl
 |cons x L ih=>
  grind [YV,Yi5]
structure YcE(nodes:Nat)(l:List Lk)(a b to x:Int)(sh:Int->Bool)(es:List Ed)(L:List FA)(π:Int->Int):Prop where
 es:es=YS L
 ends:Zk L=Zk (Jj nodes l sh)
 bal_:∀p,bal L p=want a b to p
 cost:UF L=x
 pot:PotE (YS L) π
 bd:∀v:Int,0<=v->v<(2*nodes:Nat)-> -(16*(nodes:Int))<=π v/\π v<=64*(nodes:Int)
def Yv6(nodes:Nat)(l:List Lk)(a b to:Int)(sh:Int->Bool):Prop:=∀E R:List E3,(Zk (Jj nodes l sh)).Perm (E++R)->(∀p,balE E p=want a b to p)->False
theorem Ytj{fuel nodes:Nat}{a b to:Int}(hn:1<=nodes/\nodes<=50)(hl:Arcs8 nodes l)(ha:0<=a/\a<nodes)(hb:0<=b/\b<nodes)(ht:0<=to/\to<nodes)(hf:2*nodes*(48*nodes+1)<fuel):
 ∃r,Wi fuel nodes l a b to closed=some r/\((r.2.1=true/\∃L π,YcE nodes l a b to r.1 (Y5 a b to closed) r.2.2 L π)\/(r.2.1=false/\Yv6 nodes l a b to (Y5 a b to closed))):=by
 have hs:2*nodes<=100:=by omega
 have hen:=Ycp (closed:=Y5 a b to closed) hl
 have hun:=Yic (nodes:=nodes) (l:=l) (closed:=Y5 a b to closed)
 have h8:∀{L:List FA},Zk L=Zk (Jj nodes l (Y5 a b to closed))->Ed8 (2*nodes) (YS L):=by grind [Ywt]
 have hp0:PotE (YS (Jj nodes l (Y5 a b to closed))) (λ_=>0):=by
  intro e he hr
  obtain⟨x,hx,h⟩:=Qq he
  have hc:=hen (x.f,x.t,x.c) (TC.2 ⟨x,hx,rfl⟩)
  grind [fwd,rev]
 have m1:(2*nodes)*(8*(2*nodes)+1+(2*(0:Int)).natAbs)<=2*nodes*(48*nodes+1):=by grind
 have m2:2*nodes<=2*nodes*(48*nodes+1):=by grind
 have m3:(2*nodes)*(8*(2*nodes)+1+(2*(16*(nodes:Int))).natAbs)<=2*nodes*(48*nodes+1):=by grind
 unfold Wi
 rw[YpK]
 obtain⟨⟨x,ok,es⟩,h1,h2⟩:=YhR (fuel:=fuel) (s:=2*a+1) (t:=2*to) (W:=0) hs (h8 rfl) hp0 (by omega) (λv _ _=>by omega) (by omega) (by omega) (by omega) (by omega)
 rw[h1]
 simp only at h2⊢
 rcases h2 with⟨rfl,R,hR⟩|⟨rfl,L1,π1,hY⟩
 ·obtain⟨⟨y,is,es2⟩,h3,_⟩:=YhR (fuel:=fuel) (s:=2*b+1) (t:=2*to) (W:=0) hs (h8 rfl) hp0 (by omega) (λv _ _=>by omega) (by omega) (by omega) (by omega) (by omega)
  rw[hR.es,h3]
  refine⟨_,rfl,.inr ⟨rfl,λE R' hE hb2=>?_⟩⟩
  have h4:=cut hR hE
  rw[hb2,Ydh hun]at h4
  unfold want at h4
  dsimp only at h4
  rw[hR.rs,hR.rt,Tn rfl,Tf (by decide)]at h4
  omega
 ·obtain⟨⟨y,is,es2⟩,h3,h4⟩:=YhR (fuel:=fuel) (s:=2*b+1) (t:=2*to) (W:=16*nodes) hs (h8 hY.ends) hY.pot (by omega) (λv h0 h1=>by have:=hY.bd v h0 h1;omega) (by omega) (by omega) (by omega) (by omega)
  rw[hY.es,h3]
  rcases h4 with⟨rfl,R,hR⟩|⟨rfl,L2,π2,hZ⟩
  ·refine⟨_,rfl,.inr ⟨rfl,λE R' hE hb2=>?_⟩⟩
   have h4:=cut hR (by rw[hY.ends];exact hE)
   rw[hb2,hY.bal_,Ydh hun]at h4
   unfold want at h4
   dsimp only at h4
   rw[hR.rs,hR.rt,Tn rfl,Tf (by decide)]at h4
   omega
  ·refine⟨_,rfl,.inl ⟨rfl,L2,π2,hZ.es,hZ.ends.trans hY.ends,λp=>?_,?_,hZ.pot,λv h0 h1=>?_⟩⟩
   ·rw[hZ.bal_,hY.bal_,Ydh hun]
    grind [want]
   ·rw[hZ.cost,hY.cost,YoH hun]
    omega
   ·have:=hZ.bd v h0 h1
    omega
def FirstMin{α:Type}(key:α->Int)(l:List α)(x:α):Prop:=∃l1 l2,l=l1++x::l2/\(∀y∈l1,key x<key y)/\∀y∈l2,key x<=key y
variable {α:Type}
theorem FirstMin.mem{key:α->Int}{l:List α}{x:α}(h:FirstMin key l x):x∈l:=by
 obtain⟨l1,l2,rfl,_⟩:=h
 simp_all
theorem FirstMin.le{key:α->Int}{l:List α}{x y:α}(h:FirstMin key l x)(hy:y∈l):key x<=key y:=by
 obtain⟨l1,l2,rfl,h1,h2⟩:=h
 grind
theorem FirstMin.uniq{key:α->Int}:∀{l:List α}{x y:α},FirstMin key l x->FirstMin key l y->x=y:=by
 intro l x y hx hy
 obtain⟨a1,a2,e1,p1,p2⟩:=hx
 obtain⟨b1,b2,e2,q1,q2⟩:=hy
 rw[e1]at e2
 rcases List.append_eq_append_iff.1 e2 with⟨c,h3,h4⟩|⟨c,h3,h4⟩
 ·cases c with
  |nil=>simp_all
  |cons z c=>
   grind
 ·cases c with
  |nil=>simp_all
  |cons z c=>
   grind
theorem FirstMin.one(key:α->Int)(x:α):FirstMin key [x] x:=⟨[],[],rfl,(λ_ hy=>absurd hy (RV)),(λ_ hy=>absurd hy (RV))⟩
theorem FirstMin.mid{key:α->Int}{l a b:List α}{x:α}(h:FirstMin key l x)(h1:∀y∈a,key x<key y)(h2:∀y∈b,key x<=key y):FirstMin key (a++l++b) x:=by
 obtain⟨l1,l2,rfl,p1,p2⟩:=h
 refine⟨a++l1,l2++b,by simp,λy hy=>?_,λy hy=>?_⟩
 all_goals grind
def ZK(r:List Int):Int:=r.getD (r.length-1) 0
theorem JF(r:List Int)(b:Int):ZK (r++[b])=b:=by
 simp_all [ZK]
section
variable (st:Int->Int->Bool) (w:Int->Int->Int) (nodes:Nat) (to:Int)
def XJ:Nat->List Int->List (List Int)
 |0,r=>if ZK r=to then [r]else []
 |f+1,r=>if ZK r=to then [r]else(List.range nodes).flatMap λb:Nat=>if st (ZK r) b=true/\(b:Int)∉r then XJ f (r++[(b:Int)])else []
def keyG:List Int->Int
 |[]=>0
 |[_]=>0
 |u::v::r=>w u v+keyG (v::r)
inductive PathG:Int->List Int->Prop
 |done:PathG to []
 |step {u v:Int}{r:List Int}(hu:u≠to) (hs:st u v=true) (hv:0<=v/\v<nodes) (h:PathG v r):PathG u (v::r)
end
theorem OH{w:Int->Int->Int}:∀(r:List Int) (v:Int) (q:List Int),keyG w (r++v::q)=keyG w (r++[v])+keyG w (v::q)
 |[],v,q=>by simp[keyG]
 |[u],v,q=>by simp[keyG]
 |u::x::r,v,q=>by
  have:=OH (w:=w) (x::r) v q
  grind [keyG]
theorem Ybu{w:Int->Int->Int}{r q:List Int}(hr:r≠[]):keyG w (r++q)=keyG w r+keyG w (ZK r::q):=by
 rcases List.eq_nil_or_concat r with rfl|⟨r',v,rfl⟩
 all_goals grind [JF,OH]
section
variable {st:Int->Int->Bool}{w:Int->Int->Int}{nodes:Nat}{to:Int}
theorem VE:∀(f:Nat) (r q:List Int),q∈XJ st nodes to f r->∃p,q=r++p/\PathG st nodes to (ZK r) p
 |0,r,q,h=>by
  unfold XJ at h
  split at h
  ·rename_i he
   obtain rfl:=TG.1 h
   exact⟨[],by simp,he▸.done⟩
  simp_all
 |f+1,r,q,h=>by
  unfold XJ at h
  split at h
  ·rename_i he
   obtain rfl:=TG.1 h
   exact⟨[],by simp,he▸.done⟩
  ·rename_i he
   obtain⟨b,hb,h⟩:=RJ.1 h
   split at h
   ·rename_i hc
    obtain⟨p,rfl,hp⟩:=VE f _ q h
    rw[JF]at hp
    exact⟨(b:Int)::p,by simp,.step he hc.1 ⟨by omega,by simp_all⟩ hp⟩
   simp_all
theorem Ux:∀(f:Nat) (r q:List Int),r.Nodup->q∈XJ st nodes to f r->q.Nodup
 |0,r,q,hn,h=>by
  grind [XJ]
 |f+1,r,q,hn,h=>by
  unfold XJ at h
  split at h
  ·simp_all
  ·obtain⟨b,hb,h⟩:=RJ.1 h
   split at h
   ·refine Ux f _ q ?_ h
    grind
   simp_all
theorem YeX:∀(f:Nat) (r p:List Int),PathG st nodes to (ZK r) p->(r++p).Nodup->p.length<=f->r++p∈XJ st nodes to f r
 |f,r,[],h,_,_=>by
  generalize hl:ZK r=u at h
  cases h
  cases f<;>(unfold XJ;rw[Tn hl];simp)
 |0,r,v::p,_,_,h=>by simp at h
 |f+1,r,v::p,h,hn,hf=>by
  generalize hl:ZK r=u at h
  cases h with
  |step hu hs hv h=>
   unfold XJ
   rw[hl,Tf hu]
   refine RJ.2 ⟨v.toNat,TQ.2 (by omega),?_⟩
   have hvv:((v.toNat:Nat):Int)=v:=by omega
   have hnr:v∉r:=λhm=>by
    have:=(Rk.1 hn).2.2 v hm v Tz
    exact this rfl
   rw[hvv,Tn ⟨hs,hnr⟩]
   have:=YeX f (r++[v]) p (by rw[JF];exact h) (by rw[TY];exact hn) (by simp only[TM]at hf;omega)
   rw[TY]at this
   exact this
variable {u:Int}{p far:List Int}
theorem Yeh(h:PathG st nodes to u p):∀x∈p,0<=x/\x<nodes:=by
 induction h with
 |done=>exactλx hx=>absurd hx RV
 |step _ _ hv _ ih=>
  intro x hx
  rcases TL.1 hx with rfl|hx
  ·exact hv
  ·exact ih x hx
structure Net3(st:Int->Int->Bool)(w:Int->Int->Int)(l:List Lk):Prop where
 iff:∀u v c:Int,(u,v,c)∈l↔st u v=true/\c=w u v
 pos:∀u v:Int,st u v=true->1<=w u v/\w u v<=1000
theorem YrU(hw:∀u v:Int,st u v=true->1<=w u v/\w u v<=1000)(h:PathG st nodes to u p):0<=keyG w (u::p)/\keyG w (u::p)<=1000*(p.length:Int):=by
 induction h with
 |done=>simp[keyG]
 |step hu hs hv h ih=>
  have:=hw _ _ hs
  simp only[keyG,TM]
  omega
variable {l:List Lk}
theorem YaU(hnet:Net3 st w l)(hd:Dist nodes l to far)(h:PathG st nodes to u p)(hp:p.length<=100000):Yf far u<=keyG w (u::p)/\Yf far u<YP:=by
 induction h with
 |done=>rw[hd.to0];exact⟨R7 _,by decide⟩
 |@step u v r hu hs hv h ih=>
  have hn:=YaO
  obtain⟨h1,h2⟩:=ih (by simp only[TM]at hp;omega)
  have h3:=hd.least (u,v,w u v) ((hnet.iff _ _ _).2 ⟨hs,rfl⟩) h2
  have h4:=hnet.pos _ _ hs
  obtain⟨h5,h6⟩:=YrU hnet.pos h
  simp only[TM]at hp
  simp only[keyG]at h3⊢
  omega
theorem YiU{far:List Int}{at_:Int}:∀(l:List Lk) (b0:Int),(∀a∈l,0<=a.2.1)->(0<=b0->l.foldl (Xh far at_) b0<=b0)/\∀a∈l,a.1=at_->a.2.2+Yf far a.2.1=Yf far at_->l.foldl (Xh far at_) b0<=a.2.1
 |[],b0,_=>⟨λ_=>R7 _,λa ha=>by cases ha⟩
 |a::m,b0,hp=>by
  obtain⟨h1,h2⟩:=YiU (far:=far) (at_:=at_) m (Xh far at_ b0 a) λc hc=>hp c (TA _ hc)
  rw[N6]
  have ha0:=hp a Tz
  refine⟨λhb=>?_,λc hc he ht=>?_⟩
  ·have h5:0<=Xh far at_ b0 a/\Xh far at_ b0 a<=b0:=by
    unfold Xh
    split
    ·rename_i h;omega
    ·omega
   have:=h1 h5.1
   omega
  ·rcases TL.1 hc with rfl|hc
   ·have h5:0<=Xh far at_ b0 c/\Xh far at_ b0 c<=c.2.1:=by
     unfold Xh
     by_cases h6:b0<0\/c.2.1<b0
     ·rw[Tn ⟨he,ht,h6⟩];omega
     ·rw[Tf (λh=>h6 h.2.2)];omega
    have:=h1 h5.1
    omega
   ·exact h2 c hc he ht
theorem Ykf{nodes b:Nat}(h:b<nodes):∃l2,List.range nodes=List.range b++b::l2:=by
 refine⟨(List.range nodes).drop (b+1),?_⟩
 apply Sv
 intro i
 rcases Nr i b with hi|hi|hi
 ·rw[RY (by simpa using hi),NZ (by omega),NZ hi]
 ·subst hi
  rw[RG (by simp),List.length_range,NH,NZ (by omega)];rfl
 ·rw[RG (by simp;omega),List.length_range]
  obtain⟨j,hj⟩:∃j,i-b=j+1:=⟨i-b-1,by omega⟩
  rw[hj,Ns,RI]
  congr 1
  omega
theorem YgQ(hnet:Net3 st w l)(hok:ArcsOk nodes l)(hd:Dist nodes l to far)(hto:0<=to/\to<nodes)(_hst:∀u v,st u v=true->0<=v/\v<nodes)(hnn:nodes<=40):∀(k f:Nat) (r:List Int) (v:Int),r≠[]->r.Nodup->ZK r=v->0<=v->v<nodes->Yf far v<YP->(Yf far v).toNat<=k->(∀x∈r,(0<=x/\x<nodes)/\Yf far v<=Yf far x)->nodes<=r.length+f->
 FirstMin (keyG w) (XJ st nodes to f r) (r++Y6 l far to k v)/\keyG w (r++Y6 l far to k v)=keyG w r+Yf far v:=by
 intro k
 induction k with
 |zero=>
  intro f r v hr hn hl h0 h1 hlt hk hx hf
  have hvt:v=to:=Nb λh=>by
   have:=Wh hok hd h0 h1 h hlt
   omega
  have hfo:Y6 l far to 0 v=[]:=rfl
  rw[hfo,Ro]
  subst hvt
  refine⟨?_,by rw[hd.to0];omega⟩
  cases f<;>(unfold XJ;rw[Tn hl];exact .one _ _)
 |succ k ih=>
  intro f r v hr hn hl h0 h1 hlt hk hx hf
  by_cases hvt:v=to
  ·have hfo:Y6 l far to (k+1) v=[]:=by unfold Y6;rw[Tn hvt]
   rw[hfo,Ro]
   subst hvt
   refine⟨?_,by rw[hd.to0];omega⟩
   cases f<;>(unfold XJ;rw[Tn hl];exact .one _ _)
  ·obtain⟨b1,b2,b3,a,ha,ha1,ha2,ha3⟩:=Wh hok hd h0 h1 hvt hlt
   have hbm:=(YiU (far:=far) (at_:=v) l (-1) λa ha=>(hok a ha).2.1.1).2
   obtain⟨b,hb⟩:∃b,Xt l far v=b:=⟨_,rfl⟩
   have hfo:Y6 l far to (k+1) v=b::Y6 l far to k b:=by
    rw[show Y6 l far to (k+1) v=if v=to then []else Xt l far v::Y6 l far to k (Xt l far v) from rfl,Tf hvt,hb]
   rw[show l.foldl (Xh far v) (-1)=Xt l far v from rfl,hb]at hbm
   rw[hb]at b1 b2 b3 ha2 ha3
   obtain⟨a1,a2,a3⟩:=a
   simp only at ha1 ha2 ha3
   subst ha1 ha2
   obtain⟨hs,hc⟩:=(hnet.iff _ _ _).1 ha
   have hbr:a2∉r:=λhm=>by have:=(hx a2 hm).2;omega
   have hnb:(r++[a2]).Nodup:=Rk.2 ⟨hn,by simp,λx hx2 y hy=>by
    obtain rfl:=TG.1 hy
    exactλe=>hbr (e▸hx2)⟩
   have hlen:(r++[a2]).length<=nodes:=nodup_len nodes _ hnb λx hx2=>by
    rcases TI.1 hx2 with h|h
    ·exact(hx x h).1
    ·obtain rfl:=TG.1 h;exact b1
   rw[To,TO]at hlen
   cases f with
   |zero=>omega
   |succ f=>
    obtain⟨i1,i2⟩:=ih f (r++[a2]) a2 (by simp) hnb (JF _ _) b1.1 b1.2 (by omega) (by omega) (λx hx2=>by
     rcases TI.1 hx2 with h|h
     ·have:=hx x h;exact⟨this.1,by omega⟩
     ·obtain rfl:=TG.1 h;exact⟨b1,R7 _⟩) (by rw[To,TO];omega)
    have hkr:∀x:Int,keyG w (r++[x])=keyG w r+w a1 x:=λx=>by
     rw[Ybu hr,hl];simp[keyG]
    rw[hfo]
    have e0:r++a2::Y6 l far to k a2=r++[a2]++Y6 l far to k a2:=by simp
    rw[e0]
    have hkey:keyG w (r++[a2]++Y6 l far to k a2)=keyG w r+Yf far a1:=by rw[i2,hkr];omega
    refine⟨?_,hkey⟩
    --what other nodes give
    have hoth:∀(c:Nat) (q:List Int),c<nodes->q∈(if st a1 c=true/\(c:Int)∉r then XJ st nodes to f (r++[(c:Int)])else [])->keyG w r+Yf far a1<=keyG w q/\((c:Int)<a2->keyG w r+Yf far a1<keyG w q):=by
     intro c q hc hq
     split at hq
     ·rename_i hsc
      obtain⟨p,rfl,hp⟩:=VE f _ q hq
      have hnq:=Ux f _ _ (by
       refine Rk.2 ⟨hn,by simp,λx hx2 y hy=>?_⟩
       obtain rfl:=TG.1 hy
       exactλe=>hsc.2 (e▸hx2)) hq
      rw[JF]at hp
      have hpl:p.length<=100000:=by
       have hm:∀x∈r++[(c:Int)]++p,0<=x/\x<nodes:=λx hx2=>by
        rcases TI.1 hx2 with h|h
        ·rcases TI.1 h with h|h
         ·exact(hx x h).1
         ·obtain rfl:=TG.1 h;omega
        ·exact Yeh hp x h
       have:=nodup_len nodes _ hnq hm
       rw[To]at this
       omega
      obtain⟨f1,f2⟩:=YaU hnet hd hp hpl
      have hlst:=hd.least (a1,(c:Int),w a1 c) ((hnet.iff _ _ _).2 ⟨hsc.1,rfl⟩) f2
      simp only at hlst
      have e1:keyG w (r++[(c:Int)]++p)=keyG w r+w a1 c+keyG w ((c:Int)::p):=by
       rw[Ybu (by simp),JF,hkr]
      rw[e1]
      refine⟨by omega,λhlt2=>?_⟩
      by_cases htt:w a1 c+Yf far c=Yf far a1
      ·have:=hbm (a1,(c:Int),w a1 c) ((hnet.iff _ _ _).2 ⟨hsc.1,rfl⟩) rfl htt
       simp only at this
       omega
      ·omega
     ·cases hq
    unfold XJ
    rw[hl,Tf hvt]
    obtain⟨l2,hsp⟩:=Ykf (nodes:=nodes) (b:=a2.toNat) (by omega)
    have hbb:((a2.toNat:Nat):Int)=a2:=by omega
    have hmem:∀c∈l2,c<nodes:=λc hc=>TQ.1 (by rw[hsp];exact TU _ (TA _ hc))
    rw[hsp,RB,TZ,hbb,Tn ⟨hs,hbr⟩,<-TY]
    refine i1.mid (λq hq=>?_) (λq hq=>?_)
    ·obtain⟨c,hc,hq⟩:=RJ.1 hq
     have hc:=TQ.1 hc
     rw[hkey]
     exact(hoth c q (by omega) hq).2 (by omega)
    ·obtain⟨c,hc,hq⟩:=RJ.1 hq
     rw[hkey]
     exact(hoth c q (hmem c hc) hq).1
end
theorem Wf(e:E3)(E:List E3)(p:Int->Int):balE (e::E) p=(p e.2.1-p e.1)+balE E p:=YV _ _ _
theorem YiR(E F:List E3)(p:Int->Int):balE (E++F) p=balE E p+balE F p:=JJ _ _ _
theorem YfI{E F:List E3}(h:E.Perm F)(p:Int->Int):balE E p=balE F p:=V8 _ h
def Ycs(L:List FA):List E3:=(L.filter λx=>x.u).map λx=>(x.f,x.t,x.c)
def Yrl(L:List FA):List E3:=(L.filter λx=>!x.u).map λx=>(x.f,x.t,x.c)
theorem Yp0(L:List FA):(Zk L).Perm (Ycs L++Yrl L):=by
 unfold Zk Ycs Yrl
 rw[<-Rb]
 exact List.Perm.map _ (List.filter_append_perm _ L).symm
theorem Yst(L:List FA)(p:Int->Int):balE (Ycs L) p=bal L p:=by
 unfold Ycs bal
 induction L with
 |nil=>rfl
 |cons x L ih=>
  rw[YV,<-ih,SH]
  unfold balG
  cases hu:x.u with
  |true=>simp[Wf]
  |false=>simp
theorem YpY(L:List FA):Jm (Ycs L)=UF L:=by
 unfold Ycs UF
 induction L with
 |nil=>rfl
 |cons x L ih=>
  rw[YV,<-ih,SH]
  unfold Yi5 Jm
  cases hu:x.u with
  |true=>simp[YV]
  |false=>simp
inductive YcY:Int->Int->List E3->Prop
 |nil {t:Int}:YcY t t []
 |cons {e:E3}{t:Int}{E:List E3}(h:YcY e.2.1 t E):YcY e.1 t (e::E)
def ind(v w:Int):Int:=if w=v then 1 else 0
theorem YbL{T:Int}{X:(Int->Int)->Int}(hX:∀v,v≠T->X (ind v)<=0):∀(n:Nat) (U:List E3) (A:Int),U.length<=n->(∀p,balE U p=(p T-p A)+X p)->∃P U',U.Perm (P++U')/\YcY A T P/\∀p,balE U' p=X p
 |n,U,A,hn,hb=>by
  by_cases hAT:A=T
  ·subst hAT
   exact⟨[],U,.refl _,.nil,λp=>by simp_all⟩
  ·have h1:=hb (ind A)
   have h2:=hX A hAT
   have h3:ind A A=1:=Tn rfl
   have h4:ind A T=0:=Tf (NU hAT)
   have hex:∃e∈U,e.1=A:=by
    by_cases hex:∃e∈U,e.1=A
    ·exact hex
    ·exfalso
     have:0<=balE U (ind A):=UX λe he=>by
      have:ind A e.1=0:=Tf λh=>hex ⟨e,he,h⟩
      grind [ind]
     omega
   obtain⟨e,he,rfl⟩:=hex
   have hp:=List.perm_cons_erase he
   have hl:=hp.length_eq
   rw[TM]at hl
   cases n with
   |zero=>omega
   |succ n=>
    obtain⟨P,U',g1,g2,g3⟩:=YbL hX n (U.erase e) e.2.1 (by omega) λp=>by
     grind [YfI,Wf]
    exact⟨e::P,U',hp.trans (.cons _ g1),.cons g2,g3⟩
inductive Way (l:List Lk) (sh:Int->Bool) (to:Int):Int->List Lk->Prop
 |last {a:Lk}(ha:a∈l) (ht:a.2.1=to):Way l sh to a.1 [a]
 |step {a:Lk}{az:List Lk}(ha:a∈l) (hs:sh a.2.1=false) (h:Way l sh to a.2.1 az):Way l sh to a.1 (a::az)
def Xs:List Lk->List Int
 |[]=>[]
 |_::az=>az.map λa=>a.1
def eOf(az:List Lk):List E3:=az.map arc3++(Xs az).map JV
def Zp(az:List Lk):Int:=sumI (λa:Lk=>a.2.2) az
variable {l az:List Lk}{sh:Int->Bool}{to u b:Int}
theorem Way.cons_(h:Way l sh to u az):∃a az',az=a::az'/\a.1=u:=by
 cases h with
 |last ha ht=>simp_all
 |step ha hs h=>simp_all
variable {a:Lk}
theorem Way.inner_cons(h:Way l sh to u az):Xs (a::az)=u::Xs az:=by
 obtain⟨b,bs,rfl,rfl⟩:=h.cons_
 rfl
theorem Way.mem(h:Way l sh to u az):∀a∈az,a∈l:=by
 induction h with
 |last ha ht=>simp_all
 |step ha hs h ih=>
  simp_all
theorem Way.open_(h:Way l sh to u az):∀v∈Xs az,sh v=false:=by
 induction h with
 |last ha ht=>intro v hv;cases hv
 |step ha hs h ih=>
  intro v hv
  rw[h.inner_cons]at hv
  grind
theorem Way.perm_e(h:Way l sh to u az):(eOf (a::az)).Perm (arc3 a::JV u::eOf az):=by
 unfold eOf
 rw[h.inner_cons,Rh,Rh,TD]
 exact .cons _ List.perm_middle
theorem Way.bal_(h:Way l sh to u az)(p:Int->Int):balE (eOf az) p=p (2*to)-p (2*u+1):=by
 induction h with
 |@last a ha ht=>
  have:eOf [a]=[arc3 a]:=rfl
  rw[this,Wf,<-ht]
  simp[arc3,balE,Ysn]
 |step ha hs h ih=>
  rw[YfI h.perm_e,Wf,Wf,ih]
  grind [arc3,JV]
theorem YaA(az:List Lk):Jm (eOf az)=Zp az:=by
 unfold Jm eOf Zp
 rw[JJ,YeL,YeL]
 have:sumI (λx=>(JV x).2.2) (Xs az)=0:=by
  generalize Xs az=I
  induction I with
  |nil=>rfl
  |cons v I ih=>rw[YV,ih];rfl
 rw[this,Md]
 rfl
theorem YeZ{l:List Lk}{sh:Int->Bool}{to:Int}(hto:sh to=true):∀(n:Nat) (P:List E3) (u:Int),P.length<=n->(∀e∈P,(∃v,sh v=false/\e=JV v)\/∃a∈l,e=arc3 a)->YcY (2*u+1) (2*to) P->∃az,Way l sh to u az/\P.Perm (eOf az)
 |n,P,u,hn,hm,hw=>by
  obtain⟨s,hs⟩:∃s,2*u+1=s:=⟨_,rfl⟩
  obtain⟨t,ht⟩:∃t,2*to=t:=⟨_,rfl⟩
  rw[hs,ht]at hw
  cases hw with
  |nil=>omega
  |@cons e _ E hw=>
   rcases hm e Tz with⟨v,_,rfl⟩|⟨a,ha,rfl⟩
   ·grind [JV]
   ·have hu:a.1=u:=by grind [arc3]
    subst hu
    obtain⟨s2,hs2⟩:∃s,(arc3 a).2.1=s:=⟨_,rfl⟩
    rw[hs2]at hw
    cases hw with
    |nil=>
     refine⟨[a],.last ha (by grind [arc3]),.refl _⟩
    |@cons e' _ E' hw=>
     rcases hm e' (TA _ Tz)with⟨v,hv,rfl⟩|⟨a',_,rfl⟩
     ·have hva:a.2.1=v:=by grind [arc3,JV]
      subst hva
      cases n with
      |zero=>simp at hn
      |succ n=>
       obtain⟨az,h1,h2⟩:=YeZ hto n E' a.2.1 (by grind) (λe he=>hm e (TA _ (TA _ he))) (by rw[ht];exact hw)
       exact⟨a::az,.step ha hv h1,(List.Perm.cons _ (.cons _ h2)).trans h1.perm_e.symm⟩
     grind [arc3]
structure Cand(l:List Lk)(sh:Int->Bool)(a b to:Int)(az bs:List Lk):Prop where
 p:Way l sh to a az
 q:Way l sh to b bs
 arcs:(az++bs).Nodup
 nodes:(Xs az++Xs bs).Nodup
theorem YkA:∀{E M:List E3},E.Nodup->(∀e∈E,e∈M)->∃R,M.Perm (E++R)
 |[],M,_,_=>⟨M,.refl _⟩
 |e::E,M,hn,hm=>by
  obtain⟨h1,h2⟩:=S9.1 hn
  have hp:=List.perm_cons_erase (hm e Tz)
  obtain⟨R,hR⟩:=YkA (M:=M.erase e) h2 λx hx=>by
   grind
  exact⟨R,hp.trans (.cons _ hR)⟩
theorem Ylj(az bs:List Lk):(eOf az++eOf bs).Perm ((az++bs).map arc3++(Xs az++Xs bs).map JV):=by
 unfold eOf
 rw[Rb,Rb]
 rw[TY,TY]
 refine .append_left _ ?_
 rw[<-TY,<-TY]
 exact .append_right _ NT
theorem Cand.sub{nodes:Nat}{a:Int}{bs:List Lk}(hl:Arcs8 nodes l)(h:Cand l sh a b to az bs):∃R,(Zk (Jj nodes l sh)).Perm ((eOf az++eOf bs)++R):=by
 have hn:(eOf az++eOf bs).Nodup:=by
  rw[(Ylj az bs).nodup_iff]
  refine Rk.2 ⟨U0 YiO h.arcs,U0 Ypp h.nodes,λx hx y hy=>?_⟩
  obtain⟨c,_,rfl⟩:=TC.1 hx
  obtain⟨v,_,rfl⟩:=TC.1 hy
  exact YiP c v
 refine YkA hn λe he=>?_
 have he:=(Ylj az bs).mem_iff.1 he
 rcases TI.1 he with he|he
 ·obtain⟨c,hc,rfl⟩:=TC.1 he
  refine OP.2 (.inr ⟨c,?_,rfl⟩)
  rcases TI.1 hc with hc|hc
  ·exact h.p.mem c hc
  ·exact h.q.mem c hc
 ·obtain⟨v,hv,rfl⟩:=TC.1 he
  have hr:∀{u:Int}{cs:List Lk},Way l sh to u cs->v∈Xs cs->0<=v/\v<nodes:=λhw hv=>by
   have:∃c∈l,c.1=v:=by
    obtain⟨c,cs',rfl,_⟩:=hw.cons_
    obtain⟨d,hd,rfl⟩:=TC.1 hv
    exact⟨d,hw.mem d (TA _ hd),rfl⟩
   obtain⟨c,hc,rfl⟩:=this
   exact(hl c hc).1
  rcases TI.1 hv with hv|hv
  ·exact OP.2 (.inl ⟨v,hr h.p hv,h.p.open_ v hv,rfl⟩)
  ·exact OP.2 (.inl ⟨v,hr h.q hv,h.q.open_ v hv,rfl⟩)
theorem YiV{fuel nodes:Nat}{a:Int}{closed:Int->Bool}(hn:1<=nodes/\nodes<=50)(hl:Arcs8 nodes l)(hnd:l.Nodup)(ha:0<=a/\a<nodes)(hb:0<=b/\b<nodes)(ht:0<=to/\to<nodes)(hf:2*nodes*(48*nodes+1)<fuel):
 ∃r,Wi fuel nodes l a b to closed=some r/\((r.2.1=true/\(∃L π,YcE nodes l a b to r.1 (Y5 a b to closed) r.2.2 L π)/\(∃az bs,Cand l (Y5 a b to closed) a b to az bs/\Zp az+Zp bs=r.1)/\∀az bs,Cand l (Y5 a b to closed) a b to az bs->r.1<=Zp az+Zp bs)\/(r.2.1=false/\∀az bs,¬Cand l (Y5 a b to closed) a b to az bs)):=by
 obtain⟨r,hr,h⟩:=Ytj (closed:=closed) hn hl ha hb ht hf
 refine⟨r,hr,?_⟩
 have hsto:Y5 a b to closed to=true:=by unfold Y5;simp
 have hcb:∀{az bs:List Lk},Cand l (Y5 a b to closed) a b to az bs->∀p,balE (eOf az++eOf bs) p=want a b to p:=λhc p=>by
  rw[YiR,hc.p.bal_,hc.q.bal_];rfl
 rcases h with⟨h1,L,π,hY⟩|⟨h1,hN⟩
 ·have hmin:∀az bs,Cand l (Y5 a b to closed) a b to az bs->r.1<=Zp az+Zp bs:=λaz bs hc=>by
   obtain⟨R,hR⟩:=hc.sub hl
   have:=YoN hY.pot (by rw[hY.ends];exact hR) (by rw[hcb hc,hY.bal_])
   rw[hY.cost]at this
   unfold Jm at this
   rw[JJ]at this
   have e1:=YaA az
   have e2:=YaA bs
   unfold Jm at e1 e2
   omega
  refine .inl ⟨h1,⟨L,π,hY⟩,?_,hmin⟩
  have hub:=λp=>(Yst L p).trans (hY.bal_ p)
  obtain⟨P,U1,g1,g2,g3⟩:=YbL (T:=2*to) (X:=λp=>p (2*to)-p (2*b+1)) (λv hv=>by
   rw[show ind v (2*to)=0 from Tf (NU hv)]
   unfold ind;split<;>decide) _ (Ycs L) (2*a+1) (TJ _) hub
  obtain⟨Q,U2,g4,g5,g6⟩:=YbL (T:=2*to) (X:=λ_=>0) (λv hv=>R7 _) _ U1 (2*b+1) (TJ _) (λp=>by rw[g3 p];omega)
  have hall:(Zk L).Perm ((P++Q)++(U2++Yrl L)):=by
   refine(Yp0 L).trans ?_
   rw[TY,<-TY Q,<-TY P]
   exact .append_right _ (g1.trans (.append_left _ g4))
  rw[hY.ends]at hall
  have hmem:∀e∈P++Q,(∃v,Y5 a b to closed v=false/\e=JV v)\/∃a∈l,e=arc3 a:=λe he=>by
   rcases OP.1 (hall.mem_iff.2 (RN _ he))with⟨v,_,hv,h⟩|h
   ·exact .inl ⟨v,hv,h⟩
   ·exact .inr h
  obtain⟨az,w1,p1⟩:=YeZ hsto _ P a (TJ _) (λe he=>hmem e (RN _ he)) g2
  obtain⟨bs,w2,p2⟩:=YeZ hsto _ Q b (TJ _) (λe he=>hmem e (TU _ he)) g5
  have hnd2:=hall.nodup_iff.1 (Ylk hnd)
  have hnd3:=(Rk.1 hnd2).1
  rw[((p1.append p2).trans (Ylj az bs)).nodup_iff]at hnd3
  obtain⟨n1,n2,_⟩:=Rk.1 hnd3
  have hc:Cand l (Y5 a b to closed) a b to az bs:=⟨w1,w2,JW n1,JW n2⟩
  refine⟨az,bs,hc,?_⟩
  have hle:Zp az+Zp bs<=r.1:=by
   have e1:=YaA az
   have e2:=YaA bs
   have e3:Jm (Ycs L)=Jm P+(Jm Q+Jm U2):=by
    unfold Jm
    rw[V8 _ g1,JJ,V8 _ g4,JJ]
   have e4:Jm P=Zp az:=by rw[<-e1];exact V8 _ p1
   have e5:Jm Q=Zp bs:=by rw[<-e2];exact V8 _ p2
   have e6:0<=Jm U2:=UX λe he=>(Ycp hl e (hall.mem_iff.2 (TU _ (RN _ he)))).2.2.1
   rw[YpY,hY.cost]at e3
   omega
  have:=hmin az bs hc
  omega
 ·exact .inr ⟨h1,λaz bs hc=>by
   obtain⟨R,hR⟩:=hc.sub hl
   exact hN _ _ hR (hcb hc)⟩
def YmO(l:List Lk):List Ed:=l.map λa=>⟨a.2.1,a.1,a.2.2,1⟩
variable {l:List Lk}{to:Int}
theorem Yja{nodes:Nat}(hn:nodes<=500)(hl:Arcs8 nodes l)(ht:0<=to/\to<nodes):∃far,Dist nodes l to far:=by
 have hnc:=YaO
 have hes:Ed8 nodes (YmO l):=by
  intro e he
  obtain⟨a,ha,rfl⟩:=TC.1 he
  obtain⟨h1,h2,h3⟩:=hl a ha
  simp only;omega
 have hp:PotE (YmO l) (λ_=>0):=by
  intro e he _
  obtain⟨a,ha,rfl⟩:=TC.1 he
  obtain⟨h1,h2,h3⟩:=hl a ha
  simp only;omega
 have hG:RelG nodes (λ_=>0) (Zx nodes to,List.replicate nodes (-1),false):=by
  refine⟨Yaf,Rr,λv h0 h1=>?_,λv h0 h1=>?_,λv h0 h1=>?_⟩
  ·simp only;rw[ZG ht ⟨h0,h1⟩];split<;>omega
  ·simp only;rw[ZG ht ⟨h0,h1⟩]
   split
   ·intro _;omega
   ·intro h;exact absurd h (Int.lt_irrefl _)
  ·simp only;rw[ZG ht ⟨h0,h1⟩];split<;>omega
 have hC:RelC nodes (YmO l) to (Zx nodes to) (List.replicate nodes (-1)):=by
  refine⟨by rw[ZG ht ht,Tn rfl],λv h0 h1 h2=>?_⟩
  rw[ZG ht ⟨h0,h1⟩]at h2
  by_cases h:v=to
  ·rw[h];exact⟨0,.here⟩
  ·rw[Tf h]at h2;exact absurd h2 (Int.lt_irrefl _)
 obtain⟨⟨far,by_⟩,_,hG2,hC2,hcl⟩:=YbD (L:=0) (by omega) hes hp (λ_ _ _=>R7 _) (RelC nodes (YmO l) to) (λi e st hi hG h=>YgF hes hp ht rfl i e st hi hG h) (mes nodes 0 (Zx nodes to)+1) _ _ hG hC (Nat.lt_succ_self _)
 simp only at hG2 hC2 hcl
 obtain⟨l1,l2,hlo,hhi,htop⟩:=hG2
 simp only at l1 l2 hlo hhi htop
 refine⟨far,l1,hC2.s0,λv h0 h1=>⟨hlo v h0 h1,htop v h0 h1⟩,λv h0 h1 hne hlt=>?_,λa ha hlt=>?_⟩
 ·obtain⟨n,hn2⟩:=hC2.ch v h0 h1 hlt
  cases hn2 with
  |here=>exact absurd rfl hne
  |step _ _ hi htt _ hT _=>
   obtain⟨a,ha,rfl⟩:=TC.1 (Tc hi)
   obtain⟨t1,t2⟩:=hT
   exact⟨a,ha,htt,by rw[<-htt];exact t2⟩
 ·rcases Me (Yf far a.2.1+a.2.2) (Yf far a.1)with h|h
  ·exact absurd ⟨show(0:Int)<1 by decide,hlt,h⟩ (hcl ⟨a.2.1,a.1,a.2.2,1⟩ (TC.2 ⟨a,ha,rfl⟩))
  ·exact h
theorem Arcs8.ok{nodes:Nat}(h:Arcs8 nodes l):ArcsOk nodes l:=λa ha=>by
 obtain⟨h1,h2,h3⟩:=h a ha
 exact⟨h1,h2,by omega⟩
theorem Arcs8.sub{nodes:Nat}{m:List Lk}(h:Arcs8 nodes l)(hm:∀a∈m,a∈l):Arcs8 nodes m:=λa ha=>h a (hm a ha)
theorem Ydx{nodes:Nat}(hn:nodes<=500)(hl:Arcs8 nodes l)(ht:0<=to/\to<nodes):Dist nodes l to (Ze nodes l to):=by
 obtain⟨far,h⟩:=Yja hn hl ht
 rw[Wm hl.ok h];exact h
section
variable {st:Int->Int->Bool}{w:Int->Int->Int}{l:List Lk}{nodes:Nat}{t:Int}
abbrev Yai(st:Int->Int->Bool)(nodes:Nat)(t u:Int)(ms:List Int):Prop:=PathG st nodes t u (ms++[t])
variable {u:Int}{p:List Int}
theorem YbA(h:PathG st nodes t u p)(hu:u≠t):∃ms,p=ms++[t]:=by
 induction h with
 |done=>exact absurd rfl hu
 |@step u v r hu hs hv h ih=>
  by_cases hvt:v=t
  ·cases h with
   |done=>exact⟨[],by rw[hvt];rfl⟩
   |step hne=>exact absurd hvt hne
  ·obtain⟨ms,rfl⟩:=ih hvt
   exact⟨v::ms,rfl⟩
theorem VF{sh:Int->Bool}(hnet:Net3 st w l):∀(ms:List Int) (u:Int),Yai st nodes t u ms->(∀x∈ms,sh x=false)->∃az,Way l sh t u az/\Xs az=ms/\Zp az=keyG w (u::(ms++[t]))
 |[],u,h,_=>by
  cases h with
  |step hu hs hv h=>
   have ha:(u,t,w u t)∈l:=(hnet.iff _ _ _).2 ⟨hs,rfl⟩
   exact⟨[(u,t,w u t)],Way.last (a:=(u,t,w u t)) ha rfl,rfl,by simp[Zp,sumI,keyG]⟩
 |m::ms,u,h,hsh=>by
  cases h with
  |step hu hs hv h=>
   obtain⟨az,h1,h2,h3⟩:=VF hnet ms m h λx hx=>hsh x (TA _ hx)
   have ha:(u,m,w u m)∈l:=(hnet.iff _ _ _).2 ⟨hs,rfl⟩
   refine⟨(u,m,w u m)::az,Way.step (a:=(u,m,w u m)) ha (hsh m Tz) h1,by rw[h1.inner_cons,h2],?_⟩
   unfold Zp at h3⊢
   rw[YV,h3]
   simp[keyG]
variable {sh:Int->Bool}{az:List Lk}
theorem UV(hnet:Net3 st w l)(hl:Arcs8 nodes l)(hto:sh t=true)(h:Way l sh t u az)(hu:u≠t):Yai st nodes t u (Xs az)/\Zp az=keyG w (u::(Xs az++[t])):=by
 induction h with
 |@last a ha ht=>
  obtain⟨a1,a2,a3⟩:=a
  simp only at ht hu⊢
  subst ht
  obtain⟨hs,hc⟩:=(hnet.iff _ _ _).1 ha
  refine⟨.step hu hs (hl _ ha).2.1 .done,?_⟩
  show Zp [(a1,a2,a3)]=keyG w [a1,a2]
  simp[Zp,sumI,keyG,hc]
 |@step a az ha hs h ih=>
  obtain⟨a1,a2,a3⟩:=a
  simp only at hs hu h ih⊢
  have hne:a2≠t:=λe=>by rw[e,hto]at hs;cases hs
  obtain⟨i1,i2⟩:=ih hne
  obtain⟨hg,hc⟩:=(hnet.iff _ _ _).1 ha
  rw[h.inner_cons]
  refine⟨.step hu hg (hl _ ha).2.1 i1,?_⟩
  unfold Zp at i2⊢
  rw[YV,i2]
  simp[keyG,hc]
theorem YgR(h:Way l sh t u az):∀a∈az,a.2.1=t\/a.2.1∈Xs az:=by
 induction h with
 |last ha ht=>intro a ha2;obtain rfl:=TG.1 ha2;exact .inl ht
 |@step a az ha hs h ih=>
  intro b hb
  rw[h.inner_cons]
  rcases TL.1 hb with rfl|hb
  ·exact .inr Tz
  ·rcases ih b hb with h1|h1
   ·exact .inl h1
   ·exact .inr (TA _ h1)
theorem Qv(h:Way l sh t u az):az.map (λa=>a.1)=u::Xs az:=by
 obtain⟨a,az',rfl,rfl⟩:=h.cons_
 rfl
theorem PathG.mono{st2:Int->Int->Bool}(h:PathG st nodes t u p)(hs:∀x y,x=u\/x∈p->y∈p->st x y=true->st2 x y=true):PathG st2 nodes t u p:=by
 induction h with
 |done=>exact .done
 |@step u v r hu hst hv h ih=>
  refine .step hu (hs u v (.inl rfl) Tz hst) hv (ih λx y hx hy hxy=>hs x y ?_ (TA _ hy) hxy)
  rcases hx with rfl|hx
  ·exact .inr Tz
  ·exact .inr (TA _ hx)
theorem PathG.append{v:Int}{q:List Int}(h:PathG st nodes t u (p++v::q)):PathG st nodes t v q:=by
 induction p generalizing u with
 |nil=>cases h with|step _ _ _ h=>exact h
 |cons x p ih=>cases h with|step _ _ _ h=>exact ih h
end
end Go.Rt
namespace Go.Eng
open Go.RowKit
open Go.ChangeMaps (setBlock)
abbrev KL:=List Int
def kv(k:KL):Value:=.agg (k.map λx=>Value.int .i64 x).toArray
abbrev Zh:=List (KL×Value×Nat)
def vE(e:KL×Value×Nat):MapEntry:=⟨kv e.1,e.2.1,e.2.2⟩
def vobj(es:Zh)(clock:Nat):Obj:=.map (es.map vE).toArray clock
def vget(es:Zh)(k:KL):Option Value:=(es.find? λe=>e.1==k).map (·.2.1)
def keyT(P:Program)(kt:TypeId)(n:Nat):Bool:=
 match P.underlying kt with
 |some (.struct fs)=>!P.stoodInHeld kt&&(fs.toList.map (·.offset)==List.range n)&&fs.toList.all (λf=>f.name != "_" &&(match P.underlying f.type with|some (.int .i64)=>true|_=>false))
 |_=>false
def YeW(P:Program)(t kt et:TypeId)(n:Nat):Bool:=(match P.underlying t with|some (.map a b)=>a==kt&&b==et|_=>false)&&keyT P kt n
section
variable {P:Program}
variable {kt:TypeId}{n b:Nat}
theorem Ybv(h:keyT P kt n=true):∃fs,P.underlying kt=some (.struct fs)/\P.stoodInHeld kt=false/\fs.toList.map (·.offset)=List.range n/\
 ∀f∈fs.toList,f.name≠ "_" /\P.underlying f.type=some (.int .i64):=by
 unfold keyT at h
 split at h
 ·rename_i fs hu
  simp only[Tq,RS,S5,TF,bne_iff_ne,ne_eq]at h
  obtain⟨⟨h1,h2⟩,h3⟩:=h
  refine⟨fs,hu,h1,h2,λf hf=>⟨(h3 f hf).1,?_⟩⟩
  have h4:=(h3 f hf).2
  split at h4
  ·rename_i hq;exact hq
  ·cases h4
 ·cases h
theorem W8{t et:TypeId}(h:YeW P t kt et n=true):P.underlying t=some (.map kt et)/\keyT P kt n=true:=by
 unfold YeW at h
 rw[Tq]at h
 obtain⟨h1,h2⟩:=h
 refine⟨?_,h2⟩
 split at h1
 ·rename_i a b hu
  simp only[Tq,S5]at h1
  rw[hu,h1.1,h1.2]
 ·cases h1
theorem YrK{fs:Array Field}(h:fs.toList.map (·.offset)=List.range n){f:Field}(hf:f∈fs.toList):f.offset<n:=by
 have:f.offset∈fs.toList.map (·.offset):=TC.2 ⟨f,hf,rfl⟩
 rw[h]at this
 exact TQ.1 this
theorem Yh1(w:World)(h:keyT P kt n=true){a b:KL}(la:a.length=n)(lb:b.length=n):(Op.equal kt (kv a) (kv b)).run P w=.ok (a==b) w:=by
 obtain⟨fs,hu,h1,h2,h3⟩:=Ybv h
 have hl:Qc P kt (a.map λx=>Value.int .i64 x) (b.map λx=>Value.int .i64 x)=true:=by
  unfold Qc
  simp only[hu,h1,h2,TB,la,lb,Bool.not_false,beq_self_eq_true,RO,TF,Tq,bne_iff_ne,ne_eq]
  intro f hf
  have hlt:=YrK h2 hf
  refine⟨(h3 f hf).1,?_⟩
  rw[Ta (by simp[la,hlt]),Ta (by simp[lb,hlt]),List.getElem_map,List.getElem_map]
  simp only[Q4,(h3 f hf).2,decide_true,Bool.and_self]
 obtain⟨r,hr,hiff⟩:=Yez w hl
 unfold kv
 rw[hr]
 have:r=(a==b):=by
  rw[NE,hiff,S5]
  exact List.map_inj_right (λx y e=>by injection e)
 rw[this]
variable {k:KL}
theorem W0(w:World)(h:keyT P kt n=true)(lk:k.length=n)(em:Bool):(Instr.checkKey em 10000 kt (kv k)).run P w=.ok () w:=by
 obtain⟨fs,hu,h1,h2,h3⟩:=Ybv h
 have each:∀f∈fs.toList,f.name≠ "_" /\P.underlying f.type=some (.int .i64)/\f.offset<n:=λf hf=>⟨(h3 f hf).1,(h3 f hf).2,YrK h2 hf⟩
 unfold kv
 rw[show 10000=9998+1+1 from rfl,Instr.checkKey]
 simp only[Sem.run_bind,run_underlying hu,Result.andThen_ok]
 rw[<-Array.forIn_toList]
 clear h1 h2 h3 hu h
 generalize fs.toList=L at each
 induction L with
 |nil=>simp
 |cons f L ih=>
  obtain⟨hn,hp,hlt⟩:=each f (by simp)
  have p1:=run_part_plain (P:=P) (w:=w) (e:=f.type) (by simp[Program.plainKey,hp]) (xs:=(k.map λx=>Value.int .i64 x).toArray) (off:=f.offset) (v:=.int .i64 (k[f.offset]'(by omega)))
   (by rw[NC,Ta (by simp[lk,hlt]),List.getElem_map])
  have p2:(Instr.checkKey em (9998+1) f.type (.int .i64 (k[f.offset]'(by omega)))).run P w=.ok () w:=by
   unfold Instr.checkKey
   simp[run_underlying hp]
  simp only[List.forIn_cons,Sem.run_bind,hn,ne_eq,not_false_eq_true,NF,Result.andThen_ok,p1,p2,Sem.run_pure]
  exact ih (λy hy=>each y (by simp[hy]))
theorem Ykt(m:Nat)(k:KL):Instr.sameBits (m+1) (kv k) (kv k)=true:=by
 unfold kv
 simp only[Instr.sameBits,beq_self_eq_true,RO]
 induction k with
 |nil=>rfl
 |cons x k ih=>
  simp only[Rh,List.zip_cons_cons,NR,Tq]
  refine⟨?_,ih⟩
  cases m<;>simp[Instr.sameBits]
theorem Yh2(w:World)(k:KL):(Instr.keyThatStays (kv k) (kv k)).run P w=.ok (kv k) w:=by
 unfold Instr.keyThatStays
 rw[show 10000=9999+1 from rfl,Ykt]
 simp
theorem Ygd{kt:TypeId}{n:Nat}(w:World)(h:keyT P kt n=true){k:KL}(lk:k.length=n):∀(es:Zh) (i:Nat),(∀e∈es,e.1.length=n)->vget es k=none->
 (Instr.findAsking kt (kv k) (es.map vE) i).run P w=.ok none w
 |[],i,_,_=>by simp[Instr.findAsking]
 |e::es,i,hok,hg=>by
  unfold vget at hg
  rw[N5]at hg
  by_cases he:e.1=k
  ·simp[he]at hg
  ·have hb:(e.1==k)=false:=by simpa using he
   have hb':(k==e.1)=false:=by simpa usingλx=>he x.symm
   rw[hb]at hg
   simp only[Rh,Instr.findAsking,Sem.run_bind,vE,Yh1 w h lk (hok e (by simp)),hb',Result.andThen_ok,SD,N8]
   exact Ygd w h lk es (i+1) (λe he=>hok e (by simp[he])) hg
theorem Ynw{kt:TypeId}{n:Nat}(w:World)(h:keyT P kt n=true){k:KL}(lk:k.length=n){v:Value}{b:Nat}{l2:Zh}:∀(l1:Zh) (i:Nat),(∀e∈l1,e.1.length=n)->(∀e∈l1,e.1≠k)->
 (Instr.findAsking kt (kv k) ((l1++(k,v,b)::l2).map vE) i).run P w=.ok (some (i+l1.length,v)) w
 |[],i,_,_=>by
  simp only[TK,Rh,Instr.findAsking,Sem.run_bind,vE,Yh1 w h lk lk,beq_self_eq_true,Result.andThen_ok,NF,Sem.run_pure,Ry,Nn]
 |e::l1,i,hok,hne=>by
  have hb':(k==e.1)=false:=by simpa usingλx=>hne e (by simp) x.symm
  simp only[TD,Rh,Instr.findAsking,Sem.run_bind,vE,Yh1 w h lk (hok e (by simp)),hb',Result.andThen_ok,SD,N8]
  have:=Ynw w h lk (v:=v) (b:=b) (l2:=l2) l1 (i+1) (λe he=>hok e (by simp[he])) (λe he=>hne e (by simp[he]))
  rw[show i+(e::l1).length=i+1+l1.length by simp;omega]
  exact this
variable {es l1 l2:Zh}{v:Value}
theorem YeV(h:vget es k=some v):∃l1 b l2,es=l1++(k,v,b)::l2/\∀e∈l1,e.1≠k:=by
 unfold vget at h
 induction es with
 |nil=>simp at h
 |cons e es ih=>
  rw[N5]at h
  by_cases he:e.1=k
  ·simp only[he,beq_self_eq_true,Ss,Rw]at h
   exact⟨[],e.2.2,es,by rw[<-he,<-h];rfl,by simp⟩
  ·have hb:(e.1==k)=false:=by simpa using he
   rw[hb]at h
   obtain⟨l1,b,l2,rfl,hne⟩:=ih h
   exact⟨e::l1,b,l2,rfl,by
    intro x hx
    rcases TL.1 hx with rfl|hx
    ·exact he
    ·exact hne x hx⟩
theorem Ygm(h:keyT P kt n=true):(match P.underlying kt with|some (.array _ _)|some (.struct _)=>true|_=>false)=true:=by
 obtain⟨fs,hu,_⟩:=Ybv h
 rw[hu]
theorem YjI(w:World)(h:keyT P kt n=true)(lk:k.length=n)(hok:∀e∈es,e.1.length=n)(hg:vget es k=none):
 (Instr.findKey kt (kv k) (es.map vE)).run P w=.ok none w:=by
 rw[run_findKey_eq w (Ygm h)]
 exact Ygd w h lk es 0 hok hg
theorem Yrs(w:World)(h:keyT P kt n=true)(lk:k.length=n)(hok:∀e∈l1,e.1.length=n)(hne:∀e∈l1,e.1≠k):
 (Instr.findKey kt (kv k) ((l1++(k,v,b)::l2).map vE)).run P w=.ok (some (l1.length,v)) w:=by
 rw[run_findKey_eq w (Ygm h)]
 have:=Ynw w h lk (v:=v) (b:=b) (l2:=l2) l1 0 hok hne
 rwa [RH]at this
theorem Yrt(w:World)(h:keyT P kt n=true)(lk:k.length=n)(hok:∀e∈es,e.1.length=n)(hg:vget es k=some v):
 ∃i,(Instr.findKey kt (kv k) (es.map vE)).run P w=.ok (some (i,v)) w:=by
 obtain⟨l1,b,l2,rfl,hne⟩:=YeV hg
 exact⟨_,Yrs w h lk (λe he=>hok e (by simp[he])) hne⟩
end
section
variable {P:Program}{n:Shp}{B:Nat}{w0:World}{Q:Exit->Act->World->Prop}{env:Env}{H:List HP}{m:Mode}{ops:Array Oper}{rest:List Oper}{d:Nat}{ty:TypeId}{pos:String}{after:Array Edge}
theorem Yiy{t:TypeId}(hn:Nat.ble (d+1) n.k=true)(h:∀g,VL P none n B w0 ops Q rest ((d,.map (some g))::env) (blk g (vobj [] 0)::H)):VL P none n B w0 ops Q (⟨some d,.makeMap t none,ty,pos,after,none⟩::rest) env H:=
 XO (λv K=>∃g,v=.map (some g)/\K=blk g (vobj [] 0)::H) rfl rfl hn
  (λa w _ hw=>⟨_,_,w.alloc (vobj [] 0),by simp[execOp,Instr.makeMap,newObj,Sem.run,vobj],hw.alloc _,w.heap.size,rfl,rfl⟩)
  (by rintro _ _ ⟨g,rfl,rfl⟩;exact h g)
variable {t et g clock N b:Nat}{es l1 l2:Zh}{x y u:Operand}{v:Value}
theorem YiH{kt:Nat}(k:KL)(hx:evo env x=some (.map (some g)))(hy:evo env y=some (kv k))(hm:blk g (vobj es clock)∈H)(ht:YeW P t kt et N=true)(lk:k.length=N)(hok:∀e∈es,e.1.length=N)(hn:Nat.ble (d+1) n.k=true)(hk:vget es k=some v)
 (h:VL P m n B w0 ops Q rest ((d,v)::env) H):VL P m n B w0 ops Q (⟨some d,.lookup t x y false,ty,pos,after,none⟩::rest) env H:=by
 obtain⟨h1,h2⟩:=W8 ht
 refine YF rfl rfl hn rfl (λa w ha hw=>?_) h
 have hb:=(hw.blk hm).1
 unfold vobj at hb
 obtain⟨i,e3⟩:=Yrt w h2 lk hok hk
 simp[execOp,ha.eval hx,ha.eval hy,Instr.lookup,run_underlying h1,getObj,Sem.run,hb,W0 _ h2 lk,e3]
theorem YiG{kt:Nat}(k:KL){z:Value}(hx:evo env x=some (.map (some g)))(hy:evo env y=some (kv k))(hm:blk g (vobj es clock)∈H)(ht:YeW P t kt et N=true)(lk:k.length=N)(hok:∀e∈es,e.1.length=N)(hn:Nat.ble (d+1) n.k=true)(hk:vget es k=none)(hz:∀w,(zeroValue et).run P w=.ok z w)
 (h:VL P m n B w0 ops Q rest ((d,z)::env) H):VL P m n B w0 ops Q (⟨some d,.lookup t x y false,ty,pos,after,none⟩::rest) env H:=by
 obtain⟨h1,h2⟩:=W8 ht
 refine YF rfl rfl hn rfl (λa w ha hw=>?_) h
 have hb:=(hw.blk hm).1
 unfold vobj at hb
 simp[execOp,ha.eval hx,ha.eval hy,Instr.lookup,run_underlying h1,getObj,Sem.run,hb,W0 _ h2 lk,YjI w h2 lk hok hk,hz]
theorem YbR{kt:Nat}(k:KL)(hx:evo env x=some (.map (some g)))(hy:evo env y=some (kv k))(hm:blk g (vobj es clock)∈H)(ht:YeW P t kt et N=true)(lk:k.length=N)(hok:∀e∈es,e.1.length=N)(hn:Nat.ble (d+1) n.k=true)
 (hk:vget es k=some v\/(vget es k=none/\∀w,(zeroValue et).run P w=.ok v w))
 (h:VL P m n B w0 ops Q rest ((d,v)::env) H):VL P m n B w0 ops Q (⟨some d,.lookup t x y false,ty,pos,after,none⟩::rest) env H:=by
 rcases hk with hk|⟨hk,hz⟩
 ·exact YiH k hx hy hm ht lk hok hn hk h
 ·exact YiG k hx hy hm ht lk hok hn hk hz h
variable {K:List HP}
theorem YkY{kt:Nat}(k:KL)(hx:evo env x=some (.map (some g)))(hy:evo env y=some (kv k))(hv:evo env u=some v)(ht:YeW P t kt et N=true)(lk:k.length=N)(hok:∀e∈es,e.1.length=N)
 (hu:Upd (blk g (vobj es clock)) (blk g (vobj (es++[(k,v,clock)]) (clock+1))) H K) (hk:vget es k=none)
 (h:VL P none n B w0 ops Q rest env K):VL P none n B w0 ops Q (⟨none,.mapUpdate t x y u,ty,pos,after,none⟩::rest) env H:=by
 obtain⟨h1,h2⟩:=W8 ht
 refine Vp rfl rfl (λa w ha hw=>⟨setBlock w g (vobj (es++[(k,v,clock)]) (clock+1)),?_,hw.setBlock hu⟩) h
 have hb:w.heap[g]? =some (vobj es clock):=by
  obtain⟨L1,L2,rfl,_⟩:=hu
  exact(hw.blk (by simp)).1
 unfold vobj at hb
 simp[execOp,ha.eval hx,ha.eval hy,ha.eval hv,Instr.mapUpdate,run_underlying h1,getObj,Sem.run,hb,W0 _ h2 lk,YjI w h2 lk hok hk,MapKept.run_setObj_map _ hb,setBlock,vobj,vE]
theorem YkZ{kt:Nat}(k:KL){v0:Value}(hx:evo env x=some (.map (some g)))(hy:evo env y=some (kv k))(hv:evo env u=some v)(ht:YeW P t kt et N=true)(lk:k.length=N)(hok:∀e∈l1,e.1.length=N)
 (hu:Upd (blk g (vobj (l1++(k,v0,b)::l2) clock)) (blk g (vobj (l1++(k,v,b)::l2) clock)) H K) (hk:∀e∈l1,e.1≠k)
 (h:VL P none n B w0 ops Q rest env K):VL P none n B w0 ops Q (⟨none,.mapUpdate t x y u,ty,pos,after,none⟩::rest) env H:=by
 obtain⟨h1,h2⟩:=W8 ht
 refine Vp rfl rfl (λa w ha hw=>⟨setBlock w g (vobj (l1++(k,v,b)::l2) clock),?_,hw.setBlock hu⟩) h
 have hb:w.heap[g]? =some (vobj (l1++(k,v0,b)::l2) clock):=by
  obtain⟨L1,L2,rfl,_⟩:=hu
  exact(hw.blk (by simp)).1
 unfold vobj at hb
 have hf:=Yrs w h2 lk (v:=v0) (b:=b) (l2:=l2) hok hk
 have hsz:(l1++(k,v0,b)::l2).map vE=l1.map vE++vE (k,v0,b)::l2.map vE:=by simp
 have hget:((List.map vE (l1++(k,v0,b)::l2)).toArray)[l1.length]? =some (vE (k,v0,b)):=by rw[hsz];simp
 have hmod:((List.map vE (l1++(k,v0,b)::l2)).toArray).modify l1.length (λe=>{e with key:=kv k,val:=v})=(List.map vE (l1++(k,v,b)::l2)).toArray:=by
  rw[hsz,List.modify_toArray,show l1.length=(l1.map vE).length by simp,Yeb];simp[vE]
 have hks:=Yh2 (P:=P) w k
 have hkey:(Option.map (λx:MapEntry=>x.key) (some (vE (k,v0,b)))).getD (kv k)=kv k:=rfl
 have hrun:(Instr.mapUpdate t (.map (some g)) (kv k) v).run P w=.ok () (setBlock w g (vobj (l1++(k,v,b)::l2) clock)):=by
  simp only[Instr.mapUpdate,Sem.run_bind,run_underlying h1,getObj,Sem.run,hb,W0 _ h2 lk,hf,hget,hkey,hks,hmod,Result.andThen,MapKept.run_setObj_map _ hb,setBlock,vobj]
 simp[execOp,ha.eval hx,ha.eval hy,ha.eval hv,hrun]
end
end Go.Eng
