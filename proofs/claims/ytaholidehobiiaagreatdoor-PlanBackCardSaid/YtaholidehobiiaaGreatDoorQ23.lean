/- Lemmas for the claim, part 23. -/
import Derived.Test.YtaholidehobiiaaGreatDoorQ21
set_option maxRecDepth 100000
set_option maxHeartbeats 8000000
set_option linter.all false
namespace Go.Proofs.YtaholidehobiiaaGreatDoor
open Go.RowKit Go.Eng Go.Nw Go.Rt
theorem Yk8(c:List ClM){A:Option Addr}{cap B:Nat}{w0:World}{H:List HP}{w:World}(hc:CIn B w0 H A c)(hw:St B w0 H w):
 CX B w0 129 [.slice A c.length cap] w λv K=>v=.bool (Yb8 (c.map ClM.clm))/\K=H:=by
 refine Yc Tryz.func129 Tryz.ntmps129 rfl rfl hw ?_
 have hcl:=hc.ln
 have hcr:=hc.rd
 obtain⟨ok,hok⟩:∃ok:Nat->Bool,YmR (c.map ClM.clm)=ok:=⟨_,rfl⟩
 obtain⟨F,hF⟩:∃F,Yb8 (c.map ClM.clm)=F:=⟨_,rfl⟩
 have hFe:F=(decide (c.length<=16)&&(List.range c.length).all ok):=by
  rw[<-hF];unfold Yb8;rw[TB,hok]
 rw[hF]
 repeat'(first|apply(zs1 ?_)|apply(zs2 ?_)|(apply zg4;refine zs9 ?_)|apply(zs65 ?_)|apply(zs68 ?_)|apply(zs69 ?_)|apply(zs70 ?_)|apply(zs73 ?_)|fail)
 refine Yg (λk:Nat=>[(7,.int .i64 (k:Nat)),(6,.int .i64 c.length),(5,.slice A c.length cap),(0,.slice A c.length cap)]) (λ_=>H) (λk=>k<=c.length/\∀j,j<k->ok j=true) (λk=>c.length-k) 0 ⟨Tm _,λj h=>absurd h (RL _)⟩ ?_ (λw hw=>hw) ?_
 ·exact zc1
 rintro k ⟨hk,hz⟩ K hK
 by_cases hlt:k<c.length
 rotate_left
 ·obtain rfl:k=c.length:=by omega
  have hFt:(List.range c.length).all ok=true:=by
   rw[TF]
   exactλj hj=>hz j (TQ.1 hj)
  rw[hFt,Bool.and_true]at hFe
  clear hK
  by_cases h16:c.length<=16
  ·rw[Td h16]at hFe
   subst hFe
   repeat'(first|apply(zs1 ?_)|apply(zs2 ?_)|(apply zg4;refine zs9 ?_)|(apply(zs17 ?_ ?_)<;>intro _<;>try exact zo)|(apply(zs18 ?_ ?_)<;>intro _<;>try exact zo)|apply(zs65 ?_)|apply(zs68 ?_)|apply(zs69 ?_)|apply(zs70 ?_)|(apply zg27;refine zs72 ?_)|apply(zs74 ?_)|apply(zs75 ?_)|apply(zs80 ?_)|apply(zs81 ?_)|fail)
   exact zc4
  ·rw[Ti h16]at hFe
   subst hFe
   repeat'(first|apply(zs1 ?_)|apply(zs2 ?_)|(apply zg4;refine zs9 ?_)|(apply(zs17 ?_ ?_)<;>intro _<;>try exact zo)|(apply(zs18 ?_ ?_)<;>intro _<;>try exact zo)|apply(zs65 ?_)|apply(zs68 ?_)|apply(zs69 ?_)|apply(zs70 ?_)|(apply zg27;refine zs72 ?_)|apply(zs74 ?_)|apply(zs75 ?_)|apply(zs80 ?_)|apply(zs81 ?_)|fail)
   exact zc4
 obtain⟨x,hx⟩:∃x,c[k]? =some x:=⟨_,Ta hlt⟩
 have hxi:=hc.x x (Tc hx)
 have q1:=λ{H':List HP}{w:World}(hx:x.In B w0 H') (hw:St B w0 H' w)=>Yhl x hx hw
 have hok1:ok k=(UN x.clm&&(decide (k=0)||decide ((Uh (c.map ClM.clm) (k-1)).flow<x.flow))):=by
  rw[<-hok];unfold YmR;rw[Qe hx];rfl
 have hno:ok k=false->F=false:=λh=>by
  rw[hFe,Bool.and_eq_false_iff]
  exact .inr (List.all_eq_false.2 ⟨k,TQ.2 hlt,by rw[h];decide⟩)
 obtain⟨b,hb⟩:∃b,UN x.clm=b:=⟨_,rfl⟩
 rw[hb]at q1 hok1
 cases b with
 |false=>
  have hFf:=hno hok1
  subst hFf
  clear hK
  repeat'(first|apply(zs1 ?_)|apply(zs2 ?_)|(apply zg3;refine zs61 ?_)|(apply zg5;refine zs57 ?_)|(apply(zs17 ?_ ?_)<;>intro _<;>try exact zo)|(apply zg22;refine zs51 ?_)|(apply zg24;(refine zs54 ?_;intro _))|apply(zs65 ?_)|apply(zs68 ?_)|apply(zs69 ?_)|apply(zs70 ?_)|(apply zg27;refine zs71 ?_)|apply(zs73 ?_)|apply(zs76 ?_)|fail)
  apply XA [0,1,2,3,4,5,6,7,8,9,10,11,12,13,14,15,16,17] []
  kernel_rfl
  kernel_rfl
  (simp only[Yh,nthO];rfl)
  exact rfl
  repeat'(first|(apply zg3;refine zs8 ?_)|apply(zs87 ?_)|fail)
  first|apply Ya Yb1|apply Yb Yb1
  exact za
  exact rfl
  exactλ_ hw=>(q1 (hxi.mono zc0) hw)
  repeat'(first|apply(zs1 ?_)|apply(zs2 ?_)|(apply zg1;refine zs3 ?_)|(apply zg6;refine zs11 ?_)|(apply zg20;refine zs48 ?_)|apply(zs65 ?_)|(apply Js;exact zp)|apply(zs68 ?_)|apply(zs69 ?_)|apply(zs70 ?_)|(apply zg27;refine zs71 ?_)|apply(zs74 ?_)|apply(zs77 ?_)|apply(zs78 ?_)|(apply Yl;(repeat(first|with_reducible exact YW|(with_reducible apply YL;(repeat(first|with_reducible exact Ys|with_reducible apply YA))))))|apply(zs93 ?_)|apply(zs94 ?_)|fail)
  ·show Perm H (H++[])
   exact zc29
  repeat'(first|fail)
  apply Yi H
  ·exact zc0
  exact zc4
 |true=>
  rw[RO]at hok1
  by_cases hk0:k=0
  ·have hkt:ok k=true:=by rw[hok1,Td hk0];rfl
   repeat'(first|apply(zs1 ?_)|apply(zs2 ?_)|(apply zg3;refine zs61 ?_)|(apply zg5;refine zs57 ?_)|(apply(zs17 ?_ ?_)<;>intro _<;>try exact zo)|(apply zg22;refine zs51 ?_)|(apply zg24;(refine zs54 ?_;intro _))|apply(zs65 ?_)|apply(zs68 ?_)|apply(zs69 ?_)|apply(zs70 ?_)|(apply zg27;refine zs71 ?_)|apply(zs73 ?_)|apply(zs76 ?_)|fail)
   apply XA [0,1,2,3,4,5,6,7,8,9,10,11,12,13,14,15,16,17] []
   kernel_rfl
   kernel_rfl
   (simp only[Yh,nthO];rfl)
   exact rfl
   repeat'(first|(apply zg3;refine zs8 ?_)|apply(zs87 ?_)|fail)
   first|apply Ya Yb1|apply Yb Yb1
   exact za
   exact rfl
   exactλ_ hw=>(q1 (hxi.mono zc0) hw)
   repeat'(first|apply(zs1 ?_)|(apply zg1;refine zs4 ?_)|(apply zg20;refine zs47 ?_)|apply(zs65 ?_)|(apply Yl;(repeat(first|with_reducible exact YW|(with_reducible apply YL;(repeat(first|with_reducible exact Ys|with_reducible apply YA))))))|fail)
   ·show Perm H (H++[])
    exact zc29
   repeat'(first|apply(zs1 ?_)|(apply zg1;first|refine zs3 ?_|refine zs4 ?_)|(apply zg6;refine zs12 ?_)|(apply(zs19 ?_ ?_)<;>intro _<;>try exact zo)|(apply zg13;refine zs30 ?_)|apply(zs65 ?_)|(apply Js;exact zp)|apply(zs68 ?_)|apply(zs70 ?_)|(apply zg27;refine zs72 ?_)|apply(zs76 ?_)|apply(zs79 ?_)|apply(zs93 ?_)|apply(zs94 ?_)|fail)
   apply hK (k+1)
   ·exact Yvw
   ·omega
   ·exact zc1
   ·exact zc0
  obtain⟨y,hy⟩:∃y,c[k-1]? =some y:=⟨_,Ta (by omega)⟩
  have hy2:c[((k:Int)-1).toNat]? =some y:=by rw[show((k:Int)-1).toNat=k-1 by omega];exact hy
  rw[Ti hk0,Ny,Qe hy]at hok1
  have hok1:ok k=decide (y.flow<x.flow):=hok1
  by_cases hfl:y.flow<x.flow
  ·rw[Td hfl]at hok1
   repeat'(first|apply(zs1 ?_)|apply(zs2 ?_)|(apply zg3;refine zs61 ?_)|(apply zg5;refine zs57 ?_)|(apply(zs17 ?_ ?_)<;>intro _<;>try exact zo)|(apply zg22;refine zs51 ?_)|(apply zg24;(refine zs54 ?_;intro _))|apply(zs65 ?_)|apply(zs68 ?_)|apply(zs69 ?_)|apply(zs70 ?_)|(apply zg27;refine zs71 ?_)|apply(zs73 ?_)|apply(zs76 ?_)|fail)
   apply XA [0,1,2,3,4,5,6,7,8,9,10,11,12,13,14,15,16,17] []
   kernel_rfl
   kernel_rfl
   (simp only[Yh,nthO];rfl)
   exact rfl
   repeat'(first|(apply zg3;refine zs8 ?_)|apply(zs87 ?_)|fail)
   first|apply Ya Yb1|apply Yb Yb1
   exact za
   exact rfl
   exactλ_ hw=>(q1 (hxi.mono zc0) hw)
   repeat'(first|apply(zs1 ?_)|(apply zg1;refine zs4 ?_)|(apply zg20;refine zs47 ?_)|apply(zs65 ?_)|(apply Yl;(repeat(first|with_reducible exact YW|(with_reducible apply YL;(repeat(first|with_reducible exact Ys|with_reducible apply YA))))))|fail)
   ·show Perm H (H++[])
    exact zc29
   repeat'(first|apply(zs1 ?_)|(apply zg1;refine zs4 ?_)|(apply zg2;first|refine zs6 ?_|refine zs58 ?_)|(apply zg3;first|refine zs7 ?_|refine zs59 ?_)|(apply zg5;refine zs57 ?_)|(apply zg6;first|refine zs11 ?_|refine zs12 ?_)|(apply(zs19 ?_ ?_)<;>intro _<;>try exact zo)|(apply(zs20 ?_ ?_)<;>intro _<;>try exact zo)|(apply zg13;refine zs30 ?_)|(apply zg14;refine zs31 ?_)|apply(zs65 ?_)|(apply Js;exact zp)|apply(zs68 ?_)|apply(zs70 ?_)|(apply zg27;refine zs72 ?_)|apply(zs76 ?_)|apply(zs79 ?_)|apply(zs93 ?_)|apply(zs94 ?_)|fail)
   apply hK (k+1)
   ·exact⟨by omega,λj h2=>by
     rcases RZ.1 h2 with h|rfl
     ·exact hz j h
     ·exact hok1⟩
   ·omega
   ·exact zc1
   ·exact zc0
  ·rw[Ti hfl]at hok1
   have hFf:=hno hok1
   subst hFf
   clear hK
   repeat'(first|apply(zs1 ?_)|apply(zs2 ?_)|(apply zg3;refine zs61 ?_)|(apply zg5;refine zs57 ?_)|(apply(zs17 ?_ ?_)<;>intro _<;>try exact zo)|(apply zg22;refine zs51 ?_)|(apply zg24;(refine zs54 ?_;intro _))|apply(zs65 ?_)|apply(zs68 ?_)|apply(zs69 ?_)|apply(zs70 ?_)|(apply zg27;refine zs71 ?_)|apply(zs73 ?_)|apply(zs76 ?_)|fail)
   apply XA [0,1,2,3,4,5,6,7,8,9,10,11,12,13,14,15,16,17] []
   kernel_rfl
   kernel_rfl
   (simp only[Yh,nthO];rfl)
   exact rfl
   repeat'(first|(apply zg3;refine zs8 ?_)|apply(zs87 ?_)|fail)
   first|apply Ya Yb1|apply Yb Yb1
   exact za
   exact rfl
   exactλ_ hw=>(q1 (hxi.mono zc0) hw)
   repeat'(first|apply(zs1 ?_)|(apply zg1;refine zs4 ?_)|(apply zg20;refine zs47 ?_)|apply(zs65 ?_)|(apply Yl;(repeat(first|with_reducible exact YW|(with_reducible apply YL;(repeat(first|with_reducible exact Ys|with_reducible apply YA))))))|fail)
   ·show Perm H (H++[])
    exact zc29
   repeat'(first|apply(zs1 ?_)|apply(zs2 ?_)|(apply zg1;refine zs4 ?_)|(apply zg2;first|refine zs6 ?_|refine zs58 ?_)|(apply zg3;first|refine zs7 ?_|refine zs59 ?_)|(apply zg5;refine zs57 ?_)|(apply zg6;first|refine zs11 ?_|refine zs12 ?_)|(apply(zs19 ?_ ?_)<;>intro _<;>try exact zo)|(apply(zs20 ?_ ?_)<;>intro _<;>try exact zo)|(apply zg14;refine zs31 ?_)|apply(zs65 ?_)|(apply Js;exact zp)|apply(zs68 ?_)|apply(zs69 ?_)|apply(zs70 ?_)|(apply zg27;refine zs71 ?_)|apply(zs74 ?_)|apply(zs77 ?_)|apply(zs78 ?_)|apply(zs93 ?_)|apply(zs94 ?_)|fail)
   apply Yi H
   ·exact zc0
   exact zc4
structure AttM where
 slot:Int
 frame:Int
 c:Cel
 o:Int
structure StM where
 frame:Int
 since:Int->Option Int
 acked:Int->Int->Option Int
 done:Bool
structure PlM where
 st:List StM
 atts:List AttM
 dels:List (Int×Int×Int)
def perF(f:Flw):Int:=f.2.2.2.1
def phaF(f:Flw):Int:=f.2.2.2.2.1
def dstF(f:Flw):Int:=f.2.2.1
def Ywu(f:Flw)(k:Int):Int:=phaF f+k*perF f
def newS(f:Flw)(n k:Int):StM:=⟨k,λv=>if v=f.2.1 then some n else none,λ_ _=>none,false⟩
def relS(f:Flw)(n:Int)(x:StM):StM:=if n<phaF f then x else if(n-phaF f)/perF f=x.frame then x else newS f n ((n-phaF f)/perF f)
def canT(f:Flw)(x:StM)(c:Cel)(n:Int):Prop:=0<=x.frame/\(∃a,x.since (YE c)=some a/\a<=n)/\YE c≠dstF f/\∀t,x.acked (YE c) (toC c)=some t->n<=t
def Yx2(f:Flw)(x:StM)(c:Cel)(n o:Int):StM:=
 ⟨x.frame,if o=3\/(x.since (toC c)).isSome then x.since elseλv=>if v=toC c then some (n+1)else x.since v,
  if o=1/\x.acked (YE c) (toC c)=none thenλu v=>if u=YE c/\v=toC c then some n else x.acked u v else x.acked,
  x.done||(decide (o≠3)&&decide (toC c=dstF f))⟩
def delS(f:Flw)(x:StM)(c:Cel)(n o:Int):List (Int×Int×Int):=if o≠3/\toC c=dstF f/\x.done=false then [(f.1,x.frame,n)]else []
def YwY:StM:=⟨-1,λ_=>none,λ_ _=>none,false⟩
inductive Pl (l:List Flw) (s:Sch):Int->Nat->PlM->Prop
 |start:Pl l s 0 0 ⟨l.map λ_=>YwY,[],[]⟩
 |rel {n:Int}{p:PlM}(st:List StM):Pl l s n 0 p->st.length=l.length->(∀(i:Nat) f x,l[i]? =some f->p.st[i]? =some x->st[i]? =some (relS f n x))->Pl l s n 1 ⟨st,p.atts,p.dels⟩
 |skip {n:Int}{j:Nat}{p:PlM}{c:Cel}:Pl l s n (j+1) p->(atE s n)[j]? =some c->(∀(i:Nat) f x,l[i]? =some f->p.st[i]? =some x->f.1=Xf c->¬canT f x c n)->Pl l s n (j+2) p
 |att {n:Int}{j i:Nat}{p:PlM}{c:Cel}{f:Flw}{x:StM}(o:Int):Pl l s n (j+1) p->(atE s n)[j]? =some c->l[i]? =some f->p.st[i]? =some x->f.1=Xf c->canT f x c n->
  Pl l s n (j+2) ⟨p.st.set i (Yx2 f x c n o),p.atts++[⟨n,x.frame,c,o⟩],p.dels++delS f x c n o⟩
 |next {n:Int}{p:PlM}(ds:List (Int×Int×Int)):Pl l s n ((atE s n).length+1) p->ds.Perm p.dels->Pl l s (n+1) 0 ⟨p.st,p.atts,ds⟩
def onK(id k u v:Int)(a:AttM):Bool:=decide (Xf a.c=id/\a.frame=k/\YE a.c=u/\toC a.c=v)
def keyL(atts:List AttM)(id k u v:Int):List AttM:=atts.filter (onK id k u v)
def cntL(s:Sch)(q:Cel->Bool):Nat->Int->Nat
 |0,_=>0
 |m+1,a=>((atE s a).filter q).length+cntL s q m (a+1)
def YnG(s:Sch)(q:Cel->Bool)(b:Option Int)(a0 n:Int)(j:Nat):Nat:=
 match b with
 |some b=>cntL s q (b-1-a0).toNat a0
 |none=>cntL s q (n-a0).toNat a0+if a0<=n then(((atE s n).take j).filter q).length else 0
def Hop(s:Sch)(f:Flw)(k:Int)(atts:List AttM)(since:Int->Option Int)(n:Int)(j:Nat):Prop:=
 ∀u v a0,u≠dstF f->since u=some a0->∃K1,K1<+:keyL atts f.1 k u v/\(∀a∈K1,a.o=3)/\YnG s (onP f.1 u v) (since v) a0 n j<=K1.length
def Dlv(f:Flw)(k:Int)(dels:List (Int×Int×Int))(since:Int->Option Int):Prop:=
 (∀d∈dels,d.1=f.1->d.2.1=k->since (dstF f)=some (d.2.2+1))/\∀b,since (dstF f)=some b->(f.1,k,b-1)∈dels
structure Arch(s:Sch)(f:Flw)(k n:Int)(j:Nat)(p:PlM)(since:Int->Option Int):Prop where
 src:since f.2.1=some (Ywu f k)
 hop:Hop s f k p.atts since n j
 dlv:Dlv f k p.dels since
variable {s:Sch}{f:Flw}{k n:Int}{j:Nat}{p:PlM}{since:Int->Option Int}
theorem Arch.mono{p':PlM}(h:Arch s f k n j p since)
 (ha:∀u v,keyL p.atts f.1 k u v<+:keyL p'.atts f.1 k u v) (hd:∀d,d.1=f.1->d.2.1=k->(d∈p'.dels↔d∈p.dels)):Arch s f k n j p' since:=by
 refine⟨h.src,λu v a0 hu hs=>?_,?_,?_⟩
 ·obtain⟨K1,h1,h2,h3⟩:=h.hop u v a0 hu hs
  grind
 ·intro d hm h1 h2
  exact h.dlv.1 d ((hd d h1 h2).1 hm) h1 h2
 ·intro b hb
  exact(hd (f.1,k,b-1) rfl rfl).2 (h.dlv.2 b hb)
theorem Ymn{α:Type}{L:List α}{c:α}(h:L[j]? =some c):L.take (j+1)=L.take j++[c]:=zc90
variable {c:Cel}
theorem YoW{L:List Cel}(h:L[j]? =some c)(q:Cel->Bool):((L.take (j+1)).filter q).length=((L.take j).filter q).length+if q c then 1 else 0:=by
 rw[Ymn h,SY,To]
 grind
theorem YrF{a0:Int}(h:(atE s n)[j]? =some c){q:Cel->Bool}(hq:q c=false)(b:Option Int):YnG s q b a0 n (j+1)=YnG s q b a0 n j:=by
 simp_all [YnG,YoW]
theorem YtU{id u v:Int}:onP id u v c=true↔Xf c=id/\YE c=u/\toC c=v:=by simp[onP]
theorem Arch.offs(h:Arch s f k n j p since)(hc:(atE s n)[j]? =some c)(hf:Xf c≠f.1):Arch s f k n (j+1) p since:=by
 refine⟨h.src,λu v a0 hu hs=>?_,h.dlv⟩
 obtain⟨K1,h1,h2,h3⟩:=h.hop u v a0 hu hs
 grind [YrF,YtU]
def Chain(d:Int):Int->List Lk->Prop
 |u,[]=>u=d
 |u,l::ls=>u=l.1/\u≠d/\Chain d l.2.1 ls
theorem Yd4{x:List (Cel×Int)}{a:Int}(hx:x≠[]):JE (x.map Prod.snd)+1=Y4 x a:=by
 grind [JE,Y4,Na]
def rt3(x:Clm)(i:Nat):List UInt8:=X0 wordR (rtAt x.routes i)++X0 Ye1 [x.bounds.getD i 0,x.worst.getD i 0]++X0 Ye2 (rtAt x.slots i)
def clT(x:Clm)(k:Nat):List UInt8:=X0 wordF [x.flow]++(List.range k).flatMap (rt3 x)
def J3(c:List Clm)(k:Nat):List UInt8:=(c.take k).flatMap λx=>clT x x.routes.length
variable {x:Clm}
theorem YpD(h:FormD x):((YnL x).flatMap λp=>p++[10])=clT x x.routes.length:=by
 have e:∀ks:List Nat,(∀i∈ks,i<x.routes.length)->(ks.flatMap (YnM x)).flatMap (λp=>p++[10])=ks.flatMap (rt3 x):=by
  intro ks
  induction ks with
  |nil=>simp_all
  |cons i ks ih=>
   simp_all [YnM,rt3,X0,Go.Proofs.YtaholidehobiiaaGreatDoor.FormD.b,Go.Proofs.YtaholidehobiiaaGreatDoor.FormD.s]
 unfold YnL clT
 rw[TZ,e _ λi hi=>TQ.1 hi]
 rfl
variable {c:List Clm}
theorem YgO(h:∀x∈c,FormD x):YnT c=J3 c c.length:=by
 unfold YnT J3
 induction c with
 |nil=>rfl
 |cons x c ih=>
  grind [YpD]
theorem YfO{k:Nat}(h:c[k]? =some x):J3 c (k+1)=J3 c k++clT x x.routes.length:=by
 grind [J3,TN]
theorem YiZ(x:Clm)(k:Nat):clT x (k+1)=clT x k++rt3 x k:=by
 grind [clT,Rx]
variable {b:Int}
theorem WT{l:List Int}(hb:b<10000)(h:∀x∈l,0<=x/\x<=b):∀n∈l,0<=n/\n<10000:=by grind
theorem YgP{a:Int}(ha:0<=a/\a<10000)(hb:0<=b/\b<10000):∀n∈[a,b],0<=n/\n<10000:=by simp_all
variable {i B cap:Nat}
theorem YfJ(h:FormD x)(hi:i<x.routes.length):(0<=x.bounds.getD i 0/\x.bounds.getD i 0<10000)/\(0<=x.worst.getD i 0/\x.worst.getD i 0<10000):=by
 have h1:=h.bs _ (Ygg (l:=x.bounds) (i:=i) (by rw[h.b];exact hi))
 have h2:=h.ws _ (Ygg (l:=x.worst) (i:=i) (by rw[h.w];exact hi))
 omega
theorem YnN(h:FormD x)(hi:i<x.routes.length):(rt3 x i).length<=500:=by
 have h1:=h.rs i hi
 have h2:=h.ls i hi
 have h3:=YfJ h hi
 have k1:=ZB (w:=wordR) (WT (by decide) h1.2.2)
 have k2:=ZB (w:=Ye1) (YgP h3.1 h3.2)
 have k3:=ZB (w:=Ye2) (WT (by decide) h2.2.2)
 grind [wordR,Ye1,Ye2,rt3]
theorem Yhn{x:Clm}(h:FormD x):∀k,k<=x.routes.length->(clT x k).length<=20+500*k
 |0,_=>by
  have k1:=ZB (w:=wordF) (l:=[x.flow]) λn hn=>by have:=h.f;grind
  grind [wordF,clT]
 |k+1,hk=>by
  have ih:=Yhn h k (by omega)
  grind [YnN,YiZ]
theorem Ybg{c:List Clm}(h:∀x∈c,FormD x):∀k,k<=c.length->(J3 c k).length<=1100*k
 |0,_=>by grind [J3]
 |k+1,hk=>by
  have ih:=Ybg h k (by omega)
  obtain⟨x,hx⟩:∃x,c[k]? =some x:=⟨_,Ta (by omega)⟩
  have hf:=h x (Tc hx)
  have h1:=Yhn hf x.routes.length (TJ _)
  have:=hf.n
  grind [YfO]
variable {w0 w:World}{H:List HP}
theorem ClM.In.here{c:ClM}(h:c.In B w0 H)(hw:St B w0 H w):c.In w.heap.size w []:=
 ⟨h.rt.here hw,λr hr=>(h.rw_ r hr).here hw,h.bd.here hw,h.ws.here hw,h.st.here hw,λr hr=>(h.sw r hr).here hw,h.ln,h.rl,h.sl⟩
variable {A:Option Addr}
theorem CIn.here{c:List ClM}(h:CIn B w0 H A c)(hw:St B w0 H w):CIn w.heap.size w [] A c:=⟨h.rd.here hw,λx hx=>(h.x x hx).here hw,h.ln⟩
structure PrM where
 i:Nat
 A:Option Addr
 cap:Nat
theorem YoI(c:List ClM)(ht:TabsB B w0)(hc:CIn B w0 [] A c)(hw:St B w0 [] w):
 CX B w0 41 [.slice A c.length cap] w λv _=>v=.tuple #[strV (Uq (c.map ClM.clm)).1,.int .i64 (Uq (c.map ClM.clm)).2]:=by
 refine Yc Tryz.func41 Tryz.ntmps41 rfl rfl hw ?_
 have p1:=λ{H':List HP}{w:World}(hc:CIn B w0 H' A c) (hw:St B w0 H' w)=>Yk8 c (cap:=cap) hc hw
 have hcr:=hc.rd
 cases hf:Yb8 (c.map ClM.clm)with
 |false=>
  rw[hf]at p1
  repeat'(first|((first|apply Ya YmZ|apply Yb YmZ);exact za;exact rfl;exactλ_ hw=>(p1 (hc.mono zk) hw))|apply(zs1 ?_)|apply(zs2 ?_)|(apply zg20;refine zs48 ?_)|apply(zs65 ?_)|apply(zs68 ?_)|apply(zs69 ?_)|apply(zs70 ?_)|(apply zg27;refine zs71 ?_)|apply(zs74 ?_)|apply(zs77 ?_)|fail)
  apply YM;(iterate 3 exact rfl)
  simp_all [Uq]
 |true=>
  rw[hf]at p1
  obtain⟨h16,hfd⟩:=Yju hf
  rw[TB]at h16
  repeat'(first|((first|apply Ya YmZ|apply Yb YmZ);exact za;exact rfl;exactλ_ hw=>(p1 (hc.mono zk) hw))|apply(zs1 ?_)|apply(zs2 ?_)|(apply zg4;refine zs9 ?_)|(apply zg20;refine zs47 ?_)|(apply zg24;(refine zs54 ?_;intro _))|apply(zs65 ?_)|apply(zs68 ?_)|apply(zs69 ?_)|apply(zs70 ?_)|(apply zg27;refine zs72 ?_)|apply(zs73 ?_)|apply(zs76 ?_)|fail)
  rename_i gb
  refine Yg (λz:PrM=>[(14,.int .i64 (z.i:Nat)),(13,.int .i64 c.length),(12,.slice A c.length cap),(4,.pointer (some ⟨gb,0,none⟩))]) (λz=>bdP gb (if z.i=0 then .pointer none else .pointer (some ⟨gb,0,none⟩)) z.A z.cap (J3 (c.map ClM.clm) z.i) []) (λz=>z.i<=c.length) (λz=>c.length-z.i) ⟨0,none,0⟩ (Tm _) ?_ ?_ ?_
  ·exact zc1
  ·intro w hw
   have h5:St B w0 [blk gb (.cells (Value.agg #[.pointer none,.slice none 0 0]).cells 163 (0,0))] w:=hw
   exact(h5.nilSlice 5 1).perm (.swap _ _ _)
  rintro⟨k,A1,cap1⟩ hk K hK
  dsimp only at hk⊢
  have htl:=Ybg hfd k (by rw[TB];exact hk)
  by_cases hlt:k<c.length
  rotate_left
  ·obtain rfl:k=c.length:=by omega
   obtain⟨p,hp⟩:∃p,(if c.length=0 then Value.pointer none else .pointer (some ⟨gb,0,none⟩))=p:=⟨_,rfl⟩
   have hp2:p=.pointer none\/p=.pointer (some ⟨gb,0,none⟩):=by rw[<-hp];split<;>simp
   rw[hp]
   clear hK
   repeat'(first|(apply(zs17 ?_ ?_)<;>intro _<;>try exact zo)|apply(zs65 ?_)|apply(zs68 ?_)|apply(zs69 ?_)|apply(zs70 ?_)|(apply zg27;refine zs72 ?_)|apply(zs75 ?_)|apply(zs80 ?_)|apply(zs81 ?_)|fail)
   apply Ye _ YqY
   exact za
   exact rfl
   exactλ_ hw=>(O2 (l:=J3 (c.map ClM.clm) c.length) hp2 (hw))
   rintro _ _ ⟨rfl,rfl⟩
   repeat'(first|apply(zs2 ?_)|apply(zs65 ?_)|apply(zs68 ?_)|apply(zs74 ?_)|fail)
   apply YM;(iterate 3 exact rfl)
   rw[Uq,Tf (by rw[hf];decide),YgO hfd,TB]
  obtain⟨x,hx⟩:∃x,c[k]? =some x:=⟨_,Ta hlt⟩
  have hxm:=Tc hx
  have hxd:=hfd x.clm (Sr hxm)
  have hxi:=hc.x x hxm
  obtain⟨p,hp⟩:∃p,(if k=0 then Value.pointer none else .pointer (some ⟨gb,0,none⟩))=p:=⟨_,rfl⟩
  have hp2:p=.pointer none\/p=.pointer (some ⟨gb,0,none⟩):=by rw[<-hp];split<;>simp
  rw[hp]
  unfold bdP
  repeat'(first|(apply zg2;refine zs6 ?_)|(apply zg3;first|refine zs7 ?_|refine zs61 ?_)|(apply zg5;refine zs57 ?_)|(apply(zs17 ?_ ?_)<;>intro _<;>try exact zo)|(apply zg22;refine zs51 ?_)|(apply zg24;(refine zs54 ?_;intro _))|(apply zg26;(refine zs56 ?_;intro _))|apply(zs65 ?_)|apply(zs68 ?_)|apply(zs69 ?_)|apply(zs70 ?_)|(apply zg27;refine zs71 ?_)|apply(zs73 ?_)|apply(zs76 ?_)|fail)
  rename_i gx gl
  have hlen1:x.clm.routes.length=x.rs.length:=by show(x.rs.map (·.xs)).length=_;exact YgW
  have hxn:=hxd.n
  rw[hlen1]at hxn
  have hbl:x.bs.length=x.rs.length:=by have:=hxd.b;rw[hlen1]at this;exact this
  have hwl:x.ws.length=x.rs.length:=by have:=hxd.w;rw[hlen1]at this;exact this
  have hsl:x.ss.length=x.rs.length:=by have:=hxd.s;rw[hlen1]at this;rw[<-this];show _=(x.ss.map (·.xs)).length;exact YgW
  have hrl:∀X,Rd B w0 (blk gl (.cells #[.int .i64 x.flow] 3 (0,0))::X) (some ⟨gl,0,none⟩) ([x.flow].flatMap numF):=λX=>Rd.blk (cs:=#[.int .i64 x.flow]) (.head _)
  have hfl:∀n∈[x.flow],0<=n/\n<10000:=λn hn=>by
   have:=hxd.f
   rw[TG.1 hn]
   exact⟨this.1,by have:=this.2;show x.clm.flow<_;omega⟩
  have hfl2:=ZB (w:=wordF) hfl
  have e1:wordF.length=4:=rfl
  simp only[TM,Ry]at hfl2
  first|apply Ya YbX|apply Yb YbX
  exact za
  exact rfl
  exactλ_ hw=>(WL wordF [x.flow] hfl (by show 1<=100;decide) (by decide) ht (hrl _) hw)
  apply XU (bdP gb p A1 cap1 (J3 (c.map ClM.clm) k) [clA gx x])
  ·unfold bdP
   exact zc0
  apply Ye _ YfZ
  exact za
  exact rfl
  exactλ_ hw=>(Vn gb p hp2 A1 cap1 (J3 (c.map ClM.clm) k) (X0 wordF [x.flow]) (by omega) (hw))
  rintro _ _ ⟨rfl,A2,cap2,rfl⟩
  unfold bdP
  repeat'(first|apply(zs1 ?_)|(apply zg2;refine zs6 ?_)|(apply zg3;refine zs7 ?_)|(apply zg4;refine zs9 ?_)|apply(zs65 ?_)|apply(zs68 ?_)|apply(zs69 ?_)|apply(zs70 ?_)|apply(zs73 ?_)|fail)
  refine Yg (λz:PrM=>[(26,.int .i64 (z.i:Nat)),(25,.int .i64 x.rs.length),(24,.slice x.rA x.rs.length x.rcap),(6,.pointer (some ⟨gx,0,none⟩)),(14,.int .i64 (k:Nat)),(13,.int .i64 c.length),(12,.slice A c.length cap),(4,.pointer (some ⟨gb,0,none⟩))]) (λz=>bdP gb (.pointer (some ⟨gb,0,none⟩)) z.A z.cap (J3 (c.map ClM.clm) k++clT x.clm z.i) [clA gx x]) (λz=>z.i<=x.rs.length) (λz=>x.rs.length-z.i) ⟨0,A2,cap2⟩ (Tm _) ?_ ?_ ?_
  ·exact zc1
  ·have e0:clT x.clm 0=X0 wordF [x.flow]:=by unfold clT;simp;rfl
   rw[e0]
   unfold bdP
   exact YgV
  rintro⟨j,A3,cap3⟩ hj K2 hK2
  dsimp only at hj⊢
  have hcl2:=Yhn hxd j (by rw[hlen1];exact hj)
  unfold bdP
  by_cases hjl:j<x.rs.length
  rotate_left
  ·obtain rfl:j=x.rs.length:=by omega
   clear hK2
   have hst:J3 (c.map ClM.clm) (k+1)=J3 (c.map ClM.clm) k++clT x.clm x.rs.length:=by
    rw[YfO (x:=x.clm) (by rw[TR,hx];rfl),hlen1]
   rw[<-hst]
   repeat'(first|apply(zs1 ?_)|(apply(zs17 ?_ ?_)<;>intro _<;>try exact zo)|(apply zg13;refine zs30 ?_)|apply(zs65 ?_)|apply(zs68 ?_)|apply(zs69 ?_)|apply(zs70 ?_)|(apply zg27;refine zs72 ?_)|apply(zs75 ?_)|apply(zs79 ?_)|apply(zs80 ?_)|apply(zs81 ?_)|fail)
   apply hK ⟨k+1,A3,cap3⟩
   ·show k+1<=c.length
    omega
   ·exact zc39
   ·exact zc1
   ·dsimp only
    rw[Tf (Nat.succ_ne_zero k)]
    unfold bdP
    exact zc0
  obtain⟨r,hr⟩:∃r,x.rs[j]? =some r:=⟨_,Ta hjl⟩
  obtain⟨z,hz⟩:∃z,x.ss[j]? =some z:=⟨_,Ta (by omega)⟩
  obtain⟨bv,hbv⟩:∃b,x.bs[j]? =some b:=⟨_,Ta (by omega)⟩
  obtain⟨wv,hwv⟩:∃b,x.ws[j]? =some b:=⟨_,Ta (by omega)⟩
  have hrm:=Tc hr
  have hzm:=Tc hz
  have hjc:j<x.clm.routes.length:=by omega
  have g1:rtAt x.clm.routes j=r.xs:=WC hr
  have g2:rtAt x.clm.slots j=z.xs:=WC hz
  have g3:x.clm.bounds.getD j 0=bv:=by show x.bs.getD j 0=bv;rw[Tu,hbv];rfl
  have g4:x.clm.worst.getD j 0=wv:=by show x.ws.getD j 0=wv;rw[Tu,hwv];rfl
  have n1:=hxd.rs j hjc
  have n2:=hxd.ls j hjc
  have n3:=YfJ hxd hjc
  have hr3:=YnN hxd hjc
  have hst:=YiZ x.clm j
  unfold rt3 at hr3 hst
  rw[g1,g2,g3,g4]at hr3 hst
  rw[g1]at n1
  rw[g2]at n2
  rw[g3,g4]at n3
  have m1:=WT (b:=31) (by decide) n1.2.2
  have m2:=WT (b:=511) (by decide) n2.2.2
  have m3:=YgP n3.1 n3.2
  have l1:=λ{H':List HP}{w:World}(hr:Rd B w0 H' r.A (r.xs.flatMap numF)) (hw:St B w0 H' w)=>WL wordR r.xs m1 (by omega) (by decide) (cap:=r.cap) ht hr hw
  have l2:=λ{g:Nat}{cap:Nat}{H':List HP}{w:World}(hm:blk g (.cells #[.int .i64 bv,.int .i64 wv] 3 (0,0))∈H') (hw:St B w0 H' w)=>WL Ye1 [bv,wv] m3 (by show 2<=100;decide) (by decide) (A:=some ⟨g,0,none⟩) (cap:=cap) ht (show Rd B w0 H' _ ([bv,wv].flatMap numF) from Rd.blk hm) hw
  have l3:=λ{H':List HP}{w:World}(hr:Rd B w0 H' z.A (z.xs.flatMap numF)) (hw:St B w0 H' w)=>WL Ye2 z.xs m2 (by omega) (by decide) (cap:=z.cap) ht hr hw
  obtain⟨s1,hs1⟩:∃s,X0 wordR r.xs=s:=⟨_,rfl⟩
  obtain⟨s2,hs2⟩:∃s,X0 Ye1 [bv,wv]=s:=⟨_,rfl⟩
  obtain⟨s3,hs3⟩:∃s,X0 Ye2 z.xs=s:=⟨_,rfl⟩
  rw[hs1]at l1 hr3 hst
  rw[hs2]at l2 hr3 hst
  rw[hs3]at l3 hr3 hst
  rw[To,To]at hr3
  have hrr:=hxi.rt
  have hbr:=hxi.bd
  have hwr:=hxi.ws
  have hsr:=hxi.st
  repeat'(first|apply(zs1 ?_)|apply(zs2 ?_)|(apply zg3;refine zs60 ?_)|(apply zg5;refine zs57 ?_)|(apply(zs17 ?_ ?_)<;>intro _<;>try exact zo)|apply(zs65 ?_)|apply(zs68 ?_)|apply(zs69 ?_)|apply(zs70 ?_)|(apply zg27;refine zs71 ?_)|apply(zs73 ?_)|apply(zs76 ?_)|fail)
  apply ZN (.n1 0 (.n1 2 (.n1 3 (.n1 4 (.n1 5 (.n1 6 (.n1 7 (.n1 8 (.n1 9 (.n1 10 (.n1 11 (.n1 15 (.n1 16 (.n1 17 (.n1 18 (.n1 19 (.n2 1 (.n1 12 (.n1 13 (.n1 14 (.n1 20 (.n1 21 .done))))) 12 (.n1 1 (.n1 13 (.n1 14 (.n1 20 (.n1 21 .done)))))))))))))))))))))) [22] [false,false,true]
  kernel_rfl
  kernel_rfl
  exact zy
  (simp only[Yh,nthO];rfl)
  repeat'(first|apply(zs1 ?_)|(apply zg2;refine zs6 ?_)|(apply zg3;first|refine zs7 ?_|refine zs60 ?_)|(apply zg5;refine zs57 ?_)|(apply zg26;(refine zs56 ?_;intro _))|apply(zs65 ?_)|(apply Js;exact zp)|apply(zs87 ?_)|(apply Yl;try exact zl)|apply(zs90 ?_)|apply(zs91 ?_ ?_)|(apply YG;try exact zl)|fail)
  all_goals(
   first|apply Ya YbX|apply Yb YbX
   exact za
   exact rfl
   exactλ_ hw=>(l1 ((hxi.rw_ r hrm).mono zk) hw)
   repeat'(first|(apply zg26;(refine zs56 ?_;intro _))|apply(zs65 ?_)|(apply Js;exact zp)|apply(zs87 ?_)|(apply Yl;try exact zl)|apply(zs90 ?_)|(apply YG;try exact zl)|fail)
   first|apply Ya YbX|apply Yb YbX
   exact za
   exact rfl
   exactλ_ hw=>(l2 zm hw)
   repeat'(first|(apply WF s1 s2;(iterate 3 exact rfl);omega)|apply(zs65 ?_)|(apply Js;exact zp)|apply(zs87 ?_)|(apply Yl;try exact zl)|apply(zs90 ?_)|(apply YG;try exact zl)|fail)
   first|apply Ya YbX|apply Yb YbX
   exact za
   exact rfl
   exactλ_ hw=>(l3 ((hxi.sw z hzm).mono zk) hw)
   repeat'(first|(apply WF (s1++s2) s3;(iterate 3 exact rfl);(rw[To];omega))|apply(zs65 ?_)|(apply Js;exact zp)|(apply Yl;try exact zl)|(apply YmI;exact zp)|apply(zs90 ?_)|(apply YG;try exact zl)|apply(zs93 ?_)|fail)
   apply XU (bdP gb (.pointer (some ⟨gb,0,none⟩)) A3 cap3 (J3 (c.map ClM.clm) k++clT x.clm j) [clA gx x])
   ·unfold bdP
    exact zk
   apply Ye _ YfZ
   exact za
   exact rfl
   exactλ_ hw=>(Vn gb _ (.inr rfl) A3 cap3 (J3 (c.map ClM.clm) k++clT x.clm j) (s1++s2++s3) (by rw[To,To,To];omega) (hw))
   rintro _ _ ⟨rfl,A4,cap4,rfl⟩
   repeat'(first|apply(zs1 ?_)|(apply zg13;refine zs30 ?_)|apply(zs65 ?_)|apply(zs68 ?_)|apply(zs70 ?_)|apply(zs79 ?_)|apply(zs94 ?_)|fail)
   apply hK2 ⟨j+1,A4,cap4⟩
   ·show j+1<=x.rs.length
    omega
   ·dsimp only;omega
   ·exact zu
   ·dsimp only
    intro w hw
    rw[hst,show J3 (c.map ClM.clm) k++(clT x.clm j++(s1++s2++s3))=J3 (c.map ClM.clm) k++clT x.clm j++(s1++s2++s3) from(TY _ _ _).symm]
    exact hw)
theorem Yi6(c:List ClM)(ht:TabsB B w0)(hc:CIn B w0 H A c)(hw:St B w0 H w):
 CX B w0 41 [.slice A c.length cap] w λv K=>v=.tuple #[strV (Uq (c.map ClM.clm)).1,.int .i64 (Uq (c.map ClM.clm)).2]/\K=H:=
 OA hw (YoI c (ht.here hw) (hc.here hw) (St.start w))
def slC(len:Int)(cs:List Cel)(a:Int):Nat:=(cs.filter λc=>decide (c.1=a.tmod len)).length
def cntS(len:Int)(cs:List Cel):Nat->Int->Nat
 |0,_=>0
 |m+1,a=>slC len cs a+cntS len cs m (a+1)
theorem YeG(len:Int)(c:Cel)(cs:List Cel)(a:Int):slC len (c::cs) a=(if c.1=a.tmod len then 1 else 0)+slC len cs a:=by
 unfold slC
 rw[SH]
 by_cases h:c.1=a.tmod len
 ·rw[Tn (Td h),Tn h,TM];omega
 ·rw[Tf (by simpa using h),Tf h];omega
theorem Yae(len a:Int):∀(cs:List Cel) (k:Nat),(Xm len a cs k).length=min k (slC len cs a)
 |[],k=>by simp[Xm,slC]
 |c::cs,k=>by
  rw[YeG]
  unfold Xm
  by_cases h:c.1=a.tmod len
  ·by_cases hk:k=0
   ·subst hk
    rw[Tf (λe=>e.2 rfl),YpI];simp
   ·rw[Tn ⟨h,hk⟩,Tn h,TM,Yae len a cs (k-1)];omega
  ·rw[Tf (λe=>h e.1),Tf h,Yae len a cs k];omega
theorem Yi1(len:Int)(cs:List Cel):∀(m k:Nat) (a:Int),cntS len cs (m+k) a=cntS len cs m a+cntS len cs k (a+m)
 |0,k,a=>by simp[cntS]
 |m+1,k,a=>by
  rw[show m+1+k=(m+k)+1 by omega,cntS,Yi1 len cs m k (a+1),cntS]
  rw[show a+1+(m:Int)=a+((m+1:Nat):Int) by omega]
  omega
variable {a b y:Int}
theorem YoF(len:Int)(cs:List Cel){z:Int}(h1:a<=b)(h2:b<=z):cntS len cs (z-b).toNat b<=cntS len cs (z-a).toNat a:=by
 obtain⟨x,hx⟩:∃x:Nat,b=a+x:=⟨(b-a).toNat,by omega⟩
 obtain⟨y,hy⟩:∃y:Nat,z=b+y:=⟨(z-b).toNat,by omega⟩
 rw[show(z-b).toNat=y by omega,show(z-a).toNat=x+y by omega,Yi1,hx]
 omega
theorem VX(x r:List (Cel×Int))(a:Int):Y4 (x++r) a=Y4 r (Y4 x a):=by
 unfold Y4
 rw[List.getLast?_append]
 cases r.getLast?<;>rfl
theorem YqF{x:List (Cel×Int)}(h:Y4 x a<=y)(hb:b<=y):Y4 x b<=y:=by
 unfold Y4 at h⊢
 cases hx:x.getLast? with
 |none=>exact hb
 |some z=>rw[hx]at h;exact h
theorem Yjx{len:Int}{cs:List Cel}:∀(f k:Nat) (a y:Int),a<=y->y<=a+f->k<=cntS len cs (y-a).toNat a->(hopP len cs f k a).length=k/\Y4 (hopP len cs f k a) a<=y
 |0,k,a,y,h1,h2,h3=>by
  obtain rfl:y=a:=by omega
  rw[show(y-y).toNat=0 by omega]at h3
  obtain rfl:k=0:=by simpa [cntS]using h3
  exact⟨rfl,h1⟩
 |f+1,k,a,y,h1,h2,h3=>by
  by_cases hk:k=0
  ·subst hk
   rw[Yjz]
   exact⟨rfl,h1⟩
  have hlt:a<y:=by
   by_cases e:a=y
   ·subst e
    rw[show(a-a).toNat=0 by omega]at h3
    simp[cntS]at h3
    omega
   ·omega
  rw[show(y-a).toNat=(y-(a+1)).toNat+1 by omega,cntS]at h3
  have hs:=Yae len a cs k
  obtain⟨e1,e2⟩:=Yjx (len:=len) (cs:=cs) f (k-(Xm len a cs k).length) (a+1) y (by omega) (by omega) (by omega)
  rw[hopP,To,e1,VX]
  refine⟨by omega,YqF e2 ?_⟩
  unfold Y4
  cases hx:(Xm len a cs k).getLast? with
  |none=>exact h1
  |some z=>have:=WD (NJ hx);simp only[];omega
def WayT(len:Int)(C:Lk->List Cel):List Lk->Int->Int->Prop
 |[],a,y=>a<=y
 |l::ls,a,y=>∃z,a<=z/\Y7 l<=cntS len (C l) (z-a).toNat a/\WayT len C ls z y
variable {C:Lk->List Cel}
theorem WayT.le{len:Int}:∀{ls:List Lk}{a y:Int},WayT len C ls a y->a<=y
 |[],_,_,h=>h
 |_::_,_,_,⟨_,h1,_,h3⟩=>Int.le_trans h1 h3.le
theorem YnU{len:Int}{C:Lk->List Cel}{endd:Int}:∀{ls:List Lk}{a a' y:Int},WayT len C ls a y->a'<=a->y<=endd->(runP len C endd ls a').length=XD ls/\Y4 (runP len C endd ls a') a'<=y
 |[],a,a',y,h,h1,_=>⟨rfl,Int.le_trans h1 h⟩
 |l::ls,a,a',y,⟨z,h1,h2,h3⟩,h4,h5=>by
  have hz:=h3.le
  obtain⟨e1,e2⟩:=Yjx (len:=len) (cs:=C l) (endd-a').toNat (Y7 l) a' z (by omega) (by omega) (T9 h2 (YoF len (C l) h4 h1))
  obtain⟨i1,i2⟩:=YnU (endd:=endd) h3 e2 h5
  unfold runP
  rw[Tf (by omega),To,VX,e1,i1]
  exact⟨by unfold XD;rw[Rh,NK],i2⟩
theorem WayT.mono{len:Int}{D:Lk->List Cel}(h:∀l a,slC len (C l) a<=slC len (D l) a):∀{ls:List Lk}{a y:Int},WayT len C ls a y->WayT len D ls a y
 |[],_,_,hw=>hw
 |l::ls,a,y,⟨z,h1,h2,h3⟩=>by
  refine⟨z,h1,T9 h2 ?_,h3.mono h⟩
  have:∀(m:Nat) (a:Int),cntS len (C l) m a<=cntS len (D l) m a:=λm=>by
   induction m with
   |zero=>exactλ_=>TJ _
   |succ m ih=>intro a;have:=ih (a+1);have:=h l a;rw[cntS,cntS];omega
  exact this _ _
theorem YmQ{S:Int->Option (List Int)}{len per d:Int}(hp:1<=per):∀{fuel:Nat}{rel:Int}{b:Int×Int×List Int},b.1<=d->(∀i:Nat,rel+i*per<len->∃l,S (rel+i*per)=some l/\JE l-(rel+i*per)+1<=d)->∃r,Wg S len per fuel rel b=some r/\r.1<=d
 |0,rel,b,hb,_=>⟨b,rfl,hb⟩
 |fuel+1,rel,b,hb,h=>by
  rw[Wg]
  by_cases hle:len<=rel
  ·rw[Tn hle];exact⟨b,rfl,hb⟩
  rw[Tf hle]
  obtain⟨l,h1,h2⟩:=h 0 (by simp;omega)
  have h1:S rel=some l:=by simpa using h1
  have h2:JE l-rel+1<=d:=by simpa using h2
  rw[h1]
  refine YmQ hp ?_ λi hi=>?_
  ·split
   ·exact h2
   ·exact hb
  ·have e:rel+((i+1:Nat):Int)*per=rel+per+(i:Int)*per:=by
    rw[show((i+1:Nat):Int)=(i:Int)+1 by omega,Int.add_mul];omega
   have:=h (i+1) (by rw[e];exact hi)
   rw[e]at this
   exact this
theorem Yp4{n:Net}{s:Sch}{f:Flw}{r:List Int}{rel:Int}(hne:Yp n r≠[])(hloss:∀x∈Yp n r,0<=x.2.2)(hy:y<=rel+f.2.2.2.1)(h:WayT s.len (Xq s f.1) (Yp n r) rel y):
 ∃l,Vk n s f r rel=some l/\JE l-rel+1<=y-rel:=by
 obtain⟨h1,h2⟩:=YnU (endd:=rel+f.2.2.2.1) h (R7 _) hy
 refine⟨(runP s.len (Xq s f.1) (rel+f.2.2.2.1) (Yp n r) rel).map Prod.snd,?_,?_⟩
 ·unfold Vk
  rw[YcT,Tf (by omega)]
 ·have hn:1<=XD (Yp n r):=by
   cases hl:Yp n r with
   |nil=>exact absurd hl hne
   |cons x xs=>
    have:=hloss x (by rw[hl];simp)
    unfold XD
    rw[Rh,NK]
    unfold Y7
    omega
  have:=Yd4 (x:=runP s.len (Xq s f.1) (rel+f.2.2.2.1) (Yp n r) rel) (a:=rel) (λe=>by rw[e]at h1;simp at h1;omega)
  omega
structure Sm(n:Net)(l:List Flw)(s:Sch):Prop where
 ck:Yo n=0
 fl:(Yu n.nodes l).2=0
 per:∀f∈l,s.len.tmod f.2.2.2.1=0
 sized:Jo s=true
 formed:∀c∈s.cells,Jf s c=true
 ord:Ord s.cells
 good:∀c∈s.cells,Yz n (YE c) (toC c)=true/\0<=Z1 l (Xf c)
 once:s.cells.Pairwise λa b=>a.1=b.1->YH a b=false
 clear:∀c∈s.cells,VH n s.cells c=true
variable {n:Net}{l:List Flw}{s:Sch}
theorem Sem.sm(h:Sem n l s):Sm n l s:=⟨h.ck,h.fl,h.per,h.frm.sized,h.frm.formed,h.frm.ord,h.good,h.once,h.clear⟩
theorem Sm.sem(h:Sm n l s)(hl:s.cells.length<=512):Sem n l s:=⟨h.ck,h.fl,h.per,⟨h.sized,hl,h.formed,h.ord⟩,h.good,h.once,h.clear⟩
theorem YgN{node:Int}{l m:List Cel}(h:l.Perm m):Go.Proofs.YtaholidehobiiaaGreatDoor.sumC n node l=Go.Proofs.YtaholidehobiiaaGreatDoor.sumC n node m:=by
 induction h with
 |nil=>rfl
 |cons a _ ih=>rw[X8,X8,ih]
 |swap a b l=>rw[X8,X8,X8,X8];omega
 |trans _ _ h1 h2=>rw[h1,h2]
variable {slot o a b:Int}
theorem Yjn{l:List Cel}(h:fitE n l slot o a b=true)(id:Int):(∀d∈l,d.1=slot->YH d (slot,o,a,b,id)=false)/\JS n (l.filter (atP slot o)++[(slot,o,a,b,id)])=true:=by
 unfold fitE at h
 rw[Tq]at h
 obtain⟨h1,h2⟩:=h
 refine⟨λd hd e=>?_,?_⟩
 ·rw[RS,RD]at h1
  have:=h1 d hd
  rw[Td e,RO,Bool.not_eq_true]at this
  rw[<-this]
  exact(O3 (c:=(slot,o,a,b,id)) (c':=(0,0,a,b,0)) rfl rfl).2
 ·rw[<-h2,YdS (c':=(slot,o,a,b,id)) rfl rfl,YdS (c:=(0,0,a,b,0)) (c':=(slot,o,a,b,id)) rfl rfl]
theorem Yts{l:List Cel}(h:fitE n l slot o a b=true)(id:Int):(slot,o,a,b,id)∉l:=λhm=>by
 have:=(Yjn h id).1 _ hm rfl
 unfold YH at this
 exact of_decide_eq_false this (.inl rfl)
theorem Ycb{m d:Int}(h:Zu n m d=true):Z2 n m d=true:=by
 unfold Zu at h
 simp only[Tq]at h
 exact h.2.2
theorem Sm.ins(h:Sm n l s){id:Int}(hs:0<=slot/\slot<s.len)(ho:0<=o/\o<s.off)(hg:Yz n a b=true)(hid:0<=Z1 l id)(hib:0<=id/\id<256)(hfit:fitE n s.cells slot o a b=true):
 Sm n l ⟨s.len,s.off,insC s.cells (slot,o,a,b,id)⟩:=by
 have hok:=YC h.ck
 have hgn:=XL hok hg
 have hn:=hok.n1
 obtain⟨ht,hgl⟩:=Yjn hfit id
 have hnew:=Yts hfit id
 have hperm:=YjD s.cells (slot,o,a,b,id)
 refine⟨h.ck,h.fl,h.per,h.sized,λc hc=>?_,YtG h.ord hnew,λc hc=>?_,?_,λc hc=>?_⟩
 ·rcases Qm.1 hc with rfl|hc
  ·unfold Jf ZT insE
   rw[Td hs,Td ho,Td (show 0<=a/\a<32 by omega),Td (show 0<=b/\b<32 by omega),Td hib]
   rfl
  ·exact h.formed c hc
 ·rcases Qm.1 hc with rfl|hc
  ·exact⟨hg,hid⟩
  ·exact h.good c hc
 ·refine(hperm.pairwise_iff (λ{x y} hxy e=>by rw[Vm];exact hxy e.symm)).2 (.cons (λd hd e=>?_) h.once)
  rw[Vm]
  exact ht d hd e.symm
 ·by_cases hp:c.1=slot/\c.2.1=o
  ·have hX:(s.cells.filter (atP slot o)++[(slot,o,a,b,id)]).Nodup:=by
    rw[Rk]
    refine⟨(Ybz h.ord).sublist S8,by simp,λx hx y hy e=>?_⟩
    rw[TG.1 hy]at e
    subst e
    exact hnew (Re.1 hx).1
   generalize hXe:s.cells.filter (atP slot o)++[(slot,o,a,b,id)]=X at hX hgl
   have hcX:c∈X:=by
    rw[<-hXe]
    rcases Qm.1 hc with rfl|hc
    ·simp
    ·exact RN _ (Re.2 ⟨hc,Td hp⟩)
   obtain⟨j,hj⟩:=TS.1 hcX
   have hjl:=(Tj.1 hj).1
   have hd:∀node,YB n X j node X.length=UH n (insC s.cells (slot,o,a,b,id)) c node:=λnode=>by
    rw[YdA hX hj node _ (TJ _),TV]
    unfold UH
    refine YgN ?_
    have e1:(insC s.cells (slot,o,a,b,id)).filter (λd=>XY c d&&decide (d≠c))=((insC s.cells (slot,o,a,b,id)).filter (XY c)).filter λd=>decide (d≠c):=by
     rw[SN]
     exact SJ λx _=>Bool.and_comm _ _
    rw[e1]
    refine List.Perm.filter _ ?_
    have e2:XY c=atP slot o:=by
     obtain⟨c1,c2,c3⟩:=c
     obtain⟨rfl,rfl⟩:=hp
     rfl
    rw[e2,<-hXe]
    refine List.Perm.trans ?_ (hperm.filter _).symm
    rw[SH,Tn (show atP slot o (slot,o,a,b,id)=true from Td ⟨rfl,rfl⟩)]
    exact NT
   unfold JS at hgl
   rw[Tq]at hgl
   have hpf:=TF.1 hgl.2 j (TQ.2 hjl)
   have hcl:celL X j=c:=by unfold celL;rw[Tu,hj];rfl
   unfold ZS at hpf
   rw[hcl,hd,hd]at hpf
   simp only[Bool.not_or,Bool.not_not,Tq]at hpf
   unfold VH
   rw[Ycb hpf.2.1,Ycb hpf.2.2];rfl
  ·have hcs:c∈s.cells:=by
    rcases Qm.1 hc with rfl|hc
    ·exact absurd ⟨rfl,rfl⟩ hp
    ·exact hc
   have hd:∀node,UH n (insC s.cells (slot,o,a,b,id)) c node=UH n s.cells c node:=λnode=>by
    unfold UH
    refine(YgN (hperm.filter _)).trans ?_
    rw[SH,Tf]
    rw[Tq]
    rintro⟨h1,-⟩
    exact hp (by have:=Rj h1;exact⟨this.1.symm,this.2.symm⟩)
   have:=h.clear c hcs
   unfold VH at this⊢
   rw[hd,hd]
   exact this
end Go.Proofs.YtaholidehobiiaaGreatDoor
namespace Go.Eng
open Go.RowKit
end Go.Eng
namespace Go.Proofs.YtaholidehobiiaaGreatDoor
open Go.RowKit Go.Eng Go.Nw Go.Rt
abbrev flwB(g:Nat)(f:Flw):HP:=blk g (.cells #[.int .i64 f.1,.int .i64 f.2.1,.int .i64 f.2.2.1,.int .i64 f.2.2.2.1,.int .i64 f.2.2.2.2.1,.int .i64 f.2.2.2.2.2] 53 (0,0))
theorem Ygf{nodes:Int}{l:List Flw}(h:(Yu nodes l).2=0):∀{i j:Nat},i<j->j<l.length->(Xj l i).1<(Xj l j).1:=by
 have hstep:∀j,0<j->j<l.length->(Xj l (j-1)).1<(Xj l j).1:=λj h0 hj=>by
  unfold Yu at h
  split at h
  ·cases h
  split at h
  ·cases h
  have:=YK.1 h j (Tm _) (by omega)
  unfold YT at this
  split at this
  ·contradiction
  split at this
  ·cases this
  ·omega
 intro i j hij hj
 induction j with
 |zero=>omega
 |succ j ih=>
  have h1:=hstep (j+1) (by omega) hj
  rw[SK]at h1
  rcases Su i j with h2|h2
  ·have:=ih h2 (by omega);omega
  ·obtain rfl:i=j:=by omega
   exact h1
theorem max_le:∀(l:List Int) (a m:Int),a<=m->(∀z∈l,z<=m)->l.foldl (λx y=>if x<y then y else x) a<=m
 |[],_,_,h,_=>h
 |z::l,a,m,h,hl=>by
  rw[N6]
  refine max_le l _ m ?_ λy hy=>hl y (TA _ hy)
  have:=hl z Tz
  split<;>omega
structure Grow(id:Int)(s t:Sch):Prop where
 len:t.len=s.len
 off:t.off=s.off
 sub:∀c∈s.cells,c∈t.cells
 oth:∀p:Cel->Bool,(∀c,Xf c=id->p c=false)->t.cells.filter p=s.cells.filter p
theorem Grow.refl(id:Int)(s:Sch):Grow id s s:=⟨rfl,rfl,λ_ h=>h,λ_ _=>rfl⟩
variable {id a b:Int}{s t u:Sch}
theorem Grow.trans(h:Grow id s t)(k:Grow id t u):Grow id s u:=⟨k.len.trans h.len,k.off.trans h.off,λc hc=>k.sub c (h.sub c hc),λp hp=>(k.oth p hp).trans (h.oth p hp)⟩
structure LkOk(n:Net)(l:List Flw)(a b id:Int):Prop where
 g:Yz n a b=true
 f:0<=Z1 l id
 i:0<=id/\id<256
theorem Yky{n:Net}{l:List Flw}{slot:Int}(h:Sm n l s)(hk:LkOk n l a b id)(hs:0<=slot/\slot<s.len)(ht:J1 n s a b id slot=some t):Sm n l t/\Grow id s t/\hasC t.cells slot a b id=true:=by
 unfold J1 at ht
 by_cases hh:hasC s.cells slot a b id=true
 ·rw[Tn hh]at ht
  obtain rfl:=Tv ht
  exact⟨h,.refl _ _,hh⟩
 rw[Tf hh]at ht
 cases hf:(List.range s.off.toNat).find? λo:Nat=>fitE n s.cells slot o a b with
 |none=>rw[hf]at ht;cases ht
 |some o=>
  rw[hf]at ht
  obtain rfl:=Tv ht
  have h1:=List.find?_some hf
  have h2:=TQ.1 (List.mem_of_find?_eq_some hf)
  refine⟨h.ins hs (by omega) hk.g hk.f hk.i h1,⟨rfl,rfl,λc hc=>Qm.2 (.inr hc),λp hp=>?_⟩,?_⟩
  ·show(insC s.cells (slot,(o:Int),a,b,id)).filter p=_
   unfold insC
   rw[SY,SH,Tf (by rw[hp _ rfl];decide),<-SY,RP]
  ·exact T8.2 ⟨(slot,(o:Int),a,b,id),Qm.2 (.inl rfl),Td ⟨rfl,rfl,rfl,rfl⟩⟩
structure Sup(t u:Sch):Prop where
 len:u.len=t.len
 sub:∀c∈t.cells,c∈u.cells
theorem Grow.sup(h:Grow id s t)(k:Sup t u):Sup s u:=⟨k.len.trans h.len,λc hc=>k.sub c (h.sub c hc)⟩
theorem Ytt{loss z:Int}(h:hasC u.cells (z.tmod u.len) a b id=true):1<=slC u.len (Xq u id (a,b,loss)) z:=by
 obtain⟨d,hd,h1⟩:=T8.1 h
 have h1:=Rj h1
 refine List.length_pos_of_mem (a:=d) (Re.2 ⟨Re.2 ⟨hd,Td ⟨h1.2.2.2,h1.2.1,h1.2.2.1⟩⟩,Td h1.1⟩)
theorem Yhx{n:Net}{l:List Flw}{a b id:Int}(hk:LkOk n l a b id)(loss:Int):∀(f k:Nat) {s t:Sch}{z y:Int},Sm n l s->0<=z->1<=s.len->hopA n a b id f k s z=some (t,y)->
 Sm n l t/\Grow id s t/\(z<=y/\y<=z+f)/\∀u,Sup t u->k<=cntS u.len (Xq u id (a,b,loss)) (y-z).toNat z
 |0,0,s,t,z,y,h,_,_,e=>by
  obtain⟨rfl,rfl⟩:=N7 (Tv (show some (s,z)=some (t,y) from e))
  exact⟨h,.refl _ _,by omega,λu _=>Tm _⟩
 |f+1,0,s,t,z,y,h,_,_,e=>by
  obtain⟨rfl,rfl⟩:=N7 (Tv (show some (s,z)=some (t,y) from e))
  exact⟨h,.refl _ _,by omega,λu _=>Tm _⟩
 |0,k+1,s,t,z,y,h,_,_,e=>by cases e
 |f+1,k+1,s,t,z,y,h,hz,hl,e=>by
  rw[hopA]at e
  have hm:0<=z.tmod s.len/\z.tmod s.len<s.len:=by
   rw[RE hz]
   exact⟨Int.emod_nonneg _ (by omega),Int.emod_lt_of_pos _ (by omega)⟩
  cases hs:J1 n s a b id (z.tmod s.len)with
  |none=>
   rw[hs]at e
   obtain⟨h1,h2,h3,h4⟩:=Yhx hk loss f (k+1) h (show 0<=z+1 by omega) hl e
   refine⟨h1,h2,by omega,λu hu=>?_⟩
   have:=h4 u hu
   rw[show(y-z).toNat=(y-(z+1)).toNat+1 by omega,cntS]
   omega
  |some t1=>
   rw[hs]at e
   obtain⟨g1,g2,g3⟩:=Yky h hk hm hs
   obtain⟨h1,h2,h3,h4⟩:=Yhx hk loss f k g1 (show 0<=z+1 by omega) (by rw[g2.len];exact hl) e
   refine⟨h1,g2.trans h2,by omega,λu hu=>?_⟩
   have:=h4 u hu
   have hsu:=(g2.trans h2).sup hu
   have h5:1<=slC u.len (Xq u id (a,b,loss)) z:=Ytt (by
    obtain⟨d,hd,h6⟩:=T8.1 g3
    refine T8.2 ⟨d,(h2.sup hu).sub d hd,?_⟩
    rw[hsu.len];exact h6)
   rw[show(y-z).toNat=(y-(z+1)).toNat+1 by omega,cntS]
   omega
theorem YhT{n:Net}{l:List Flw}{id endd:Int}:∀(ls:List Lk) {s t:Sch}{z:Int},(∀x∈ls,LkOk n l x.1 x.2.1 id)->Sm n l s->0<=z->z<=endd->1<=s.len->relA n id endd ls s z=some t->
 Sm n l t/\Grow id s t/\∀u,Sup t u->∃y,y<=endd/\WayT u.len (Xq u id) ls z y
 |[],s,t,z,_,h,_,hze,_,e=>by
  obtain rfl:=Tv (show some s=some t from e)
  exact⟨h,.refl _ _,λu _=>⟨z,hze,R7 _⟩⟩
 |x::ls,s,t,z,hk,h,hz,hze,hl,e=>by
  rw[relA]at e
  cases hs:hopA n x.1 x.2.1 id (endd-z).toNat (Y7 x) s z with
  |none=>rw[hs]at e;cases e
  |some w=>
   obtain⟨t1,y1⟩:=w
   rw[hs]at e
   obtain⟨g1,g2,g3,g4⟩:=Yhx (hk x Tz) x.2.2 _ _ h hz hl hs
   obtain⟨h1,h2,h3⟩:=YhT ls (λy hy=>hk y (TA _ hy)) g1 (by omega) (by omega) (by rw[g2.len];exact hl) e
   refine⟨h1,g2.trans h2,λu hu=>?_⟩
   obtain⟨y,k1,k2⟩:=h3 u hu
   exact⟨y,k1,y1,g3.1,g4 u (h2.sup hu),k2⟩
theorem Ykg{n:Net}{l:List Flw}{f:Flw}{ls:List Lk}(hk:∀x∈ls,LkOk n l x.1 x.2.1 f.1)(hd:0<=f.2.2.2.2.2)(hp:1<=f.2.2.2.1):∀(k:Nat) {s t:Sch}{z:Int},Sm n l s->0<=z->1<=s.len->YaX n f ls k s z=some t->
 Sm n l t/\Grow f.1 s t/\∀u,Sup t u->∀i:Nat,i<k->z+i*f.2.2.2.1<s.len->∃y,y<=z+i*f.2.2.2.1+f.2.2.2.2.2/\WayT u.len (Xq u f.1) ls (z+i*f.2.2.2.1) y
 |0,s,t,z,h,_,_,e=>by
  obtain rfl:=Tv (show some s=some t from e)
  exact⟨h,.refl _ _,λu _ i hi=>absurd hi (RL _)⟩
 |k+1,s,t,z,h,hz,hl,e=>by
  rw[YaX]at e
  by_cases hzl:z<s.len
  rotate_left
  ·rw[Tf hzl]at e
   obtain rfl:=Tv e
   refine⟨h,.refl _ _,λu _ i _ hi=>?_⟩
   have:0<=(i:Int)*f.2.2.2.1:=Int.mul_nonneg (by omega) (by omega)
   omega
  rw[Tn hzl]at e
  cases hs:relA n f.1 (z+f.2.2.2.2.2) ls s z with
  |none=>rw[hs]at e;cases e
  |some t1=>
   rw[hs]at e
   obtain⟨g1,g2,g3⟩:=YhT ls hk h hz (by omega) hl hs
   obtain⟨h1,h2,h3⟩:=Ykg hk hd hp k (z:=z+f.2.2.2.1) g1 (by omega) (by rw[g2.len];exact hl) e
   refine⟨h1,g2.trans h2,λu hu i hi hil=>?_⟩
   cases i with
   |zero=>
    obtain⟨y,k1,k2⟩:=g3 u (h2.sup hu)
    refine⟨y,?_,?_⟩
    ·simpa using k1
    ·simpa using k2
   |succ i=>
    have e1:z+((i+1:Nat):Int)*f.2.2.2.1=z+f.2.2.2.1+(i:Int)*f.2.2.2.1:=by
     rw[show((i+1:Nat):Int)=(i:Int)+1 by omega,Int.add_mul];omega
    rw[e1]at hil⊢
    exact h3 u hu i (by omega) (by rw[g2.len];exact hil)
theorem YgC{n:Net}{l:List Flw}{f:Flw}(hd:0<=f.2.2.2.2.2)(hp:1<=f.2.2.2.1)(h0:0<=f.2.2.2.2.1):∀(rs:List (List Int)) {s t:Sch},(∀r∈rs,∀x∈Yp n r,LkOk n l x.1 x.2.1 f.1)->Sm n l s->1<=s.len->JY n f rs s=some t->
 Sm n l t/\Grow f.1 s t/\∀u,Sup t u->∀r∈rs,∀i:Nat,f.2.2.2.2.1+i*f.2.2.2.1<s.len->∃y,y<=f.2.2.2.2.1+i*f.2.2.2.1+f.2.2.2.2.2/\WayT u.len (Xq u f.1) (Yp n r) (f.2.2.2.2.1+i*f.2.2.2.1) y
 |[],s,t,_,h,_,e=>by
  obtain rfl:=Tv (show some s=some t from e)
  exact⟨h,.refl _ _,λu _ r hr=>by cases hr⟩
 |r::rs,s,t,hk,h,hl,e=>by
  rw[JY]at e
  cases hs:YaX n f (Yp n r) s.len.toNat s f.2.2.2.2.1 with
  |none=>rw[hs]at e;cases e
  |some t1=>
   rw[hs]at e
   obtain⟨g1,g2,g3⟩:=Ykg (hk r Tz) hd hp s.len.toNat h h0 hl hs
   obtain⟨h1,h2,h3⟩:=YgC hd hp h0 rs (λx hx=>hk x (TA _ hx)) g1 (by rw[g2.len];exact hl) e
   refine⟨h1,g2.trans h2,λu hu x hx i hi=>?_⟩
   rcases TL.1 hx with rfl|hx
   ·refine g3 u (h2.sup hu) i ?_ hi
    have:(i:Int)<=i*f.2.2.2.1:=by
     have:=SA hp (show(0:Int)<=i by omega)
     rw[Int.mul_one]at this
     exact this
    omega
   ·exact h3 u hu x hx i (by rw[g2.len];exact hi)
variable {r:List Int}
theorem Yss:YbM r=false↔r.Nodup:=by
 unfold YbM
 rw[RD]
 constructor
 ·intro h
  refine Rm.2 λi j hi hj hij e=>?_
  have h1:=h j (TQ.2 hj)
  apply h1
  rw[List.contains_iff_mem,Tu,Ta hj,Option.getD_some,<-e]
  refine TS.2 ⟨i,?_⟩
  rw[SI hij,Ta hi]
 ·intro h i hi hc
  have hi:=TQ.1 hi
  rw[List.contains_iff_mem,Tu,Ta hi,Option.getD_some]at hc
  obtain⟨k,hk⟩:=TS.1 hc
  have hki:k<i:=by
   have:=(Tj.1 hk).1
   rw[TT]at this
   omega
  rw[SI hki]at hk
  obtain⟨h1,h2⟩:=Tj.1 hk
  exact Rm.1 h k i h1 hi hki h2
theorem Ydl{n:Net}{b:Int}{r:List Int}(hl:r.getD (r.length-1) 0=b)(hnd:r.Nodup)(hk:∀i,i+1<r.length->(Z4 n r i).1=r.getD i 0/\(Z4 n r i).2.1=r.getD (i+1) 0):∀(m i:Nat),i+m+1=r.length->
 Chain b (r.getD i 0) ((List.range' i m).map (Z4 n r))
 |0,i,h=>by
  show r.getD i 0=b
  rw[<-hl,show r.length-1=i by omega]
 |m+1,i,h=>by
  rw[List.range'_succ,Rh]
  obtain⟨h1,h2⟩:=hk i (by omega)
  refine⟨h1.symm,λe=>?_,?_⟩
  ·rw[<-hl]at e
   rw[Tu,Tu,Ta (show i<r.length by omega),Ta (show r.length-1<r.length by omega)]at e
   exact Rm.1 hnd i (r.length-1) (by omega) (by omega) (by omega) (Tv (by simpa using e))
  ·rw[h2]
   exact Ydl hl hnd hk m (i+1) (by omega)
theorem OJ{n:Net}{a b:Int}(h:ZH n a b r=0):Chain b a (Yp n r)/\(∀x∈Yp n r,0<=x.2.2)/\Yp n r≠[]/\r.Nodup/\
 ∀i,i+1<r.length->(Z4 n r i).1=r.getD i 0/\(Z4 n r i).2.1=r.getD (i+1) 0:=by
 have h':=h
 unfold ZH at h
 by_cases h0:XW n a b=0
 rotate_left
 ·rw[Tn h0]at h;exact absurd h h0
 rw[Tf (λe=>e h0)]at h
 obtain⟨hlen,-,⟨hs,ht⟩,htw,-⟩:=YaB h
 obtain⟨hck,-,hg⟩:=Vc h'
 have hok:=YC hck
 have hnd:=Yss.1 htw
 have hk:∀i,i+1<r.length->(Z4 n r i).1=r.getD i 0/\(Z4 n r i).2.1=r.getD (i+1) 0:=λi hi=>Vv (JD (hg i hi))
 refine⟨?_,λx hx=>?_,?_,hnd,hk⟩
 ·have:=Ydl ht hnd hk (r.length-1) 0 (by omega)
  rw[hs]at this
  unfold Yp
  rw[List.range_eq_range']
  exact this
 ·unfold Yp at hx
  obtain⟨i,hi,rfl⟩:=TC.1 hx
  have hi:=TQ.1 hi
  exact(US hok (r.getD i 0) (r.getD (i+1) 0)).1
 ·intro e
  have:=TE List.length e
  unfold Yp at this
  simp at this
  omega
def posQ(q:List Rqs)(id:Int):Nat:=(q.takeWhile λy=>decide (y.1.1<id)).length
def insQ(q:List Rqs)(x:Rqs):List Rqs:=q.take (posQ q x.1.1)++x::q.drop (posQ q x.1.1)
variable {q:List Rqs}{x:Rqs}
theorem Vy{y:Rqs}:y∈insQ q x↔y=x\/y∈q:=by
 have h:y∈q↔y∈q.take (posQ q x.1.1)\/y∈q.drop (posQ q x.1.1):=by grind [RP]
 grind [insQ]
variable {l:List Flw}{f:Flw}
theorem Vf{nodes:Int}(h:(Yu nodes l).2=0)(hf:f∈l):Xx nodes f=0:=by
 obtain⟨j,hj,rfl⟩:=List.mem_iff_getElem.1 hf
 unfold Yu at h
 split at h
 ·cases h
 split at h
 ·cases h
 have:=YK.1 h j (Tm _) (by omega)
 unfold YT at this
 split at this
 all_goals simp_all [Xj]
theorem XK{nodes:Int}(hf:Xx nodes f=0):(0<=f.1/\f.1<256)/\(1<=f.2.2.2.1/\f.2.2.2.1<=512)/\(0<=f.2.2.2.2.1/\f.2.2.2.2.1<f.2.2.2.1)/\f.2.1≠f.2.2.1/\(1<=f.2.2.2.2.2/\f.2.2.2.2.2<=f.2.2.2.1):=by
 unfold Xx at hf
 omega
theorem ZF{id:Int}:0<=Z1 l id↔∃f∈l,f.1=id:=by
 unfold Z1
 rw[JT _ _ _ (R7 0),T8]
 simp_all
variable {n:Net}{s t:Sch}{r:List Int}
theorem Yma(hl:t.len=s.len)(hs:XH s=true)(ht:XH t=true)(hc:∀l,Xq t f.1 l=Xq s f.1 l):Xl n t f r=Xl n s f r:=by
 have h1:wayE n t f r=wayE n s f r:=by grind [wayE]
 have h2:VG n t f r=VG n s f r:=by
  have:Xq t f.1=Xq s f.1:=funext hc
  unfold VG
  have h3:Vk n t f r=Vk n s f r:=by grind [Vk]
  simp_all
 grind [Xl]
theorem Yp3(hl:t.len=s.len)(hs:XH s=true)(ht:XH t=true)(hc:∀l,Xq t x.1.1 l=Xq s x.1.1 l):O7 n t x=O7 n s x:=by
 unfold O7 JG
 have:badR n t x.1=badR n s x.1:=by grind [badR,Yma]
 rw[this]
theorem Yet(hw:wayE n t f r=0)(h:∀i:Nat,f.2.2.2.2.1+i*f.2.2.2.1<t.len->∃y,y<=f.2.2.2.2.1+i*f.2.2.2.1+f.2.2.2.2.2/\WayT t.len (Xq t f.1) (Yp n r) (f.2.2.2.2.1+i*f.2.2.2.1) y):
 (Xl n t f r).2=0/\(Xl n t f r).1.1<=f.2.2.2.2.2:=by
 obtain⟨-,-,hf,-,hck⟩:=Ye0 hw
 obtain⟨-,hp,h0,-,hd⟩:=XK hf
 obtain⟨-,hloss,hne,-,-⟩:=OJ hck
 obtain⟨b,hb,hbd⟩:=YmQ (S:=Vk n t f r) (len:=t.len) (per:=f.2.2.2.1) (d:=f.2.2.2.2.2) hp.1 (fuel:=t.len.toNat) (rel:=f.2.2.2.2.1) (b:=(0,0,[])) (by omega) (λi hi=>by
  obtain⟨y,h1,h2⟩:=h i hi
  obtain⟨l,h3,h4⟩:=Yp4 hne hloss (by omega) h2
  grind)
 have hbe:VG n t f r=some b:=hb
 unfold Xl
 simp_all
theorem Ut(h:(rqsE n q).2=0):Yo n=0/\(Yu n.nodes (Y0 q)).2=0/\∀x∈q,rtsE n x=0:=by
 unfold rqsE at h
 by_cases h1:Yo n=0
 rotate_left
 ·simp_all
 by_cases h2:(Yu n.nodes (Y0 q)).2=0
 rotate_left
 ·simp_all
 refine⟨h1,h2,λx hx=>?_⟩
 obtain⟨i,hi,rfl⟩:=YjS hx
 simp_all [YK]
theorem Vj(h:rtsE n x=0):∀r∈x.2,ZH n x.1.2.1 x.1.2.2.1 r=0:=by
 intro r hr
 unfold rtsE at h
 split at h
 ·cases h
 split at h
 ·cases h
 split at h
 ·omega
 rename_i h3
 obtain⟨k,hk⟩:=TS.1 hr
 have hkl:=(Tj.1 hk).1
 have:=YK.1 (Rn.1 h3) k (Tm _) (by omega)
 grind [rtAt]
theorem Yd6{a b:Int}(h:ZH n a b r=0):∀x∈Yp n r,Yz n x.1 x.2.1=true:=by
 obtain⟨-,-,-,-,hk⟩:=OJ h
 obtain⟨-,-,hg⟩:=Vc h
 grind [Yp]
theorem Yhg(hc:(YN n q s).2.2=0)(hx:(rqsE n (insQ q x)).2=0)(hnew:∀y∈q,y.1.1≠x.1.1)(hm:s.len.tmod x.1.2.2.2.1=0)(hp:JY n x.1 x.2 s=some t)(hl:t.cells.length<=512):
 (YN n (insQ q x) t).2.2=0/\Grow x.1.1 s t:=by
 obtain⟨h1,h2⟩:=XC.1 hc
 have hsem:=ZV.1 (XT.1 h1)
 obtain⟨-,hfl,hrt⟩:=Ut hx
 have hxm:x∈insQ q x:=by simp[Vy]
 have hrx:=hrt x hxm
 have hfx:Xx n.nodes x.1=0:=Vf hfl (TC.2 ⟨x,hxm,rfl⟩)
 obtain⟨hib,hper,hph,-,hd⟩:=XK hfx
 have hsz:1<=s.len:=by
  have:=hsem.frm.sized
  unfold Jo at this
  simp_all
 have hsm:Sm n (Y0 (insQ q x)) s:=by
  have h0:=hsem.sm
  refine⟨h0.ck,hfl,λf hf=>?_,h0.sized,h0.formed,h0.ord,λc hcm=>⟨(h0.good c hcm).1,?_⟩,h0.once,h0.clear⟩
  ·obtain⟨y,hy,rfl⟩:=TC.1 hf
   rcases Vy.1 hy with rfl|hy
   ·exact hm
   ·exact h0.per _ (TC.2 ⟨y,hy,rfl⟩)
  ·obtain⟨f,hf,e⟩:=ZF.1 (h0.good c hcm).2
   obtain⟨y,hy,rfl⟩:=TC.1 hf
   exact ZF.2 ⟨y.1,TC.2 ⟨y,Vy.2 (.inr hy),rfl⟩,e⟩
 have hfi:0<=Z1 (Y0 (insQ q x)) x.1.1:=ZF.2 ⟨x.1,TC.2 ⟨x,hxm,rfl⟩,rfl⟩
 obtain⟨g1,g2,g3⟩:=YgC (l:=Y0 (insQ q x)) (by omega) hper.1 hph.1 x.2 (λr hr y hy=>⟨Yd6 (Vj hrx r hr) y hy,hfi,hib⟩) hsm hsz hp
 have hsem2:=g1.sem hl
 have hft:=ZA.2 hsem2.frm
 have hfs:=ZA.2 hsem.frm
 refine⟨XC.2 ⟨XT.2 (ZV.2 hsem2),λy hy=>?_⟩,g2⟩
 rcases Vy.1 hy with rfl|hy
 ·unfold O7
  rw[Tq,Tt]
  refine⟨YaZ hrx,?_⟩
  unfold JG
  rw[RS,RD]
  intro r hr
  have hway:wayE n t y.1 r=0:=by
   unfold wayE
   rw[hft,Tf (by rintro(h|h|h);exact h g1.ck;cases h;exact h hfx),Tf (λe=>e (by rw[g2.len];exact hm))]
   exact Vj hrx r hr
  have:=Yet hway λi hi=>g3 t ⟨rfl,λ_ h=>h⟩ r hr i (by rw[<-g2.len];exact hi)
  unfold badR
  rw[Tt]
  omega
 ·rw[Yp3 g2.len hfs hft λl=>g2.oth _ λc e=>by
   refine Ti λh=>?_
   exact hnew y hy (h.1.symm.trans e)]
  exact h2 y hy
def O4(n:Net)(s:Sch)(f:Flw)(r:List Int)(c:Cel):Bool:=(List.range s.len.toNat).any λi=>decide (f.2.2.2.2.1+i*f.2.2.2.1<s.len)&&(runP s.len (Xq s f.1) (f.2.2.2.2.1+i*f.2.2.2.1+f.2.2.2.1) (Yp n r) (f.2.2.2.2.1+i*f.2.2.2.1)).any λp=>decide (p.1=c)
def Oo(n:Net)(s:Sch)(x:Rqs)(c:Cel):Bool:=x.2.any λr=>O4 n s x.1 r c
def YkJ(n:Net)(s:Sch)(q:List Rqs)(c:Cel):Bool:=q.any λx=>Oo n s x c
def Yx3(n:Net)(q:List Rqs)(s:Sch):Sch:=⟨s.len,s.off,s.cells.filter (YkJ n s q)⟩
end Go.Proofs.YtaholidehobiiaaGreatDoor
