/- Lemmas. -/
import Derived.Test.YtambgjgljcadlaaGreatDoorQ12
import Derived.Test.YtambgjgljcadlaaGreatDoorQ13
set_option maxRecDepth 100000
set_option maxHeartbeats 8000000
set_option linter.all false
namespace Go.Proofs.YtambgjgljcadlaaGreatDoor
open Go.RowKit Go.Eng Go.Nw Go.Rt
variable {A A2:Option Addr}{cap cap2 B:Nat}{w0 w:World}{H:List HP}
theorem WP(l m:List Int)(hlen:l.length<=9223372036854775807)(_hlen2:m.length<=9223372036854775807)(hr:Rd B w0 H A (l.flatMap numF))(hr2:Rd B w0 H A2 (m.flatMap numF))(hw:St B w0 H w):
 CX B w0 176 [.slice A l.length cap,.slice A2 m.length cap2] w λu K=>u=.bool (decide (l=m))/\K=H:=by
 refine Ya Tryz.func176 Tryz.ntmps176 rfl rfl hw ?_
 by_cases hll:l.length=m.length
 rotate_left
 ·exact zc17
 refine zX0 ?_<;>intros
 refine Yh (λ(k:Nat)=>[(13,.int .i64 k),(12,.int .i64 l.length),(0,.slice A l.length cap),(1,.slice A2 m.length cap2)]) (λ_=>H) (λk=>k<=l.length/\l.take k=m.take k) (λk=>l.length-k) 0 ⟨Tm _,by simp⟩ ?_ (λw hw=>hw) ?_
 ·exact zc1
 rintro k ⟨hk,hi⟩ K hK
 by_cases hlt:k<l.length
 ·obtain⟨a,ha⟩:∃a,l[k]? =some a:=⟨_,Ta hlt⟩
  obtain⟨b,hb⟩:∃b,m[k]? =some b:=⟨_,Ta (by omega)⟩
  repeat'(first|refine zgd ?_|(refine zge ?_ ?_<;>intro _<;>try exact zo)|fail)
  ·exact zc55
  ·rename_i h
   apply hK (k+1)
   ·exact⟨by omega,by simp_all [Yfu]⟩
   ·omega
   ·exact zc1
   exact zc19
 exact zc9
theorem Ydp(a b:RowM)(hl:a.xs.length<=1000000000000/\b.xs.length<=1000000000000)(hr:Rd B w0 H a.A (a.xs.flatMap numF))(hr2:Rd B w0 H b.A (b.xs.flatMap numF))(hw:St B w0 H w):
 CX B w0 173 [.slice a.A a.xs.length a.cap,.slice b.A b.xs.length b.cap] w λu K=>u=.bool (decide (a.xs=b.xs))/\K=H:=by
 refine Ya Tryz.func173 Tryz.ntmps173 rfl rfl hw ?_
 repeat'(first|((first|apply Yb YeE|apply Yc YeE);exact za;exact rfl;exactλ_ hw=>(YaQ a.xs b.xs (by omega) (by omega) hr hr2 hw))|refine zga ?_|fail)
 exact zc13
theorem Yaf(l m:List RowM)(hlen:l.length<=1000000000000)(_hlen2:m.length<=1000000000000)(hl2:∀r∈l,r.xs.length<=1000000000000)(hm2:∀r∈m,r.xs.length<=1000000000000)(hr:Rd B w0 H A (l.flatMap rowF))(hr2:Rd B w0 H A2 (m.flatMap rowF))(hrl:∀r∈l,Rd B w0 H r.A (r.xs.flatMap numF))(hrm:∀r∈m,Rd B w0 H r.A (r.xs.flatMap numF))(hw:St B w0 H w):
 CX B w0 177 [.slice A l.length cap,.slice A2 m.length cap2,.func (.func 173) #[] #[]] w λu K=>u=.bool (decide (l.map (·.xs)=m.map (·.xs)))/\K=H:=by
 refine Ya Tryz.func177 Tryz.ntmps177 rfl rfl hw ?_
 by_cases hll:l.length=m.length
 rotate_left
 ·exact zc25
 refine zX0 ?_<;>intros
 refine Yh (λ(k:Nat)=>[(17,.int .i64 k),(16,.int .i64 l.length),(15,.slice A l.length cap),(0,.slice A l.length cap),(1,.slice A2 m.length cap2),(2,.func (.func 173) #[] #[])]) (λ_=>H) (λk=>k<=l.length/\(l.take k).map (·.xs)=(m.take k).map (·.xs)) (λk=>l.length-k) 0 ⟨Tm _,by simp⟩ ?_ (λw hw=>hw) ?_
 ·exact zc1
 rintro k ⟨hk,hi⟩ K hK
 by_cases hlt:k<l.length
 ·obtain⟨a,ha⟩:∃a,l[k]? =some a:=⟨_,Ta hlt⟩
  obtain⟨b,hb⟩:∃b,m[k]? =some b:=⟨_,Ta (by omega)⟩
  have ham:=Tc ha
  have hbm:=Tc hb
  have hss:=λ{w:World}(hw:St B w0 H w)=>Ydp a b ⟨hl2 a ham,hm2 b hbm⟩ (hrl a ham) (hrm b hbm) hw
  by_cases hab:a.xs=b.xs
  ·rw[Ti hab]at hss
   refine Yts ?_<;>intros
   apply hK (k+1)
   ·exact zc99
   ·omega
   ·exact zc1
   exact zc19
  ·rw[Tn hab]at hss
   refine Yts ?_<;>intros
   exact zc38
 exact zc9
theorem Yea(a b:RowM)(hl:a.xs.length<=1000000000000/\b.xs.length<=1000000000000)(hr:Rd B w0 H a.A (a.xs.flatMap numF))(hr2:Rd B w0 H b.A (b.xs.flatMap numF))(hw:St B w0 H w):
 CX B w0 175 [.slice a.A a.xs.length a.cap,.slice b.A b.xs.length b.cap] w λu K=>u=.bool (decide (a.xs=b.xs))/\K=H:=by
 refine Ya Tryz.func175 Tryz.ntmps175 rfl rfl hw ?_
 repeat'(first|((first|apply Yb Wr|apply Yc Wr);exact za;exact rfl;exactλ_ hw=>(WP a.xs b.xs (by omega) (by omega) hr hr2 hw))|refine zga ?_|fail)
 exact zc13
theorem Ybr(l m:List RowM)(hlen:l.length<=1000000000000)(_hlen2:m.length<=1000000000000)(hl2:∀r∈l,r.xs.length<=1000000000000)(hm2:∀r∈m,r.xs.length<=1000000000000)(hr:Rd B w0 H A (l.flatMap rowF))(hr2:Rd B w0 H A2 (m.flatMap rowF))(hrl:∀r∈l,Rd B w0 H r.A (r.xs.flatMap numF))(hrm:∀r∈m,Rd B w0 H r.A (r.xs.flatMap numF))(hw:St B w0 H w):
 CX B w0 178 [.slice A l.length cap,.slice A2 m.length cap2,.func (.func 175) #[] #[]] w λu K=>u=.bool (decide (l.map (·.xs)=m.map (·.xs)))/\K=H:=by
 refine Ya Tryz.func178 Tryz.ntmps178 rfl rfl hw ?_
 by_cases hll:l.length=m.length
 rotate_left
 ·exact zc25
 refine zX0 ?_<;>intros
 refine Yh (λ(k:Nat)=>[(17,.int .i64 k),(16,.int .i64 l.length),(15,.slice A l.length cap),(0,.slice A l.length cap),(1,.slice A2 m.length cap2),(2,.func (.func 175) #[] #[])]) (λ_=>H) (λk=>k<=l.length/\(l.take k).map (·.xs)=(m.take k).map (·.xs)) (λk=>l.length-k) 0 ⟨Tm _,by simp⟩ ?_ (λw hw=>hw) ?_
 ·exact zc1
 rintro k ⟨hk,hi⟩ K hK
 by_cases hlt:k<l.length
 ·obtain⟨a,ha⟩:∃a,l[k]? =some a:=⟨_,Ta hlt⟩
  obtain⟨b,hb⟩:∃b,m[k]? =some b:=⟨_,Ta (by omega)⟩
  have ham:=Tc ha
  have hbm:=Tc hb
  have hss:=λ{w:World}(hw:St B w0 H w)=>Yea a b ⟨hl2 a ham,hm2 b hbm⟩ (hrl a ham) (hrm b hbm) hw
  by_cases hab:a.xs=b.xs
  ·rw[Ti hab]at hss
   refine Ytt ?_<;>intros
   apply hK (k+1)
   ·exact zc99
   ·omega
   ·exact zc1
   exact zc19
  ·rw[Tn hab]at hss
   refine Ytt ?_<;>intros
   exact zc38
 exact zc9
theorem YuV{c d:ClM}:c.clm=d.clm↔c.flow=d.flow/\c.rs.map (·.xs)=d.rs.map (·.xs)/\c.bs=d.bs/\c.ws=d.ws/\c.ss.map (·.xs)=d.ss.map (·.xs):=by
 unfold ClM.clm
 simp_all
theorem YkM(c d:ClM)(hc:c.In B w0 H)(hd:d.In B w0 H)(hw:St B w0 H w):
 CX B w0 100 [clV c,clV d] w λu K=>u=.bool (decide (c.clm=d.clm))/\K=H:=by
 refine Ya Tryz.func100 Tryz.ntmps100 rfl rfl hw ?_
 have hcl:=hc.ln
 have hdl:=hd.ln
 have p1:=λ{H':List HP}{w:World}(hc:c.In B w0 H') (hd:d.In B w0 H') (hw:St B w0 H' w)=>Yaf c.rs d.rs (cap:=c.rcap) (cap2:=d.rcap) hcl.1 hdl.1 hc.rl hd.rl hc.rt hd.rt hc.rw_ hd.rw_ hw
 have p2:=λ{H':List HP}{w:World}(hc:c.In B w0 H') (hd:d.In B w0 H') (hw:St B w0 H' w)=>WP c.bs d.bs (cap:=c.bcap) (cap2:=d.bcap) (by omega) (by omega) hc.bd hd.bd hw
 have p3:=λ{H':List HP}{w:World}(hc:c.In B w0 H') (hd:d.In B w0 H') (hw:St B w0 H' w)=>WP c.ws d.ws (cap:=c.wcap) (cap2:=d.wcap) (by omega) (by omega) hc.ws hd.ws hw
 have p4:=λ{H':List HP}{w:World}(hc:c.In B w0 H') (hd:d.In B w0 H') (hw:St B w0 H' w)=>Ybr c.ss d.ss (cap:=c.scap) (cap2:=d.scap) hcl.2.2.2 hdl.2.2.2 hc.sl hd.sl hc.st hd.st hc.sw hd.sw hw
 have hce:=@YuV c d
 unfold clV
 by_cases h1:c.flow=d.flow
 rotate_left
 ·rw[Tn (λh=>h1 (hce.1 h).1)]
  refine Yji ?_<;>intros
  apply Yg H
  ·exact zc0
  exact zc5
 by_cases h2:c.rs.map (·.xs)=d.rs.map (·.xs)
 rotate_left
 ·rw[Tn (λh=>h2 (hce.1 h).2.1)]
  rw[Tn h2]at p1
  refine zX43 ?_<;>intros
  first|apply Yb YaO|apply Yc YaO
  exact za
  exact rfl
  exactλ_ hw=>(p1 (hc.mono zc0) (hd.mono zc0) hw)
  refine zX9 ?_
  apply Yg H
  ·exact zc0
  exact zc5
 rw[Ti h2]at p1
 by_cases h3:c.bs=d.bs
 rotate_left
 ·rw[Tn (λh=>h3 (hce.1 h).2.2.1)]
  rw[Tn h3]at p2
  refine zX43 ?_<;>intros
  first|apply Yb YaO|apply Yc YaO
  exact za
  exact rfl
  exactλ_ hw=>(p1 (hc.mono zc0) (hd.mono zc0) hw)
  refine zX9 ?_
  first|apply Yb Wr|apply Yc Wr
  exact za
  exact rfl
  exactλ_ hw=>(p2 (hc.mono zc0) (hd.mono zc0) hw)
  refine zX9 ?_
  apply Yg H
  ·exact zc0
  exact zc5
 rw[Ti h3]at p2
 by_cases h4:c.ws=d.ws
 rotate_left
 ·rw[Tn (λh=>h4 (hce.1 h).2.2.2.1)]
  rw[Tn h4]at p3
  refine zX43 ?_<;>intros
  first|apply Yb YaO|apply Yc YaO
  exact za
  exact rfl
  exactλ_ hw=>(p1 (hc.mono zc0) (hd.mono zc0) hw)
  refine zX9 ?_
  first|apply Yb Wr|apply Yc Wr
  exact za
  exact rfl
  exactλ_ hw=>(p2 (hc.mono zc0) (hd.mono zc0) hw)
  refine zX9 ?_
  first|apply Yb Wr|apply Yc Wr
  exact za
  exact rfl
  exactλ_ hw=>(p3 (hc.mono zc0) (hd.mono zc0) hw)
  refine zX9 ?_
  apply Yg H
  ·exact zc0
  exact zc5
 rw[Ti h4]at p3
 have h5:decide (c.clm=d.clm)=decide (c.ss.map (·.xs)=d.ss.map (·.xs)):=decide_eq_decide.2 ⟨λh=>(hce.1 h).2.2.2.2,λh=>hce.2 ⟨h1,h2,h3,h4,h⟩⟩
 rw[h5]
 refine zX43 ?_<;>intros
 first|apply Yb YaO|apply Yc YaO
 exact za
 exact rfl
 exactλ_ hw=>(p1 (hc.mono zc0) (hd.mono zc0) hw)
 refine zX9 ?_
 first|apply Yb Wr|apply Yc Wr
 exact za
 exact rfl
 exactλ_ hw=>(p2 (hc.mono zc0) (hd.mono zc0) hw)
 refine zX9 ?_
 first|apply Yb Wr|apply Yc Wr
 exact za
 exact rfl
 exactλ_ hw=>(p3 (hc.mono zc0) (hd.mono zc0) hw)
 refine zX9 ?_
 first|apply Yb YsX|apply Yc YsX
 exact za
 exact rfl
 exactλ_ hw=>(p4 (hc.mono zc0) (hd.mono zc0) hw)
 refine zX9 ?_
 apply Yg H
 ·exact zc0
 exact zc5
structure AttM where
 slot:Int
 frame:Int
 c:Cel
 o:Int
structure StM where
 frame:Int
 since:Int->Option Int
 acked:Int->Int->Option Int
 done:Bool
structure PlM where
 st:List StM
 atts:List AttM
 dels:List (Int×Int×Int)
def perF(f:Flw):Int:=f.2.2.2.1
def phaF(f:Flw):Int:=f.2.2.2.2.1
def dstF(f:Flw):Int:=f.2.2.1
def YC(f:Flw)(k:Int):Int:=phaF f+k*perF f
def UC(f:Flw)(n:Int):Int:=if n<phaF f then -1 else(n-phaF f)/perF f
def newS(f:Flw)(n k:Int):StM:=⟨k,λv=>if v=f.2.1 then some n else none,λ_ _=>none,false⟩
def relS(f:Flw)(n:Int)(x:StM):StM:=if n<phaF f then x else if(n-phaF f)/perF f=x.frame then x else newS f n ((n-phaF f)/perF f)
def canT(f:Flw)(x:StM)(c:Cel)(n:Int):Prop:=0<=x.frame/\(∃a,x.since (Yr c)=some a/\a<=n)/\Yr c≠dstF f/\∀t,x.acked (Yr c) (toC c)=some t->n<=t
def J1(f:Flw)(x:StM)(c:Cel)(n o:Int):StM:=
 ⟨x.frame,if o=3\/(x.since (toC c)).isSome then x.since elseλv=>if v=toC c then some (n+1)else x.since v,
  if o=1/\x.acked (Yr c) (toC c)=none thenλu v=>if u=Yr c/\v=toC c then some n else x.acked u v else x.acked,
  x.done||(decide (o≠3)&&decide (toC c=dstF f))⟩
def delS(f:Flw)(x:StM)(c:Cel)(n o:Int):List (Int×Int×Int):=if o≠3/\toC c=dstF f/\x.done=false then [(f.1,x.frame,n)]else []
def Yk0:StM:=⟨-1,λ_=>none,λ_ _=>none,false⟩
inductive Pl (l:List Flw) (s:Sch):Int->Nat->PlM->Prop
 |start:Pl l s 0 0 ⟨l.map λ_=>Yk0,[],[]⟩
 |rel {n:Int}{p:PlM}(st:List StM):Pl l s n 0 p->st.length=l.length->(∀(i:Nat) f x,l[i]? =some f->p.st[i]? =some x->st[i]? =some (relS f n x))->Pl l s n 1 ⟨st,p.atts,p.dels⟩
 |skip {n:Int}{j:Nat}{p:PlM}{c:Cel}:Pl l s n (j+1) p->(atE s n)[j]? =some c->(∀(i:Nat) f x,l[i]? =some f->p.st[i]? =some x->f.1=Y7 c->¬canT f x c n)->Pl l s n (j+2) p
 |att {n:Int}{j i:Nat}{p:PlM}{c:Cel}{f:Flw}{x:StM}(o:Int):Pl l s n (j+1) p->(atE s n)[j]? =some c->l[i]? =some f->p.st[i]? =some x->f.1=Y7 c->canT f x c n->
  Pl l s n (j+2) ⟨p.st.set i (J1 f x c n o),p.atts++[⟨n,x.frame,c,o⟩],p.dels++delS f x c n o⟩
 |next {n:Int}{p:PlM}(ds:List (Int×Int×Int)):Pl l s n ((atE s n).length+1) p->ds.Perm p.dels->Pl l s (n+1) 0 ⟨p.st,p.atts,ds⟩
def onK(id k u v:Int)(a:AttM):Bool:=decide (Y7 a.c=id/\a.frame=k/\Yr a.c=u/\toC a.c=v)
def keyL(atts:List AttM)(id k u v:Int):List AttM:=atts.filter (onK id k u v)
def cntL(s:Sch)(q:Cel->Bool):Nat->Int->Nat
 |0,_=>0
 |m+1,a=>((atE s a).filter q).length+cntL s q m (a+1)
def Va(s:Sch)(q:Cel->Bool)(b:Option Int)(a0 n:Int)(j:Nat):Nat:=
 match b with
 |some b=>cntL s q (b-1-a0).toNat a0
 |none=>cntL s q (n-a0).toNat a0+if a0<=n then(((atE s n).take j).filter q).length else 0
def Hop(s:Sch)(f:Flw)(k:Int)(atts:List AttM)(since:Int->Option Int)(n:Int)(j:Nat):Prop:=
 ∀u v a0,u≠dstF f->since u=some a0->∃K1,K1<+:keyL atts f.1 k u v/\(∀a∈K1,a.o=3)/\Va s (onP f.1 u v) (since v) a0 n j<=K1.length
def Dlv(f:Flw)(k:Int)(dels:List (Int×Int×Int))(since:Int->Option Int):Prop:=
 (∀d∈dels,d.1=f.1->d.2.1=k->since (dstF f)=some (d.2.2+1))/\∀b,since (dstF f)=some b->(f.1,k,b-1)∈dels
structure Arch(s:Sch)(f:Flw)(k n:Int)(j:Nat)(p:PlM)(since:Int->Option Int):Prop where
 src:since f.2.1=some (YC f k)
 hop:Hop s f k p.atts since n j
 dlv:Dlv f k p.dels since
structure Cur(f:Flw)(x:StM)(p:PlM)(n:Int)(m:Nat):Prop where
 done:x.done=(x.since (dstF f)).isSome
 ack:∀u v t,x.acked u v=some t->(x.since v).isSome=true
 lost:∀u v,x.since v=none->∀a∈keyL p.atts f.1 x.frame u v,a.o=3
 bd:∀v b,x.since v=some b->b<=n+m
structure Ur(s:Sch)(f:Flw)(x:StM)(n:Int)(J:Nat)(p:PlM):Prop where
 frame:x.frame=UC f (if J=0 then n-1 else n)
 none_a:∀a∈p.atts,Y7 a.c=f.1->a.frame<=x.frame
 none_d:∀d∈p.dels,d.1=f.1->d.2.1<=x.frame
 cur:0<=x.frame->Cur f x p n (if J=0 then 0 else 1)/\Arch s f x.frame n (J-1) p x.since
 old:∀k,0<=k->k<x.frame->∃since,Arch s f k (YC f k+perF f) 0 p since
structure FlOk(f:Flw):Prop where
 per:1<=perF f
 pha:0<=phaF f
 ne:f.2.1≠dstF f
theorem Ye1(atts:List AttM)(a:AttM)(id k u v:Int):keyL (atts++[a]) id k u v=keyL atts id k u v++if onK id k u v a then [a]else []:=by
 unfold keyL
 grind
theorem Yev(s:Sch)(q:Cel->Bool):∀(m:Nat) (a:Int),cntL s q (m+1) a=cntL s q m a+((atE s (a+m)).filter q).length
 |0,a=>by simp[cntL]
 |m+1,a=>by
  rw[cntL,Yev s q m (a+1),cntL]
  grind
theorem Ych(s:Sch)(q:Cel->Bool):∀(m k:Nat) (a:Int),cntL s q (m+k) a=cntL s q m a+cntL s q k (a+m)
 |0,k,a=>by simp[cntL]
 |m+1,k,a=>by
  rw[show m+1+k=(m+k)+1 by omega,cntL,Ych s q m k (a+1),cntL]
  grind
variable {a0 a b k n id u v o:Int}
theorem Yeu(s:Sch)(q:Cel->Bool){b0:Int}(h1:a0<=a)(h2:b<=b0):cntL s q (b-a).toNat a<=cntL s q (b0-a0).toNat a0:=by
 by_cases h:a<=b
 ·obtain⟨x,hx⟩:∃x:Nat,a=a0+x:=⟨(a-a0).toNat,by omega⟩
  obtain⟨y,hy⟩:∃y:Nat,b=a+y:=⟨(b-a).toNat,by omega⟩
  obtain⟨z,hz⟩:∃z:Nat,b0=b+z:=⟨(b0-b).toNat,by omega⟩
  rw[show(b-a).toNat=y by omega,show(b0-a0).toNat=x+(y+z) by omega,Ych,Ych,hx]
  omega
 ·rw[show(b-a).toNat=0 by omega]
  exact YdM
variable {s:Sch}{f:Flw}{j:Nat}{p:PlM}{since:Int->Option Int}
theorem Arch.mono{p':PlM}(h:Arch s f k n j p since)
 (ha:∀u v,keyL p.atts f.1 k u v<+:keyL p'.atts f.1 k u v) (hd:∀d,d.1=f.1->d.2.1=k->(d∈p'.dels↔d∈p.dels)):Arch s f k n j p' since:=by
 refine⟨h.src,λu v a0 hu hs=>?_,?_,?_⟩
 ·obtain⟨K1,h1,h2,h3⟩:=h.hop u v a0 hu hs
  grind
 ·intro d hm h1 h2
  exact h.dlv.1 d ((hd d h1 h2).1 hm) h1 h2
 ·intro b hb
  exact(hd (f.1,k,b-1) rfl rfl).2 (h.dlv.2 b hb)
theorem YkS{α:Type}{L:List α}{c:α}(h:L[j]? =some c):L.take (j+1)=L.take j++[c]:=YdK
variable {c:Cel}
theorem Ynd{L:List Cel}(h:L[j]? =some c)(q:Cel->Bool):((L.take (j+1)).filter q).length=((L.take j).filter q).length+if q c then 1 else 0:=by
 rw[YkS h,Sv,To]
 grind
variable {q:Cel->Bool}
theorem Yc5(h:(atE s n)[j]? =some c)(hq:q c=false)(b:Option Int):Va s q b a0 n (j+1)=Va s q b a0 n j:=by
 simp_all [Va,Ynd]
theorem Ysa(h:(atE s n)[j]? =some c)(q:Cel->Bool)(b:Option Int):Va s q b a0 n (j+1)<=Va s q b a0 n j+1:=by
 unfold Va
 grind
theorem Yfa(h:n<a0):Va s q none a0 n j=0:=by
 unfold Va
 simp only[Tf (show¬a0<=n by omega),show(n-a0).toNat=0 by omega,cntL]
theorem Ygn:onP id u v c=true↔Y7 c=id/\Yr c=u/\toC c=v:=by simp[onP]
theorem Arch.offs(h:Arch s f k n j p since)(hc:(atE s n)[j]? =some c)(hf:Y7 c≠f.1):Arch s f k n (j+1) p since:=by
 refine⟨h.src,λu v a0 hu hs=>?_,h.dlv⟩
 obtain⟨K1,h1,h2,h3⟩:=h.hop u v a0 hu hs
 grind [Yc5,Ygn]
theorem YpH(hf:FlOk f)(h:phaF f<=n):(n-phaF f)/perF f=UC f (n-1)\/((n-phaF f)/perF f=UC f (n-1)+1/\n=YC f ((n-phaF f)/perF f)):=by
 have hp:=hf.per
 unfold UC YC
 by_cases h1:n-1<phaF f
 ·right
  rw[Tj h1]
  have:n=phaF f:=by omega
  simp_all
 ·rw[Tf h1]
  generalize phaF f=a at*
  generalize perF f=q at*
  have e1:=NL (n-a) q
  have e2:=NL (n-1-a) q
  have b1:=NW (n-a) (show q≠0 by omega)
  have b2:=NG (n-a) (show 0<q by omega)
  have b3:=NW (n-1-a) (show q≠0 by omega)
  have b4:=NG (n-1-a) (show 0<q by omega)
  generalize(n-a)/q=x at*
  generalize(n-1-a)/q=y at*
  by_cases hxy:x=y
  ·omega
  ·right
   have hge:y<=x:=by
    apply Md.1
    intro hlt
    have:=Ry (show x+1<=y by omega) (show 0<=q by omega)
    grind
   have hle:x<=y+1:=by
    apply Md.1
    intro hlt
    have:=Ry (show y+2<=x by omega) (show 0<=q by omega)
    grind
   have hx:x=y+1:=by omega
   refine⟨hx,?_⟩
   subst hx
   grind
theorem Yny{atts:List AttM}(h:∀a∈atts,Y7 a.c=id->a.frame<k):keyL atts id k u v=[]:=by
 unfold keyL
 rw[List.filter_eq_nil_iff]
 intro a ha hq
 simp only[onK,Tt]at hq
 grind
variable {x:StM}
theorem Yr3{st:List StM}(hf:FlOk f)(h:Ur s f x n 0 p):Ur s f (relS f n x) n 1 ⟨st,p.atts,p.dels⟩:=by
 have hfr:x.frame=UC f (n-1):=h.frame
 have same:x.frame=UC f n->relS f n x=x->Ur s f (relS f n x) n 1 ⟨st,p.atts,p.dels⟩:=by
  intro h1 h2
  rw[h2]
  refine⟨h1,h.none_a,h.none_d,λh0=>?_,λk h1 h2=>?_⟩
  ·obtain⟨hc,ha⟩:=h.cur h0
   refine⟨⟨hc.done,hc.ack,hc.lost,λv b hb=>?_⟩,ha.mono (λu v=>NQ _) (λd _ _=>Iff.rfl)⟩
   have:=hc.bd v b hb
   grind
  ·obtain⟨since,ha⟩:=h.old k h1 h2
   exact Yt4
 by_cases h1:n<phaF f
 ·refine same ?_ (by simp_all [relS])
  rw[hfr];unfold UC;omega
 ·have e:UC f n=(n-phaF f)/perF f:=by simp_all [UC,if_neg]
  rcases YpH hf (n:=n) (by omega)with h2|⟨h2,h3⟩
  ·simp_all [relS]
  ·generalize hk:(n-phaF f)/perF f=k at*
   have hne:k≠x.frame:=by omega
   have hrel:relS f n x=newS f n k:=by unfold relS;grind
   rw[hrel]
   have ha0:∀a∈p.atts,Y7 a.c=f.1->a.frame<k:=λa hm hq=>by have:=h.none_a a hm hq;omega
   have hk0:∀u v,keyL p.atts f.1 k u v=[]:=λu v=>Yny ha0
   have hdst:(newS f n k).since (dstF f)=none:=by
    show(if dstF f=f.2.1 then some n else none)=none
    rw[Tf λe=>hf.ne e.symm]
   have hsince:∀v b,(newS f n k).since v=some b->v=f.2.1/\b=n:=by
    intro v b hb
    change(if v=f.2.1 then some n else none)=some b at hb
    grind
   refine⟨e.symm,λa hm hq=>Int.le_of_lt (ha0 a hm hq),λd hm hq=>?_,λh0=>⟨⟨?_,?_,?_,?_⟩,⟨?_,?_,?_,?_⟩⟩,λk' hk1 hk2=>?_⟩
   ·have:=h.none_d d hm hq
    show d.2.1<=k
    omega
   ·rw[hdst];rfl
   ·intro u v t ht;cases ht
   ·intro u v _ a hm
    change a∈keyL p.atts f.1 k u v at hm
    grind
   ·grind
   ·show(if f.2.1=f.2.1 then some n else none)=some (YC f k)
    grind
   ·intro u v a0 hu hs
    obtain⟨rfl,rfl⟩:=hsince u a0 hs
    refine⟨[],List.nil_prefix,λa h=>by simp at h,?_⟩
    unfold Va
    cases hv:(newS f a0 k).since v with
    |some b=>
     obtain⟨-,rfl⟩:=hsince v b hv
     simp only[show(b-1-b).toNat=0 by omega,cntL,TI,Rj]
    |none=>simp[cntL]
   ·intro d hm h1 h2
    have:=h.none_d d hm h1
    change d.2.1=k at h2
    omega
   ·intro b hb
    rw[hdst]at hb;cases hb
   ·change k'<k at hk2
    by_cases hlt:k'<x.frame
    ·obtain⟨since,ha⟩:=h.old k' hk1 hlt
     exact Yt4
    ·have hk':k'=x.frame:=by omega
     subst hk'
     obtain⟨hc,ha⟩:=h.cur hk1
     refine⟨x.since,?_⟩
     have hn:n=YC f x.frame+perF f:=by
      rw[h3,show k=x.frame+1 by omega]
      unfold YC
      rw[Mc];omega
     rw[<-hn]
     exact ha.mono (λu v=>NQ _) (λd _ _=>Iff.rfl)
theorem YpQ(h:Ur s f x n (j+1) p)(hc:(atE s n)[j]? =some c)(hn:f.1=Y7 c->¬canT f x c n):Ur s f x n (j+2) p:=by
 refine⟨h.frame,h.none_a,h.none_d,λh0=>?_,h.old⟩
 obtain⟨hu,ha⟩:=h.cur h0
 refine⟨hu,ha.src,λu v a0 hud hs=>?_,ha.dlv⟩
 obtain⟨K1,h1,h2,h3⟩:=ha.hop u v a0 hud hs
 refine⟨K1,h1,h2,?_⟩
 cases hq:onP f.1 u v c with
 |false=>grind [Yc5]
 |true=>
  obtain⟨q1,q2,q3⟩:=Ygn.1 hq
  cases hv:x.since v with
  |some b=>rw[hv]at h3;exact h3
  |none=>
   by_cases hle:a0<=n
   ·exfalso
    refine hn q1.symm ⟨h0,⟨a0,by simp_all,hle⟩,by omega,λt ht=>?_⟩
    have:=hu.ack _ _ t ht
    simp_all
   simp_all [Yfa]
variable {ds:List (Int×Int×Int)}
theorem Ynu{g:Flw}{st:List StM}(h:Ur s f x n (j+1) p)(hc:(atE s n)[j]? =some c)(hg:g.1=Y7 c)(hne:f.1≠g.1)(hds:∀d∈ds,d.1=g.1):
 Ur s f x n (j+2) ⟨st,p.atts++[⟨n,k,c,o⟩],p.dels++ds⟩:=by
 have hfc:Y7 c≠f.1:=by omega
 have hk:∀k' u v,keyL (p.atts++[⟨n,k,c,o⟩]) f.1 k' u v=keyL p.atts f.1 k' u v:=by
  grind [Ye1,onK]
 have hd:∀d,d.1=f.1->∀k',d.2.1=k'->(d∈p.dels++ds↔d∈p.dels):=by
  grind
 refine⟨h.frame,λa hm hq=>?_,λd hm hq=>?_,λh0=>?_,λk' h1 h2=>?_⟩
 ·rcases TF.1 hm with hm|hm
  ·exact h.none_a a hm hq
  simp_all
 ·exact h.none_d d ((hd d hq _ rfl).1 hm) hq
 ·obtain⟨hu,ha⟩:=h.cur h0
  refine⟨⟨hu.done,hu.ack,λu v hv a hm=>?_,hu.bd⟩,(ha.offs hc hfc).mono (λu v=>by simp_all) (λd h1 h2=>hd d h1 _ h2)⟩
  rw[hk]at hm
  exact hu.lost u v hv a hm
 ·obtain⟨since,ha⟩:=h.old k' h1 h2
  exact⟨since,ha.mono (λu v=>by simp_all) (λd h1 h2=>hd d h1 _ h2)⟩
theorem Zw(h:(J1 f x c n o).since v=some b):x.since v=some b\/(v=toC c/\b=n+1/\o≠3/\x.since v=none):=by
 change(if o=3\/(x.since (toC c)).isSome then x.since elseλv=>if v=toC c then some (n+1)else x.since v) v=some b at h
 split at h
 ·simp_all
 ·simp only[]at h
  split at h
  all_goals simp_all
theorem Vu(h:x.since v=some b):(J1 f x c n o).since v=some b:=by
 show(if o=3\/(x.since (toC c)).isSome then x.since elseλv=>if v=toC c then some (n+1)else x.since v) v=some b
 split
 all_goals grind
theorem YbE(ho:o≠3):((J1 f x c n o).since (toC c)).isSome=true:=by
 show((if o=3\/(x.since (toC c)).isSome then x.since elseλv=>if v=toC c then some (n+1)else x.since v) (toC c)).isSome=true
 split
 all_goals simp_all
theorem Yfo(h:(J1 f x c n o).since v=none):x.since v=none/\(v=toC c->o=3):=by
 constructor
 ·cases hx:x.since v with
  |none=>rfl
  |some b=>grind [Vu]
 ·all_goals grind [YbE]
theorem Yr2{st:List StM}(h:Ur s f x n (j+1) p)(hc:(atE s n)[j]? =some c)(hn:canT f x c n):
 Ur s f (J1 f x c n o) n (j+2) ⟨st,p.atts++[⟨n,x.frame,c,o⟩],p.dels++delS f x c n o⟩:=by
 obtain⟨h0,⟨a1,hs1,hle1⟩,hdst,hack⟩:=hn
 obtain⟨hu,ha⟩:=h.cur h0
 have hk:∀k' u v,keyL (p.atts++[⟨n,x.frame,c,o⟩]) f.1 k' u v=keyL p.atts f.1 k' u v++if onK f.1 k' u v ⟨n,x.frame,c,o⟩then [⟨n,x.frame,c,o⟩]else []:=λk' u v=>Ye1 ..
 have hdel:∀d∈delS f x c n o,d=(f.1,x.frame,n)/\o≠3/\toC c=dstF f/\x.done=false:=by
  simp_all [delS]
 have hbd:∀v b,x.since v=some b->b<=n+1:=λv b hb=>by
  have:=hu.bd v b hb
  grind
 refine⟨h.frame,λa hm hq=>?_,λd hm hq=>?_,λ_=>⟨⟨?_,λu v t ht=>?_,λu v hv a hm=>?_,λv b hb=>?_⟩,⟨Vu ha.src,λu v a0 hud hs=>?_,λd hm h1 h2=>?_,λb hb=>?_⟩⟩,λk' h1 h2=>?_⟩
 ·rcases TF.1 hm with hm|hm
  ·exact h.none_a a hm hq
  ·obtain rfl:=TO.1 hm
   exact RI _
 ·rcases TF.1 hm with hm|hm
  ·exact h.none_d d hm hq
  ·obtain⟨rfl,-⟩:=hdel d hm
   exact RI _
 ·--done
  show(x.done||(decide (o≠3)&&decide (toC c=dstF f)))=((J1 f x c n o).since (dstF f)).isSome
  cases hx:x.since (dstF f)with
  |some b=>rw[Vu hx,hu.done,hx];rfl
  |none=>
   rw[hu.done,hx]
   by_cases h3:o=3
   ·cases hr:(J1 f x c n o).since (dstF f)with
    |none=>simp[h3]
    |some b=>
     rcases Zw hr with h|h
     ·rw[hx]at h;cases h
     ·exact absurd h3 h.2.2.1
   ·by_cases ht:toC c=dstF f
    ·rw[<-ht,YbE h3];simp[h3]
    ·cases hr:(J1 f x c n o).since (dstF f)with
     |none=>simp[ht]
     |some b=>
      rcases Zw hr with h|h
      ·rw[hx]at h;cases h
      ·exact absurd h.1.symm ht
 ·--acked
  change(if o=1/\x.acked (Yr c) (toC c)=none thenλu v=>if u=Yr c/\v=toC c then some n else x.acked u v else x.acked) u v=some t at ht
  have old:x.acked u v=some t->((J1 f x c n o).since v).isSome=true:=by
   intro ht
   have:=hu.ack u v t ht
   cases hx:x.since v with
   |none=>rw[hx]at this;cases this
   |some b=>rw[Vu hx];rfl
  split at ht
  ·rename_i ho
   simp only[]at ht
   split at ht
   ·rename_i huv
    rw[huv.2]
    exact YbE (by rw[ho.1];decide)
   ·exact old ht
  ·exact old ht
 ·--lost
  obtain⟨hv1,hv2⟩:=Yfo hv
  change a∈keyL (p.atts++[⟨n,x.frame,c,o⟩]) f.1 x.frame u v at hm
  rw[hk]at hm
  rcases TF.1 hm with hm|hm
  ·exact hu.lost u v hv1 a hm
  ·split at hm
   ·rename_i hq
    obtain rfl:=TO.1 hm
    simp only[onK,Tt]at hq
    exact hv2 hq.2.2.2.symm
   ·cases hm
 ·--bounds
  rw[Tf (show¬j+2=0 by omega)]
  rcases Zw hb with h|h
  ·have:=hbd v b h;omega
  ·omega
 ·--hop
  show∃K1,K1<+:keyL (p.atts++[⟨n,x.frame,c,o⟩]) f.1 x.frame u v/\(∀a∈K1,a.o=3)/\Va s (onP f.1 u v) ((J1 f x c n o).since v) a0 n (j+1)<=K1.length
  rw[hk]
  rcases Zw hs with hs|⟨rfl,rfl,ho,hnone⟩
  ·obtain⟨K1,h1,h2,h3⟩:=ha.hop u v a0 hud hs
   change Va s (onP f.1 u v) (x.since v) a0 n j<=K1.length at h3
   cases hx:x.since v with
   |some b=>
    rw[Vu hx]
    rw[hx]at h3
    exact⟨K1,h1.trans (N1 _ _),h2,h3⟩
   |none=>
    rw[hx]at h3
    cases hr:(J1 f x c n o).since v with
    |some b=>
     rcases Zw hr with h|⟨rfl,rfl,ho,-⟩
     ·rw[hx]at h;cases h
     ·refine⟨K1,h1.trans (N1 _ _),h2,TU ?_ h3⟩
      unfold Va
      simp only[show n+1-1-a0=n-a0 by omega]
      exact Nat.le_add_right _ _
    |none=>
     obtain⟨-,hv2⟩:=Yfo hr
     cases hq:onP f.1 u v c with
     |false=>exact⟨K1,h1.trans (N1 _ _),h2,by rw[Yc5 hc hq];exact h3⟩
     |true=>
      obtain⟨q1,q2,q3⟩:=Ygn.1 hq
      have ho:o=3:=hv2 q3.symm
      have hon:onK f.1 x.frame u v ⟨n,x.frame,c,o⟩=true:=by simp[onK,q1,q2,q3]
      rw[hon,Tj rfl]
      refine⟨keyL p.atts f.1 x.frame u v++[⟨n,x.frame,c,o⟩],NQ _,λa hm=>?_,?_⟩
      ·rcases TF.1 hm with hm|hm
       ·exact hu.lost u v hx a hm
       ·obtain rfl:=TO.1 hm
        exact ho
      ·have:=Ysa (a0:=a0) hc (onP f.1 u v) none
       have hl:=h1.length_le
       rw[To]
       simp only[TL]
       omega
  ·refine⟨[],List.nil_prefix,λa h=>by simp at h,?_⟩
   cases hr:(J1 f x c n o).since v with
   |none=>rw[Yfa (by omega)];exact YdM
   |some b=>
    have hb:b<=n+1:=by
     rcases Zw hr with h|h
     ·exact hbd v b h
     ·omega
    unfold Va
    simp only[show(b-1-(n+1)).toNat=0 by omega,cntL,Rj,TI]
 ·--deliveries:the slot
  rcases TF.1 hm with hm|hm
  ·exact Vu (ha.dlv.1 d hm h1 h2)
  ·obtain⟨rfl,ho,ht,hd⟩:=hdel d hm
   have hx:x.since (dstF f)=none:=by
    have:=hu.done
    rw[hd]at this
    cases hx:x.since (dstF f)with
    |none=>rfl
    |some b=>rw[hx]at this;cases this
   cases hr:(J1 f x c n o).since (dstF f)with
   |none=>
    have:=YbE (f:=f) (x:=x) (c:=c) (n:=n) ho
    rw[ht,hr]at this;cases this
   |some b=>
    rcases Zw hr with h|h
    ·rw[hx]at h;cases h
    ·show some b=some (n+1);rw[h.2.1]
 ·--there is one
  show(f.1,x.frame,b-1)∈p.dels++delS f x c n o
  rcases Zw hb with h|⟨h1,h2,h3,h4⟩
  ·exact TF.2 (.inl (ha.dlv.2 b h))
  ·have hd:x.done=false:=by rw[hu.done,h4];rfl
   refine TF.2 (.inr ?_)
   unfold delS
   rw[Tj ⟨h3,h1.symm,hd⟩,h2]
   simp
 ·--the frames before
  change k'<x.frame at h2
  obtain⟨since,hk'⟩:=h.old k' h1 h2
  refine⟨since,hk'.mono (λu v=>by rw[hk];exact N1 _ _) (λd d1 d2=>?_)⟩
  show d∈p.dels++delS f x c n o↔d∈p.dels
  rw[TF]
  refine⟨λhm=>hm.elim id λhm=>?_,.inl⟩
  obtain⟨rfl,-⟩:=hdel d hm
  change x.frame=k' at d2
  omega
theorem YpP(h:Ur s f x n ((atE s n).length+1) p)(hds:ds.Perm p.dels):Ur s f x (n+1) 0 ⟨p.st,p.atts,ds⟩:=by
 have hfr:x.frame=UC f n:=by
  have:=h.frame
  simp_all
 refine⟨by simp_all,h.none_a,λd hm hq=>h.none_d d (hds.mem_iff.1 hm) hq,λh0=>?_,λk h1 h2=>?_⟩
 ·obtain⟨hu,ha⟩:=h.cur h0
  have hbd:∀v b,x.since v=some b->b<=n+1:=λv b hb=>by
   have:=hu.bd v b hb
   simp_all
  refine⟨⟨hu.done,hu.ack,hu.lost,λv b hb=>by grind⟩,⟨ha.src,λu v a0 hud hs=>?_,λd hm h1 h2=>ha.dlv.1 d (hds.mem_iff.1 hm) h1 h2,λb hb=>hds.mem_iff.2 (ha.dlv.2 b hb)⟩⟩
  obtain⟨K1,h1,h2,h3⟩:=ha.hop u v a0 hud hs
  refine⟨K1,h1,h2,TU ?_ h3⟩
  cases x.since v with
  |some b=>exact Ybk
  |none=>
   unfold Va
   simp only[Nat.zero_sub,Sr,List.filter_nil,Rj,ite_self,SK,SB]
   have hle:=hbd u a0 hs
   by_cases h:a0<=n
   ·rw[Tj h,TP,show(n+1-a0).toNat=(n-a0).toNat+1 by omega,Yev,show a0+((n-a0).toNat:Int)=n by omega]
    omega
   grind
 ·obtain⟨since,ha⟩:=h.old k h1 h2
  exact⟨since,ha.mono (λu v=>NQ _) (λd _ _=>hds.mem_iff)⟩
variable {l:List Flw}
theorem Yvb(hok:∀f∈l,FlOk f)(hid:l.Pairwise λa b=>a.1≠b.1){J:Nat}(h:Pl l s n J p):0<=n/\p.st.length=l.length/\∀(i:Nat) f x,l[i]? =some f->p.st[i]? =some x->Ur s f x n J p:=by
 induction h with
 |start=>
  refine⟨RI _,by simp,λi f x hf hx=>?_⟩
  have hx:x=Yk0:=by
   simp_all
  subst hx
  have hp:=(hok f (Tc hf)).pha
  refine⟨by unfold UC;rw[Tj rfl,Tj (by omega)];rfl,λa h=>by simp at h,λa h=>by simp at h,λh=>absurd h (by decide),λk h1 h2=>?_⟩
  change k< -1 at h2
  omega
 |rel st hp hl hst ih=>
  obtain⟨h1,h2,h3⟩:=ih
  refine⟨h1,hl,λi f x hf hx=>?_⟩
  grind [Yr3]
 |skip hp hc hn ih=>
  obtain⟨h1,h2,h3⟩:=ih
  exact⟨h1,h2,λi f x hf hx=>YpQ (h3 i f x hf hx) hc (hn i f x hf hx)⟩
 |@att n j i p c f x o hp hc hf hx hg hn ih=>
  obtain⟨h1,h2,h3⟩:=ih
  refine⟨h1,by simp[h2],λi' f' x' hf' hx'=>?_⟩
  by_cases hi:i=i'
  ·grind [Yr2]
  ·rw[S7 hi]at hx'
   refine Ynu (g:=f) (h3 i' f' x' hf' hx') hc hg ?_ (λd hd=>?_)
   ·obtain⟨hlt,e1⟩:=Td.1 hf
    obtain⟨hlt',e2⟩:=Td.1 hf'
    rw[<-e1,<-e2]
    rcases NZ hi with h|h
    ·exactλe=>(TY.1 hid i i' hlt hlt' h) e.symm
    ·exact TY.1 hid i' i hlt' hlt h
   ·unfold delS at hd
    split at hd
    ·rw[TO.1 hd]
    ·cases hd
 |next ds hp hd ih=>
  obtain⟨h1,h2,h3⟩:=ih
  exact⟨by omega,h2,λi f x hf hx=>YpP (h3 i f x hf hx) hd⟩
theorem YkK{len:Int}{C:Lk->List Cel}{endd:Int}:∀{ls:List Lk}{a:Int}{z:Cel×Int},z∈runP len C endd ls a->a<=z.2
 |[],a,z,h=>by cases h
 |l::ls,a,z,h=>by
  rw[runP]at h
  have h1:∀z∈hopP len (C l) (endd-a).toNat (YN l) a,a<=z.2:=λz hz=>(Oq hz).1
  split at h
  ·grind
  ·rcases TF.1 h with h|h
   ·grind
   ·have h2:=YkK h
    have h3:a<=Yu (hopP len (C l) (endd-a).toNat (YN l) a) a:=by
     unfold Yu
     grind
    omega
def brO(loss:Int):List Int->Nat->Bool
 |[],_=>false
 |o::os,r=>if o=1 then brO loss os 0 else if loss<(r:Int)+1 then true else brO loss os (r+1)
theorem Yhu{loss:Int}:∀(os more:List Int) (r:Nat),(∀o∈os,o=3)->1<=os.length->loss<(r:Int)+os.length->brO loss (os++more) r=true
 |[],_,_,_,h,_=>by simp at h
 |o::os,more,r,h3,_,hl=>by
  rw[TA,brO,h3 o (by simp),Tf (by decide)]
  split
  ·rfl
  ·rw[TS]at hl
   exact Yhu os more (r+1) (λo ho=>h3 o (by simp[ho])) (by omega) (by omega)
theorem YqA(h0:0<=a)(hs:Y5 s=true):∀k:Nat,(Xd s.len a (s.cells.filter q) k).length<=((atE s a).filter q).length:=by
 intro k
 unfold atE
 rw[Tf (by simp_all),Nc]
 generalize s.cells=L
 induction L generalizing k with
 |nil=>simp[Xd]
 |cons c L ih=>
  by_cases hq:q c=true
  ·rw[SO,Tj hq,Xd]
   grind
  simp_all
variable {y:List (Cel×Int)}
theorem Yb5{x:List (Cel×Int)}(hy:y≠[]):Yu (x++y) a=Yu y a:=Yq0
theorem Yek(hy:y≠[])(a b:Int):Yu y a=Yu y b:=Yq0
theorem Qo{lo:Int}(hy:y≠[])(h:∀z∈y,lo<=z.2):lo+1<=Yu y a:=Yq0
theorem YlZ{s:Sch}{q:Cel->Bool}(hs:Y5 s=true):∀(f k:Nat) (a:Int),0<=a->(hopP s.len (s.cells.filter q) f k a).length<=cntL s q (Yu (hopP s.len (s.cells.filter q) f k a) a-a).toNat a
 |0,_,_,_=>Tm _
 |f+1,k,a,h0=>by
  rw[hopP]
  have h1:=YqA (q:=q) h0 hs k
  generalize hx:Xd s.len a (s.cells.filter q) k=x at*
  have ih:=YlZ (q:=q) hs f (k-x.length) (a+1) (by omega)
  have hsnd:∀z∈hopP s.len (s.cells.filter q) f (k-x.length) (a+1),a+1<=z.2:=λz hz=>(Oq hz).1
  generalize hopP s.len (s.cells.filter q) f (k-x.length) (a+1)=y at*
  by_cases hy:y=[]
  ·subst hy
   rw[Ri]
   by_cases hx0:x=[]
   ·simp_all
   ·have:Yu x a=a+1:=by
     grind [Yu,SX,UN]
    rw[this,show(a+1-a).toNat=0+1 by omega,cntL]
    omega
  ·rw[Yb5 hy,Yek hy a (a+1)]
   have hlt:=Qo (a:=a+1) hy hsnd
   rw[show(Yu y (a+1)-a).toNat=(Yu y (a+1)-(a+1)).toNat+1 by omega,cntL,To]
   omega
def Chain(d:Int):Int->List Lk->Prop
 |u,[]=>u=d
 |u,l::ls=>u=l.1/\u≠d/\Chain d l.2.1 ls
theorem YpJ(ha:Arch s f k n 0 p since){a':Int}(hu:u≠dstF f)(hs:since u=some a0)(hle:a0<=a){m:Nat}(hm:m<=cntL s (onP f.1 u v) (a'-a).toNat a)(hn:a'<=n)
 (hno:∀K1,K1<+:keyL p.atts f.1 k u v->(∀x∈K1,x.o=3)->K1.length<m):∃b,since v=some b/\b<=a':=by
 obtain⟨K1,h1,h2,h3⟩:=ha.hop u v a0 hu hs
 have h4:=hno K1 h1 h2
 cases hv:since v with
 |none=>
  rw[hv]at h3
  unfold Va at h3
  simp only[Sr,List.filter_nil,Rj,ite_self,SK]at h3
  have:=Yeu s (onP f.1 u v) hle hn
  omega
 |some b=>
  refine⟨b,rfl,Md.1 λhlt=>?_⟩
  rw[hv]at h3
  change cntL s (onP f.1 u v) (b-1-a0).toNat a0<=K1.length at h3
  have:=Yeu s (onP f.1 u v) hle (show a'<=b-1 by omega)
  omega
theorem Yjc{s:Sch}(hs:Y5 s=true){f:Flw}{k n:Int}{p:PlM}{since:Int->Option Int}(ha:Arch s f k n 0 p since)(endd:Int):∀(ls:List Lk) (u a0 a:Int),Chain (dstF f) u ls->since u=some a0->a0<=a->0<=a->(∀l∈ls,0<=l.2.2)->
 (∀l∈ls,brO l.2.2 ((keyL p.atts f.1 k l.1 l.2.1).map AttM.o) 0=false)->
 Xi ls<=(runP s.len (YZ s f.1) endd ls a).length->Yu (runP s.len (YZ s f.1) endd ls a) a<=n->∃b,since (dstF f)=some b/\b<=Yu (runP s.len (YZ s f.1) endd ls a) a
 |[],u,a0,a,hc,hsu,hle,_,_,_,_,_=>by
  change u=dstF f at hc
  refine⟨a0,by simp_all,?_⟩
  grind [runP,Yu]
 |l::ls,u,a0,a,hc,hsu,hle,h0,hl0,hbr,hfull,hn=>by
  obtain⟨hc1,hc2,hc3⟩:=hc
  have hlen:=QE s.len (YZ s f.1 l) (endd-a).toNat (YN l) a
  have hcnt:=YlZ (q:=onP f.1 l.1 l.2.1) hs (endd-a).toNat (YN l) a h0
  have hsnd:∀z∈hopP s.len (YZ s f.1 l) (endd-a).toNat (YN l) a,a<=z.2:=λz hz=>(Oq hz).1
  change(hopP s.len (YZ s f.1 l) (endd-a).toNat (YN l) a).length<=cntL s (onP f.1 l.1 l.2.1) (Yu (hopP s.len (YZ s f.1 l) (endd-a).toNat (YN l) a) a-a).toNat a at hcnt
  rw[runP]at hfull hn⊢
  generalize hopP s.len (YZ s f.1 l) (endd-a).toNat (YN l) a=x at*
  have hneed:Xi (l::ls)=YN l+Xi ls:=by simp[Xi]
  have h1:1<=YN l:=by grind [YN]
  by_cases hx:x.length<YN l
  ·grind
  ·rw[Tf hx]at hfull hn⊢
   have hxl:x.length=YN l:=by omega
   have hxne:x≠[]:=by grind
   have hafter:a+1<=Yu x a:=Qo hxne hsnd
   have hrl:=YbH s.len (YZ s f.1) endd ls (Yu x a)
   rw[To]at hfull
   have hzn:Yu x a<=n/\Yu (x++runP s.len (YZ s f.1) endd ls (Yu x a)) a=Yu (runP s.len (YZ s f.1) endd ls (Yu x a)) (Yu x a):=by
    by_cases hr:runP s.len (YZ s f.1) endd ls (Yu x a)=[]
    ·rw[hr,Ri]at hn⊢
     exact⟨hn,by simp[Yu]⟩
    ·rw[Yb5 hr,Yek hr a (Yu x a)]at hn⊢
     refine⟨?_,rfl⟩
     have:=Qo (a:=Yu x a) (lo:=Yu x a) hr (λz hz=>(YkK hz))
     omega
   obtain⟨b,hb,hbl⟩:=YpJ ha (v:=l.2.1) hc2 hsu hle (m:=YN l) (by rw[hc1];omega) hzn.1 (λK1 k1 k2=>by
    apply Nat.lt_of_not_le
    intro hge
    rw[hc1]at k1
    obtain⟨more,hm⟩:=k1
    have:=hbr l (by simp)
    rw[<-hm,Rb]at this
    rw[Yhu (K1.map AttM.o) (more.map AttM.o) 0 (λo ho=>by obtain⟨z,hz,rfl⟩:=TE.1 ho;exact k2 z hz) (by rw[Tv];omega) (by rw[Tv];unfold YN at hge;omega)]at this
    cases this)
   rw[hzn.2]at hn⊢
   exact Yjc hs ha endd ls l.2.1 b (Yu x a) hc3 hb hbl (by omega) (λz hz=>hl0 z (by simp[hz])) (λz hz=>hbr z (by simp[hz])) (by omega) hn
theorem YrB(hf:FlOk f)(h:Ur s f x n 0 p)(h0:0<=k)(hk:YC f k<n):∃m since,Arch s f k m 0 p since/\∀z,z<=n->z<=YC f k+perF f->z<=m:=by
 have hp:=hf.per
 have hfr:x.frame=UC f (n-1):=h.frame
 have hk0:0<=k*perF f:=SJ h0 (by omega)
 have hge:k<=x.frame:=by
  rw[hfr]
  unfold YC at hk
  unfold UC
  rw[Tf (by omega)]
  exact(Int.le_ediv_iff_mul_le (by omega)).2 (by omega)
 by_cases hlt:k<x.frame
 ·obtain⟨since,ha⟩:=h.old k h0 hlt
  grind
 ·obtain rfl:k=x.frame:=by omega
  exact⟨n,x.since,(h.cur h0).2,λz h1 _=>h1⟩
def shP(d:Int)(y:Cel×Int):Cel×Int:=(y.1,y.2+d)
theorem Qd{len a z:Int}(hz:0<=z)(hl:1<=len)(ha:0<=a):∀(cs:List Cel) (k:Nat),Xd len (a+z*len) cs k=(Xd len a cs k).map (shP (z*len))
 |[],_=>rfl
 |c::cs,k=>by
  have e:(a+z*len).tmod len=a.tmod len:=by
   have h1:0<=z*len:=SJ hz (by omega)
   grind [Int.add_mul_emod_self_right]
  rw[Xd,Xd,e]
  split
  ·rw[Rh,Qd hz hl ha cs (k-1)];rfl
  ·exact Qd hz hl ha cs k
theorem YeV{len z:Int}(hz:0<=z)(hl:1<=len)(cs:List Cel):∀(f k:Nat) (a:Int),0<=a->hopP len cs f k (a+z*len)=(hopP len cs f k a).map (shP (z*len))
 |0,_,_,_=>rfl
 |f+1,k,a,ha=>by
  rw[hopP,hopP,Qd hz hl ha,Tv,Rb,show a+z*len+1=a+1+z*len by omega,YeV hz hl cs f _ (a+1) (by omega)]
theorem YaI(x:List (Cel×Int))(a d:Int):Yu (x.map (shP d)) (a+d)=Yu x a+d:=by
 grind [Yu,shP]
theorem Yo0{x:List (Cel×Int)}(h:∀z∈x,a<=z.2):a<=Yu x a:=by
 unfold Yu
 grind
theorem Yfp{len z:Int}(hz:0<=z)(hl:1<=len)(C:Lk->List Cel)(endd:Int):∀(ls:List Lk) (a:Int),0<=a->runP len C (endd+z*len) ls (a+z*len)=(runP len C endd ls a).map (shP (z*len))
 |[],_,_=>rfl
 |l::ls,a,ha=>by
  rw[runP,runP,show endd+z*len-(a+z*len)=endd-a by omega,YeV hz hl _ _ _ _ ha,Tv,YaI]
  split
  ·rfl
  ·rw[Rb,Yfp hz hl C endd ls _ (by
    have:=Yo0 (x:=hopP len (C l) (endd-a).toNat (YN l) a) (a:=a) (λz hz=>(Oq hz).1)
    omega)]
theorem Yhs{S:Int->Option (List Int)}{len per:Int}(hp:1<=per){r:Int×Int×List Int}:∀{fuel:Nat}{rel:Int}{b:Int×Int×List Int},V6 S len per fuel rel b=some r->
 b.1<=r.1/\∀i:Nat,i<fuel->rel+i*per<len->∃l,S (rel+i*per)=some l/\Ja l-(rel+i*per)+1<=r.1
 |0,rel,b,h=>by
  obtain rfl:=Tz (show some b=some r from h)
  simp_all
 |fuel+1,rel,b,h=>by
  rw[V6]at h
  split at h
  ·rename_i hle
   obtain rfl:=Tz h
   refine⟨RI _,λi _ hi=>?_⟩
   have:0<=(i:Int)*per:=SJ (by omega) (by omega)
   omega
  ·cases hS:S rel with
   |none=>simp_all
   |some l=>
    rw[hS]at h
    obtain⟨h1,h2⟩:=Yhs hp h
    have h3:b.1<=r.1/\Ja l-rel+1<=r.1:=by
     grind
    refine⟨h3.1,λi hi hlt=>?_⟩
    cases i with
    |zero=>simp_all
    |succ i=>
     grind
theorem YcV{x:List (Cel×Int)}(hx:x≠[]):Ja (x.map Prod.snd)+1=Yu x a:=by
 grind [Ja,Yu,SX]
variable {ls:List Lk}
theorem Ynk{len per pha:Int}{C:Lk->List Cel}{b:Int×Int×List Int}(hl:1<=len)(hp:1<=per)(h0:0<=pha)(h1:pha<per)(hm:len.tmod per=0)(hne:1<=Xi ls)
 (hb:V6 (λa=>runR len C (a+per) ls a) len per len.toNat pha (0,0,[])=some b) (hk:0<=k):
 Xi ls<=(runP len C (pha+k*per+per) ls (pha+k*per)).length/\Yu (runP len C (pha+k*per+per) ls (pha+k*per)) (pha+k*per)<=pha+k*per+b.1:=by
 rw[Rq (by omega)]at hm
 have hq:len=per*(len/per):=by grind [NL]
 generalize len/per=q at hq
 have hq1:1<=q:=by
  apply Md.1
  intro hlt
  have:=Ry (show q<=0 by omega) (show 0<=per by omega)
  omega
 have e1:=NL k q
 have b1:=NW k (show q≠0 by omega)
 have b2:=NG k (show 0<q by omega)
 have b3:0<=k/q:=Int.ediv_nonneg hk (by omega)
 generalize k/q=z at*
 generalize hi:k%q=i at*
 have hrel:pha+i*per<len:=by
  have:=RY (show i<=q-1 by omega) (show 0<=per by omega)
  grind
 have hfirst:pha+k*per=pha+i*per+z*len:=by
  grind
 have hi0:0<=i*per:=SJ b1 (by omega)
 obtain⟨-,h2⟩:=Yhs hp hb
 have hle:i<=i*per:=by
  have:=Ry hp b1
  omega
 obtain⟨l,h3,h4⟩:=h2 i.toNat (by omega) (by grind)
 rw[Int.toNat_of_nonneg b1]at h3 h4
 rw[YbI]at h3
 split at h3
 ·cases h3
 rename_i hfull
 obtain rfl:=Tz h3
 have hne':runP len C (pha+i*per+per) ls (pha+i*per)≠[]:=by
  grind
 have h5:=YcV (a:=pha+i*per) hne'
 rw[hfirst,show pha+i*per+z*len+per=pha+i*per+per+z*len by omega,Yfp b3 hl C _ ls _ (by omega),Tv,YaI]
 omega
theorem Ynw(hok:∀f∈l,FlOk f)(hid:l.Pairwise λa b=>a.1≠b.1)(h:Pl l s n 0 p)(hf:f∈l)(hs:Y5 s=true)(hl:1<=s.len)(hpp:phaF f<perF f)(hm:s.len.tmod (perF f)=0)
 (hne:ls≠[]) (hch:Chain (dstF f) f.2.1 ls) (hloss:∀x∈ls,0<=x.2.2) {b:Int×Int×List Int}(hb:V6 (λa=>runR s.len (YZ s f.1) (a+perF f) ls a) s.len (perF f) s.len.toNat (phaF f) (0,0,[])=some b)
 (hk:0<=k) (hn:YC f k+b.1<=n) (hbr:∀x∈ls,brO x.2.2 ((keyL p.atts f.1 k x.1 x.2.1).map AttM.o) 0=false):
 ∃t,(f.1,k,t)∈p.dels/\t-YC f k+1<=b.1/\∀d∈p.dels,d.1=f.1->d.2.1=k->d.2.2=t:=by
 obtain⟨-,hst,hinv⟩:=Yvb hok hid h
 obtain⟨i,hi⟩:=TQ.1 hf
 have hil:i<l.length:=by grind
 obtain⟨x,hx⟩:∃x,p.st[i]? =some x:=⟨_,Ta (by rw[hst];exact hil)⟩
 have hI:=hinv i f x hi hx
 have hfo:=hok f hf
 have hp:=hfo.per
 have hneed:1<=Xi ls:=by
  cases ls with
  |nil=>exact absurd rfl hne
  |cons y ys=>
   have:=hloss y (by simp)
   unfold Xi
   rw[Rh,NI]
   unfold YN
   omega
 obtain⟨h1,h2⟩:=Ynk hl hfo.per hfo.pha hpp hm hneed hb hk
 change Xi ls<=(runP s.len (YZ s f.1) (YC f k+perF f) ls (YC f k)).length at h1
 change Yu (runP s.len (YZ s f.1) (YC f k+perF f) ls (YC f k)) (YC f k)<=YC f k+b.1 at h2
 have hk0:0<=YC f k:=by
  have:=hfo.pha
  have:=SJ hk (show 0<=perF f by omega)
  unfold YC;omega
 have hne':runP s.len (YZ s f.1) (YC f k+perF f) ls (YC f k)≠[]:=by
  intro e;rw[e]at h1;simp only[Rj]at h1;omega
 have h3:=Qo (a:=YC f k) (lo:=YC f k) hne' (λz hz=>YkK hz)
 have h4:Yu (runP s.len (YZ s f.1) (YC f k+perF f) ls (YC f k)) (YC f k)<=YC f k+perF f:=by
  unfold Yu
  cases e:(runP s.len (YZ s f.1) (YC f k+perF f) ls (YC f k)).getLast? with
  |none=>simp only[];omega
  |some z=>have:=(YbJ (by omega) (NP e)).2;simp only[];omega
 obtain⟨m,since,ha,hm'⟩:=YrB hfo hI hk (by omega)
 obtain⟨t,ht,htl⟩:=Yjc hs ha (YC f k+perF f) ls f.2.1 (YC f k) (YC f k) hch ha.src (RI _) hk0 hloss hbr h1 (hm' _ (by omega) h4)
 refine⟨t-1,ha.dlv.2 t ht,by omega,λd hd d1 d2=>?_⟩
 have:=ha.dlv.1 d hd d1 d2
 rw[ht]at this
 have:=Tz this
 omega
theorem On{c:List ClM}{i:Nat}{x:ClM}(h:c[i]? =some x):VD (c.map ClM.clm) i=x.clm:=by
 grind [VD]
variable {B:Nat}{w0:World}{H:List HP}
theorem Ykt{C:List ClM}{c:ClM}(hm:many (C.map clQ)∈H)(hc:c∈C)(hl:c.lens):c.In B w0 H:=by
 have hb:∀w,St B w0 H w->St B w0 (C.map clQ) w:=λw hw=>hw.inM hm
 refine ClM.In.mono (H:=C.map clQ) (YuU (RX hc) ⟨⟨?_,?_,?_,?_⟩,?_,?_⟩) hb
 ·have:=hl.1.1;omega
 ·have:=hl.1.2.1;omega
 ·have:=hl.1.2.2.1;omega
 ·have:=hl.1.2.2.2;omega
 ·exactλr hr=>TU (hl.2.1 r hr) (by decide)
 ·exactλr hr=>TU (hl.2.2 r hr) (by decide)
theorem Yf0(n:NetM)(q:List RqM)(s:SchM)(c:List ClM){A A1:Option Addr}{cap cap1:Nat}{w:World}(ht:TabsB B w0)(hin:n.In B w0 H)(hq:QIn B w0 H A q)(hrs:Rd B w0 H s.A (s.cells.flatMap celF))(hsl:s.cells.length<=1000000000000)(hc:CIn B w0 H A1 c)(hw:St B w0 H w):
 CX B w0 39 [n.val,.slice A q.length cap,s.val,.slice A1 c.length cap1] w λv K=>v=.tuple #[.int .i64 (chkE n.net (q.map RqM.rq) s.sch (c.map ClM.clm)).1,.int .i64 (chkE n.net (q.map RqM.rq) s.sch (c.map ClM.clm)).2]/\K=H:=by
 refine Ya Tryz.func39 Tryz.ntmps39 rfl rfl hw ?_
 have hcl:=hc.ln
 have hcr:=hc.rd
 have p1:=λ{H':List HP}{w:World}(hin:n.In B w0 H') (hq:QIn B w0 H' A q) (hrs:Rd B w0 H' s.A (s.cells.flatMap celF)) (hw:St B w0 H' w)=>UG n q s (cap:=cap) ht hin hq hrs hsl hw
 obtain⟨⟨RC,ri,re⟩,hR⟩:∃R,YS n.net (q.map RqM.rq) s.sch=R:=⟨_,rfl⟩
 unfold chkE
 rw[Tv]
 rw[hR]at p1⊢
 unfold OutC at p1
 dsimp only at p1⊢
 unfold NetM.val SchM.val
 by_cases h0:re=0
 rotate_left
 ·rw[Tj h0]
  repeat'(first|refine zgb ?_|(refine zgh ?_;intro _)|fail)
  apply Ye _ en38
  exact za
  exact rfl
  exactλ_ hw=>(p1 (hin.mono zc0) (hq.mono zc0) (hrs.mono zc0) (hw))
  rintro _ _ ⟨A2,cap2,C,rfl,hC,hCl,rfl⟩
  repeat'(first|refine zgc ?_|(refine zge ?_ ?_<;>intro _<;>try exact zo)|fail)
  apply Yg H
  ·exact zc0
  exact zc11
 subst h0
 rw[Tf (λe=>e rfl)]
 repeat'(first|refine zgb ?_|(refine zgh ?_;intro _)|fail)
 apply Ye _ en38
 exact za
 exact rfl
 exactλ_ hw=>(p1 (hin.mono zc0) (hq.mono zc0) (hrs.mono zc0) (hw))
 rintro _ _ ⟨A2,cap2,C,rfl,hC,hCl,rfl⟩
 subst hC
 rw[Tv]
 by_cases h1:c.length=C.length
 rotate_left
 ·rw[Tj h1]
  repeat'(first|refine zgc ?_|(refine zge ?_ ?_<;>intro _<;>try exact zo)|fail)
  apply Yg H
  ·exact zc0
  exact zc11
 rw[Tf (λe=>e h1)]
 obtain⟨F,hF⟩:∃F:Nat->Int,(λi=>if VD (c.map ClM.clm) i=VD (C.map ClM.clm) i then(0:Int)else 20)=F:=⟨_,rfl⟩
 rw[hF]
 have hFv:∀{k:Nat}{x y:ClM},c[k]? =some x->C[k]? =some y->F k=if x.clm=y.clm then 0 else 20:=λhx hy=>by rw[<-hF];show(if _=_ then _ else _)=_;rw[On hx,On hy]
 repeat'(first|refine zgc ?_|(refine zge ?_ ?_<;>intro _<;>try exact zo)|fail)
 refine Yh (λk:Nat=>[(33,.int .i64 (k:Nat)),(32,.int .i64 C.length),(10,.slice A2 C.length cap2),(3,.slice A1 c.length cap1)]) (λ_=>clsP A2 cap2 C::many (C.map clQ)::H) (λk=>k<=C.length/\∀j,0<=j->j<k->F j=0) (λk=>C.length-k) 0 ⟨Tm _,λj _ h=>absurd h (RP _)⟩ ?_ ?_ ?_
 ·exact zc1
 ·exact zc0
 rintro k ⟨hk,hz⟩ K hK
 have hcr':Rd B w0 (clsP A2 cap2 C::many (C.map clQ)::H) A1 (c.flatMap clF):=hcr.cons.cons
 have hCr':Rd B w0 (clsP A2 cap2 C::many (C.map clQ)::H) A2 (C.flatMap clF):=.sl (.head _)
 by_cases hlt:k<C.length
 ·obtain⟨x,hx⟩:∃x,c[k]? =some x:=⟨_,Ta (by omega)⟩
  obtain⟨y,hy⟩:∃y,C[k]? =some y:=⟨_,Ta hlt⟩
  have hym:=Tc hy
  have hFk:=hFv hx hy
  have hxi:=hc.x x (Tc hx)
  have p2:=λ{H':List HP}{w:World}(hx:x.In B w0 H') (hy:y.In B w0 H') (hw:St B w0 H' w)=>YkM x y hx hy hw
  by_cases he:x.clm=y.clm
  ·rw[Tj he]at hFk
   rw[Ti he]at p2
   repeat'(first|refine zgb ?_|(refine zge ?_ ?_<;>intro _<;>try exact zo)|fail)
   apply XT [0,1,2,3,4,5,6,7,8,9] []
   kernel_rfl
   kernel_rfl
   (simp only[Yd,nthO];rfl)
   exact rfl
   repeat'(first|refine zgd ?_|fail)
   first|apply Yb Yln|apply Yc Yln
   exact za
   exact rfl
   exactλ_ hw=>(p2 (hxi.mono zc0) (Ykt (by(focus exact zc2)) hym (hCl y hym)) hw)
   repeat'(first|(apply Yj;(repeat(first|with_reducible exact Y2|(with_reducible apply YP;(repeat(first|with_reducible exact Ys|with_reducible apply YB))))))|refine zgd ?_|fail)
   ·show Perm H (H++[])
    exact zc28
   repeat'(first|fail)
   apply hK (k+1)
   ·exact⟨by omega,λj h1 h2=>by
     rcases RN.1 h2 with h|rfl
     ·exact hz j h1 h
     ·exact hFk⟩
   ·omega
   ·exact zc1
   ·exact zc0
  ·rw[Tf he]at hFk
   rw[Tn he]at p2
   have hfe:=ZE (f:=F) (r:=c.length) (i0:=0) (i:=k) (λj h1 h2=>hz j h1 h2) (Tm _) (by omega) (by rw[hFk];decide)
   rw[hfe,hFk]
   clear hK
   repeat'(first|refine zgb ?_|(refine zge ?_ ?_<;>intro _<;>try exact zo)|fail)
   apply XT [0,1,2,3,4,5,6,7,8,9] []
   kernel_rfl
   kernel_rfl
   (simp only[Yd,nthO];rfl)
   exact rfl
   repeat'(first|refine zgd ?_|fail)
   first|apply Yb Yln|apply Yc Yln
   exact za
   exact rfl
   exactλ_ hw=>(p2 (hxi.mono zc0) (Ykt (by(focus exact zc2)) hym (hCl y hym)) hw)
   repeat'(first|(apply Yj;(repeat(first|with_reducible exact Y2|(with_reducible apply YP;(repeat(first|with_reducible exact Ys|with_reducible apply YB))))))|refine zgd ?_|fail)
   ·show Perm H (H++[])
    exact zc28
   repeat'(first|fail)
   apply Yg H
   ·exact zc0
   exact zc11
 ·obtain rfl:k=C.length:=by omega
  have hfe:=Z9 (f:=F) (r:=c.length) (i0:=0) λj h1 h2=>hz j h1 (by omega)
  rw[hfe]
  clear hK
  repeat'(first|refine zgc ?_|(refine zge ?_ ?_<;>intro _<;>try exact zo)|fail)
  apply Yg H
  ·exact zc0
  exact zc11
variable {B:Nat}{w0 w:World}{H:List HP}
theorem YdV(z a b:Int)(ga gb:Nat)(h1:blk ga (.cells #[.int .i64 a] 3 (0,0))∈H)(h2:blk gb (.cells #[.int .i64 b] 3 (0,0))∈H)(hw:St B w0 H w):
 CX B w0 321 [.int .i64 z,.pointer (some ⟨ga,0,none⟩),.pointer (some ⟨gb,0,none⟩)] w λv K=>v=.bool (!decide (a<=z/\z<=b))/\K=H:=by
 refine Ya Tryz.func321 Tryz.ntmps321 rfl rfl hw ?_
 by_cases h:a<=z/\z<=b
 ·rw[Ti h]
  refine zX40 ?_<;>intros
  exact zc13
 ·rw[Tn h]
  repeat'(first|refine zgc ?_|(refine zgf ?_ ?_<;>intro _<;>try exact zo)|fail)
  all_goals(apply Yf;exact rfl;exact rfl;exact⟨rfl,rfl⟩)
theorem Vg(l:List Int)(a b:Int)(hl:l.length<=1000000000000){A:Option Addr}{cap:Nat}(hr:Rd B w0 H A (l.flatMap numF))(hw:St B w0 H w):
 CX B w0 288 [.slice A l.length cap,.int .i64 a,.int .i64 b] w λv K=>v=.bool (inL l a b)/\K=H:=by
 refine Ya Tryz.func288 Tryz.ntmps288 rfl rfl hw ?_
 have e1:inL l a b=!(l.any λz=>!decide (a<=z/\z<=b)):=by
  unfold inL
  grind
 rw[e1]
 obtain⟨o,ho⟩:∃o,(l.any λz=>!decide (a<=z/\z<=b))=o:=⟨_,rfl⟩
 rw[ho]
 repeat'(first|((refine zs53 ?_;intro _))|((apply Yo;exact za;exact rfl))|refine zga ?_|fail)
 rename_i ga gb
 have p1:∀w,St B w0 (blk gb (.cells #[.int .i64 b] 3 (0,0))::blk ga (.cells #[.int .i64 a] 3 (0,0))::H) w->CX B w0 190 [.slice A l.length cap,.func (.func 321) #[] [Value.pointer (some ⟨ga,0,none⟩),Value.pointer (some ⟨gb,0,none⟩)].toArray] w λv K=>v=.bool o/\K=blk gb (.cells #[.int .i64 b] 3 (0,0))::blk ga (.cells #[.int .i64 a] 3 (0,0))::H:=λw hw=>by
  have h:=JI (λz=>Value.int .i64 z) (λz=>!decide (a<=z/\z<=b)) l 321 [.pointer (some ⟨ga,0,none⟩),.pointer (some ⟨gb,0,none⟩)] Ywq (by omega) (cap:=cap) (show Rd B w0 _ A (l.flatMap numF) from hr.cons.cons) (λz _ w hw=>YdV z a b ga gb (.tail _ (.head _)) (.head _) hw) hw
  simp_all
 cases o<;>(
  first|apply Yb YeF|apply Yc YeF
  exact za
  exact rfl
  exactλ_ hw=>(p1 _ hw)
  repeat'(first|(first|refine zs47 ?_|refine zs48 ?_)|refine zga ?_|fail)
  apply Yg H
  ·(intro w hw;refine hw.perm ?_;focus repeat(first|with_reducible exact Perm.refl _|(with_reducible focus(done))|with_reducible apply Perm.dropK))
  apply Yf;exact rfl;exact rfl;exact⟨rfl,rfl⟩)
theorem UL{rs:List RowM}{k:Nat}{r:RowM}(h:rs[k]? =some r):rtAt (rs.map (·.xs)) k=r.xs:=by
 have h2:(rs.map (·.xs))[k]? =some r.xs:=by simp_all
 grind [Yat]
theorem YfZ(c:ClM)(hc:c.In B w0 H)(hw:St B w0 H w):
 CX B w0 232 [clV c] w λv K=>v=.bool (Ud c.clm)/\K=H:=by
 refine Ya Tryz.func232 Tryz.ntmps232 rfl rfl hw ?_
 obtain⟨hl1,hl2,hl3,hl4⟩:=hc.ln
 have q1:=λ{H':List HP}{w:World}(hc:c.In B w0 H') (hw:St B w0 H' w)=>Vg c.bs 1 512 hl2 (cap:=c.bcap) hc.bd hw
 have q2:=λ{H':List HP}{w:World}(hc:c.In B w0 H') (hw:St B w0 H' w)=>Vg c.ws 0 511 hl3 (cap:=c.wcap) hc.ws hw
 obtain⟨F,hF⟩:∃F,Ud c.clm=F:=⟨_,rfl⟩
 have hFe:F=(decide (0<=c.flow/\c.flow<=255/\1<=c.rs.length/\c.rs.length<=2/\c.bs.length=c.rs.length/\c.ws.length=c.rs.length/\c.ss.length=c.rs.length)&&inL c.bs 1 512&&inL c.ws 0 511&&(List.range c.rs.length).all λi=>rtOk (rtAt (c.rs.map (·.xs)) i) (rtAt (c.ss.map (·.xs)) i)):=by
  rw[<-hF]
  unfold Ud ClM.clm
  simp only[Tv]
 rw[hF]
 unfold clV
 obtain⟨b1,hb1⟩:∃b,inL c.bs 1 512=b:=⟨_,rfl⟩
 obtain⟨b2,hb2⟩:∃b,inL c.ws 0 511=b:=⟨_,rfl⟩
 rw[hb1]at q1 hFe
 rw[hb2]at q2 hFe
 by_cases hP:0<=c.flow/\c.flow<=255/\1<=c.rs.length/\c.rs.length<=2/\c.bs.length=c.rs.length/\c.ws.length=c.rs.length/\c.ss.length=c.rs.length
 rotate_left
 ·rw[Tn hP]at hFe
  simp only[SD]at hFe
  subst hFe
  repeat'(first|refine zgc ?_|(refine zgf ?_ ?_<;>intro _<;>try exact zo)|(refine zgh ?_;intro _)|fail)
  all_goals(
   apply Yg H
   ·exact zk
   apply Yf;exact rfl;exact rfl;exact⟨rfl,rfl⟩)
 rw[Ti hP,RV]at hFe
 obtain⟨f0,f1,n1,n2,e1,e2,e3⟩:=hP
 cases b1 with
 |false=>
  simp only[SD]at hFe
  subst hFe
  refine YqQ ?_<;>intros
  first|apply Yb ZM|apply Yc ZM
  exact za
  exact rfl
  exactλ_ hw=>(q1 (hc.mono zc0) hw)
  refine zX2 ?_
  apply Yg H
  ·exact zc0
  exact zc5
 |true=>
 cases b2 with
 |false=>
  simp only[SD,Bool.and_false]at hFe
  subst hFe
  refine YqQ ?_<;>intros
  first|apply Yb ZM|apply Yc ZM
  exact za
  exact rfl
  exactλ_ hw=>(q1 (hc.mono zc0) hw)
  refine zX2 ?_
  first|apply Yb ZM|apply Yc ZM
  exact za
  exact rfl
  exactλ_ hw=>(q2 (hc.mono zc0) hw)
  refine zX2 ?_
  apply Yg H
  ·exact zc0
  exact zc5
 |true=>
 simp only[RV]at hFe
 refine YqQ ?_<;>intros
 rename_i g _ _ _ _ _ _ _
 first|apply Yb ZM|apply Yc ZM
 exact za
 exact rfl
 exactλ_ hw=>(q1 (hc.mono zc0) hw)
 refine zX2 ?_
 first|apply Yb ZM|apply Yc ZM
 exact za
 exact rfl
 exactλ_ hw=>(q2 (hc.mono zc0) hw)
 refine zX2 ?_
 obtain⟨ok,hok⟩:∃ok:Nat->Bool,(λi=>rtOk (rtAt (c.rs.map (·.xs)) i) (rtAt (c.ss.map (·.xs)) i))=ok:=⟨_,rfl⟩
 rw[hok]at hFe
 refine Yh (λk:Nat=>[(61,.int .i64 (k:Nat)),(60,.int .i64 c.rs.length),(59,.slice c.rA c.rs.length c.rcap),(1,.pointer (some ⟨g,0,none⟩))]) (λ_=>clA g c::H) (λk=>k<=c.rs.length/\∀j,j<k->ok j=true) (λk=>c.rs.length-k) 0 ⟨Tm _,λj h=>absurd h (RP _)⟩ ?_ (λw hw=>hw) ?_
 ·exact zc1
 rintro k ⟨hk,hz⟩ K hK
 have hcr:Rd B w0 (clA g c::H) c.rA (c.rs.flatMap rowF):=hc.rt.cons
 have hcs:Rd B w0 (clA g c::H) c.sA (c.ss.flatMap rowF):=hc.st.cons
 by_cases hlt:k<c.rs.length
 rotate_left
 ·obtain rfl:k=c.rs.length:=by omega
  have hFt:F=true:=by
   rw[hFe,TK]
   exactλj hj=>hz j (TN.1 hj)
  subst hFt
  clear hK
  refine zX0 ?_<;>intros
  apply Yg H
  ·exact zc0
  exact zc5
 obtain⟨r,hr⟩:∃r,c.rs[k]? =some r:=⟨_,Ta hlt⟩
 obtain⟨z,hzz⟩:∃z,c.ss[k]? =some z:=⟨_,Ta (by omega)⟩
 have hrm:=Tc hr
 have hzm:=Tc hzz
 have hkk:ok k=rtOk r.xs z.xs:=by rw[<-hok];show rtOk (rtAt _ _) (rtAt _ _)=_;rw[UL hr,UL hzz]
 unfold rtOk at hkk
 have hrl:=hc.rl r hrm
 have hzl:=hc.sl z hzm
 have q3:=λ{H':List HP}{w:World}(hc:c.In B w0 H') (hw:St B w0 H' w)=>Vg r.xs 0 31 hrl (cap:=r.cap) (hc.rw_ r hrm) hw
 have q4:=λ{H':List HP}{w:World}(hc:c.In B w0 H') (hw:St B w0 H' w)=>Vg z.xs 0 511 hzl (cap:=z.cap) (hc.sw z hzm) hw
 obtain⟨b3,hb3⟩:∃b,inL r.xs 0 31=b:=⟨_,rfl⟩
 obtain⟨b4,hb4⟩:∃b,inL z.xs 0 511=b:=⟨_,rfl⟩
 rw[hb3]at q3 hkk
 rw[hb4]at q4 hkk
 have hno:ok k=false->F=false:=λh=>by
  rw[hFe,List.all_eq_false]
  exact⟨k,TN.2 hlt,by rw[h];decide⟩
 by_cases hA:2<=r.xs.length/\r.xs.length<=9
 rotate_left
 ·rw[Tn hA]at hkk
  have hFf:=hno (by rw[hkk];rfl)
  subst hFf
  clear hK
  repeat'(first|refine zgd ?_|(refine zgf ?_ ?_<;>intro _<;>try exact zo)|fail)
  all_goals(
   apply Yg H
   ·exact zk
   apply Yf;exact rfl;exact rfl;exact⟨rfl,rfl⟩)
 rw[Ti hA]at hkk
 cases b3 with
 |false=>
  have hFf:=hno (by rw[hkk];rfl)
  subst hFf
  clear hK
  refine zX13 ?_<;>intros
  first|apply Yb ZM|apply Yc ZM
  exact za
  exact rfl
  exactλ_ hw=>(q3 (hc.mono zc0) hw)
  refine zX2 ?_
  all_goals(
   apply Yg H
   ·exact zc0
   exact zc5)
 |true=>
 by_cases hB:1<=z.xs.length/\z.xs.length<=64
 rotate_left
 ·rw[Tn hB]at hkk
  have hFf:=hno (by rw[hkk];rfl)
  subst hFf
  clear hK
  refine zX13 ?_<;>intros
  first|apply Yb ZM|apply Yc ZM
  exact za
  exact rfl
  exactλ_ hw=>(q3 (hc.mono zc0) hw)
  repeat'(first|refine zgd ?_|(refine zgf ?_ ?_<;>intro _<;>try exact zo)|fail)
  all_goals(
   apply Yg H
   ·exact zk
   apply Yf;exact rfl;exact rfl;exact⟨rfl,rfl⟩)
 rw[Ti hB]at hkk
 cases b4 with
 |false=>
  have hFf:=hno (by rw[hkk];rfl)
  subst hFf
  clear hK
  refine zX13 ?_<;>intros
  first|apply Yb ZM|apply Yc ZM
  exact za
  exact rfl
  exactλ_ hw=>(q3 (hc.mono zc0) hw)
  refine zX13 ?_<;>intros
  first|apply Yb ZM|apply Yc ZM
  exact za
  exact rfl
  exactλ_ hw=>(q4 (hc.mono zc0) hw)
  refine zX2 ?_
  all_goals(
   apply Yg H
   ·exact zc0
   exact zc5)
 |true=>
  have hkt:ok k=true:=hkk
  refine zX13 ?_<;>intros
  first|apply Yb ZM|apply Yc ZM
  exact za
  exact rfl
  exactλ_ hw=>(q3 (hc.mono zc0) hw)
  refine zX13 ?_<;>intros
  first|apply Yb ZM|apply Yc ZM
  exact za
  exact rfl
  exactλ_ hw=>(q4 (hc.mono zc0) hw)
  refine zX2 ?_
  apply hK (k+1)
  ·exact YtK
  ·omega
  ·exact zc1
  ·exact zc0
theorem YjM(c:List ClM){A:Option Addr}{cap B:Nat}{w0:World}{H:List HP}{w:World}(hc:CIn B w0 H A c)(hw:St B w0 H w):
 CX B w0 159 [.slice A c.length cap] w λv K=>v=.bool (YaT (c.map ClM.clm))/\K=H:=by
 refine Ya Tryz.func159 Tryz.ntmps159 rfl rfl hw ?_
 have hcl:=hc.ln
 have hcr:=hc.rd
 obtain⟨ok,hok⟩:∃ok:Nat->Bool,Ylj (c.map ClM.clm)=ok:=⟨_,rfl⟩
 obtain⟨F,hF⟩:∃F,YaT (c.map ClM.clm)=F:=⟨_,rfl⟩
 have hFe:F=(decide (c.length<=16)&&(List.range c.length).all ok):=by
  rw[<-hF];unfold YaT;rw[Tv,hok]
 rw[hF]
 repeat'(first|apply(zs1 ?_)|apply(zs2 ?_)|(apply zg4;refine zs9 ?_)|apply(zs65 ?_)|apply(zs68 ?_)|apply(zs69 ?_)|apply(zs70 ?_)|apply(zs73 ?_)|fail)
 refine Yh (λk:Nat=>[(7,.int .i64 (k:Nat)),(6,.int .i64 c.length),(5,.slice A c.length cap),(0,.slice A c.length cap)]) (λ_=>H) (λk=>k<=c.length/\∀j,j<k->ok j=true) (λk=>c.length-k) 0 ⟨Tm _,λj h=>absurd h (RP _)⟩ ?_ (λw hw=>hw) ?_
 ·exact zc1
 rintro k ⟨hk,hz⟩ K hK
 by_cases hlt:k<c.length
 rotate_left
 ·obtain rfl:k=c.length:=by omega
  have hFt:(List.range c.length).all ok=true:=by
   rw[TK]
   exactλj hj=>hz j (TN.1 hj)
  rw[hFt,Bool.and_true]at hFe
  clear hK
  by_cases h16:c.length<=16
  ·rw[Ti h16]at hFe
   subst hFe
   repeat'(first|apply(zs1 ?_)|apply(zs2 ?_)|(apply zg4;refine zs9 ?_)|(apply(zs17 ?_ ?_)<;>intro _<;>try exact zo)|(apply(zs18 ?_ ?_)<;>intro _<;>try exact zo)|apply(zs65 ?_)|apply(zs68 ?_)|apply(zs69 ?_)|apply(zs70 ?_)|(apply zg27;refine zs72 ?_)|apply(zs74 ?_)|apply(zs75 ?_)|apply(zs80 ?_)|apply(zs81 ?_)|fail)
   exact zc5
  ·rw[Tn h16]at hFe
   subst hFe
   repeat'(first|apply(zs1 ?_)|apply(zs2 ?_)|(apply zg4;refine zs9 ?_)|(apply(zs17 ?_ ?_)<;>intro _<;>try exact zo)|(apply(zs18 ?_ ?_)<;>intro _<;>try exact zo)|apply(zs65 ?_)|apply(zs68 ?_)|apply(zs69 ?_)|apply(zs70 ?_)|(apply zg27;refine zs72 ?_)|apply(zs74 ?_)|apply(zs75 ?_)|apply(zs80 ?_)|apply(zs81 ?_)|fail)
   exact zc5
 obtain⟨x,hx⟩:∃x,c[k]? =some x:=⟨_,Ta hlt⟩
 have hxi:=hc.x x (Tc hx)
 have q1:=λ{H':List HP}{w:World}(hx:x.In B w0 H') (hw:St B w0 H' w)=>YfZ x hx hw
 have hok1:ok k=(Ud x.clm&&(decide (k=0)||decide ((VD (c.map ClM.clm) (k-1)).flow<x.flow))):=by
  rw[<-hok];unfold Ylj;rw[On hx];rfl
 have hno:ok k=false->F=false:=λh=>by
  rw[hFe,Bool.and_eq_false_iff]
  exact .inr (List.all_eq_false.2 ⟨k,TN.2 hlt,by rw[h];decide⟩)
 obtain⟨b,hb⟩:∃b,Ud x.clm=b:=⟨_,rfl⟩
 rw[hb]at q1 hok1
 cases b with
 |false=>
  have hFf:=hno hok1
  subst hFf
  clear hK
  repeat'(first|apply(zs1 ?_)|apply(zs2 ?_)|(apply zg3;refine zs61 ?_)|(apply zg5;refine zs57 ?_)|(apply(zs17 ?_ ?_)<;>intro _<;>try exact zo)|(apply zg22;refine zs51 ?_)|(apply zg24;(refine zs54 ?_;intro _))|apply(zs65 ?_)|apply(zs68 ?_)|apply(zs69 ?_)|apply(zs70 ?_)|(apply zg27;refine zs71 ?_)|apply(zs73 ?_)|apply(zs76 ?_)|fail)
  apply XT [0,1,2,3,4,5,6,7,8,9,10,11,12,13,14,15,16,17] []
  kernel_rfl
  kernel_rfl
  (simp only[Yd,nthO];rfl)
  exact rfl
  repeat'(first|(apply zg3;refine zs8 ?_)|apply(zs87 ?_)|fail)
  first|apply Yb YaP|apply Yc YaP
  exact za
  exact rfl
  exactλ_ hw=>(q1 (hxi.mono zc0) hw)
  repeat'(first|apply(zs1 ?_)|apply(zs2 ?_)|(apply zg1;refine zs3 ?_)|(apply zg6;refine zs11 ?_)|(apply zg20;refine zs48 ?_)|apply(zs65 ?_)|(apply ZU;exact zp)|apply(zs68 ?_)|apply(zs69 ?_)|apply(zs70 ?_)|(apply zg27;refine zs71 ?_)|apply(zs74 ?_)|apply(zs77 ?_)|apply(zs78 ?_)|(apply Yj;(repeat(first|with_reducible exact Y2|(with_reducible apply YP;(repeat(first|with_reducible exact Ys|with_reducible apply YB))))))|apply(zs93 ?_)|apply(zs94 ?_)|fail)
  ·show Perm H (H++[])
   exact zc28
  repeat'(first|fail)
  apply Yg H
  ·exact zc0
  exact zc5
 |true=>
  rw[RV]at hok1
  by_cases hk0:k=0
  ·have hkt:ok k=true:=by rw[hok1,Ti hk0];rfl
   repeat'(first|apply(zs1 ?_)|apply(zs2 ?_)|(apply zg3;refine zs61 ?_)|(apply zg5;refine zs57 ?_)|(apply(zs17 ?_ ?_)<;>intro _<;>try exact zo)|(apply zg22;refine zs51 ?_)|(apply zg24;(refine zs54 ?_;intro _))|apply(zs65 ?_)|apply(zs68 ?_)|apply(zs69 ?_)|apply(zs70 ?_)|(apply zg27;refine zs71 ?_)|apply(zs73 ?_)|apply(zs76 ?_)|fail)
   apply XT [0,1,2,3,4,5,6,7,8,9,10,11,12,13,14,15,16,17] []
   kernel_rfl
   kernel_rfl
   (simp only[Yd,nthO];rfl)
   exact rfl
   repeat'(first|(apply zg3;refine zs8 ?_)|apply(zs87 ?_)|fail)
   first|apply Yb YaP|apply Yc YaP
   exact za
   exact rfl
   exactλ_ hw=>(q1 (hxi.mono zc0) hw)
   repeat'(first|apply(zs1 ?_)|(apply zg1;refine zs4 ?_)|(apply zg20;refine zs47 ?_)|apply(zs65 ?_)|(apply Yj;(repeat(first|with_reducible exact Y2|(with_reducible apply YP;(repeat(first|with_reducible exact Ys|with_reducible apply YB))))))|fail)
   ·show Perm H (H++[])
    exact zc28
   repeat'(first|apply(zs1 ?_)|(apply zg1;first|refine zs3 ?_|refine zs4 ?_)|(apply zg6;refine zs12 ?_)|(apply(zs19 ?_ ?_)<;>intro _<;>try exact zo)|(apply zg13;refine zs30 ?_)|apply(zs65 ?_)|(apply ZU;exact zp)|apply(zs68 ?_)|apply(zs70 ?_)|(apply zg27;refine zs72 ?_)|apply(zs76 ?_)|apply(zs79 ?_)|apply(zs93 ?_)|apply(zs94 ?_)|fail)
   apply hK (k+1)
   ·exact YtK
   ·omega
   ·exact zc1
   ·exact zc0
  obtain⟨y,hy⟩:∃y,c[k-1]? =some y:=⟨_,Ta (by omega)⟩
  have hy2:c[((k:Int)-1).toNat]? =some y:=by rw[show((k:Int)-1).toNat=k-1 by omega];exact hy
  rw[Tn hk0,NH,On hy]at hok1
  have hok1:ok k=decide (y.flow<x.flow):=hok1
  by_cases hfl:y.flow<x.flow
  ·rw[Ti hfl]at hok1
   repeat'(first|apply(zs1 ?_)|apply(zs2 ?_)|(apply zg3;refine zs61 ?_)|(apply zg5;refine zs57 ?_)|(apply(zs17 ?_ ?_)<;>intro _<;>try exact zo)|(apply zg22;refine zs51 ?_)|(apply zg24;(refine zs54 ?_;intro _))|apply(zs65 ?_)|apply(zs68 ?_)|apply(zs69 ?_)|apply(zs70 ?_)|(apply zg27;refine zs71 ?_)|apply(zs73 ?_)|apply(zs76 ?_)|fail)
   apply XT [0,1,2,3,4,5,6,7,8,9,10,11,12,13,14,15,16,17] []
   kernel_rfl
   kernel_rfl
   (simp only[Yd,nthO];rfl)
   exact rfl
   repeat'(first|(apply zg3;refine zs8 ?_)|apply(zs87 ?_)|fail)
   first|apply Yb YaP|apply Yc YaP
   exact za
   exact rfl
   exactλ_ hw=>(q1 (hxi.mono zc0) hw)
   repeat'(first|apply(zs1 ?_)|(apply zg1;refine zs4 ?_)|(apply zg20;refine zs47 ?_)|apply(zs65 ?_)|(apply Yj;(repeat(first|with_reducible exact Y2|(with_reducible apply YP;(repeat(first|with_reducible exact Ys|with_reducible apply YB))))))|fail)
   ·show Perm H (H++[])
    exact zc28
   repeat'(first|apply(zs1 ?_)|(apply zg1;refine zs4 ?_)|(apply zg2;first|refine zs6 ?_|refine zs58 ?_)|(apply zg3;first|refine zs7 ?_|refine zs59 ?_)|(apply zg5;refine zs57 ?_)|(apply zg6;first|refine zs11 ?_|refine zs12 ?_)|(apply(zs19 ?_ ?_)<;>intro _<;>try exact zo)|(apply(zs20 ?_ ?_)<;>intro _<;>try exact zo)|(apply zg13;refine zs30 ?_)|(apply zg14;refine zs31 ?_)|apply(zs65 ?_)|(apply ZU;exact zp)|apply(zs68 ?_)|apply(zs70 ?_)|(apply zg27;refine zs72 ?_)|apply(zs76 ?_)|apply(zs79 ?_)|apply(zs93 ?_)|apply(zs94 ?_)|fail)
   apply hK (k+1)
   ·exact⟨by omega,λj h2=>by
     rcases RN.1 h2 with h|rfl
     ·exact hz j h
     ·exact hok1⟩
   ·omega
   ·exact zc1
   ·exact zc0
  ·rw[Tn hfl]at hok1
   have hFf:=hno hok1
   subst hFf
   clear hK
   repeat'(first|apply(zs1 ?_)|apply(zs2 ?_)|(apply zg3;refine zs61 ?_)|(apply zg5;refine zs57 ?_)|(apply(zs17 ?_ ?_)<;>intro _<;>try exact zo)|(apply zg22;refine zs51 ?_)|(apply zg24;(refine zs54 ?_;intro _))|apply(zs65 ?_)|apply(zs68 ?_)|apply(zs69 ?_)|apply(zs70 ?_)|(apply zg27;refine zs71 ?_)|apply(zs73 ?_)|apply(zs76 ?_)|fail)
   apply XT [0,1,2,3,4,5,6,7,8,9,10,11,12,13,14,15,16,17] []
   kernel_rfl
   kernel_rfl
   (simp only[Yd,nthO];rfl)
   exact rfl
   repeat'(first|(apply zg3;refine zs8 ?_)|apply(zs87 ?_)|fail)
   first|apply Yb YaP|apply Yc YaP
   exact za
   exact rfl
   exactλ_ hw=>(q1 (hxi.mono zc0) hw)
   repeat'(first|apply(zs1 ?_)|(apply zg1;refine zs4 ?_)|(apply zg20;refine zs47 ?_)|apply(zs65 ?_)|(apply Yj;(repeat(first|with_reducible exact Y2|(with_reducible apply YP;(repeat(first|with_reducible exact Ys|with_reducible apply YB))))))|fail)
   ·show Perm H (H++[])
    exact zc28
   repeat'(first|apply(zs1 ?_)|apply(zs2 ?_)|(apply zg1;refine zs4 ?_)|(apply zg2;first|refine zs6 ?_|refine zs58 ?_)|(apply zg3;first|refine zs7 ?_|refine zs59 ?_)|(apply zg5;refine zs57 ?_)|(apply zg6;first|refine zs11 ?_|refine zs12 ?_)|(apply(zs19 ?_ ?_)<;>intro _<;>try exact zo)|(apply(zs20 ?_ ?_)<;>intro _<;>try exact zo)|(apply zg14;refine zs31 ?_)|apply(zs65 ?_)|(apply ZU;exact zp)|apply(zs68 ?_)|apply(zs69 ?_)|apply(zs70 ?_)|(apply zg27;refine zs71 ?_)|apply(zs74 ?_)|apply(zs77 ?_)|apply(zs78 ?_)|apply(zs93 ?_)|apply(zs94 ?_)|fail)
   apply Yg H
   ·exact zc0
   exact zc5
def rt3(x:Clm)(i:Nat):List UInt8:=XF wordR (rtAt x.routes i)++XF YdE [x.bounds.getD i 0,x.worst.getD i 0]++XF YdF (rtAt x.slots i)
def clT(x:Clm)(k:Nat):List UInt8:=XF wordF [x.flow]++(List.range k).flatMap (rt3 x)
def Jz(c:List Clm)(k:Nat):List UInt8:=(c.take k).flatMap λx=>clT x x.routes.length
variable {x:Clm}
theorem Yn0(h:FormD x):((Ymc x).flatMap λp=>p++[10])=clT x x.routes.length:=by
 have e:∀ks:List Nat,(∀i∈ks,i<x.routes.length)->(ks.flatMap (Ymd x)).flatMap (λp=>p++[10])=ks.flatMap (rt3 x):=by
  intro ks
  induction ks with
  |nil=>simp_all
  |cons i ks ih=>
   simp_all [Ymd,rt3,XF,Go.Proofs.YtambgjgljcadlaaGreatDoor.FormD.b,Go.Proofs.YtambgjgljcadlaaGreatDoor.FormD.s]
 unfold Ymc clT
 rw[TR,e _ λi hi=>TN.1 hi]
 rfl
variable {c:List Clm}
theorem Yfv(h:∀x∈c,FormD x):Ymi c=Jz c c.length:=by
 unfold Ymi Jz
 induction c with
 |nil=>rfl
 |cons x c ih=>
  grind [Yn0]
theorem Yet{k:Nat}(h:c[k]? =some x):Jz c (k+1)=Jz c k++clT x x.routes.length:=by
 grind [Jz,TG]
theorem YhC(x:Clm)(k:Nat):clT x (k+1)=clT x k++rt3 x k:=by
 grind [clT,RD]
variable {b:Int}
theorem Wb{l:List Int}(hb:b<10000)(h:∀x∈l,0<=x/\x<=b):∀n∈l,0<=n/\n<10000:=by grind
theorem Yfw{a:Int}(ha:0<=a/\a<10000)(hb:0<=b/\b<10000):∀n∈[a,b],0<=n/\n<10000:=by simp_all
variable {i B cap:Nat}
theorem Yeq(h:FormD x)(hi:i<x.routes.length):(0<=x.bounds.getD i 0/\x.bounds.getD i 0<10000)/\(0<=x.worst.getD i 0/\x.worst.getD i 0<10000):=by
 have h1:=h.bs _ (YeU (l:=x.bounds) (i:=i) (by rw[h.b];exact hi))
 have h2:=h.ws _ (YeU (l:=x.worst) (i:=i) (by rw[h.w];exact hi))
 omega
theorem Ymf(h:FormD x)(hi:i<x.routes.length):(rt3 x i).length<=500:=by
 have h1:=h.rs i hi
 have h2:=h.ls i hi
 have h3:=Yeq h hi
 have k1:=Zb (w:=wordR) (Wb (by decide) h1.2.2)
 have k2:=Zb (w:=YdE) (Yfw h3.1 h3.2)
 have k3:=Zb (w:=YdF) (Wb (by decide) h2.2.2)
 grind [wordR,YdE,YdF,rt3]
theorem Yf1{x:Clm}(h:FormD x):∀k,k<=x.routes.length->(clT x k).length<=20+500*k
 |0,_=>by
  have k1:=Zb (w:=wordF) (l:=[x.flow]) λn hn=>by have:=h.f;grind
  grind [wordF,clT]
 |k+1,hk=>by
  have ih:=Yf1 h k (by omega)
  grind [Ymf,YhC]
theorem Yab{c:List Clm}(h:∀x∈c,FormD x):∀k,k<=c.length->(Jz c k).length<=1100*k
 |0,_=>by grind [Jz]
 |k+1,hk=>by
  have ih:=Yab h k (by omega)
  obtain⟨x,hx⟩:∃x,c[k]? =some x:=⟨_,Ta (by omega)⟩
  have hf:=h x (Tc hx)
  have h1:=Yf1 hf x.routes.length (TI _)
  have:=hf.n
  grind [Yet]
variable {w0 w:World}{H:List HP}
theorem ClM.In.here{c:ClM}(h:c.In B w0 H)(hw:St B w0 H w):c.In w.heap.size w []:=
 ⟨h.rt.here hw,λr hr=>(h.rw_ r hr).here hw,h.bd.here hw,h.ws.here hw,h.st.here hw,λr hr=>(h.sw r hr).here hw,h.ln,h.rl,h.sl⟩
variable {A:Option Addr}
theorem CIn.here{c:List ClM}(h:CIn B w0 H A c)(hw:St B w0 H w):CIn w.heap.size w [] A c:=⟨h.rd.here hw,λx hx=>(h.x x hx).here hw,h.ln⟩
structure PrM where
 i:Nat
 A:Option Addr
 cap:Nat
theorem Ym0(c:List ClM)(ht:TabsB B w0)(hc:CIn B w0 [] A c)(hw:St B w0 [] w):
 CX B w0 86 [.slice A c.length cap] w λv _=>v=.tuple #[strV (VN (c.map ClM.clm)).1,.int .i64 (VN (c.map ClM.clm)).2]:=by
 refine Ya Tryz.func86 Tryz.ntmps86 rfl rfl hw ?_
 have p1:=λ{H':List HP}{w:World}(hc:CIn B w0 H' A c) (hw:St B w0 H' w)=>YjM c (cap:=cap) hc hw
 have hcr:=hc.rd
 cases hf:YaT (c.map ClM.clm)with
 |false=>
  rw[hf]at p1
  repeat'(first|((first|apply Yb Ylu|apply Yc Ylu);exact za;exact rfl;exactλ_ hw=>(p1 (hc.mono zk) hw))|apply(zs1 ?_)|apply(zs2 ?_)|(apply zg20;refine zs48 ?_)|apply(zs65 ?_)|apply(zs68 ?_)|apply(zs69 ?_)|apply(zs70 ?_)|(apply zg27;refine zs71 ?_)|apply(zs74 ?_)|apply(zs77 ?_)|fail)
  apply YL;(iterate 3 exact rfl)
  simp_all [VN]
 |true=>
  rw[hf]at p1
  obtain⟨h16,hfd⟩:=Yh0 hf
  rw[Tv]at h16
  repeat'(first|((first|apply Yb Ylu|apply Yc Ylu);exact za;exact rfl;exactλ_ hw=>(p1 (hc.mono zk) hw))|apply(zs1 ?_)|apply(zs2 ?_)|(apply zg4;refine zs9 ?_)|(apply zg20;refine zs47 ?_)|(apply zg24;(refine zs54 ?_;intro _))|apply(zs65 ?_)|apply(zs68 ?_)|apply(zs69 ?_)|apply(zs70 ?_)|(apply zg27;refine zs72 ?_)|apply(zs73 ?_)|apply(zs76 ?_)|fail)
  rename_i gb
  refine Yh (λz:PrM=>[(14,.int .i64 (z.i:Nat)),(13,.int .i64 c.length),(12,.slice A c.length cap),(4,.pointer (some ⟨gb,0,none⟩))]) (λz=>bdP gb (if z.i=0 then .pointer none else .pointer (some ⟨gb,0,none⟩)) z.A z.cap (Jz (c.map ClM.clm) z.i) []) (λz=>z.i<=c.length) (λz=>c.length-z.i) ⟨0,none,0⟩ (Tm _) ?_ ?_ ?_
  ·exact zc1
  ·intro w hw
   have h5:St B w0 [blk gb (.cells (Value.agg #[.pointer none,.slice none 0 0]).cells 175 (0,0))] w:=hw
   exact(h5.nilSlice 5 1).perm (.swap _ _ _)
  rintro⟨k,A1,cap1⟩ hk K hK
  dsimp only at hk⊢
  have htl:=Yab hfd k (by rw[Tv];exact hk)
  by_cases hlt:k<c.length
  rotate_left
  ·obtain rfl:k=c.length:=by omega
   obtain⟨p,hp⟩:∃p,(if c.length=0 then Value.pointer none else .pointer (some ⟨gb,0,none⟩))=p:=⟨_,rfl⟩
   have hp2:p=.pointer none\/p=.pointer (some ⟨gb,0,none⟩):=by rw[<-hp];split<;>simp
   rw[hp]
   clear hK
   repeat'(first|(apply(zs17 ?_ ?_)<;>intro _<;>try exact zo)|apply(zs65 ?_)|apply(zs68 ?_)|apply(zs69 ?_)|apply(zs70 ?_)|(apply zg27;refine zs72 ?_)|apply(zs75 ?_)|apply(zs80 ?_)|apply(zs81 ?_)|fail)
   apply Ye _ en87
   exact za
   exact rfl
   exactλ_ hw=>(Oe (l:=Jz (c.map ClM.clm) c.length) hp2 (hw))
   rintro _ _ ⟨rfl,rfl⟩
   repeat'(first|apply(zs2 ?_)|apply(zs65 ?_)|apply(zs68 ?_)|apply(zs74 ?_)|fail)
   apply YL;(iterate 3 exact rfl)
   rw[VN,Tf (by rw[hf];decide),Yfv hfd,Tv]
  obtain⟨x,hx⟩:∃x,c[k]? =some x:=⟨_,Ta hlt⟩
  have hxm:=Tc hx
  have hxd:=hfd x.clm (RX hxm)
  have hxi:=hc.x x hxm
  obtain⟨p,hp⟩:∃p,(if k=0 then Value.pointer none else .pointer (some ⟨gb,0,none⟩))=p:=⟨_,rfl⟩
  have hp2:p=.pointer none\/p=.pointer (some ⟨gb,0,none⟩):=by rw[<-hp];split<;>simp
  rw[hp]
  unfold bdP
  repeat'(first|(apply zg2;refine zs6 ?_)|(apply zg3;first|refine zs7 ?_|refine zs61 ?_)|(apply zg5;refine zs57 ?_)|(apply(zs17 ?_ ?_)<;>intro _<;>try exact zo)|(apply zg22;refine zs51 ?_)|(apply zg24;(refine zs54 ?_;intro _))|(apply zg26;(refine zs56 ?_;intro _))|apply(zs65 ?_)|apply(zs68 ?_)|apply(zs69 ?_)|apply(zs70 ?_)|(apply zg27;refine zs71 ?_)|apply(zs73 ?_)|apply(zs76 ?_)|fail)
  rename_i gx gl
  have hlen1:x.clm.routes.length=x.rs.length:=by show(x.rs.map (·.xs)).length=_;exact YdL
  have hxn:=hxd.n
  rw[hlen1]at hxn
  have hbl:x.bs.length=x.rs.length:=by have:=hxd.b;rw[hlen1]at this;exact this
  have hwl:x.ws.length=x.rs.length:=by have:=hxd.w;rw[hlen1]at this;exact this
  have hsl:x.ss.length=x.rs.length:=by have:=hxd.s;rw[hlen1]at this;rw[<-this];show _=(x.ss.map (·.xs)).length;exact YdL
  have hrl:∀X,Rd B w0 (blk gl (.cells #[.int .i64 x.flow] 3 (0,0))::X) (some ⟨gl,0,none⟩) ([x.flow].flatMap numF):=λX=>Rd.blk (cs:=#[.int .i64 x.flow]) (.head _)
  have hfl:∀n∈[x.flow],0<=n/\n<10000:=λn hn=>by
   have:=hxd.f
   rw[TO.1 hn]
   exact⟨this.1,by have:=this.2;show x.clm.flow<_;omega⟩
  have hfl2:=Zb (w:=wordF) hfl
  have e1:wordF.length=4:=rfl
  simp only[TS,Rj]at hfl2
  first|apply Yb YaM|apply Yc YaM
  exact za
  exact rfl
  exactλ_ hw=>(UY wordF [x.flow] hfl (by show 1<=100;decide) (by decide) ht (hrl _) hw)
  apply Xv (bdP gb p A1 cap1 (Jz (c.map ClM.clm) k) [clA gx x])
  ·unfold bdP
   exact zc0
  apply Ye _ en83
  exact za
  exact rfl
  exactλ_ hw=>(JP gb p hp2 A1 cap1 (Jz (c.map ClM.clm) k) (XF wordF [x.flow]) (by omega) (hw))
  rintro _ _ ⟨rfl,A2,cap2,rfl⟩
  unfold bdP
  repeat'(first|apply(zs1 ?_)|(apply zg2;refine zs6 ?_)|(apply zg3;refine zs7 ?_)|(apply zg4;refine zs9 ?_)|apply(zs65 ?_)|apply(zs68 ?_)|apply(zs69 ?_)|apply(zs70 ?_)|apply(zs73 ?_)|fail)
  refine Yh (λz:PrM=>[(26,.int .i64 (z.i:Nat)),(25,.int .i64 x.rs.length),(24,.slice x.rA x.rs.length x.rcap),(6,.pointer (some ⟨gx,0,none⟩)),(14,.int .i64 (k:Nat)),(13,.int .i64 c.length),(12,.slice A c.length cap),(4,.pointer (some ⟨gb,0,none⟩))]) (λz=>bdP gb (.pointer (some ⟨gb,0,none⟩)) z.A z.cap (Jz (c.map ClM.clm) k++clT x.clm z.i) [clA gx x]) (λz=>z.i<=x.rs.length) (λz=>x.rs.length-z.i) ⟨0,A2,cap2⟩ (Tm _) ?_ ?_ ?_
  ·exact zc1
  ·have e0:clT x.clm 0=XF wordF [x.flow]:=by unfold clT;simp;rfl
   rw[e0]
   unfold bdP
   exact YfB
  rintro⟨j,A3,cap3⟩ hj K2 hK2
  dsimp only at hj⊢
  have hcl2:=Yf1 hxd j (by rw[hlen1];exact hj)
  unfold bdP
  by_cases hjl:j<x.rs.length
  rotate_left
  ·obtain rfl:j=x.rs.length:=by omega
   clear hK2
   have hst:Jz (c.map ClM.clm) (k+1)=Jz (c.map ClM.clm) k++clT x.clm x.rs.length:=by
    rw[Yet (x:=x.clm) (by rw[TM,hx];rfl),hlen1]
   rw[<-hst]
   repeat'(first|apply(zs1 ?_)|(apply(zs17 ?_ ?_)<;>intro _<;>try exact zo)|(apply zg13;refine zs30 ?_)|apply(zs65 ?_)|apply(zs68 ?_)|apply(zs69 ?_)|apply(zs70 ?_)|(apply zg27;refine zs72 ?_)|apply(zs75 ?_)|apply(zs79 ?_)|apply(zs80 ?_)|apply(zs81 ?_)|fail)
   apply hK ⟨k+1,A3,cap3⟩
   ·show k+1<=c.length
    omega
   ·exact zc36
   ·exact zc1
   ·dsimp only
    rw[Tf (Nat.succ_ne_zero k)]
    unfold bdP
    exact zc0
  obtain⟨r,hr⟩:∃r,x.rs[j]? =some r:=⟨_,Ta hjl⟩
  obtain⟨z,hz⟩:∃z,x.ss[j]? =some z:=⟨_,Ta (by omega)⟩
  obtain⟨bv,hbv⟩:∃b,x.bs[j]? =some b:=⟨_,Ta (by omega)⟩
  obtain⟨wv,hwv⟩:∃b,x.ws[j]? =some b:=⟨_,Ta (by omega)⟩
  have hrm:=Tc hr
  have hzm:=Tc hz
  have hjc:j<x.clm.routes.length:=by omega
  have g1:rtAt x.clm.routes j=r.xs:=UL hr
  have g2:rtAt x.clm.slots j=z.xs:=UL hz
  have g3:x.clm.bounds.getD j 0=bv:=by show x.bs.getD j 0=bv;rw[Tu,hbv];rfl
  have g4:x.clm.worst.getD j 0=wv:=by show x.ws.getD j 0=wv;rw[Tu,hwv];rfl
  have n1:=hxd.rs j hjc
  have n2:=hxd.ls j hjc
  have n3:=Yeq hxd hjc
  have hr3:=Ymf hxd hjc
  have hst:=YhC x.clm j
  unfold rt3 at hr3 hst
  rw[g1,g2,g3,g4]at hr3 hst
  rw[g1]at n1
  rw[g2]at n2
  rw[g3,g4]at n3
  have m1:=Wb (b:=31) (by decide) n1.2.2
  have m2:=Wb (b:=511) (by decide) n2.2.2
  have m3:=Yfw n3.1 n3.2
  have l1:=λ{H':List HP}{w:World}(hr:Rd B w0 H' r.A (r.xs.flatMap numF)) (hw:St B w0 H' w)=>UY wordR r.xs m1 (by omega) (by decide) (cap:=r.cap) ht hr hw
  have l2:=λ{g:Nat}{cap:Nat}{H':List HP}{w:World}(hm:blk g (.cells #[.int .i64 bv,.int .i64 wv] 3 (0,0))∈H') (hw:St B w0 H' w)=>UY YdE [bv,wv] m3 (by show 2<=100;decide) (by decide) (A:=some ⟨g,0,none⟩) (cap:=cap) ht (show Rd B w0 H' _ ([bv,wv].flatMap numF) from Rd.blk hm) hw
  have l3:=λ{H':List HP}{w:World}(hr:Rd B w0 H' z.A (z.xs.flatMap numF)) (hw:St B w0 H' w)=>UY YdF z.xs m2 (by omega) (by decide) (cap:=z.cap) ht hr hw
  obtain⟨s1,hs1⟩:∃s,XF wordR r.xs=s:=⟨_,rfl⟩
  obtain⟨s2,hs2⟩:∃s,XF YdE [bv,wv]=s:=⟨_,rfl⟩
  obtain⟨s3,hs3⟩:∃s,XF YdF z.xs=s:=⟨_,rfl⟩
  rw[hs1]at l1 hr3 hst
  rw[hs2]at l2 hr3 hst
  rw[hs3]at l3 hr3 hst
  rw[To,To]at hr3
  have hrr:=hxi.rt
  have hbr:=hxi.bd
  have hwr:=hxi.ws
  have hsr:=hxi.st
  repeat'(first|apply(zs1 ?_)|apply(zs2 ?_)|(apply zg3;refine zs60 ?_)|(apply zg5;refine zs57 ?_)|(apply(zs17 ?_ ?_)<;>intro _<;>try exact zo)|apply(zs65 ?_)|apply(zs68 ?_)|apply(zs69 ?_)|apply(zs70 ?_)|(apply zg27;refine zs71 ?_)|apply(zs73 ?_)|apply(zs76 ?_)|fail)
  apply Je (.n1 0 (.n1 2 (.n1 3 (.n1 4 (.n1 5 (.n1 6 (.n1 7 (.n1 8 (.n1 9 (.n1 10 (.n1 11 (.n1 15 (.n1 16 (.n1 17 (.n1 18 (.n1 19 (.n2 1 (.n1 12 (.n1 13 (.n1 14 (.n1 20 (.n1 21 .done))))) 12 (.n1 1 (.n1 13 (.n1 14 (.n1 20 (.n1 21 .done)))))))))))))))))))))) [22] [false,false,true]
  kernel_rfl
  kernel_rfl
  exact zy
  (simp only[Yd,nthO];rfl)
  repeat'(first|apply(zs1 ?_)|(apply zg2;refine zs6 ?_)|(apply zg3;first|refine zs7 ?_|refine zs60 ?_)|(apply zg5;refine zs57 ?_)|(apply zg26;(refine zs56 ?_;intro _))|apply(zs65 ?_)|(apply ZU;exact zp)|apply(zs87 ?_)|(apply Yj;try exact zl)|apply(zs90 ?_)|apply(zs91 ?_ ?_)|(apply YW;try exact zl)|fail)
  all_goals(
   first|apply Yb YaM|apply Yc YaM
   exact za
   exact rfl
   exactλ_ hw=>(l1 ((hxi.rw_ r hrm).mono zk) hw)
   repeat'(first|(apply zg26;(refine zs56 ?_;intro _))|apply(zs65 ?_)|(apply ZU;exact zp)|apply(zs87 ?_)|(apply Yj;try exact zl)|apply(zs90 ?_)|(apply YW;try exact zl)|fail)
   first|apply Yb YaM|apply Yc YaM
   exact za
   exact rfl
   exactλ_ hw=>(l2 zm hw)
   repeat'(first|(apply UQ s1 s2;(iterate 3 exact rfl);omega)|apply(zs65 ?_)|(apply ZU;exact zp)|apply(zs87 ?_)|(apply Yj;try exact zl)|apply(zs90 ?_)|(apply YW;try exact zl)|fail)
   first|apply Yb YaM|apply Yc YaM
   exact za
   exact rfl
   exactλ_ hw=>(l3 ((hxi.sw z hzm).mono zk) hw)
   repeat'(first|(apply UQ (s1++s2) s3;(iterate 3 exact rfl);(rw[To];omega))|apply(zs65 ?_)|(apply ZU;exact zp)|(apply Yj;try exact zl)|(apply Ylc;exact zp)|apply(zs90 ?_)|(apply YW;try exact zl)|apply(zs93 ?_)|fail)
   apply Xv (bdP gb (.pointer (some ⟨gb,0,none⟩)) A3 cap3 (Jz (c.map ClM.clm) k++clT x.clm j) [clA gx x])
   ·unfold bdP
    exact zk
   apply Ye _ en83
   exact za
   exact rfl
   exactλ_ hw=>(JP gb _ (.inr rfl) A3 cap3 (Jz (c.map ClM.clm) k++clT x.clm j) (s1++s2++s3) (by rw[To,To,To];omega) (hw))
   rintro _ _ ⟨rfl,A4,cap4,rfl⟩
   repeat'(first|apply(zs1 ?_)|(apply zg13;refine zs30 ?_)|apply(zs65 ?_)|apply(zs68 ?_)|apply(zs70 ?_)|apply(zs79 ?_)|apply(zs94 ?_)|fail)
   apply hK2 ⟨j+1,A4,cap4⟩
   ·show j+1<=x.rs.length
    omega
   ·dsimp only;omega
   ·exact zu
   ·dsimp only
    intro w hw
    rw[hst,show Jz (c.map ClM.clm) k++(clT x.clm j++(s1++s2++s3))=Jz (c.map ClM.clm) k++clT x.clm j++(s1++s2++s3) from(Ru _ _ _).symm]
    exact hw)
theorem YhI(c:List ClM)(ht:TabsB B w0)(hc:CIn B w0 H A c)(hw:St B w0 H w):
 CX B w0 86 [.slice A c.length cap] w λv K=>v=.tuple #[strV (VN (c.map ClM.clm)).1,.int .i64 (VN (c.map ClM.clm)).2]/\K=H:=
 WJ hw (Ym0 c (ht.here hw) (hc.here hw) (St.start w))
def slC(len:Int)(cs:List Cel)(a:Int):Nat:=(cs.filter λc=>decide (c.1=a.tmod len)).length
def cntS(len:Int)(cs:List Cel):Nat->Int->Nat
 |0,_=>0
 |m+1,a=>slC len cs a+cntS len cs m (a+1)
theorem Yqy(len:Int)(c:Cel)(cs:List Cel)(a:Int):slC len (c::cs) a=(if c.1=a.tmod len then 1 else 0)+slC len cs a:=by
 unfold slC
 rw[SO]
 by_cases h:c.1=a.tmod len
 ·rw[Tj (Ti h),Tj h,TS];omega
 ·rw[Tf (by simpa using h),Tf h];omega
theorem Qc(len a:Int):∀(cs:List Cel) (k:Nat),(Xd len a cs k).length=min k (slC len cs a)
 |[],k=>by simp[Xd,slC]
 |c::cs,k=>by
  rw[Yqy]
  unfold Xd
  by_cases h:c.1=a.tmod len
  ·by_cases hk:k=0
   ·subst hk
    rw[Tf (λe=>e.2 rfl),Yn7];simp
   ·rw[Tj ⟨h,hk⟩,Tj h,TS,Qc len a cs (k-1)];omega
  ·rw[Tf (λe=>h e.1),Tf h,Qc len a cs k];omega
theorem YhF(len:Int)(cs:List Cel):∀(m k:Nat) (a:Int),cntS len cs (m+k) a=cntS len cs m a+cntS len cs k (a+m)
 |0,k,a=>by simp[cntS]
 |m+1,k,a=>by
  rw[show m+1+k=(m+k)+1 by omega,cntS,YhF len cs m k (a+1),cntS]
  rw[show a+1+(m:Int)=a+((m+1:Nat):Int) by omega]
  omega
variable {a b y:Int}
theorem YmY(len:Int)(cs:List Cel){z:Int}(h1:a<=b)(h2:b<=z):cntS len cs (z-b).toNat b<=cntS len cs (z-a).toNat a:=by
 obtain⟨x,hx⟩:∃x:Nat,b=a+x:=⟨(b-a).toNat,by omega⟩
 obtain⟨y,hy⟩:∃y:Nat,z=b+y:=⟨(z-b).toNat,by omega⟩
 rw[show(z-b).toNat=y by omega,show(z-a).toNat=x+y by omega,YhF,hx]
 omega
theorem Qn(x r:List (Cel×Int))(a:Int):Yu (x++r) a=Yu r (Yu x a):=by
 unfold Yu
 rw[List.getLast?_append]
 cases r.getLast?<;>rfl
theorem Yo1{x:List (Cel×Int)}(h:Yu x a<=y)(hb:b<=y):Yu x b<=y:=by
 unfold Yu at h⊢
 cases hx:x.getLast? with
 |none=>exact hb
 |some z=>rw[hx]at h;exact h
theorem Yh4{len:Int}{cs:List Cel}:∀(f k:Nat) (a y:Int),a<=y->y<=a+f->k<=cntS len cs (y-a).toNat a->(hopP len cs f k a).length=k/\Yu (hopP len cs f k a) a<=y
 |0,k,a,y,h1,h2,h3=>by
  obtain rfl:y=a:=by omega
  rw[show(y-y).toNat=0 by omega]at h3
  obtain rfl:k=0:=by simpa [cntS]using h3
  exact⟨rfl,h1⟩
 |f+1,k,a,y,h1,h2,h3=>by
  by_cases hk:k=0
  ·subst hk
   rw[Yh5]
   exact⟨rfl,h1⟩
  have hlt:a<y:=by
   by_cases e:a=y
   ·subst e
    rw[show(a-a).toNat=0 by omega]at h3
    simp[cntS]at h3
    omega
   ·omega
  rw[show(y-a).toNat=(y-(a+1)).toNat+1 by omega,cntS]at h3
  have hs:=Qc len a cs k
  obtain⟨e1,e2⟩:=Yh4 (len:=len) (cs:=cs) f (k-(Xd len a cs k).length) (a+1) y (by omega) (by omega) (by omega)
  rw[hopP,To,e1,Qn]
  refine⟨by omega,Yo1 e2 ?_⟩
  unfold Yu
  cases hx:(Xd len a cs k).getLast? with
  |none=>exact h1
  |some z=>have:=UN (NP hx);simp only[];omega
def WayT(len:Int)(C:Lk->List Cel):List Lk->Int->Int->Prop
 |[],a,y=>a<=y
 |l::ls,a,y=>∃z,a<=z/\YN l<=cntS len (C l) (z-a).toNat a/\WayT len C ls z y
variable {C:Lk->List Cel}
theorem WayT.le{len:Int}:∀{ls:List Lk}{a y:Int},WayT len C ls a y->a<=y
 |[],_,_,h=>h
 |_::_,_,_,⟨_,h1,_,h3⟩=>Int.le_trans h1 h3.le
theorem Ymj{len:Int}{C:Lk->List Cel}{endd:Int}:∀{ls:List Lk}{a a' y:Int},WayT len C ls a y->a'<=a->y<=endd->(runP len C endd ls a').length=Xi ls/\Yu (runP len C endd ls a') a'<=y
 |[],a,a',y,h,h1,_=>⟨rfl,Int.le_trans h1 h⟩
 |l::ls,a,a',y,⟨z,h1,h2,h3⟩,h4,h5=>by
  have hz:=h3.le
  obtain⟨e1,e2⟩:=Yh4 (len:=len) (cs:=C l) (endd-a').toNat (YN l) a' z (by omega) (by omega) (TU h2 (YmY len (C l) h4 h1))
  obtain⟨i1,i2⟩:=Ymj (endd:=endd) h3 e2 h5
  unfold runP
  rw[Tf (by omega),To,Qn,e1,i1]
  exact⟨by unfold Xi;rw[Rh,NI],i2⟩
theorem WayT.mono{len:Int}{D:Lk->List Cel}(h:∀l a,slC len (C l) a<=slC len (D l) a):∀{ls:List Lk}{a y:Int},WayT len C ls a y->WayT len D ls a y
 |[],_,_,hw=>hw
 |l::ls,a,y,⟨z,h1,h2,h3⟩=>by
  refine⟨z,h1,TU h2 ?_,h3.mono h⟩
  have:∀(m:Nat) (a:Int),cntS len (C l) m a<=cntS len (D l) m a:=λm=>by
   induction m with
   |zero=>exactλ_=>TI _
   |succ m ih=>intro a;have:=ih (a+1);have:=h l a;rw[cntS,cntS];omega
  exact this _ _
theorem Yli{S:Int->Option (List Int)}{len per d:Int}(hp:1<=per):∀{fuel:Nat}{rel:Int}{b:Int×Int×List Int},b.1<=d->(∀i:Nat,rel+i*per<len->∃l,S (rel+i*per)=some l/\Ja l-(rel+i*per)+1<=d)->∃r,V6 S len per fuel rel b=some r/\r.1<=d
 |0,rel,b,hb,_=>⟨b,rfl,hb⟩
 |fuel+1,rel,b,hb,h=>by
  rw[V6]
  by_cases hle:len<=rel
  ·rw[Tj hle];exact⟨b,rfl,hb⟩
  rw[Tf hle]
  obtain⟨l,h1,h2⟩:=h 0 (by simp;omega)
  have h1:S rel=some l:=by simpa using h1
  have h2:Ja l-rel+1<=d:=by simpa using h2
  rw[h1]
  refine Yli hp ?_ λi hi=>?_
  ·split
   ·exact h2
   ·exact hb
  ·have e:rel+((i+1:Nat):Int)*per=rel+per+(i:Int)*per:=by
    rw[show((i+1:Nat):Int)=(i:Int)+1 by omega,Mc];omega
   have:=h (i+1) (by rw[e];exact hi)
   rw[e]at this
   exact this
theorem Yok{n:Net}{s:Sch}{f:Flw}{r:List Int}{rel:Int}(hne:Yq n r≠[])(hloss:∀x∈Yq n r,0<=x.2.2)(hy:y<=rel+f.2.2.2.1)(h:WayT s.len (YZ s f.1) (Yq n r) rel y):
 ∃l,VY n s f r rel=some l/\Ja l-rel+1<=y-rel:=by
 obtain⟨h1,h2⟩:=Ymj (endd:=rel+f.2.2.2.1) h (RI _) hy
 refine⟨(runP s.len (YZ s f.1) (rel+f.2.2.2.1) (Yq n r) rel).map Prod.snd,?_,?_⟩
 ·unfold VY
  rw[YbI,Tf (by omega)]
 ·have hn:1<=Xi (Yq n r):=by
   cases hl:Yq n r with
   |nil=>exact absurd hl hne
   |cons x xs=>
    have:=hloss x (by rw[hl];simp)
    unfold Xi
    rw[Rh,NI]
    unfold YN
    omega
  have:=YcV (x:=runP s.len (YZ s f.1) (rel+f.2.2.2.1) (Yq n r) rel) (a:=rel) (λe=>by rw[e]at h1;simp at h1;omega)
  omega
end Go.Proofs.YtambgjgljcadlaaGreatDoor
