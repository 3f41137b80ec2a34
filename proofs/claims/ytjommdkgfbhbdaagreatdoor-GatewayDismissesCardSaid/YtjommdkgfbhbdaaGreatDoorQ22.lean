/- Lemmas. -/
import Derived.Test.YtjommdkgfbhbdaaGreatDoorQ21
set_option maxRecDepth 100000
set_option maxHeartbeats 8000000
set_option linter.all false
namespace Go.Proofs.YtjommdkgfbhbdaaGreatDoor
open Go.RowKit Go.Eng Go.Nw Go.Rt
def sumR(f:Nat->Int):Nat->Int
 |0=>0
 |n+1=>sumR f n+f n
theorem O4{f g:Nat->Int}:∀{n:Nat},(∀i,i<n->f i=g i)->sumR f n=sumR g n
 |0,_=>rfl
 |n+1,h=>by rw[sumR,sumR,O4 λi hi=>h i (by omega),h n (by omega)]
theorem Yfq{f:Nat->Int}{n:Nat}:∀{d:Nat},(∀i,n<=i->i<n+d->f i=0)->sumR f (n+d)=sumR f n
 |0,_=>rfl
 |d+1,h=>by
  rw[<-Nat.add_assoc,sumR,Yfq λi h1 h2=>h i h1 (by omega),h (n+d) (by omega) (by omega),NA]
theorem O5{f:Nat->Int}:∀{n:Nat},sumR f (n+1)=f 0+sumR (λi=>f (i+1)) n
 |0=>by simp[sumR]
 |n+1=>by rw[sumR,O5,sumR];omega
theorem YiC:∀(n a:Nat),(popN n a:Int)=sumR (λk=>if a.testBit k=true then 1 else 0) n
 |0,_=>rfl
 |n+1,a=>by
  rw[O5]
  have h:=YiC n (a/2)
  have h2:(λk=>if(a/2).testBit k=true then(1:Int)else 0)=λk=>if a.testBit (k+1)=true then 1 else 0:=by
   funext k
   rw[Nat.testBit_div_two]
  rw[h2]at h
  rw[<-h,Nat.testBit_zero,show popN (n+1) a=a%2+popN n (a/2) from rfl]
  rcases Nat.mod_two_eq_zero_or_one a with e|e
  ·rw[e,Tf (by decide)];simp
  ·rw[e,To (by decide)];simp
theorem Yqg(l:List Int):sumP l=sumR (λi=>popX (IntKind.u64.wrap (l.getD i 0))) l.length:=by
 induction l with
 |nil=>rfl
 |cons x l ih=>
  rw[Rf,O5]
  unfold sumP
  rw[ih];rfl
def UD(cs:List Cel)(i k:Nat):Bool:=cs.any λc=>decide (c.1=i)&&decide (c.2.1=k)
def cntE(s:Sch):Int:=sumR (λi=>sumR (λk=>if UD s.cells i k=true then 0 else 1) s.off.toNat) s.len.toNat
theorem YjC{a o:Nat}(ha:a<65536)(ho:o<16):∃b:Nat,bits .andNot .i64 (a:Int) (pow1 o)=(b:Int)/\b<65536/\∀k,b.testBit k=(a.testBit k&&!decide (o=k)):=by
 have e0:pow1 (o:Int)=((2^o:Nat):Int):=by
  have key:∀n:Nat,n<16->pow1 (n:Int)=((2^n:Nat):Int):=by decide+kernel
  exact key o ho
 have hlt:2^o<2^16:=Nat.pow_lt_pow_right (by omega) ho
 have e1:(BitVec.ofInt 64 (a:Int)).toNat=a:=by rw[SY,Nh];exact SL (by omega)
 have e2:(BitVec.ofInt 64 ((2^o:Nat):Int)).toNat=2^o:=by rw[SY,Nh];exact SL (by omega)
 obtain⟨X,hX⟩:∃X,(~~~BitVec.ofInt 64 ((2^o:Nat):Int)).toNat=X:=⟨_,rfl⟩
 have hXb:∀k,k<64->X.testBit k=!decide (o=k):=λk hk=>by
  rw[<-hX,BitVec.testBit_toNat,BitVec.getLsbD_not,Ti hk,RN,<-BitVec.testBit_toNat,e2,Nat.testBit_two_pow]
 have h2:a&&&X<=a:=Nat.and_le_left
 refine⟨a&&&X,?_,by omega,λk=>?_⟩
 ·rw[e0]
  show IntKind.i64.wrap ((BitVec.ofInt 64 (a:Int)&&&~~~BitVec.ofInt 64 ((2^o:Nat):Int)).toNat:Int)=_
  rw[BitVec.toNat_and,e1,hX,IntKind.wrap_i64]
  omega
 ·rw[Nat.testBit_and]
  by_cases hk:k<64
  ·rw[hXb k hk]
  ·have:a.testBit k=false:=Nat.testBit_lt_two_pow (Nat.lt_of_lt_of_le ha (Nat.pow_le_pow_right (n:=2) (i:=16) (by omega) (by omega)))
   rw[this];simp
theorem Ye2{off:Nat}(hoff:off<=16):∀(cs:List Cel) (len:Nat) (m:List Int) (used:Nat->Nat->Bool),m.length=len->(∀c∈cs,(0<=c.1/\c.1<len)/\(0<=c.2.1/\c.2.1<16))->
 (∀i,i<len->∃a:Nat,m.getD i 0=a/\a<65536/\∀k,a.testBit k=(decide (k<off)&&!used i k))->
 ∀i,i<len->∃a:Nat,(cs.foldl Zj m).getD i 0=a/\a<65536/\∀k,a.testBit k=(decide (k<off)&&!(used i k||UD cs i k))
 |[],len,m,used,_,_,h,i,hi=>by
  obtain⟨a,h1,h2,h3⟩:=h i hi
  exact⟨a,h1,h2,λk=>by rw[h3];simp[UD]⟩
 |c::cs,len,m,used,hm,hc,h,i,hi=>by
  obtain⟨hc1,hc2⟩:=hc c (by simp)
  obtain⟨s,hs⟩:∃s:Nat,c.1=s:=⟨c.1.toNat,by omega⟩
  obtain⟨o,ho⟩:∃o:Nat,c.2.1=o:=⟨c.2.1.toNat,by omega⟩
  have h2:=Ye2 hoff cs len (Zj m c) (λi k=>used i k||(decide (s=i)&&decide (o=k))) (by rw[Yii];exact hm) (λx hx=>hc x (TK _ hx)) (λj hj=>by
   obtain⟨a,h1,h2,h3⟩:=h j hj
   unfold Zj
   rw[hs,ho,Rm]
   by_cases e:s=j
   ·subst e
    obtain⟨b,b1,b2,b3⟩:=YjC (o:=o) h2 (by omega)
    refine⟨b,?_,b2,λk=>?_⟩
    ·rw[TB,Nc (by omega),Option.getD_some,h1]
     exact b1
    ·rw[b3,h3]
     cases used s k<;>cases hd:decide (o=k)<;>simp_all
   ·refine⟨a,?_,h2,λk=>?_⟩
    ·rw[TB,List.getElem?_set_ne e,<-TB];exact h1
    ·rw[h3,Tn e];simp) i hi
  obtain⟨a,a1,a2,a3⟩:=h2
  refine⟨a,a1,a2,λk=>?_⟩
  rw[a3]
  unfold UD
  rw[NE,hs,ho]
  have e1:decide ((s:Int)=(i:Int))=decide (s=i):=decide_eq_decide.2 ⟨λh=>by omega,λh=>by omega⟩
  have e2:decide ((o:Int)=(k:Int))=decide (o=k):=decide_eq_decide.2 ⟨λh=>by omega,λh=>by omega⟩
  rw[e1,e2,Bool.or_assoc]
theorem Yj9{s:Sch}(h:Xh s=true):sumP (XT s)=cntE s:=by
 have hfr:=Xm.1 h
 have hsz:1<=s.len/\s.len<=512/\1<=s.off/\s.off<=16:=TI hfr.sized
 obtain⟨n,hn⟩:∃n:Nat,s.len=n:=⟨s.len.toNat,by omega⟩
 obtain⟨o,ho⟩:∃o:Nat,s.off=o:=⟨s.off.toNat,by omega⟩
 have hcs:∀c∈s.cells,(0<=c.1/\c.1<n)/\(0<=c.2.1/\c.2.1<16):=λc hc=>by
  have hform:=hfr.formed c hc
  unfold XA XB insE at hform
  simp only[Tq,Tm]at hform
  have h1:=hform.1.1.1.1
  have h2:=hform.1.1.1.2
  omega
 have hbits:=Ye2 (off:=o) (by omega) s.cells n (List.replicate s.len.toNat (pow1 s.off-1)) (λ_ _=>false) (by rw[TR];omega) hcs (λi hi=>by
  refine⟨2^o-1,?_,?_,λk=>?_⟩
  ·rw[TB,List.getElem?_replicate,To (by omega),ho]
   have key:∀m:Nat,m<17->pow1 (m:Int)-1=((2^m-1:Nat):Int):=by decide+kernel
   exact key o (by omega)
  ·have:2^o<=2^16:=Nat.pow_le_pow_right (by omega) (by omega)
   omega
  ·rw[Nat.testBit_two_pow_sub_one];simp)
 have hlen:(XT s).length=n:=by
  unfold XT
  rw[Zd,TR]
  omega
 rw[Yqg,hlen]
 unfold cntE
 rw[hn,ho,Rm,Rm]
 refine O4 λi hi=>?_
 obtain⟨a,h1,h2,h3⟩:=hbits i hi
 rw[show(XT s).getD i 0=a from h1,YlV (by omega),Yvz h2,YiC]
 have h4:sumR (λk=>if a.testBit k=true then(1:Int)else 0) (o+(16-o))=sumR (λk=>if a.testBit k=true then(1:Int)else 0) o:=Yfq λk h5 _=>by
  rw[h3,Tn (by omega)];simp
 rw[show o+(16-o)=16 by omega]at h4
 rw[h4]
 refine O4 λk hk=>?_
 rw[h3,Ti hk]
 cases UD s.cells i k<;>simp
def exN6:Net:=⟨2,[[0,40],[40,0]],1,2000,[(0,1,0),(1,0,0)],[20,20]⟩
def exL6:Lop:=(2,1,0,1,8,0,15)
def exP6:Pln:=⟨exN6,[],⟨8,1,[]⟩,[],[1,1,1,1,1,1,1,1]⟩
def exFa:Flw:=(4,1,0,8,0,1)
def exFb:Flw:=(5,0,1,8,1,7)
def exQa:Pln:=⟨exN6,[(exFa,[[1,0]])],⟨8,1,[(0,0,1,0,4)]⟩,[⟨4,[[1,0]],[1],[0],[[0]]⟩],[0,1,1,1,1,1,1,1]⟩
def exQb:Pln:=⟨exN6,[(exFa,[[1,0]]),(exFb,[[0,1]])],⟨8,1,[(0,0,1,0,4),(1,0,0,1,5)]⟩,[⟨4,[[1,0]],[1],[0],[[0]]⟩,⟨5,[[0,1]],[1],[1],[[0]]⟩],[0,0,1,1,1,1,1,1]⟩
theorem Ycy:Jx exN6=exA5:=by decide
theorem YjT:Yk9 100000 exN6 1 0=some (none,17):=by
 have h:(Ov 100000 2 exA5 0 1 0 (λ_=>false)).map (λr=>r.2.1)=some false:=by decide
 have hp:YlH 100000 2 exA5 1 0=some none:=by
  cases hb:Ov 100000 2 exA5 0 1 0 (λ_=>false)with
  |none=>simp_all
  |some r=>
   rfl
 exact Yuu
theorem YeL:VR exN6 exFa=(none,17):=by
 grind [VR,exFa,YjT]
theorem Ycz:reqE exN6 exFa=((exFa,[[1,0]]),0):=by
 have hr:Wa exN6 1 0=[1,0]:=by
  unfold Wa
  rw[Ycy,show exN6.nodes.toNat=2 from rfl,Ycn (far:=[0,34]) (by decide) (by decide)]
  decide
 have hs:Zw exN6 1 0=([1,0],0):=by
  unfold Zw
  rw[hr]
  decide
 grind [reqE,YeL,J6,exFa]
theorem YjU:J3 exN6 [exFa]=([(exFa,[[1,0]])],(-1,0)):=by
 have h1:Ydo exN6 [exFa]=(-1,0):=by
  grind [Ydo,Yz,Y4,Ycz]
 unfold J3
 rw[h1,Tf (by decide),Tf (by decide),Tf (by decide),RI,Nv,Ycz]
theorem YhE:extP exP6 exFa=(some exQa,0):=by
 unfold extP
 rw[Tf (by decide),Tf (by decide),Tf (by decide),Tf (by decide)]
 rw[show(exP6).n=exN6 from rfl,YjU,Tf (by decide),Ycz,To (by decide)]
 rfl
theorem YjV:Yk9 100000 exN6 0 1=some (none,17):=by
 have h:(Ov 100000 2 exA5 0 0 1 (λ_=>false)).map (λr=>r.2.1)=some false:=by decide
 have hp:YlH 100000 2 exA5 0 1=some none:=by
  grind [YlH]
 exact Yuu
theorem YeM:VR exN6 exFb=(none,17):=by
 grind [VR,exFb,YjV]
theorem YcA:reqE exN6 exFb=((exFb,[[0,1]]),0):=by
 have hr:Wa exN6 0 1=[0,1]:=by
  unfold Wa
  rw[Ycy,show exN6.nodes.toNat=2 from rfl,Ycn (far:=[34,0]) (by decide) (by decide)]
  decide
 have hs:Zw exN6 0 1=([0,1],0):=by
  unfold Zw
  rw[hr]
  decide
 grind [reqE,YeM,J6,exFb]
theorem YjW:J3 exN6 [exFb]=([(exFb,[[0,1]])],(-1,0)):=by
 have h1:Ydo exN6 [exFb]=(-1,0):=by
  grind [Ydo,Yz,Y4,YcA]
 unfold J3
 rw[h1,Tf (by decide),Tf (by decide),Tf (by decide),RI,Nv,YcA]
theorem YhF:extP exQa exFb=(some exQb,0):=by
 unfold extP
 rw[Tf (by decide),Tf (by decide),Tf (by decide),Tf (by decide)]
 rw[show(exQa).n=exN6 from rfl,YjW,Tf (by decide),YcA,To (by decide)]
 rfl
def exG6:Gwy:=⟨exP6,[],[]⟩
def exH6:Gwy:=⟨exQb,[exL6],[(1,7)]⟩
theorem YhD:Wh exP6 exL6 (1,7)=some exQb:=by
 grind [Wh,Zz,exL6,exFa,Zi,exFb,YhE,YhF]
theorem YrC:chkG exG6=0:=by decide
theorem YrB:admG exG6 exL6=(some exH6,0):=by
 unfold admG
 rw[show ZJ exL6=(1,7)::(ZJ exL6).tail from rfl]
 unfold tryG
 rw[show(exG6).p=exP6 from rfl,YhD]
 rfl
theorem YmV:admG exH6 exL6=(none,6):=by
 unfold admG
 rw[Tf (by decide),To (by decide)]
theorem Ylx:ageG exH6 2=(9,0):=by
 unfold ageG
 rw[Tf (by decide),Tf (by decide)]
 decide
variable {A A2:Option Addr}{cap cap2 B:Nat}{w0 w:World}{H:List HP}
theorem Ygr(l:List Int)(hlen:l.length<=1000000000000)(hr:Rd B w0 H A (l.flatMap numF))(hr2:Rd B w0 H A2 (l.flatMap numF))(hw:St B w0 H w):
 CX B w0 59 [.slice A l.length cap,.slice A2 l.length cap2] w λu K=>u=.bool true/\K=H:=by
 refine Ya Tryz.func59 Tryz.ntmps59 rfl rfl hw ?_
 refine zX0 ?_<;>intros
 refine Ye (λ(k:Nat)=>[(5,.int .i64 k),(0,.slice A l.length cap),(1,.slice A2 l.length cap2)]) (λ_=>H) (λk=>k<=l.length) (λk=>l.length-k) 0 (Td _) ?_ (λw hw=>hw) ?_
 ·exact zc1
 rintro k hk K hK
 by_cases hlt:k<l.length
 ·obtain⟨a,ha⟩:∃a,l[k]? =some a:=⟨_,Ta hlt⟩
  refine zX50 ?_<;>intros
  apply hK (k+1)
  ·omega
  ·omega
  ·exact zc1
  exact zc18
 ·refine zX1 ?_<;>intros
  exact zc9
theorem Ygt(q q2:List RqM)(he:q.map RqM.rq=q2.map RqM.rq)(hq:QIn B w0 H A q)(hq2:QIn B w0 H A2 q2)(hw:St B w0 H w):
 CX B w0 56 [.slice A q.length cap,.slice A2 q2.length cap2] w λu K=>u=.bool true/\K=H:=by
 refine Ya Tryz.func56 Tryz.ntmps56 rfl rfl hw ?_
 have hll:q.length=q2.length:=by simpa using TA List.length he
 have hr:=hq.rd
 have hr2:=hq2.rd
 have hln:=hq.ln
 refine zX0 ?_<;>intros
 refine Ye (λ(k:Nat)=>[(5,.int .i64 k),(0,.slice A q.length cap),(1,.slice A2 q2.length cap2)]) (λ_=>H) (λk=>k<=q.length) (λk=>q.length-k) 0 (Td _) ?_ (λw hw=>hw) ?_
 ·exact zc1
 rintro k hk K hK
 by_cases hlt:k<q.length
 ·obtain⟨a,ha⟩:∃a,q[k]? =some a:=⟨_,Ta hlt⟩
  obtain⟨b,hb⟩:∃b,q2[k]? =some b:=⟨_,Ta (by omega)⟩
  have hab:a.rq=b.rq:=by
   have h1:(q.map RqM.rq)[k]? =some a.rq:=by simp[ha]
   have h2:(q2.map RqM.rq)[k]? =some b.rq:=by simp[hb]
   rw[he,h2]at h1
   exact(Tz h1).symm
  have hf:b.f=a.f:=(TA Prod.fst hab).symm
  have hrs:a.rows.map (·.xs)=b.rows.map (·.xs):=TA Prod.snd hab
  have hai:=hq.x a (Tc ha)
  have hbi:=hq2.x b (Tc hb)
  have p1:=λ{H':List HP}{w:World}(hai:a.In B w0 H') (hbi:b.In B w0 H') (hw:St B w0 H' w)=>Wo a.rows b.rows hai.ln hbi.ln (λr hr=>(hai.rl r hr).1) (λr hr=>(hbi.rl r hr).1) (cap:=a.cap) (cap2:=b.cap) hai.rt hbi.rt hai.rw_ hbi.rw_ hw
  rw[Ti hrs]at p1
  repeat'(first|(apply Vn T (vs:=[.int .i64 a.f.1,.int .i64 a.f.2.1,.int .i64 a.f.2.2.1,.int .i64 a.f.2.2.2.1,.int .i64 a.f.2.2.2.2.1,.int .i64 a.f.2.2.2.2.2]);exact rfl;exact hr;exact ha;exactλ_=>rfl;(iterate 6 exact rfl))|(apply Vn T (vs:=[.int .i64 b.f.1,.int .i64 b.f.2.1,.int .i64 b.f.2.2.1,.int .i64 b.f.2.2.2.1,.int .i64 b.f.2.2.2.2.1,.int .i64 b.f.2.2.2.2.2]);exact rfl;exact hr2;exact hb;exactλ_=>rfl;(iterate 6 exact rfl))|(rw[hf];apply UG (xs:=flwF a.f) (ys:=flwF a.f);(iterate 3 exact rfl);kernel_rfl;kernel_rfl;(intro hne;exact absurd rfl hne);intro _)|((apply Ym YeF);exact za;exact rfl;exactλ_ hw=>(p1 hai hbi hw))|(apply zg28;refine zs84 ?_)|refine zgd ?_|(refine zge ?_ ?_<;>intro _<;>try exact zo)|fail)
  apply hK (k+1)
  ·omega
  ·omega
  ·exact zc1
  exact zc18
 ·refine zX1 ?_<;>intros
  exact zc3
theorem YiT(p p2:PnM)(he:p.pln=p2.pln)(hp:p.In B w0 H)(hp2:p2.In B w0 H)(hw:St B w0 H w):
 CX B w0 12 [p.val,p2.val] w λu K=>u=.bool true/\K=H:=by
 refine Ya Tryz.func12 Tryz.ntmps12 rfl rfl hw ?_
 have hn:p.n.net=p2.n.net:=TA Pln.n he
 have hq:p.q.map RqM.rq=p2.q.map RqM.rq:=TA Pln.q he
 have hs:p.s.sch=p2.s.sch:=TA Pln.s he
 have hc:p.c.map ClM.clm=p2.c.map ClM.clm:=TA Pln.c he
 have hf:p.f=p2.f:=TA Pln.f he
 have p1:=λ{H':List HP}{w:World}(hp:p.In B w0 H') (hp2:p2.In B w0 H') (hw:St B w0 H' w)=>YkN p.n p2.n hn hp.n hp2.n hw
 have p2':=λ{H':List HP}{w:World}(hp:p.In B w0 H') (hp2:p2.In B w0 H') (hw:St B w0 H' w)=>Ygt p.q p2.q hq (cap:=p.qcap) (cap2:=p2.qcap) hp.q hp2.q hw
 have p3:=λ{H':List HP}{w:World}(hp:p.In B w0 H') (hp2:p2.In B w0 H') (hw:St B w0 H' w)=>YkK p.s p2.s hp.sl hp2.sl hp.s hp2.s hw
 have hs2:p.s.len=p2.s.len/\p.s.off=p2.s.off/\p.s.cells=p2.s.cells:=⟨TA Sch.len hs,TA Sch.off hs,TA Sch.cells hs⟩
 rw[Ti hs2]at p3
 have p4:=λ{H':List HP}{w:World}(hp:p.In B w0 H') (hp2:p2.In B w0 H') (hw:St B w0 H' w)=>WZ p.c p2.c (cap:=p.ccap) (cap2:=p2.ccap) hp.c hp2.c hw
 rw[Ti hc]at p4
 have p5:∀{H':List HP}{w:World},p.In B w0 H'->p2.In B w0 H'->St B w0 H' w->CX B w0 59 [.slice p.fA p.f.length p.fcap,.slice p2.fA p2.f.length p2.fcap] w λu K=>u=.bool true/\K=H':=λhp hp2 hw=>by
  have h2:=hp2.f
  rw[<-hf]at h2⊢
  exact Ygr p.f hp.fl (cap:=p.fcap) (cap2:=p2.fcap) hp.f h2 hw
 unfold PnM.val
 unfold NetM.val at p1
 unfold SchM.val at p3
 (apply Y5;apply YL;apply Yx;exact rfl;exact rfl;intro g)
 apply Yx;exact rfl;exact rfl;intro g2
 repeat'(first|refine Yi T ?_|((apply Yb en55);exact za;exact rfl;exactλ_ hw=>(p1 hp.cons.cons hp2.cons.cons hw))|((apply Yb en56);exact za;exact rfl;exactλ_ hw=>(p2' hp.cons.cons hp2.cons.cons hw))|((apply Yb en57);exact za;exact rfl;exactλ_ hw=>(p3 hp.cons.cons hp2.cons.cons hw))|((apply Yb en58);exact za;exact rfl;exactλ_ hw=>(p4 hp.cons.cons hp2.cons.cons hw))|((apply Yb en59);exact za;exact rfl;exactλ_ hw=>(p5 hp.cons.cons hp2.cons.cons hw))|refine zgc ?_|fail)
 apply Yj;apply Yj;exact zc3
def YnW(B:Nat)(w0:World)(H:List HP)(g:GwM)(R:Option Gwy×Int)(v:Value)(K:List HP):Prop:=
 (R.1=none/\v=.tuple #[Vg,.int .i64 R.2]/\K=H)\/∃(a:GwM) (X:List HP),R=(some a.gw,0)/\v=.tuple #[a.val,.int .i64 0]/\(∀H',g.In B w0 H'->a.In B w0 (many X::H'))/\K=many X::H
theorem YlU{p q:Pln}{id:Int}(h:wdrP p id=(some q,0)):chkP p=0->0<=idQ p.q id->∃q,wdrP p id=(some q,0):=λ_ _=>⟨q,h⟩
theorem Ybn(g:GwM)(id:Int)(hqc:g.p.q.length<=g.p.qcap){B:Nat}{w0:World}{H:List HP}{w:World}(hg:g.In B w0 H)(hw:St B w0 H w):
 CX B w0 30 [g.val,.int .i64 id] w (YnW B w0 H g (disG g.gw id)):=by
 refine Ya Tryz.func30 Tryz.ntmps30 rfl rfl hw ?_
 have hop:∀w,St B w0 [many H] w->St B w0 H w:=λw hw=>hw.perm (.openT H)
 have hgM:∀{H':List HP},many H∈H'->g.In B w0 H':=λhm=>hg.mono λw hw=>hw.inM hm
 have p1:=λ{H':List HP}{w:World}(hg:g.In B w0 H') (hw:St B w0 H' w)=>V3 g hg hw
 have p2:=λ(ho:g.l.Pairwise λa b=>a.1<b.1) {H':List HP}{w:World}(hg:g.In B w0 H') (hw:St B w0 H' w)=>QK g id ho hg hw
 unfold GwM.val at p1 p2
 unfold YnW GwM.val
 refine YX [many H] (λw hw=>hw.perm (.closeT H)) ?_
 have hgo:=λh:chkG g.gw=0=>JN.1 h
 have hdis:=λ(h:GwOk g.gw) (h1:hasL g.gw.l id=true)=>YoQ h h1
 obtain⟨R,hR⟩:∃R,disG g.gw id=R:=⟨_,rfl⟩
 have hR2:=hR
 unfold disG at hR2
 rw[hR]at hdis⊢
 obtain⟨e,he⟩:∃e,chkG g.gw=e:=⟨_,rfl⟩
 rw[he]at p1 hgo hR2
 by_cases he0:e=0
 rotate_left
 ·rw[To he0]at hR2
  subst hR2
  repeat'(first|((apply Yb YaD);exact za;exact rfl;exactλ_ hw=>(p1 (hgM zm) hw))|refine zgd ?_|(refine zge ?_ ?_<;>intro _<;>try exact zo)|(refine zgh ?_;intro _)|fail)
  apply Yn T (H2:=H);(iterate 3 exact rfl);exact zm;exact rfl;exact rfl
  ·intro w hw
   have h5:St B w0 [many H] w:=by
    revert w
    exact zk
   exact hop w h5
  exact .inl ⟨rfl,rfl,rfl⟩
 rw[Tf (λe=>e he0)]at hR2
 subst he0
 have hok:=hgo rfl
 obtain⟨hn,h8,hfit,hpw⟩:=Zc.1 hok.l
 have h8:g.l.length<=8:=h8
 have hsl:g.s.length=g.l.length:=hok.len
 have hgat:=λh:hasL g.l id=true=>Ylz hok h
 have p2:=λ{H':List HP}{w:World}(hg:g.In B w0 H') (hw:St B w0 H' w)=>p2 hpw hg hw
 unfold YcH at p2
 rw[show g.gw.l=g.l from rfl,show g.gw.s=g.s from rfl,show g.gw.p=g.p.pln from rfl]at hdis hR2
 rw[show g.gw.l=g.l from rfl,show g.gw.s=g.s from rfl]at hgat
 obtain⟨hb,hhb⟩:∃b,hasL g.l id=b:=⟨_,rfl⟩
 rw[hhb]at p2 hgat hdis hR2
 cases hb with
 |false=>
  rw[To rfl]at hR2
  subst hR2
  rw[Tf (by decide)]at p2
  repeat'(first|refine Yi T ?_|((apply Yb YaD);exact za;exact rfl;exactλ_ hw=>(p1 (hgM zm) hw))|((apply Yb Yll);exact za;exact rfl;exactλ_ hw=>(p2 (hgM zm) hw))|refine zgd ?_|(refine zge ?_ ?_<;>intro _<;>try exact zo)|(refine zgh ?_;intro _)|fail)
  apply Yn T (H2:=H);(iterate 3 exact rfl);exact zm;exact rfl;exact rfl
  ·intro w hw
   have h5:St B w0 [many H] w:=by
    revert w
    exact zk
   exact hop w h5
  exact .inl ⟨rfl,rfl,rfl⟩
 |true=>
 rw[To rfl]at p2
 obtain⟨l,s,-,hl,hs,hid1,hid2⟩:=hgat rfl
 obtain⟨q1,q2,w1,w2,c1,-,-,hd,-⟩:=hdis hok rfl
 subst hd
 clear hR2 hR hdis
 obtain⟨k,hk⟩:∃k,posL g.l id=k:=⟨_,rfl⟩
 rw[hk]at p2 hl hs⊢
 have hkl:=(Tj.1 hl).1
 have p3:=λ{H':List HP}{w:World}(hg:g.In B w0 H') (hw:St B w0 H' w)=>Uz g.p (2*id) hqc (YlU w1) hg.p hw
 rw[w1]at p3
 unfold Yk8 PnM.val at p3
 dsimp only at p3
 repeat'(first|refine Yi T ?_|((apply Yb YaD);exact za;exact rfl;exactλ_ hw=>(p1 (hgM zm) hw))|((apply Yb Yll);exact za;exact rfl;exactλ_ hw=>(p2 (hgM zm) hw))|refine zgd ?_|(refine zge ?_ ?_<;>intro _<;>try exact zo)|(refine zgh ?_;intro _)|fail)
 rename_i g1 g2 _ _
 apply Yg _ en17
 exact za
 exact rfl
 exactλ_ hw=>(p3 (hgM zm) (hw))
 rintro _ _ (⟨h,-⟩|⟨u1,X1,hu1,rfl,hi1,hqc1,rfl⟩)
 ·cases h
 obtain rfl:q1=u1.pln:=Tz (TA Prod.fst hu1)
 have p6:=λ{H':List HP}{w:World}(hp:u1.In B w0 H') (hw:St B w0 H' w)=>Uz u1 (2*id+1) hqc1 (YlU w2) hp hw
 rw[w2]at p6
 unfold Yk8 PnM.val at p6
 dsimp only at p6
 have hi1:=λ{H':List HP}(hg:g.In B w0 H')=>hi1 H' hg.p
 repeat'(first|refine zgd ?_|(refine zgh ?_;intro _)|fail)
 rename Nat=>g3
 apply Yg _ en17
 exact za
 exact rfl
 exactλ_ hw=>(p6 ((hi1 (hgM (H':=[many H]) (.head _))).mono zk) (hw))
 rintro _ _ (⟨h,-⟩|⟨u2,X2,hu2,rfl,hi2,-,rfl⟩)
 ·cases h
 obtain rfl:q2=u2.pln:=Tz (TA Prod.fst hu2)
 repeat'(first|refine zgc ?_|fail)
 obtain⟨la,hla⟩:∃x,g.l.take k=x:=⟨_,rfl⟩
 obtain⟨lb,hlb⟩:∃x,g.l.drop (k+1)=x:=⟨_,rfl⟩
 obtain⟨sa,hsa⟩:∃x,g.s.take k=x:=⟨_,rfl⟩
 obtain⟨sb,hsb⟩:∃x,g.s.drop (k+1)=x:=⟨_,rfl⟩
 have hlal:la.length=k:=by rw[<-hla,TO];omega
 have hlbl:lb.length=g.l.length-(k+1):=by rw[<-hlb,TZ]
 have hsal:sa.length=k:=by rw[<-hsa,TO];omega
 have hsbl:sb.length=g.s.length-(k+1):=by rw[<-hsb,TZ]
 have hle:la++lb=YW g.l k:=by rw[<-hla,<-hlb];rfl
 have hse:sa++sb=YW g.s k:=by rw[<-hsa,<-hsb];rfl
 have hlc:g.l.length<=g.lcap:=hg.lc
 have hsc:g.s.length<=g.scap:=hg.sc
 have ra1:∀{H':List HP},many H∈H'->Rd B w0 H' g.lA (la.flatMap lopF):=λhm=>by rw[<-hla];exact(hgM hm).l.take (q:=7) k (λ_=>rfl)
 have ra2:∀{H':List HP},many H∈H'->Rd B w0 H' (subA g.lA (k+1) g.lcap 7) (lb.flatMap lopF):=λhm=>by
  have h3:=(hgM hm).l.sub (f:=lopF) (q:=7) (o:=k+1) (k:=g.l.length-(k+1)) (λ_=>rfl) hlc
  rwa [TE (by rw[TZ];omega),hlb]at h3
 have ra3:∀{H':List HP},many H∈H'->Rd B w0 H' g.sA (sa.flatMap splF):=λhm=>by rw[<-hsa];exact(hgM hm).s.take (q:=2) k (λ_=>rfl)
 have ra4:∀{H':List HP},many H∈H'->Rd B w0 H' (subA g.sA (k+1) g.scap 2) (sb.flatMap splF):=λhm=>by
  have h3:=(hgM hm).s.sub (f:=splF) (q:=2) (o:=k+1) (k:=g.s.length-(k+1)) (λ_=>rfl) hsc
  rwa [TE (by rw[TZ];omega),hsb]at h3
 apply YX [plnB g3 u2,many X2,gwyA g1 g,zerG g2,many X1,many H]
 ·exact zk
 apply J7 (.n1 0 (.n1 2 (.n1 3 (.n1 4 (.n1 5 (.n1 7 (.n1 8 (.n1 9 (.n1 10 (.n1 11 (.n1 14 (.n1 15 (.n1 16 (.n1 17 (.n1 19 (.n1 20 (.n1 21 (.n1 22 (.n1 23 (.n2 1 (.n2 6 (.n2 12 (.n1 13 (.n1 18 (.n1 24 (.n1 25 (.n1 26 (.n1 27 .done)))))) 13 (.n1 12 (.n1 18 (.n1 24 (.n1 25 (.n1 26 (.n1 27 .done))))))) 13 (.n1 6 (.n1 12 (.n1 18 (.n1 24 (.n1 25 (.n1 26 (.n1 27 .done)))))))) 13 (.n1 1 (.n1 6 (.n1 12 (.n1 18 (.n1 24 (.n1 25 (.n1 26 (.n1 27 .done)))))))))))))))))))))))))))) [] [true,true,true,false,true,true]
 kernel_rfl
 kernel_rfl
 exact zy
 exact rfl
 repeat'(first|refine Yi T ?_|(apply Xf T (l:=g.l) (n':=la.length);(iterate 4 exact rfl);omega;exact hlc;omega;rw[Zm])|(apply Yq T (k+1) lb.length;(iterate 5 exact rfl);exact hkl;exact hlbl.symm)|(apply Xf T (l:=g.s) (n':=sa.length);(iterate 4 exact rfl);omega;exact hsc;omega;rw[Zm])|(apply Yq T (k+1) sb.length;(iterate 5 exact rfl);(rw[hsl];exact hkl);exact hsbl.symm)|(apply Yw T;exact rfl;exact rfl;intro _)|(apply YI T (f:=lopF) (l2:=la) (e:=58) (size:=7) (xs:=[]);(iterate 3 exact rfl);exact ra1 zm;exact(λ_=>rfl);exact(λ_=>rfl);exact rfl;(intro _ _;exact zd);omega;intro _ _)|(apply YI T (f:=lopF) (l2:=lb) (e:=58) (size:=7) (xs:=[]++la.flatMap lopF);(iterate 3 exact rfl);exact ra2 zm;exact(λ_=>rfl);exact(λ_=>rfl);exact rfl;(intro _ _;exact zd);omega;intro A5 c5;refine YfA (e:=58) (size:=7) (k:=0+la.length+lb.length) (cap:=c5) (A:=A5) zm λhc5=>?_)|(apply YI T (f:=splF) (l2:=sa) (e:=142) (size:=2) (xs:=[]);(iterate 3 exact rfl);exact ra3 zm;exact(λ_=>rfl);exact(λ_=>rfl);exact rfl;(intro _ _;exact zd);omega;intro _ _)|(apply YI T (f:=splF) (l2:=sb) (e:=142) (size:=2) (xs:=[]++sa.flatMap splF);(iterate 3 exact rfl);exact ra4 zm;exact(λ_=>rfl);exact(λ_=>rfl);exact rfl;(intro _ _;exact zd);omega;intro A6 c6;refine YfA (e:=142) (size:=2) (k:=0+sa.length+sb.length) (cap:=c6) (A:=A6) zm λhc6=>?_)|(apply Yh;try exact zl)|apply(zs91 ?_ ?_)|(apply Xo;try exact zl)|refine zgd ?_|fail)
 all_goals(
  have e5:sl 58 7 A5 (0+la.length+lb.length) c5 ([]++la.flatMap lopF++lb.flatMap lopF)=lops A5 c5 (YW g.l k):=by
   unfold lops
   rw[Rl,TF,<-Rj,<-Tt,hle]
  have e6:sl 142 2 A6 (0+sa.length+sb.length) c6 ([]++sa.flatMap splF++sb.flatMap splF)=spls A6 c6 (YW g.s k):=by
   unfold spls
   rw[Rl,TF,<-Rj,<-Tt,hse]
  have f5:0+la.length+lb.length=(YW g.l k).length:=by rw[Rl,<-Tt,hle]
  have f6:0+sa.length+sb.length=(YW g.s k).length:=by rw[Rl,<-Tt,hse]
  rw[e5,e6,f5,f6]
  rw[f5]at hc5
  rw[f6]at hc6
  apply Yn T (H2:=many [many X2,many X1,lops A5 c5 (YW g.l k),spls A6 c6 (YW g.s k)]::H);(iterate 3 exact rfl);exact zm;exact rfl;exact rfl
  ·intro w hw
   have h5:St B w0 (many X2::many X1::lops A5 c5 (YW g.l k)::spls A6 c6 (YW g.s k)::[many H]) w:=by
    revert w
    exact zk
   exact(h5.perm (.cons _ (.cons _ (.cons _ (.cons _ (.openT H)))))).perm (.close [_,_,_,_] H)
  refine .inr ⟨⟨u2,A5,c5,YW g.l k,A6,c6,YW g.s k⟩,_,rfl,rfl,λH' hg'=>?_,rfl⟩
  have hll:=Uq hkl
  have hls:=Uq (l:=g.s) (k:=k) (by omega)
  have h6:GwM.In B w0 (many X2::many X1::lops A5 c5 (YW g.l k)::spls A6 c6 (YW g.s k)::H') ⟨u2,A5,c5,YW g.l k,A6,c6,YW g.s k⟩:=
   ⟨hi2 _ (hi1 (hg'.mono λw hw=>hw.tail.tail)),Rd.sl (.tail _ (.tail _ (.head _))),Rd.sl (.tail _ (.tail _ (.tail _ (.head _)))),by show(YW g.l k).length<=_;omega,by show(YW g.s k).length<=_;omega,hc5,hc6⟩
  exact h6.mono λw hw=>hw.perm (.open_ [_,_,_,_] H'))
variable {B:Nat}{w0 w:World}{H:List HP}
theorem GwM.In.inX{X:List HP}{g:GwM}(h:g.In B w0 [many X])(hm:many X∈H):g.In B w0 H:=h.mono λ_ hw=>(hw.inM hm).perm (.closeT X)
theorem Ypd:Qr exH6=(6,0):=by
 unfold Qr
 rw[Tf (by decide)]
 decide+kernel
variable {s:Spl}
theorem Ypc{i:Nat}{l:Lop}(h1:exH6.l[i]? =some l)(h2:exH6.s[i]? =some s):∃b,ageG exH6 l.1=(l.2.2.2.2.1+s.1+b-1,0)/\1<=b/\b<=s.2/\Xc l s=0:=by
 cases i with
 |zero=>
  obtain rfl:exL6=l:=Tz h1
  obtain rfl:(1,7)=s:=Tz h2
  exact⟨1,Ylx,by decide,by decide,by decide⟩
 |succ i=>cases h1
theorem YjX(hw:St B w0 H w):
 CX B w0 97 [] w λv K=>∃(n:NetM) (X:List HP),v=n.val/\n.net=exN6/\n.In B w0 [many X]/\K=many X::H:=by
 refine Ya Tryz.func97 Tryz.ntmps97 rfl rfl hw ?_
 repeat'(first|refine zgd ?_|(refine zgh ?_;intro _)|fail)
 rename_i g0 r1 r2 gp gl gm
 apply Qa T (H2:=many [blk gm (.cells #[.int .i64 20,.int .i64 20] 3 (0,0)),blk gl (.cells #[.int .i64 0,.int .i64 1,.int .i64 0,.int .i64 1,.int .i64 0,.int .i64 0] 164 (0,0)),blk gp (.cells #[.slice (some ⟨r1,0,none⟩) 2 2,.slice (some ⟨r2,0,none⟩) 2 2] 24 (0,0)),blk r2 (.cells #[.int .i64 40,.int .i64 0] 3 (0,0)),blk r1 (.cells #[.int .i64 0,.int .i64 40] 3 (0,0))]::H);exact rfl;exact rfl;exact zm;exact rfl;exact rfl
 ·intro w hw
  have h5:St B w0 (blk gm (.cells #[.int .i64 20,.int .i64 20] 3 (0,0))::blk gl (.cells #[.int .i64 0,.int .i64 1,.int .i64 0,.int .i64 1,.int .i64 0,.int .i64 0] 164 (0,0))::blk gp (.cells #[.slice (some ⟨r1,0,none⟩) 2 2,.slice (some ⟨r2,0,none⟩) 2 2] 24 (0,0))::blk r2 (.cells #[.int .i64 40,.int .i64 0] 3 (0,0))::blk r1 (.cells #[.int .i64 0,.int .i64 40] 3 (0,0))::H) w:=by
   revert w
   exact zk
  exact h5.perm (.close [_,_,_,_,_] H)
 refine⟨⟨2,(some ⟨gp,0,none⟩),2,[⟨(some ⟨r1,0,none⟩),2,[0,40]⟩,⟨(some ⟨r2,0,none⟩),2,[40,0]⟩],1,2000,(some ⟨gl,0,none⟩),2,[(0,1,0),(1,0,0)],(some ⟨gm,0,none⟩),2,[20,20]⟩,_,rfl,rfl,?_,rfl⟩
 refine NetM.In.mono (H:=[_,_,_,_,_]) ?_ λw hw=>hw.perm (.open_ [_,_,_,_,_] [])
 refine⟨Rd.blk (cs:=#[.slice (some ⟨r1,0,none⟩) 2 2,.slice (some ⟨r2,0,none⟩) 2 2]) (t:=24) (fr:=(0,0)) zm,λr hr=>?_,Rd.blk (cs:=#[.int .i64 0,.int .i64 1,.int .i64 0,.int .i64 1,.int .i64 0,.int .i64 0]) (t:=164) (fr:=(0,0)) zm,Rd.blk (cs:=#[.int .i64 20,.int .i64 20]) (t:=3) (fr:=(0,0)) zm,by show 2<=_;omega,λr hr=>?_,by show 2<=_;omega,by show 2<=_;omega⟩
 ·simp only[Rr,R9,NR]at hr
  rcases hr with rfl|rfl
  ·exact Rd.blk (cs:=#[.int .i64 0,.int .i64 40]) (t:=3) (fr:=(0,0)) zm
  ·exact Rd.blk (cs:=#[.int .i64 40,.int .i64 0]) (t:=3) (fr:=(0,0)) zm
 ·simp only[Rr,R9,NR]at hr
  rcases hr with rfl|rfl<;>(show 2<=_;omega)
def exS(s:Spl):Prop:=s=(1,7)
def exG(i:Nat)(q:Pln):Prop:=(i=0/\q=exP6)\/(i=1/\q=exQa)\/(i=2/\q=exQb)
theorem YxU:ExtG exS exG exL6 where
 le:=by rintro i q (⟨-,rfl⟩|⟨-,rfl⟩|⟨-,rfl⟩)<;>decide
 st:=by
  rintro i q s f (⟨rfl,rfl⟩|⟨rfl,rfl⟩|⟨rfl,rfl⟩) rfl _ hf
  ·obtain rfl:exFa=f:=Tz hf
   exact .inr ⟨_,YhE,.inr (.inl ⟨rfl,rfl⟩)⟩
  ·obtain rfl:exFb=f:=Tz hf
   exact .inr ⟨_,YhF,.inr (.inr ⟨rfl,rfl⟩)⟩
  simp_all
 rn:=by
  rintro i q s f (⟨rfl,rfl⟩|⟨rfl,rfl⟩|⟨rfl,rfl⟩) rfl _ hf n hn
  ·obtain rfl:exFa=f:=Tz hf
   have hn:n.net=exN6:=hn
   exact Ydj n exFa (by rw[hn];decide) (by grind [YeL]) (by rw[hn];decide)
  ·obtain rfl:exFb=f:=Tz hf
   have hn:n.net=exN6:=hn
   exact Ydj n exFb (by rw[hn];decide) (by grind [YeM]) (by rw[hn];decide)
  simp_all
theorem YxV{k:Nat}(h:(ZJ exL6)[k]? =some s)(hf:∀(j:Nat) t,j<k->(ZJ exL6)[j]? =some t->Wh exP6 exL6 t=none):exS s:=by
 have h0:(ZJ exL6)[0]? =some (1,7):=by decide
 rcases RU k with rfl|hk
 ·exact(Tz (h0.symm.trans h)).symm
 grind [YhD]
theorem Ype:ExtG (λ_=>False) (λ_ q=>q.s.len<=24) exL6 where
 le:=λ_ _ h=>h
 st:=λ_ _ _ _ _ h=>h.elim
 rn:=λ_ _ _ _ _ h=>h.elim
theorem Ya9(ht:TabsB B w0)(hw:St B w0 H w):
 CX B w0 24 [] w λv K=>v=.bool true/\K=H:=by
 refine Ya Tryz.func24 Tryz.ntmps24 rfl rfl hw ?_
 refine YX [many H] (λw hw=>hw.perm (.closeT H)) ?_
 repeat'(first|refine zga ?_|fail)
 apply Yg _ en97
 exact za
 exact rfl
 exactλ_ hw=>(YjX (hw))
 rintro _ _ ⟨n,X0,rfl,hn,hin,rfl⟩
 have hinX:∀{H':List HP},many X0∈H'->n.In B w0 H':=λhm=>hin.mono λ_ hw=>(hw.inM hm).perm (.closeT X0)
 have p0:=λ{H':List HP}{w:World}(hin:n.In B w0 H') (hw:St B w0 H' w)=>Ynk n 8 1 ht hin hw
 rw[hn,show newG exN6 8 1=(some exG6,0) from rfl]at p0
 unfold O7 NetM.val at p0
 unfold NetM.val
 repeat'(first|fail)
 apply Yg _ en96
 exact za
 exact rfl
 exactλ_ hw=>(p0 (hinX zm) (hw))
 rintro _ _ (⟨h,-⟩|⟨g,X1,hg,rfl,hgi,rfl⟩)
 ·cases h
 have hg:g.gw=exG6:=(Tz hg).symm
 have hg24:g.p.s.len<=24:=by
  have h1:g.gw.p.s.len=8:=by rw[hg];rfl
  have h2:g.gw.p.s.len=g.p.s.len:=rfl
  omega
 have p1:∀{H':List HP}{w:World},g.In B w0 H'->St B w0 H' w->CX B w0 26 [g.val,lopV exL6] w (O7 B w0 H' (some exH6,0)):=λhgi hw=>by
  have h:=Ou g exL6 YxU (λ_=>.inl ⟨rfl,TA Gwy.p hg⟩) (λ_ k s h1 h2=>YxV h1 λj t hj ht=>by have h3:=h2 j t hj ht;rwa [show g.p.pln=exP6 from TA Gwy.p hg]at h3) ht hgi hw
  rw[hg,YrB]at h
  exact h
 have p2:∀{H':List HP}{w:World},g.In B w0 H'->St B w0 H' w->CX B w0 29 [g.val,.int .i64 2] w λv K=>v=.tuple #[Vg,.int .i64 7]/\K=H':=λhgi hw=>
  Ybl g 2 (by rw[hg];exact YrC) (by rw[show g.l=exG6.l from TA Gwy.l hg];rfl) ht hgi hw
 unfold O7 at p1
 unfold GwM.val at p1 p2⊢
 unfold lopV exL6 at p1
 dsimp only at p1 p2
 repeat'(first|refine zgd ?_|(refine zgh ?_;intro _)|fail)
 apply Yg _ en26
 exact za
 exact rfl
 exactλ_ hw=>(p1 (hgi.inX zm) (hw))
 rintro _ _ (⟨h,-⟩|⟨a,X2,ha,rfl,hai,rfl⟩)
 ·cases h
 have ha:exH6=a.gw:=Tz ha
 have has:a.s=[(1,7)]:=by have:=TA Gwy.s ha;exact this.symm
 have hal:a.s.length=1:=by rw[has];rfl
 have ha24:a.p.s.len<=24:=by
  have h1:a.gw.p.s.len=8:=by rw[<-ha];rfl
  have h2:a.gw.p.s.len=a.p.s.len:=rfl
  omega
 have p3:∀{H':List HP}{w:World},a.In B w0 H'->St B w0 H' w->CX B w0 31 [a.val,.int .i64 2] w λv K=>v=.tuple #[.int .i64 9,.int .i64 0]/\K=H':=λhai hw=>by
  have h:=YaB a 2 (λ_ i l s h1 h2=>by rw[show a.l=exH6.l from(TA Gwy.l ha).symm]at h1;rw[show a.s=exH6.s from(TA Gwy.s ha).symm]at h2;rw[<-ha];exact Ypc h1 h2) ht hai hw
  rw[<-ha,Ylx]at h
  exact h
 have p4:∀{H':List HP}{w:World},a.In B w0 H'->St B w0 H' w->CX B w0 33 [a.val] w λv K=>v=.tuple #[.int .i64 6,.int .i64 0]/\K=H':=λhai hw=>by
  have h:=YaO a ht hai hw
  rw[<-ha,Ypd]at h
  exact h
 have p5:∀{H':List HP}{w:World},a.In B w0 H'->St B w0 H' w->CX B w0 26 [a.val,lopV exL6] w (O7 B w0 H' (none,6)):=λhai hw=>by
  have h:=Ou a exL6 Ype (λ_=>ha24) (λh1=>by rw[show a.l=exH6.l from(TA Gwy.l ha).symm]at h1;exact absurd h1 (by decide)) ht hai hw
  rw[<-ha,YmV]at h
  exact h
 have hrs:=λ{H':List HP}(hm:many X2∈H')=>(hai.inX hm).s
 unfold O7 at p5
 unfold GwM.val at p3 p4 p5
 unfold lopV exL6 at p5
 dsimp only at p5
 rw[hal]at p3 p4 p5⊢
 rw[has]at hrs
 repeat'(first|refine Yi T ?_|((apply Yb en31);exact za;exact rfl;exactλ_ hw=>(p3 (hai.inX zm) hw))|((apply Yb en33);exact za;exact rfl;exactλ_ hw=>(p4 (hai.inX zm) hw))|refine zgc ?_|(refine zgh ?_;intro _)|fail)
 apply Yg _ en26
 exact za
 exact rfl
 exactλ_ hw=>(p5 (hai.inX zm) (hw))
 rintro _ _ (⟨-,rfl,rfl⟩|⟨b,X3,h,-⟩)
 rotate_left
 ·cases h
 unfold Vg
 repeat'(first|refine zgc ?_|(refine zgh ?_;intro _)|fail)
 apply Yg _ en29
 exact za
 exact rfl
 exactλ_ hw=>(p2 (hgi.inX zm) (hw))
 rintro _ _ ⟨rfl,rfl⟩
 unfold Vg
 have hsp:[((1:Int),(7:Int))][(0:Int).toNat]? =some (1,7):=rfl
 repeat'(first|refine Yi T ?_|(apply Wv T (l:=[((1:Int),(7:Int))]) (f:=splF);exact rfl;exact rfl;exact hrs zm;exact rfl;exactλ_=>rfl;exact rfl;exact rfl;exact⟨by decide,by decide⟩)|(apply Ww T (l:=[((1:Int),(7:Int))]) (f:=splF);exact rfl;exact hrs zm;exact hsp;exactλ_=>rfl;(iterate 3 exact rfl))|(apply Yq6 (xs:=[.int .i64 1,.int .i64 7]) (ys:=[.int .i64 1,.int .i64 7]);(iterate 3 exact rfl);kernel_rfl;kernel_rfl;rotate_left;(intro hne;exact absurd rfl hne);intro _)|refine zgd ?_|(refine zge ?_ ?_<;>intro _<;>try exact zo)|(refine zgh ?_;intro _)|fail)
 apply Yf H
 ·intro w hw
  have h5:St B w0 [many H] w:=by
   revert w
   exact zk
  exact h5.perm (.openT H)
 apply Yc;exact rfl;exact rfl;exact⟨rfl,rfl⟩
theorem YbN{f:Nat->Int}{c:Int}(h:∀i,0<=f i/\f i<=c):∀n,0<=sumR f n/\sumR f n<=c*n
 |0=>by simp[sumR]
 |n+1=>by
  have h1:=YbN h n
  have h2:=h n
  have e:c*((n+1:Nat):Int)=c*n+c:=by rw[Int.natCast_add,Int.mul_add];simp
  rw[sumR,e]
  omega
def unu(cs:List Cel)(i k:Nat):Int:=if UD cs i k=true then 0 else 1
def rowN(s:Sch)(i:Nat):Int:=sumR (unu s.cells i) s.off.toNat
theorem Yrw(s:Sch):cntE s=sumR (rowN s) s.len.toNat:=rfl
theorem Yqo(cs:List Cel)(i k:Nat):0<=unu cs i k/\unu cs i k<=1:=by unfold unu;split<;>omega
theorem YnP{cs:List Cel}{j:Nat}{c:Cel}(h:cs[j]? =some c)(i k:Nat):UD (cs.take (j+1)) i k=(UD (cs.take j) i k||(decide (c.1=i)&&decide (c.2.1=k))):=by
 unfold UD
 rw[TD,h,Rx,NG,NE,List.any_nil,NN]
theorem YrE{g:Gwy}(h:GwOk g):Xh g.p.s=true/\sumP g.p.f=cntE g.p.s:=by
 have hok:=Yce h.p
 have hf:=hok.f
 have hfr:=hok.free
 unfold Y9 at hf hfr
 split at hfr
 ·cases hfr
 rename_i h1
 rw[Tf h1]at hf
 have h1:Xh g.p.s=true:=by simpa using h1
 exact⟨h1,by rw[hf];exact Yj9 h1⟩
theorem Ygp(g:GwM){B:Nat}{w0:World}{H:List HP}{w:World}(hg:g.In B w0 H)(hw:St B w0 H w):
 CX B w0 34 [g.val] w λv K=>v=.tuple #[.int .i64 (Qr g.gw).1,.int .i64 (Qr g.gw).2]/\K=H:=by
 refine Ya Tryz.func34 Tryz.ntmps34 rfl rfl hw ?_
 have hop:∀w,St B w0 [many H] w->St B w0 H w:=λw hw=>hw.perm (.openT H)
 have hgM:∀{H':List HP},many H∈H'->g.In B w0 H':=λhm=>hg.mono λw hw=>hw.inM hm
 have p1:=λ{H':List HP}{w:World}(hg:g.In B w0 H') (hw:St B w0 H' w)=>V3 g hg hw
 unfold GwM.val at p1
 unfold GwM.val
 refine YX [many H] (λw hw=>hw.perm (.closeT H)) ?_
 have hgo:=λh:chkG g.gw=0=>YrE (JN.1 h)
 unfold Qr
 obtain⟨e,he⟩:∃e,chkG g.gw=e:=⟨_,rfl⟩
 rw[he]at p1 hgo⊢
 by_cases he0:e=0
 rotate_left
 ·rw[To he0]
  repeat'(first|((apply Yb YaD);exact za;exact rfl;exactλ_ hw=>(p1 (hgM zm) hw))|refine zgb ?_|(refine zge ?_ ?_<;>intro _<;>try exact zo)|(refine zgh ?_;intro _)|fail)
  apply Yf H
  ·intro w hw
   have h5:St B w0 [many H] w:=by
    revert w
    exact zk
   exact hop w h5
  apply YJ;(iterate 3 exact rfl);exact⟨rfl,rfl⟩
 rw[Tf (λe=>e he0)]
 subst he0
 obtain⟨hf,hsum⟩:=hgo rfl
 rw[hsum,Yrw]
 have hfr:=Xm.1 hf
 have hsz:1<=g.gw.p.s.len/\g.gw.p.s.len<=512/\1<=g.gw.p.s.off/\g.gw.p.s.off<=16:=TI hfr.sized
 rw[show g.gw.p.s=g.p.s.sch from rfl]at hsz⊢
 rw[show g.p.s.sch.len=g.p.s.len from rfl,show g.p.s.sch.off=g.p.s.off from rfl]at hsz
 have hrow:∀i,rowN g.p.s.sch i=sumR (unu g.p.s.cells i) g.p.s.off.toNat:=λ_=>rfl
 have hrb:∀i,0<=rowN g.p.s.sch i/\rowN g.p.s.sch i<=16:=λi=>by
  have:=YbN (Yqo g.p.s.cells i) g.p.s.off.toNat
  rw[hrow]
  omega
 rw[show g.p.s.sch.len=g.p.s.len from rfl]
 have hcl:g.p.s.cells.length<=1000000000000:=hg.p.sl
 repeat'(first|refine Yi T ?_|((apply Yb YaD);exact za;exact rfl;exactλ_ hw=>(p1 (hgM zm) hw))|refine zgc ?_|(refine zge ?_ ?_<;>intro _<;>try exact zo)|(refine zgh ?_;intro _)|fail)
 rename_i g5
 have hrs:Rd B w0 [blk g5 (.cells #[.int .i64 g.p.s.len,.int .i64 g.p.s.off,.slice g.p.s.A g.p.s.cells.length g.p.s.cap] 33 (0,0)),many H] g.p.s.A (g.p.s.cells.flatMap celF):=(hgM (.tail _ (.head _))).p.s
 have hrN:∀a,0<=sumR (rowN g.p.s.sch) a/\sumR (rowN g.p.s.sch) a<=16*a:=λa=>YbN hrb a
 have huN:∀a k,0<=sumR (unu g.p.s.cells a) k/\sumR (unu g.p.s.cells a) k<=1*k:=λa k=>YbN (Yqo _ _) k
 refine Ye (λa:Nat=>[(7,.int .i64 (a:Nat)),(6,.int .i64 (sumR (rowN g.p.s.sch) a)),(5,.pointer (some ⟨g5,0,none⟩))]) (λ_=>[blk g5 (.cells #[.int .i64 g.p.s.len,.int .i64 g.p.s.off,.slice g.p.s.A g.p.s.cells.length g.p.s.cap] 33 (0,0)),many H]) (λa=>(a:Int)<=g.p.s.len) (λa=>(g.p.s.len-a).toNat) 0 (by show(0:Int)<=_;omega) ?_ ?_ ?_
 ·exact zu
 ·exact zk
 intro a ha K hK
 have hNa:=hrN a
 by_cases hlt:(a:Int)<g.p.s.len
 rotate_left
 ·obtain rfl:a=g.p.s.len.toNat:=by omega
  repeat'(first|refine zgc ?_|(refine zge ?_ ?_<;>intro _<;>try exact zo)|fail)
  apply Yf H
  ·intro w hw
   have h5:St B w0 [many H] w:=by
    revert w
    exact zk
   exact hop w h5
  apply YJ;(iterate 3 exact rfl);exact⟨rfl,rfl⟩
 have hsa:sumR (rowN g.p.s.sch) (a+1)=sumR (rowN g.p.s.sch) a+sumR (unu g.p.s.cells a) g.p.s.off.toNat:=rfl
 have hua:=huN a
 obtain⟨N,hN⟩:∃N,sumR (rowN g.p.s.sch) a=N:=⟨_,rfl⟩
 rw[hN]at hNa hsa⊢
 have e0:sumR (unu g.p.s.cells a) 0=0:=rfl
 repeat'(first|refine zgb ?_|(refine zge ?_ ?_<;>intro _<;>try exact zo)|fail)
 refine Ye (λk:Nat=>[(8,.int .i64 (k:Nat)),(7,.int .i64 (a:Nat)),(6,.int .i64 (N+sumR (unu g.p.s.cells a) k)),(5,.pointer (some ⟨g5,0,none⟩))]) (λ_=>[blk g5 (.cells #[.int .i64 g.p.s.len,.int .i64 g.p.s.off,.slice g.p.s.A g.p.s.cells.length g.p.s.cap] 33 (0,0)),many H]) (λk=>(k:Int)<=g.p.s.off) (λk=>(g.p.s.off-k).toNat) 0 (by show(0:Int)<=_;omega) ?_ ?_ ?_
 ·rw[e0,NA]
  exact zu
 ·exact zk
 intro k hk K2 hK2
 have huk:=hua k
 by_cases hltk:(k:Int)<g.p.s.off
 rotate_left
 ·obtain rfl:k=g.p.s.off.toNat:=by omega
  clear hK2
  repeat'(first|refine zgc ?_|(refine zge ?_ ?_<;>intro _<;>try exact zo)|fail)
  apply hK (a+1)
  ·show((a+1:Nat):Int)<=_
   omega
  ·omega
  ·rw[hsa]
   exact zu
  ·exactλw hw=>hw
 clear hK hsa
 have hsk:sumR (unu g.p.s.cells a) (k+1)=sumR (unu g.p.s.cells a) k+unu g.p.s.cells a k:=rfl
 obtain⟨M,hM⟩:∃M,N+sumR (unu g.p.s.cells a) k=M:=⟨_,rfl⟩
 have hsk2:N+sumR (unu g.p.s.cells a) (k+1)=M+unu g.p.s.cells a k:=by omega
 have hMb:0<=M/\M<=100000:=by omega
 rw[hM]
 repeat'(first|refine zgb ?_|(refine zge ?_ ?_<;>intro _<;>try exact zo)|fail)
 refine Ye (λi:Nat=>[(10,.int .i64 (i:Nat)),(9,.bool (UD (g.p.s.cells.take i) a k)),(8,.int .i64 (k:Nat)),(7,.int .i64 (a:Nat)),(6,.int .i64 M),(5,.pointer (some ⟨g5,0,none⟩))]) (λ_=>[blk g5 (.cells #[.int .i64 g.p.s.len,.int .i64 g.p.s.off,.slice g.p.s.A g.p.s.cells.length g.p.s.cap] 33 (0,0)),many H]) (λi=>i<=g.p.s.cells.length) (λi=>g.p.s.cells.length-i) 0 (Td _) ?_ ?_ ?_
 ·exact zu
 ·exact zk
 intro i hi K3 hK3
 by_cases hlti:i<g.p.s.cells.length
 rotate_left
 ·obtain rfl:i=g.p.s.cells.length:=by omega
  clear hK3
  rw[TC]
  have hun:unu g.p.s.cells a k=if UD g.p.s.cells a k=true then 0 else 1:=rfl
  cases hu:UD g.p.s.cells a k with
  |true=>
   rw[hu,To rfl]at hun
   repeat'(first|refine zgd ?_|(refine zge ?_ ?_<;>intro _<;>try exact zo)|fail)
   apply hK2 (k+1)
   ·show((k+1:Nat):Int)<=_
    omega
   ·omega
   ·rw[show N+sumR (unu g.p.s.cells a) (k+1)=M from by omega]
    exact zu
   ·exactλw hw=>hw
  |false=>
   rw[hu,Tf (by decide)]at hun
   repeat'(first|refine zgd ?_|(refine zge ?_ ?_<;>intro _<;>try exact zo)|fail)
   apply hK2 (k+1)
   ·show((k+1:Nat):Int)<=_
    omega
   ·omega
   ·rw[show N+sumR (unu g.p.s.cells a) (k+1)=M+1 from by omega]
    exact zu
   ·exactλw hw=>hw
 obtain⟨c,hc⟩:∃c,g.p.s.cells[i]? =some c:=⟨_,Ta hlti⟩
 have hst:=YnP hc a k
 cases hu:UD (g.p.s.cells.take i) a k with
 |true=>
  rw[hu,Bool.true_or]at hst
  repeat'(first|refine zgc ?_|(refine zge ?_ ?_<;>intro _<;>try exact zo)|fail)
  apply hK3 (i+1)
  ·show i+1<=_
   omega
  ·omega
  ·rw[hst]
   exact zu
  ·exactλw hw=>hw
 |false=>
  rw[hu,NF]at hst
  by_cases h1:c.1=(a:Int)
  ·rw[Ti h1,RN]at hst
   by_cases h2:c.2.1=(k:Int)
   ·rw[Ti h2]at hst
    repeat'(first|refine zgd ?_|(refine zge ?_ ?_<;>intro _<;>try exact zo)|fail)
    apply hK3 (i+1)
    ·show i+1<=_
     omega
    ·omega
    ·rw[hst]
     exact zu
    ·exactλw hw=>hw
   ·rw[Tn h2]at hst
    repeat'(first|refine zgd ?_|(refine zge ?_ ?_<;>intro _<;>try exact zo)|fail)
    apply hK3 (i+1)
    ·show i+1<=_
     omega
    ·omega
    ·rw[hst]
     exact zu
    ·exactλw hw=>hw
  ·rw[Tn h1,NI]at hst
   repeat'(first|refine zgd ?_|(refine zge ?_ ?_<;>intro _<;>try exact zo)|fail)
   apply hK3 (i+1)
   ·show i+1<=_
    omega
   ·omega
   ·rw[hst]
    exact zu
   ·exactλw hw=>hw
theorem PnM.Bg.mono{B:Nat}{w0:World}{H H':List HP}{p:PnM}(h:p.Bg B w0 H)(hH:∀w,St B w0 H' w->St B w0 H w):p.Bg B w0 H':=⟨h.n.mono hH,h.q.mono hH,h.s.mono hH,h.sl,h.c.mono5 hH,h.f.mono hH,h.fl⟩
structure GwM.Bg(B:Nat)(w0:World)(H:List HP)(g:GwM):Prop where
 p:g.p.Bg B w0 H
 l:Rd B w0 H g.lA (g.l.flatMap lopF)
 s:Rd B w0 H g.sA (g.s.flatMap splF)
 ll:g.l.length<=9223372036854775807
 sl:g.s.length<=9223372036854775807
 lc:g.l.length<=g.lcap
 sc:g.s.length<=g.scap
def FewG(g:GwM):Prop:=FewP g.p/\g.l.length<=9/\g.s.length<=10
variable {B:Nat}{w0:World}{H:List HP}{g:GwM}
theorem GwM.Bg.small(h:g.Bg B w0 H)(hf:FewG g):g.In B w0 H:=
 ⟨h.p.small hf.1,h.l,h.s,by have:=hf.2.1;omega,by have:=hf.2.2;omega,h.lc,h.sc⟩
theorem GwM.Bg.mono{H':List HP}(h:g.Bg B w0 H)(hH:∀w,St B w0 H' w->St B w0 H w):g.Bg B w0 H':=⟨h.p.mono hH,h.l.mono hH,h.s.mono hH,h.ll,h.sl,h.lc,h.sc⟩
theorem Yj1(g:GwM){w:World}(hg:g.Bg B w0 H)(hw:St B w0 H w):
 CX B w0 25 [g.val] w λv K=>(∃b,v=.bool b/\(b=true->FewG g))/\K=H:=by
 refine Ya Tryz.func25 Tryz.ntmps25 rfl rfl hw ?_
 have p1:=λ{H':List HP}{w:World}(hp:g.p.Bg B w0 H') (hw:St B w0 H' w)=>Yj0 g.p hp hw
 have hll:=hg.ll
 have hsl:=hg.sl
 unfold GwM.val
 unfold PnM.val at p1
 (apply Y5;apply YL;apply Yx;exact rfl;exact rfl;intro g)
 repeat'(first|refine Yi T ?_|refine zgb ?_|fail)
 apply Yg _ en13
 exact za
 exact rfl
 exactλ_ hw=>(p1 (hg.p.mono zc0) (hw))
 rintro _ _ ⟨⟨b,rfl,hb⟩,hK⟩
 rw[hK]
 cases b with
 |false=>
  refine YlY ?_
  apply Yj;exact zc9
 |true=>
 repeat'(first|refine Yi T ?_|refine zgc ?_|(refine zgf ?_ ?_<;>intro _<;>try exact zo)|fail)
 all_goals(
  apply Yj
  apply Yc;exact rfl;exact rfl
  exact⟨⟨_,rfl,λh=>by first|(exact absurd h (by decide))|exact⟨hb rfl,by omega,by omega⟩⟩,rfl⟩)
variable {B:Nat}{w0:World}{H:List HP}
theorem Ydv(a b:GwM)(he:a.gw=b.gw){w:World}(ha:a.In B w0 H)(hb:b.In B w0 H)(hw:St B w0 H w):
 CX B w0 28 [a.val,b.val] w λu K=>u=.bool true/\K=H:=by
 refine Ya Tryz.func28 Tryz.ntmps28 rfl rfl hw ?_
 have hpl:a.p.pln=b.p.pln:=TA Gwy.p he
 have hl:a.l=b.l:=TA Gwy.l he
 have hs:a.s=b.s:=TA Gwy.s he
 have p1:=λ{H':List HP}{w:World}(ha:a.In B w0 H') (hb:b.In B w0 H') (hw:St B w0 H' w)=>YiT a.p b.p hpl ha.p hb.p hw
 unfold PnM.val at p1
 have hop:∀w,St B w0 [many H] w->St B w0 H w:=λw hw=>hw.perm (.openT H)
 have haM:∀{H':List HP},many H∈H'->a.In B w0 H':=λhm=>ha.mono λw hw=>hw.inM hm
 have hbM:∀{H':List HP},many H∈H'->b.In B w0 H':=λhm=>hb.mono λw hw=>hw.inM hm
 have hal:=ha.ll
 have has:=ha.sl
 have hll:a.l.length=b.l.length:=by rw[hl]
 have hss:a.s.length=b.s.length:=by rw[hs]
 unfold GwM.val
 refine YX [many H] (λw hw=>hw.perm (.closeT H)) ?_
 (apply Y5;apply YL;apply Yx;exact rfl;exact rfl;intro g)
 apply Yx;exact rfl;exact rfl;intro g2
 have hra:=(haM (H':=[gwyA g2 b,gwyA g a,many H]) (.tail _ (.tail _ (.head _)))).l
 have hrb:=(hbM (H':=[gwyA g2 b,gwyA g a,many H]) (.tail _ (.tail _ (.head _)))).l
 have hsa:=(haM (H':=[gwyA g2 b,gwyA g a,many H]) (.tail _ (.tail _ (.head _)))).s
 have hsb:=(hbM (H':=[gwyA g2 b,gwyA g a,many H]) (.tail _ (.tail _ (.head _)))).s
 repeat'(first|refine Yi T ?_|((apply Yb en12);exact za;exact rfl;exactλ_ hw=>(p1 (haM zm) (hbM zm) hw))|refine zgd ?_|(refine zge ?_ ?_<;>intro _<;>try exact zo)|fail)
 refine Ye (λk:Nat=>[(5,.int .i64 k),(2,.pointer (some ⟨g,0,none⟩)),(3,.pointer (some ⟨g2,0,none⟩))]) (λ_=>[gwyA g2 b,gwyA g a,many H]) (λk=>k<=a.l.length) (λk=>a.l.length-k) 0 (Td _) ?_ (λw hw=>hw) ?_
 ·exact zc1
 intro k hk K hK
 by_cases hlt:k<a.l.length
 ·obtain⟨x,hx⟩:∃x,a.l[k]? =some x:=⟨_,Ta hlt⟩
  have hy:=hx
  rw[hl]at hy
  repeat'(first|(apply UG (xs:=lopF x) (ys:=lopF x);(iterate 3 exact rfl);kernel_rfl;kernel_rfl;(intro hne;exact absurd rfl hne);intro _)|refine zgd ?_|(refine zge ?_ ?_<;>intro _<;>try exact zo)|fail)
  apply hK (k+1)
  ·omega
  ·omega
  ·exact zc1
  exact zc18
 clear hK hk
 refine zX1 ?_<;>intros
 clear hlt
 refine Ye (λk:Nat=>[(6,.int .i64 k),(2,.pointer (some ⟨g,0,none⟩)),(3,.pointer (some ⟨g2,0,none⟩))]) (λ_=>[gwyA g2 b,gwyA g a,many H]) (λk=>k<=a.s.length) (λk=>a.s.length-k) 0 (Td _) ?_ (λw hw=>hw) ?_
 ·exact zc1
 intro k hk K hK
 by_cases hlt:k<a.s.length
 ·obtain⟨x,hx⟩:∃x,a.s[k]? =some x:=⟨_,Ta hlt⟩
  have hy:=hx
  rw[hs]at hy
  repeat'(first|(apply UG (xs:=splF x) (ys:=splF x);(iterate 3 exact rfl);kernel_rfl;kernel_rfl;(intro hne;exact absurd rfl hne);intro _)|refine zgd ?_|(refine zge ?_ ?_<;>intro _<;>try exact zo)|fail)
  apply hK (k+1)
  ·omega
  ·omega
  ·exact zc1
  exact zc18
 refine zX1 ?_<;>intros
 apply Yf H
 ·intro w hw
  have h5:St B w0 [many H] w:=by
   revert w
   exact zc0
  exact hop w h5
 exact zc9
def zeroGw:GwM:=⟨⟨⟨0,none,0,[],0,0,none,0,[],none,0,[]⟩,none,0,[],⟨0,0,none,0,[]⟩,none,0,[],none,0,[]⟩,none,0,[],none,0,[]⟩
theorem Yme:zeroGw.In B w0 H:=
 ⟨⟨⟨Rd.nil,λr h=>(by cases h),Rd.nil,Rd.nil,Td _,λr h=>(by cases h),Td _,Td _⟩,⟨Rd.nil,λx h=>(by cases h),Td _⟩,Rd.nil,Td _,⟨Rd.nil,λx h=>(by cases h),Td _⟩,Rd.nil,Td _⟩,Rd.nil,Rd.nil,Td _,Td _,Td _,Td _⟩
theorem YjN(g:Gwy)(id:Int):(∃b,disG g id=(some b,0))\/∃e,disG g id=(none,e):=by
 unfold disG
 split
 ·exact .inr ⟨_,rfl⟩
 split
 ·exact .inr ⟨_,rfl⟩
 ·exact .inl ⟨_,rfl⟩
theorem YvU(g:GwM)(id:Int)(hqc:g.p.q.length<=g.p.qcap){B:Nat}{w0:World}{H:List HP}{w:World}(ht:TabsB B w0)(hg:g.Bg B w0 H)(hw:St B w0 H w):
 CX B w0 7 [g.val,.int .i64 id] w λv K=>v=.bool true/\K=H:=by
 refine Ya Tryz.func7 Tryz.ntmps7 rfl rfl hw ?_
 have p0:=λ{H':List HP}{w:World}(hg:g.Bg B w0 H') (hw:St B w0 H' w)=>Yj1 g hg hw
 have hop:∀w,St B w0 [many H] w->St B w0 H w:=λw hw=>hw.perm (.openT H)
 have hbM:∀{H':List HP},many H∈H'->g.Bg B w0 H':=λhm=>hg.mono λw hw=>hw.inM hm
 unfold GwM.val at p0
 unfold GwM.val
 refine YX [many H] (λw hw=>hw.perm (.closeT H)) ?_
 repeat'(first|refine zga ?_|(refine zgh ?_;intro _)|fail)
 apply Yb en24
 exact za
 exact rfl
 exactλ_ hw=>(Ya9 ht hw)
 repeat'(first|refine zgd ?_|fail)
 apply Yg _ en25
 exact za
 exact rfl
 exactλ_ hw=>(p0 (hbM zm) (hw))
 rintro _ _ ⟨⟨b,rfl,hfew⟩,hK0⟩
 rw[hK0]
 cases b with
 |false=>
  repeat'(first|((apply Yb en24);exact za;exact rfl;exactλ_ hw=>(Ya9 ht hw))|refine zgd ?_|fail)
  apply Yf H
  ·intro w hw
   have h5:St B w0 [many H] w:=by
    revert w
    exact zk
   exact hop w h5
  apply Yc;exact rfl;exact rfl;exact⟨rfl,rfl⟩
 |true=>
 have hfew:=hfew rfl
 have hgM:∀{H':List HP},many H∈H'->g.In B w0 H':=λhm=>(hbM hm).small hfew
 clear p0 hK0
 have p1:=λ{H':List HP}{w:World}(hg:g.In B w0 H') (hw:St B w0 H' w)=>Ycm g id ht hg hw
 have p2:=λ{H':List HP}{w:World}(hg:g.In B w0 H') (hw:St B w0 H' w)=>Ybn g id hqc hg hw
 have p3:=λ{H':List HP}{w:World}(hg:g.In B w0 H') (hw:St B w0 H' w)=>YjB g id ht hg hw
 have p4:=λ{H':List HP}{w:World}(hg:g.In B w0 H') (hw:St B w0 H' w)=>YiE g id hg hw
 have p5:=λ{H':List HP}{w:World}(hg:g.In B w0 H') (hw:St B w0 H' w)=>YaO g ht hg hw
 have p6:=λ{H':List HP}{w:World}(hg:g.In B w0 H') (hw:St B w0 H' w)=>Ygp g hg hw
 unfold GwM.val at p1 p2 p3 p4 p5 p6
 generalize ageG g.gw id=RA at p3 p4
 generalize Qr g.gw=RF at p5 p6
 obtain⟨ag,ae⟩:=RA
 obtain⟨fr,fe⟩:=RF
 dsimp only at p3 p4 p5 p6
 unfold O7 at p1
 unfold YnW at p2
 rcases YjN g.gw id with⟨G,hG⟩|⟨e,hG⟩
 rotate_left
 ·rw[hG]at p1 p2
  dsimp only at p1 p2
  have p7:∀{H':List HP}{w:World},St B w0 H' w->CX B w0 28 [Vg,Vg] w λu K=>u=.bool true/\K=H':=λhw=>Ydv zeroGw zeroGw rfl Yme Yme hw
  unfold Vg at p1 p2 p7
  repeat'(first|refine zgd ?_|fail)
  apply Yg _ en29
  exact za
  exact rfl
  exactλ_ hw=>(p1 (hgM zm) (hw))
  rintro _ _ (⟨-,rfl,rfl⟩|⟨a,X,h,-⟩)
  rotate_left
  ·cases h
  repeat'(first|refine zgc ?_|(refine zgh ?_;intro _)|fail)
  apply Yg _ en30
  exact za
  exact rfl
  exactλ_ hw=>(p2 (hgM zm) (hw))
  rintro _ _ (⟨-,rfl,rfl⟩|⟨a,X,h,-⟩)
  rotate_left
  ·cases h
  repeat'(first|refine Yi T ?_|((apply Yb en31);exact za;exact rfl;exactλ_ hw=>(p3 (hgM zm) hw))|((apply Yb en32);exact za;exact rfl;exactλ_ hw=>(p4 (hgM zm) hw))|((apply Yb en33);exact za;exact rfl;exactλ_ hw=>(p5 (hgM zm) hw))|((apply Yb en34);exact za;exact rfl;exactλ_ hw=>(p6 (hgM zm) hw))|((apply Yb en28);exact za;exact rfl;exactλ_ hw=>(p7 hw))|refine zgc ?_|(refine zge ?_ ?_<;>intro _<;>try exact zo)|(refine zgh ?_;intro _)|fail)
  apply Yf H
  ·intro w hw
   have h5:St B w0 [many H] w:=by
    revert w
    exact zk
   exact hop w h5
  apply Yc;exact rfl;exact rfl;exact⟨rfl,rfl⟩
 rw[hG]at p1 p2
 dsimp only at p1 p2
 repeat'(first|refine zgd ?_|fail)
 apply Yg _ en29
 exact za
 exact rfl
 exactλ_ hw=>(p1 (hgM zm) (hw))
 rintro _ _ (⟨h,-⟩|⟨a,X,ha,rfl,hai,rfl⟩)
 ·cases h
 unfold GwM.val
 repeat'(first|refine zgc ?_|(refine zgh ?_;intro _)|fail)
 apply Yg _ en30
 exact za
 exact rfl
 exactλ_ hw=>(p2 (hgM zm) (hw))
 rintro _ _ (⟨h,-⟩|⟨b,Y,hb,rfl,hbi,rfl⟩)
 ·cases h
 have hab:a.gw=b.gw:=Tz (ha.symm.trans (TA Prod.fst hb))
 have p7:=λ{H':List HP}{w:World}(hai:a.In B w0 H') (hbi:b.In B w0 H') (hw:St B w0 H' w)=>Ydv a b hab hai hbi hw
 unfold GwM.val at p7⊢
 repeat'(first|refine Yi T ?_|((apply Yb en31);exact za;exact rfl;exactλ_ hw=>(p3 (hgM zm) hw))|((apply Yb en32);exact za;exact rfl;exactλ_ hw=>(p4 (hgM zm) hw))|((apply Yb en33);exact za;exact rfl;exactλ_ hw=>(p5 (hgM zm) hw))|((apply Yb en34);exact za;exact rfl;exactλ_ hw=>(p6 (hgM zm) hw))|((apply Yb en28);exact za;exact rfl;exactλ_ hw=>(p7 (hai.inX zm) ((hbi [many H] (hgM (.head _))).mono zk) hw))|refine zgc ?_|(refine zge ?_ ?_<;>intro _<;>try exact zo)|(refine zgh ?_;intro _)|fail)
 apply Yf H
 ·intro w hw
  have h5:St B w0 [many H] w:=by
   revert w
   exact zk
  exact hop w h5
 apply Yc;exact rfl;exact rfl;exact⟨rfl,rfl⟩
open Go.ChangeShapes Go.WideShapes Go.ChangeAt Go.RowKit Go.Eng Go.Nw Go.Rt
def gwF(g:GwM):List Value:=plnF g.p++[.slice g.lA g.l.length g.lcap,.slice g.sA g.s.length g.scap]
section
variable {H:Type}{enc:TypeId×Value->H}{W:World}{spare:Nat->Bool}{held:Bool}
abbrev LopG(l:Lop):Prop:=I64 l.1/\I64 l.2.1/\I64 l.2.2.1/\I64 l.2.2.2.1/\I64 l.2.2.2.2.1/\I64 l.2.2.2.2.2.1/\I64 l.2.2.2.2.2.2
structure GwG(W:World)(g:GwM):Prop where
 p:PlnG W g.p
 l:SlG W lopF LopG ⟨g.lA,g.lcap,g.l⟩
 s:SlG W splF (λs:Spl=>I64 s.1/\I64 s.2) ⟨g.sA,g.scap,g.s⟩
theorem Yr7:Opn enc Tryz.prog W spare held 58 lopF LopG:=
 JH (Ze (ts:=[3,3,3,3,3,3,3]) (by kernel_rfl) (Ys op_i (Ys op_i (Ys op_i (Ys op_i (Ys op_i (Ys op_i (Ys op_i Jm)))))))) (λx=>(x.1,x.2.1,x.2.2.1,x.2.2.2.1,x.2.2.2.2.1,x.2.2.2.2.2.1,x.2.2.2.2.2.2.1)) (λ_=>rfl) (λ_ h=>⟨h.1,h.2.1,h.2.2.1,h.2.2.2.1,h.2.2.2.2.1,h.2.2.2.2.2.1,h.2.2.2.2.2.2.1⟩)
theorem YpU:Opn enc Tryz.prog W spare held 142 splF (λs:Spl=>I64 s.1/\I64 s.2):=
 JH (Ze (ts:=[3,3]) (by kernel_rfl) (Ys op_i (Ys op_i Jm))) (λx=>(x.1,x.2.1)) (λ_=>rfl) (λ_ h=>⟨h.1,h.2.1⟩)
theorem Ykv:Opn enc Tryz.prog W spare held 56 gwF (GwG W):=
 JH (Ze (ts:=[38,53,54]) (by kernel_rfl) (Ys Yr8 (Ys (Zs (q:=7) Tryz.underlying53 (by kernel_rfl) (by decide) Yr7) (Ys (Zs (q:=2) Tryz.underlying54 (by kernel_rfl) (by decide) YpU) Jm))))
  (λx=>⟨x.1,x.2.1.A,x.2.1.cap,x.2.1.xs,x.2.2.1.A,x.2.2.1.cap,x.2.2.1.xs⟩) (λx=>by simp[gwF,SlM.val]) (λx h=>⟨h.1,h.2.1,h.2.2.1⟩)
theorem Yx0{r:Reach}{b0:Nat}{v:Value}{d:DataW H}{p:List MemPlace}(hv:Value.okWide Tryz.prog W r b0 56 v)(h:DataW.Trod enc Tryz.prog W 0 spare held 56 v d p):∃n:GwM,v=n.val/\GwG W n:=by
 obtain⟨cs,rfl,_⟩:=okWide_struct Tryz.underlying56 hv
 obtain⟨fuel,hf⟩:=h
 obtain⟨n,h1,h2⟩:=Ykv fuel _ _ hf
 refine⟨n,?_,h2⟩
 have:cs=(gwF n).toArray:=by rw[<-h1];simp[Value.cells]
 rw[this];rfl
theorem GwG.bg{g:GwM}{K:List HP}(h:GwG W g):g.Bg W.heap.size W K:=
 ⟨h.p.bg,h.l.old.rd,h.s.old.rd,TX h.l.len maxL,TX h.s.len maxL,h.l.cap,h.s.cap⟩
end
end Go.Proofs.YtjommdkgfbhbdaaGreatDoor
