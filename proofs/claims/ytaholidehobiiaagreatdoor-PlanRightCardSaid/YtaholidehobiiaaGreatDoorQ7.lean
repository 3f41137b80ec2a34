/- Lemmas for the claim, part 7. -/
import Derived.WideKeyRuns
import Derived.Shelf.SlGeneric
import Derived.Shelf.SlSortCmp.WholeK
import Derived.Ground.SlsfProg
import Derived.Test.YtaholidehobiiaaGreatDoorProg
import Derived.LoopN
import Derived.StillTailTactics
import Derived.Test.YtaholidehobiiaaGreatDoorRows
import Derived.Lib.LaidU8
import Derived.LaidMore
import Derived.Deep.DeepLaidRun
import Derived.Stop.Joined
import Derived.Test.YtaholidehobiiaaGreatDoorQ6
set_option maxRecDepth 100000
set_option maxHeartbeats 8000000
namespace Go.Proofs.YtaholidehobiiaaGreatDoor
open Go.RowKit Go.Eng Go.Nw Go.Rt
variable {A:Option Addr}{cap B:Nat}{w0 w:World}{H:List HP}
theorem YcK(l m:List Int)(hlen:l.length<=9223372036854775807){A2:Option Addr}{cap2:Nat}(hr:Rd B w0 H A (l.flatMap numF))(hr2:Rd B w0 H A2 (m.flatMap numF))(hw:St B w0 H w):
 Calls Tryz.prog 56 [.slice A l.length cap,.slice A2 m.length cap2].toArray w (Post B w0 λu K=>u=.bool (decide (l=m))/\K=H):=by
 refine Yc Tryz.func56 Tryz.ntmps56 rfl rfl hw ?_
 by_cases hll:l.length=m.length
 rotate_left
 ·repeat'(first|refine zgb ?_|(refine zge ?_ ?_<;>intro _<;>try exact zo)|fail)
  apply Yd;exact rfl;exact rfl
  exact⟨by rw[Tn λe=>hll (by rw[e])],rfl⟩
 repeat'(first|refine zgb ?_|(refine zge ?_ ?_<;>intro _<;>try exact zo)|fail)
 refine Yi (λ(k:Nat)=>[(13,.int .i64 k),(12,.int .i64 l.length),(0,.slice A l.length cap),(1,.slice A2 m.length cap2)]) (λ_=>H) (λk=>k<=l.length/\l.take k=m.take k) (λk=>l.length-k) 0 ⟨Tu _,by simp⟩ ?_ (λw hw=>hw) ?_
 ·exact zu
 rintro k ⟨hk,hi⟩ K hK
 by_cases hlt:k<l.length
 ·obtain⟨a,ha⟩:∃a,l[k]? =some a:=⟨_,Ta hlt⟩
  obtain⟨b,hb⟩:∃b,m[k]? =some b:=⟨_,Ta (by omega)⟩
  repeat'(first|refine zgd ?_|(refine zge ?_ ?_<;>intro _<;>try exact zo)|fail)
  ·rename_i h
   apply Yd;exact rfl;exact rfl
   exact⟨by rw[Tn λe=>by rw[e,hb]at ha;exact h (Tz ha).symm],rfl⟩
  ·rename_i h
   apply hK (k+1)
   ·exact⟨by omega,by rw[TF,TF,ha,hb,hi,h]⟩
   ·omega
   ·exact zu
   ·exactλw hw=>hw
 ·repeat'(first|refine zgc ?_|(refine zge ?_ ?_<;>intro _<;>try exact zo)|fail)
  apply Yd;exact rfl;exact rfl
  rw[TQ (by omega),TQ (by omega)]at hi
  exact⟨by rw[Tc hi],rfl⟩
theorem Vu(p:PnM)(ht:TabsB B w0)(hp:p.In B w0 H)(hw:St B w0 H w):
 Calls Tryz.prog 21 [p.val].toArray w (Post B w0 λv K=>v=.int .i64 (chkP p.pln)/\K=H):=by
 refine Yc Tryz.func21 Tryz.ntmps21 rfl rfl hw ?_
 obtain⟨n,qA,qcap,q,s,cA,ccap,c,fA,fcap,f⟩:=p
 obtain⟨hin,hq,hrs,hsl,hc,hf,hfl⟩:=hp
 dsimp only at hin hq hrs hsl hc hf hfl
 have p1:=λ{H':List HP}{w:World}(hin:n.In B w0 H') (hw:St B w0 H' w)=>WF n hin hw
 have p2:=λ{H':List HP}{w:World}(hin:n.In B w0 H') (hq:QIn B w0 H' qA q) (hrs:Rd B w0 H' s.A (s.cells.flatMap celF)) (hw:St B w0 H' w)=>U3 n q s (cap:=qcap) ht hin hq hrs hsl hw
 have p3:=λ{H':List HP}{w:World}(hin:n.In B w0 H') (hq:QIn B w0 H' qA q) (hrs:Rd B w0 H' s.A (s.cells.flatMap celF)) (hc:CIn B w0 H' cA c) (hw:St B w0 H' w)=>QJ n q s c (cap:=qcap) (cap1:=ccap) ht hin hq hrs hsl hc hw
 have p4:=λ{H':List HP}{w:World}(hrs:Rd B w0 H' s.A (s.cells.flatMap celF)) (hw:St B w0 H' w)=>Yek s ht hrs hsl hw
 unfold PnM.val
 show VC _ _ B w0 _ (bodyPost _ _ (Post B w0 λv K=>v=.int .i64 (chkP ⟨n.net,q.map RqM.rq,s.sch,c.map ClM.clm,f⟩)/\K=H)) _ _
 unfold chkP
 dsimp only
 unfold OutC at p2
 obtain⟨⟨RC,ri,re⟩,hR⟩:∃R,YT n.net (q.map RqM.rq) s.sch=R:=⟨_,rfl⟩
 obtain⟨⟨RF,fe⟩,hRF⟩:∃R,Jy s.sch=R:=⟨_,rfl⟩
 obtain⟨⟨ki,ke⟩,hRK⟩:∃R,chkE n.net (q.map RqM.rq) s.sch (c.map ClM.clm)=R:=⟨_,rfl⟩
 rw[hR]at p2⊢
 rw[hRF]at p4⊢
 rw[hRK]at p3⊢
 dsimp only at p2 p3 p4⊢
 have hFn:RF.length<=9223372036854775807:=by
  have h2:=TU (λz=>z.1.length) hRF
  dsimp only at h2
  unfold Jy at h2
  split at h2
  ·simp only[RD]at h2;omega
  ·rename_i h0
   unfold V3 at h2
   rw[U4,Rw]at h2
   have h3:=(ZJ.1 (by simpa using h0)).sized
   unfold ZO at h3
   have h4:=Rm h3
   omega
 unfold NetM.val at p1
 unfold NetM.val SchM.val at p2 p3
 unfold SchM.val at p4
 clear hR hRF hRK
 by_cases hck:Yq n.net=0
 rotate_left
 ·rw[Tm hck]
  rw[Tn hck]at p1
  repeat'(first|(apply Ye T;exact rfl;exact zm;exact rfl;exact zv;exact rfl;exact rfl)|refine zgb ?_|(refine zgh ?_;intro _)|fail)
  first|apply Ya en58|apply Yb en58
  exact za
  exact rfl
  exactλ_ hw=>(p1 (hin.mono zk) hw)
  repeat'(first|(apply Ye T;exact rfl;exact zm;exact rfl;exact zv;exact rfl;exact rfl)|refine zgd ?_|fail)
  apply Yj H
  ·exact zk
  apply Yd;exact rfl;exact rfl;exact⟨rfl,rfl⟩
 rw[Td (λe=>e hck)]
 rw[Tc hck]at p1
 repeat'(first|(apply Ye T;exact rfl;exact zm;exact rfl;exact zv;exact rfl;exact rfl)|refine zgb ?_|(refine zgh ?_;intro _)|fail)
 first|apply Ya en58|apply Yb en58
 exact za
 exact rfl
 exactλ_ hw=>(p1 (hin.mono zk) hw)
 repeat'(first|(apply Ye T;exact rfl;exact zm;exact rfl;exact zv;exact rfl;exact rfl)|refine zgd ?_|fail)
 apply Yh _ en80
 exact za
 exact rfl
 exactλ_ hw=>(p2 (hin.mono zk) (hq.mono zk) (hrs.mono zk) (hw))
 rintro _ _ ⟨A2,c2,C,rfl,hC,hCl,rfl⟩
 by_cases h18:re=15\/re=1/\ri<0
 ·rw[Tm h18]
  repeat'(first|(apply Ye T;exact rfl;exact zm;exact rfl;exact zv;exact rfl;exact rfl)|refine zgd ?_|(refine zge ?_ ?_<;>intro _<;>try exact zo)|fail)
  all_goals try exact zo
  all_goals(
   apply Yj H
   ·exact zk
   apply Yd;exact rfl;exact rfl;exact⟨rfl,rfl⟩)
 rw[Td h18]
 by_cases h0:re=0
 rotate_left
 ·rw[Tm h0]
  repeat'(first|(apply Ye T;exact rfl;exact zm;exact rfl;exact zv;exact rfl;exact rfl)|refine zgd ?_|(refine zge ?_ ?_<;>intro _<;>try exact zo)|fail)
  all_goals try exact zo
  all_goals(
   apply Yj H
   ·exact zk
   apply Yd;exact rfl;exact rfl;exact⟨rfl,rfl⟩)
 rw[Td (λe=>e h0)]
 subst h0
 repeat'(first|(apply Ye T;exact rfl;exact zm;exact rfl;exact zv;exact rfl;exact rfl)|refine zgc ?_|(refine zge ?_ ?_<;>intro _<;>try exact zo)|fail)
 all_goals try exact zo
 first|apply Ya en19|apply Yb en19
 exact za
 exact rfl
 exactλ_ hw=>(p3 (hin.mono zk) (hq.mono zk) (hrs.mono zk) (hc.mono zk) hw)
 by_cases hk0:ke=0
 rotate_left
 ·rw[Tm hk0]
  repeat'(first|(apply Ye T;exact rfl;exact zm;exact rfl;exact zv;exact rfl;exact rfl)|refine zgc ?_|(refine zge ?_ ?_<;>intro _<;>try exact zo)|fail)
  apply Yj H
  ·exact zk
  apply Yd;exact rfl;exact rfl;exact⟨rfl,rfl⟩
 rw[Td (λe=>e hk0)]
 repeat'(first|(apply Ye T;exact rfl;exact zm;exact rfl;exact zv;exact rfl;exact rfl)|refine zgc ?_|(refine zge ?_ ?_<;>intro _<;>try exact zo)|fail)
 apply Yh _ en88
 exact za
 exact rfl
 exactλ_ hw=>(p4 (hrs.mono zk) (hw))
 rintro _ _ ⟨A3,rfl,rfl⟩
 have p5:=λ{cap1 cap2:Nat}{H':List HP}{w:World}(h1:Rd B w0 H' A3 (RF.flatMap numF)) (h2:Rd B w0 H' fA (f.flatMap numF)) (hw:St B w0 H' w)=>YcK RF f hFn (cap:=cap1) (cap2:=cap2) h1 h2 hw
 by_cases hf0:fe=0
 rotate_left
 ·rw[Tm (.inl hf0)]
  repeat'(first|(apply Ye T;exact rfl;exact zm;exact rfl;exact zv;exact rfl;exact rfl)|refine zgc ?_|(refine zge ?_ ?_<;>intro _<;>try exact zo)|fail)
  all_goals try exact zo
  all_goals(
   apply Yj H
   ·exact zk
   apply Yd;exact rfl;exact rfl;exact⟨rfl,rfl⟩)
 by_cases hff:RF=f
 ·rw[Td (by rintro(h|h);exact h hf0;exact h hff)]
  rw[Tc hff]at p5
  repeat'(first|(apply Ye T;exact rfl;exact zm;exact rfl;exact zv;exact rfl;exact rfl)|((first|apply Ya en56|apply Yb en56);exact za;exact rfl;exactλ_ hw=>(p5 (Rd.sl zm) (hf.mono zk) hw))|refine zgd ?_|(refine zge ?_ ?_<;>intro _<;>try exact zo)|fail)
  all_goals try exact zo
  all_goals(
   apply Yj H
   ·exact zk
   apply Yd;exact rfl;exact rfl;exact⟨rfl,rfl⟩)
 ·rw[Tm (.inr hff)]
  rw[Tn hff]at p5
  repeat'(first|(apply Ye T;exact rfl;exact zm;exact rfl;exact zv;exact rfl;exact rfl)|((first|apply Ya en56|apply Yb en56);exact za;exact rfl;exactλ_ hw=>(p5 (Rd.sl zm) (hf.mono zk) hw))|refine zgd ?_|(refine zge ?_ ?_<;>intro _<;>try exact zo)|fail)
  all_goals try exact zo
  all_goals(
   apply Yj H
   ·exact zk
   apply Yd;exact rfl;exact rfl;exact⟨rfl,rfl⟩)
theorem Ydn(word:List UInt8)(l:List Int)(h:∀n∈l,0<=n/\n<10000)(h5:l.length<=100)(hwd:word.length<=100)(ht:TabsB B w0)(hr:Rd B w0 H A (l.flatMap numF))(hw:St B w0 H w):
 Calls Tryz.prog 116 [strV word,.slice A l.length cap].toArray w (Post B w0 λv K=>v=strV (XM word l)/\K=H):=by
 refine Yc Tryz.func116 Tryz.ntmps116 rfl rfl hw ?_
 repeat'(first|refine zgb ?_|fail)
 refine Yi (λ(i:Nat)=>[(9,.int .i64 i),(8,.int .i64 l.length),(7,.slice A l.length cap),(0,strV (X8 word (l.take i)))]) (λ_=>H) (λi=>i<=l.length) (λi=>l.length-i) 0 (Tu _) ?_ (λw hw=>hw) ?_
 ·have e0:X8 word (l.take 0)=word:=by simp[X8]
  rw[e0]
  exact zu
 intro i hi K hK
 have hbl:=WZ (w:=word) (l:=l.take i) λn hn=>h n (SU hn)
 have hlt0:(l.take i).length<=100:=by rw[TD];omega
 by_cases hlt:i<l.length
 ·obtain⟨n,hn⟩:∃n,l[i]? =some n:=⟨_,Ta hlt⟩
  have hnb:=h n (Tf hn)
  have hil:=QV hnb
  repeat'(first|((first|apply Ya YeJ|apply Yb YeJ);exact za;exact rfl;exactλ_ hw=>(YaK n (by omega) (by omega) ht hw))|(apply JN [32] (Lib.itoa n);(iterate 3 exact rfl);(show 1+_<=_;omega))|(apply JN (X8 word (l.take i)) ([32]++Lib.itoa n);(iterate 3 exact rfl);(rw[Tj];show _+(1+_)<=_;omega))|refine zgd ?_|(refine zge ?_ ?_<;>intro _<;>try exact zo)|fail)
  apply hK (i+1)
  ·show i+1<=l.length
   omega
  ·omega
  ·rw[TF,hn,RI,Yat]
   exact zu
  ·exactλw hw=>hw
 ·skip
  repeat'(first|(apply JN (X8 word (l.take i)) [10];(iterate 3 exact rfl);(show _+1<=_;omega))|refine zgc ?_|(refine zge ?_ ?_<;>intro _<;>try exact zo)|fail)
  apply Yd;exact rfl;exact rfl
  rw[show i=l.length by omega,TY]
  exact⟨rfl,rfl⟩
def QQ(f:Flw):List Int:=[f.1,f.2.1,f.2.2.1,f.2.2.2.1,f.2.2.2.2.1,f.2.2.2.2.2]
def rqT(x:Rqs)(k:Nat):List UInt8:=XM wordF (QQ x.1)++(List.range k).flatMap λj=>XM wordR (rtAt x.2 j)
def plnT(q:List Rqs)(k:Nat):List UInt8:=(q.take k).flatMap λx=>rqT x x.2.length
def Qm(p:Pln):List UInt8×Int:=if chkP p≠0 then([],1)else(plnT p.q p.q.length++(XO p.s).1++(V4 p.c).1,0)
structure RqD(x:Rqs):Prop where
 f:∀n∈QQ x.1,0<=n/\n<10000
 n:x.2.length<=2
 l:∀r∈x.2,r.length<=9
 r:∀r∈x.2,∀n∈r,0<=n/\n<10000
theorem Yhx{p:Pln}(h:chkP p=0):(YT p.n p.q p.s).2.2=0:=by
 unfold chkP at h
 split at h
 ·cases h
 split at h
 ·cases h
 split at h
 ·cases h
 ·rename_i h2;exact RL.1 h2
variable {n:Net}{q:List Rqs}
theorem Yhw{s:Sch}(h:(YT n q s).2.2=0):(rqsE n q).2=0:=RL.1 λh1=>by
 unfold YT at h;rw[Tm h1]at h;exact h1 h
theorem YlR(h:(rqsE n q).2=0):q.length<=16/\∀x∈q,RqD x:=by
 obtain⟨hck,hfl,hrt⟩:=V7 h
 have hok:=YM hck
 have h32:=hok.n1
 refine⟨?_,λx hx=>?_⟩
 ·unfold YE at hfl
  split at hfl
  ·cases hfl
  split at hfl
  ·cases hfl
  rename_i h2
  unfold YB at h2
  rw[Tv]at h2
  omega
 have hfx:XD n.nodes x.1=0:=VJ hfl (TG.2 ⟨x,hx,rfl⟩)
 obtain⟨h1,h2,h3,-,h5⟩:=ZI hfx
 have h6:(0<=x.1.2.1/\x.1.2.1<n.nodes)/\0<=x.1.2.2.1/\x.1.2.2.1<n.nodes:=by
  unfold XD insE at hfx
  split at hfx
  ·cases hfx
  rename_i h7
  simp only[Rl]at h7
  omega
 have hrx:=hrt x hx
 refine⟨λz hz=>?_,?_,λr hr=>?_,λr hr z hz=>?_⟩
 ·unfold QQ at hz
  simp only[TN,R7,N2]at hz
  omega
 ·have:=Yai hrx;omega
 ·exact(JU (J0 hrx r hr)).2.1.2
 ·have hc:=J0 hrx r hr
  unfold Zv at hc
  split at hc
  ·exact absurd hc (by assumption)
  have ho:=(QP hc).2.1
  rw[RY]at ho
  have h8:=ho z hz
  unfold offE at h8
  simp only[Tq]at h8
  omega
theorem Yb3{x:Rqs}(h:RqD x):∀k,k<=x.2.length->(rqT x k).length<=35+51*k
 |0,_=>by
  have:=Zq (w:=wordF) h.f
  have e:wordF.length=4:=rfl
  have e2:(QQ x.1).length=6:=rfl
  unfold rqT
  simp only[List.range_zero,SZ,TM]
  omega
 |k+1,hk=>by
  have ih:=Yb3 h k (by omega)
  have hr:rtAt x.2 k∈x.2:=by
   obtain⟨r,hr⟩:∃r,x.2[k]? =some r:=⟨_,Ta (by omega)⟩
   have:rtAt x.2 k=r:=by unfold rtAt;rw[Tt,hr];rfl
   rw[this];exact Tf hr
  have h1:=Zq (w:=wordR) (h.r _ hr)
  have h2:=h.l _ hr
  have e:wordR.length=5:=rfl
  unfold rqT at ih⊢
  rw[RA,TV,<-TX,Tj]
  simp only[TR,SZ,TM]
  omega
theorem YpV(x:Rqs)(k:Nat):rqT x (k+1)=rqT x k++XM wordR (rtAt x.2 k):=by
 unfold rqT
 rw[RA,TV,<-TX]
 simp
theorem Yfk{k:Nat}{x:Rqs}(h:q[k]? =some x):plnT q (k+1)=plnT q k++rqT x x.2.length:=by
 unfold plnT
 rw[TF,h,TV]
 simp
theorem YiA{q:List Rqs}(h:∀x∈q,RqD x):∀k,k<=q.length->(plnT q k).length<=150*k
 |0,_=>by unfold plnT;simp
 |k+1,hk=>by
  have ih:=YiA h k (by omega)
  obtain⟨x,hx⟩:∃x,q[k]? =some x:=⟨_,Ta (by omega)⟩
  have hd:=h x (Tf hx)
  have h1:=Yb3 hd x.2.length (TL _)
  have h2:=hd.n
  rw[Yfk hx,Tj]
  omega
theorem Ykh(s:Sch):(XO s).1.length<=30000:=by
 unfold XO
 cases hf:Xz s with
 |false=>rw[Tm rfl];simp
 |true=>
  rw[Td (by decide)]
  have hfr:=ZJ.1 hf
  have h1:=Qs hfr s.cells.length (TL _)
  have h2:=hfr.few
  have e:Z6 s s.cells.length=YdI s:=by unfold Z6 YdI;rw[TY]
  rw[e]at h1
  show(YdI s).length<=_
  omega
theorem Ykg(c:List Clm):(V4 c).1.length<=30000:=by
 unfold V4
 cases hf:Ybj c with
 |false=>rw[Tm rfl];simp
 |true=>
  rw[Td (by decide)]
  obtain⟨h16,hfd⟩:=YhX hf
  have h1:=Yax hfd c.length (TL _)
  show(YiZ c).length<=_
  rw[Yfu hfd]
  omega
variable {B:Nat}{w0 w:World}{H:List HP}
theorem NetM.In.here{n:NetM}(h:n.In B w0 H)(hw:St B w0 H w):n.In w.heap.size w []:=⟨h.pw.here hw,λr hr=>(h.rw_ r hr).here hw,h.lk.here hw,h.mg.here hw,h.s1,h.s2,h.s3,h.s4⟩
theorem QIn.here{q:List RqM}{A:Option Addr}(h:QIn B w0 H A q)(hw:St B w0 H w):QIn w.heap.size w [] A q:=⟨h.rd.here hw,λx hx=>⟨(h.x x hx).rt.here hw,λr hr=>((h.x x hx).rw_ r hr).here hw,(h.x x hx).ln,(h.x x hx).rl⟩,h.ln⟩
theorem PnM.In.here{p:PnM}(h:p.In B w0 H)(hw:St B w0 H w):p.In w.heap.size w []:=⟨h.n.here hw,h.q.here hw,h.s.here hw,h.sl,h.c.here hw,h.f.here hw,h.fl⟩
theorem Ynu(p:PnM)(ht:TabsB B w0)(hp:p.In B w0 [])(hw:St B w0 [] w):
 Calls Tryz.prog 35 [p.val].toArray w (Post B w0 λv _=>v=.tuple #[strV (Qm p.pln).1,.int .i64 (Qm p.pln).2]):=by
 refine Yc Tryz.func35 Tryz.ntmps35 rfl rfl hw ?_
 have p1:=λ{H':List HP}{w:World}(hp:p.In B w0 H') (hw:St B w0 H' w)=>Vu p ht hp hw
 obtain⟨n,qA,qcap,q,s,cA,ccap,c,fA,fcap,f⟩:=p
 have hp0:=hp
 obtain⟨hin,hq,hrs,hsl,hc,hf,hfl⟩:=hp
 dsimp only at hin hq hrs hsl hc hf hfl
 have p2:=λ{H':List HP}{w:World}(hrs:Rd B w0 H' s.A (s.cells.flatMap celF)) (hw:St B w0 H' w)=>Wx s ht hrs hsl hw
 have p3:=λ{H':List HP}{w:World}(hc:CIn B w0 H' cA c) (hw:St B w0 H' w)=>YhF c (cap:=ccap) ht hc hw
 unfold PnM.val at p1⊢
 unfold SchM.val at p2
 have hpl:(⟨n,qA,qcap,q,s,cA,ccap,c,fA,fcap,f⟩:PnM).pln=⟨n.net,q.map RqM.rq,s.sch,c.map ClM.clm,f⟩:=rfl
 rw[hpl]at p1⊢
 dsimp only at p1⊢
 unfold Qm
 by_cases hk:chkP ⟨n.net,q.map RqM.rq,s.sch,c.map ClM.clm,f⟩=0
 rotate_left
 ·rw[Tm hk]
  repeat'(first|refine zgb ?_|(refine zgh ?_;intro _)|fail)
  first|apply Ya en21|apply Yb en21
  exact za
  exact rfl
  exactλ_ hw=>(p1 (hp0.mono zk) hw)
  repeat'(first|refine zgb ?_|(refine zge ?_ ?_<;>intro _<;>try exact zo)|fail)
  apply Yp;(iterate 3 exact rfl)
  rfl
 have hrq:=Yhw (Yhx hk)
 dsimp only at hrq
 rw[hk]at p1
 rw[Td (λe=>e hk)]
 obtain⟨hq16,hqd⟩:=YlR hrq
 rw[Tv]at hq16
 have hsL:=Ykh s.sch
 have hcL:=Ykg (c.map ClM.clm)
 obtain⟨⟨sT,se⟩,hsT⟩:∃R,XO s.sch=R:=⟨_,rfl⟩
 obtain⟨⟨cT,ce⟩,hcT⟩:∃R,V4 (c.map ClM.clm)=R:=⟨_,rfl⟩
 rw[hsT]at p2 hsL⊢
 rw[hcT]at p3 hcL⊢
 dsimp only at p2 p3 hsL hcL⊢
 repeat'(first|refine zgb ?_|(refine zgh ?_;intro _)|fail)
 first|apply Ya en21|apply Yb en21
 exact za
 exact rfl
 exactλ_ hw=>(p1 (hp0.mono zk) hw)
 repeat'(first|refine zgb ?_|(refine zge ?_ ?_<;>intro _<;>try exact zo)|(refine zgh ?_;intro _)|fail)
 rename_i g1 _ gb
 obtain⟨q0,hq0⟩:∃q0,q.map RqM.rq=q0:=⟨_,rfl⟩
 have hq0l:q0.length=q.length:=by rw[<-hq0,Tv]
 rw[hq0]at hqd⊢
 refine Yi (λz:PrM=>[(20,.int .i64 (z.i:Nat)),(19,.int .i64 q.length),(18,.slice qA q.length qcap),(1,.pointer (some ⟨g1,0,none⟩)),(4,.pointer (some ⟨gb,0,none⟩))])
  (λz=>bdP gb (if z.i=0 then .pointer none else .pointer (some ⟨gb,0,none⟩)) z.A z.cap (plnT q0 z.i) [blk g1 (.cells #[.int .i64 n.nodes,.slice n.pA n.rows.length n.pcap,.int .i64 n.noise,.int .i64 n.thr,.slice n.lA n.links.length n.lcap,.slice n.mA n.margin.length n.mcap,.slice qA q.length qcap,.int .i64 s.len,.int .i64 s.off,.slice s.A s.cells.length s.cap,.slice cA c.length ccap,.slice fA f.length fcap] 42 (0,0))]) (λz=>z.i<=q.length) (λz=>q.length-z.i) ⟨0,none,0⟩ (Tu _) ?_ ?_ ?_
 ·exact zu
 ·intro w hw
  have h5:St B w0 [blk gb (.cells (Value.agg #[.pointer none,.slice none 0 0]).cells 163 (0,0)),blk g1 (.cells #[.int .i64 n.nodes,.slice n.pA n.rows.length n.pcap,.int .i64 n.noise,.int .i64 n.thr,.slice n.lA n.links.length n.lcap,.slice n.mA n.margin.length n.mcap,.slice qA q.length qcap,.int .i64 s.len,.int .i64 s.off,.slice s.A s.cells.length s.cap,.slice cA c.length ccap,.slice fA f.length fcap] 42 (0,0))] w:=by
   revert w
   exact zk
  exact(h5.nilSlice 5 1).perm (.swap _ _ _)
 rintro⟨k,A1,cap1⟩ hk2 K hK
 dsimp only at hk2⊢
 have htl:=YiA hqd k (by omega)
 by_cases hlt:k<q.length
 rotate_left
 ·obtain rfl:k=q.length:=by omega
  obtain⟨pp,hpp⟩:∃p,(if q.length=0 then Value.pointer none else .pointer (some ⟨gb,0,none⟩))=p:=⟨_,rfl⟩
  have hp2:pp=.pointer none\/pp=.pointer (some ⟨gb,0,none⟩):=by rw[<-hpp];split<;>simp
  rw[hpp,hq0l]
  clear hK
  unfold bdP
  repeat'(first|(apply Ye T;exact rfl;exact zm;exact rfl;exact zv;exact rfl;exact rfl)|refine zgc ?_|(refine zge ?_ ?_<;>intro _<;>try exact zo)|fail)
  first|apply Ya en40|apply Yb en40
  exact za
  exact rfl
  exactλ_ hw=>(p2 (hrs.mono zk) hw)
  repeat'(first|(apply Ye T;exact rfl;exact zm;exact rfl;exact zv;exact rfl;exact rfl)|refine zgc ?_|fail)
  first|apply Ya en41|apply Yb en41
  exact za
  exact rfl
  exactλ_ hw=>(p3 (hc.mono zk) hw)
  repeat'(first|(apply Ye T;exact rfl;exact zm;exact rfl;exact zv;exact rfl;exact rfl)|refine zgc ?_|fail)
  apply Yh _ YoR
  exact za
  exact rfl
  exactλ_ hw=>(Ov (l:=plnT q0 q.length) hp2 (hw))
  rintro _ _ ⟨rfl,rfl⟩
  repeat'(first|(apply JN (plnT q0 q.length) sT;(iterate 3 exact rfl);omega)|(apply JN (plnT q0 q.length++sT) cT;(iterate 3 exact rfl);(rw[Tj];omega))|refine zga ?_|fail)
  apply Yp;(iterate 3 exact rfl)
  rfl
 obtain⟨x,hx⟩:∃x,q[k]? =some x:=⟨_,Ta hlt⟩
 have hxm:=Tf hx
 have hx0:q0[k]? =some x.rq:=by rw[<-hq0,TE,hx];rfl
 have hxd:=hqd x.rq (Tf hx0)
 have hxi:=hq.x x hxm
 have hqr:=hq.rd
 obtain⟨pp,hpp⟩:∃p,(if k=0 then Value.pointer none else .pointer (some ⟨gb,0,none⟩))=p:=⟨_,rfl⟩
 have hp2:pp=.pointer none\/pp=.pointer (some ⟨gb,0,none⟩):=by rw[<-hpp];split<;>simp
 rw[hpp]
 have hxn:=hxd.n
 have hxn2:x.rq.2.length=x.rows.length:=Tv _
 have hf0:=Yb3 hxd 0 (Tu _)
 have ef:rqT x.rq 0=XM wordF (QQ x.f):=by unfold rqT;simp;rfl
 rw[ef]at hf0
 have l1:=λ{g:Nat}{cap:Nat}{H':List HP}{w:World}(hm:blk g (.cells #[.int .i64 x.f.1,.int .i64 x.f.2.1,.int .i64 x.f.2.2.1,.int .i64 x.f.2.2.2.1,.int .i64 x.f.2.2.2.2.1,.int .i64 x.f.2.2.2.2.2] 3 (0,0))∈H') (hw:St B w0 H' w)=>Ydn wordF (QQ x.f) hxd.f (by show 6<=100;decide) (by decide) (A:=some ⟨g,0,none⟩) (cap:=cap) ht (show Rd B w0 H' _ ((QQ x.f).flatMap numF) from Rd.blk (cs:=#[.int .i64 x.f.1,.int .i64 x.f.2.1,.int .i64 x.f.2.2.1,.int .i64 x.f.2.2.2.1,.int .i64 x.f.2.2.2.2.1,.int .i64 x.f.2.2.2.2.2]) hm) hw
 obtain⟨s1,hs1⟩:∃s,XM wordF (QQ x.f)=s:=⟨_,rfl⟩
 rw[hs1]at l1 hf0 ef
 unfold bdP
 repeat'(first|(apply Ye T;exact rfl;exact zm;exact rfl;exact zv;exact rfl;exact rfl)|refine zgd ?_|(refine zge ?_ ?_<;>intro _<;>try exact zo)|(refine zgh ?_;intro _)|fail)
 rename_i gx gf gl
 first|apply Ya Yk8|apply Yb Yk8
 exact za
 exact rfl
 exactλ_ hw=>(l1 zm hw)
 apply XL (bdP gb pp A1 cap1 (plnT q0 k) [rqA gx x,blk g1 (.cells #[.int .i64 n.nodes,.slice n.pA n.rows.length n.pcap,.int .i64 n.noise,.int .i64 n.thr,.slice n.lA n.links.length n.lcap,.slice n.mA n.margin.length n.mcap,.slice qA q.length qcap,.int .i64 s.len,.int .i64 s.off,.slice s.A s.cells.length s.cap,.slice cA c.length ccap,.slice fA f.length fcap] 42 (0,0))])
 ·unfold bdP
  exact zk
 apply Yh _ YeD
 exact za
 exact rfl
 exactλ_ hw=>(J2 gb pp hp2 A1 cap1 (plnT q0 k) s1 (by omega) (hw))
 rintro _ _ ⟨rfl,A2,cap2,rfl⟩
 unfold bdP
 repeat'(first|(apply Ye T;exact rfl;exact zm;exact rfl;exact zv;exact rfl;exact rfl)|refine zgb ?_|fail)
 refine Yi (λz:PrM=>[(44,.int .i64 (z.i:Nat)),(43,.int .i64 x.rows.length),(42,.slice x.A x.rows.length x.cap),(20,.int .i64 (k:Nat)),(19,.int .i64 q.length),(18,.slice qA q.length qcap),(1,.pointer (some ⟨g1,0,none⟩)),(4,.pointer (some ⟨gb,0,none⟩))])
  (λz=>bdP gb (.pointer (some ⟨gb,0,none⟩)) z.A z.cap (plnT q0 k++rqT x.rq z.i) [blk g1 (.cells #[.int .i64 n.nodes,.slice n.pA n.rows.length n.pcap,.int .i64 n.noise,.int .i64 n.thr,.slice n.lA n.links.length n.lcap,.slice n.mA n.margin.length n.mcap,.slice qA q.length qcap,.int .i64 s.len,.int .i64 s.off,.slice s.A s.cells.length s.cap,.slice cA c.length ccap,.slice fA f.length fcap] 42 (0,0))]) (λz=>z.i<=x.rows.length) (λz=>x.rows.length-z.i) ⟨0,A2,cap2⟩ (Tu _) ?_ ?_ ?_
 ·exact zu
 ·dsimp only
  rw[ef]
  unfold bdP
  exact zk
 rintro⟨j,A3,cap3⟩ hj K2 hK2
 dsimp only at hj⊢
 have hjl:=Yb3 hxd j (by omega)
 by_cases hjx:j<x.rows.length
 rotate_left
 ·obtain rfl:j=x.rows.length:=by omega
  clear hK2
  have hst:=Yfk hx0
  rw[hxn2]at hst
  rw[<-hst]
  unfold bdP
  repeat'(first|refine zgc ?_|(refine zge ?_ ?_<;>intro _<;>try exact zo)|fail)
  apply hK ⟨k+1,A3,cap3⟩
  ·show k+1<=q.length
   omega
  ·dsimp only;omega
  ·exact zu
  ·dsimp only
   rw[Td (Nat.succ_ne_zero k)]
   unfold bdP
   exact zk
 obtain⟨r,hr⟩:∃r,x.rows[j]? =some r:=⟨_,Ta hjx⟩
 have hrm:=Tf hr
 have hrt:=hxi.rt
 have hrx:r.xs∈x.rq.2:=TG.2 ⟨r,hrm,rfl⟩
 have hst:=YpV x.rq j
 have hrj:rtAt x.rq.2 j=r.xs:=U9 hr
 rw[hrj]at hst
 have h9:=hxd.l _ hrx
 have l2:=λ{H':List HP}{w:World}(hr:Rd B w0 H' r.A (r.xs.flatMap numF)) (hw:St B w0 H' w)=>Ydn wordR r.xs (hxd.r _ hrx) (by omega) (by decide) (cap:=r.cap) ht hr hw
 have hl2:=Zq (w:=wordR) (hxd.r _ hrx)
 have e5:wordR.length=5:=rfl
 obtain⟨s2,hs2⟩:∃s,XM wordR r.xs=s:=⟨_,rfl⟩
 rw[hs2]at l2 hl2 hst
 unfold bdP
 repeat'(first|refine zgd ?_|(refine zge ?_ ?_<;>intro _<;>try exact zo)|fail)
 first|apply Ya Yk8|apply Yb Yk8
 exact za
 exact rfl
 exactλ_ hw=>(l2 ((hxi.rw_ r hrm).mono zk) hw)
 apply XL (bdP gb (.pointer (some ⟨gb,0,none⟩)) A3 cap3 (plnT q0 k++rqT x.rq j) [blk g1 (.cells #[.int .i64 n.nodes,.slice n.pA n.rows.length n.pcap,.int .i64 n.noise,.int .i64 n.thr,.slice n.lA n.links.length n.lcap,.slice n.mA n.margin.length n.mcap,.slice qA q.length qcap,.int .i64 s.len,.int .i64 s.off,.slice s.A s.cells.length s.cap,.slice cA c.length ccap,.slice fA f.length fcap] 42 (0,0))])
 ·unfold bdP
  exact zk
 apply Yh _ YeD
 exact za
 exact rfl
 exactλ_ hw=>(J2 gb _ (.inr rfl) A3 cap3 (plnT q0 k++rqT x.rq j) s2 (by rw[Tj];omega) (hw))
 rintro _ _ ⟨rfl,A4,cap4,rfl⟩
 unfold bdP
 repeat'(first|refine zgc ?_|fail)
 apply hK2 ⟨j+1,A4,cap4⟩
 ·show j+1<=x.rows.length
  omega
 ·dsimp only;omega
 ·exact zu
 ·dsimp only
  intro w hw
  rw[hst,show plnT q0 k++(rqT x.rq j++s2)=plnT q0 k++rqT x.rq j++s2 from(TX _ _ _).symm]
  unfold bdP
  exact hw
theorem YiD(p:PnM)(ht:TabsB B w0)(hp:p.In B w0 H)(hw:St B w0 H w):
 Calls Tryz.prog 35 [p.val].toArray w (Post B w0 λv K=>v=.tuple #[strV (Qm p.pln).1,.int .i64 (Qm p.pln).2]/\K=H):=
 W3 hw (Ynu p (ht.here hw) (hp.here hw) (St.start w))
end Go.Proofs.YtaholidehobiiaaGreatDoor
namespace Go.Rt
open Go.Nw
def YjA(nodes:Nat)(l:List Lk)(to:Int)(far:List Int):Bool:=
 decide (far.length=nodes)&&decide (Yf far to=0)&&((List.range nodes).all λv:Nat=>decide (0<=Yf far v/\Yf far v<=YK))&&
 ((List.range nodes).all λv:Nat=>decide ((v:Int)=to)||decide (¬Yf far v<YK)||l.any λa=>decide (a.1=v/\Yf far a.2.1+a.2.2<=Yf far v))&&
 l.all λa=>decide (¬Yf far a.2.1<YK)||decide (Yf far a.1<=Yf far a.2.1+a.2.2)
variable {nodes:Nat}{l:List Lk}{to:Int}{far:List Int}
theorem YmG(h:YjA nodes l to far=true):Dist nodes l to far:=by
 unfold YjA at h
 simp only[To,TI,Sj,Tq,Rk,TO]at h
 obtain⟨⟨⟨⟨h1,h2⟩,h3⟩,h4⟩,h5⟩:=h
 refine⟨h1,h2,λv h0 hn=>?_,λv h0 hn hne hlt=>?_,λa ha hlt=>?_⟩
 ·have:=h3 v.toNat (by omega)
  rwa [show((v.toNat:Nat):Int)=v by omega]at this
 ·have:=h4 v.toNat (by omega)
  rw[show((v.toNat:Nat):Int)=v by omega]at this
  rcases this with(h|h)|h
  ·exact absurd h hne
  ·exact absurd hlt h
  ·exact h
 ·rcases h5 a ha with h|h
  ·exact absurd hlt h
  ·exact h
def YoC(nodes:Nat)(l:List Lk):Bool:=l.all λa=>decide ((0<=a.1/\a.1<nodes)/\(0<=a.2.1/\a.2.1<nodes)/\(1<=a.2.2/\a.2.2<=1000000))
theorem Ymq(h:YoC nodes l=true):ArcsOk nodes l:=λa ha=>by
 have:=TI.1 h a ha
 exact Rm this
theorem YjB(h1:YoC nodes l=true)(h:YjA nodes l to far=true):ZY nodes l to=far:=W8 (Ymq h1) (YmG h)
end Go.Rt
namespace Go.Proofs.YtaholidehobiiaaGreatDoor
open Go.RowKit Go.Eng Go.Nw Go.Rt
def exN5:Net:=⟨2,[[0,9],[9,0]],1,1000,[(0,1,0),(1,0,0)],[9,9]⟩
def exF5:Flw:=(1,0,1,2,0,2)
def exS5:Sch:=⟨2,1,[(0,0,0,1,1)]⟩
def exP5:Pln:=⟨exN5,[(exF5,[[0,1]])],exS5,[⟨1,[[0,1]],[1],[0],[[0]]⟩],[0,1]⟩
def exA5:List Lk:=[(0,1,1),(1,0,1)]
theorem YhK:YS exN5=exA5:=by decide
theorem YhL:Z1 exN5 0 1=0:=by decide
theorem Yo2:∃x es,Ui 100000 2 exA5 0 0 1 (λ_=>false)=some (x,false,es):=by
 have h:(Ui 100000 2 exA5 0 0 1 (λ_=>false)).map (λr=>r.2.1)=some false:=by decide
 cases hb:Ui 100000 2 exA5 0 0 1 (λ_=>false)with
 |none=>rw[hb]at h;cases h
 |some r=>
  rw[hb]at h
  obtain⟨x,ok,es⟩:=r
  simp only[RH,Ru]at h
  subst h
  exact⟨x,es,rfl⟩
theorem Yo4:WP exN5 exF5=(none,17):=by
 obtain⟨x,es,hb⟩:=Yo2
 have hp:Yac 100000 2 exA5 0 1=some none:=by
  unfold Yac
  rw[hb]
  simp only
  rw[Tm trivial]
 unfold WP Ya0
 rw[Td (by show¬Z1 exN5 0 1≠0;rw[YhL];decide),YhK,show exN5.nodes.toNat=2 from rfl,show exF5.2.1=0 from rfl,show exF5.2.2.1=1 from rfl,hp]
 rfl
theorem YmN:Z5 exN5 0 1=([0,1],0):=by
 have hr:Qo exN5 0 1=[0,1]:=by
  unfold Qo
  rw[YhK,show exN5.nodes.toNat=2 from rfl,YjB (far:=[34,0]) (by decide) (by decide)]
  decide
 unfold Z5
 rw[YhL,hr]
 decide
theorem Ylx:reqE exN5 exF5=((exF5,[[0,1]]),0):=by
 unfold reqE
 rw[Yo4]
 unfold V9
 rw[show exF5.2.1=0 from rfl,show exF5.2.2.1=1 from rfl,YmN]
 rfl
theorem YmM:JZ exN5 [exF5]=([(exF5,[[0,1]])],(-1,0)):=by
 have h1:Ydp exN5 [exF5]=(-1,0):=by
  unfold Ydp
  show YH (λi=>(reqE exN5 (Y9 [exF5] i)).2) 1 0=_
  unfold YH YH
  rw[show Y9 [exF5] 0=exF5 from rfl,Ylx]
  rfl
 unfold JZ
 rw[h1,Td (by decide),Td (by decide),Td (by decide),Re,N5,Ylx]
theorem YmL:Yau exN5 [(exF5,[[0,1]])] 2 1=(some exP5,0):=by rfl
theorem Yo3:Ybv exN5 [exF5] 2 1=(some exP5,0):=by
 unfold Ybv
 rw[YmM,Td (by decide),Td (by decide),Td (by decide),Td (by decide)]
 exact YmL
theorem Ylw:chkP exP5=0:=by decide
def exR5:Pln:=⟨exN5,[],⟨2,1,[]⟩,[],[1,1]⟩
theorem YqT:∃p,wdrP exP5 1=(some p,0)/\p.q=[]/\p.s.cells=[]:=⟨exR5,by rfl,rfl,rfl⟩
theorem YaJ{n:Int}(h:0<=n/\n<10):Lib.itoa n=[UInt8.ofNat (48+n.toNat)]:=by
 rw[Yh7 h.1,Lib.decDigits_one (by omega)]
def exT5:List UInt8:=[102,108,111,119,32,49,32,48,32,49,32,50,32,48,32,50,10,114,111,117,116,101,32,48,32,49,10,115,99,104,101,100,117,108,101,32,50,32,49,10,99,101,108,108,32,48,32,48,32,48,32,49,32,49,10,102,108,111,119,32,49,10,114,111,117,116,101,32,48,32,49,10,98,111,117,110,100,32,49,32,48,10,115,108,111,116,115,32,48,10]
theorem Yo5:Qm exP5=(exT5,0):=by
 have h0:Lib.itoa 0=[48]:=YaJ (by omega)
 have h1:Lib.itoa 1=[49]:=YaJ (by omega)
 have h2:Lib.itoa 2=[50]:=YaJ (by omega)
 unfold Qm
 rw[Td (by rw[Ylw];decide)]
 unfold exP5 exS5 exF5 XO V4
 rw[Td (by decide),Td (by decide)]
 unfold plnT YiZ YlP YdI
 simp only[TR,SZ,TS,RD,List.take,show List.range (0+1)=[0] from rfl]
 unfold YlQ rqT XM X8 QQ nums rtAt
 simp[h0,h1,h2,exT5,wordF,wordR,wordB,wordL]
 rfl
structure FtM where
 g8:Nat
 A:Option Addr
 cap:Nat
 iA:Option Addr
 icap:Nat
theorem YhR(b:BuM)(g:Nat)(len off:Int)(h24:len<=24\/512<len){B:Nat}{w0:World}{H:List HP}{w:World}(ht:TabsB B w0)(hin:b.n.In B w0 H)(hq:QIn B w0 H b.qA b.q)(hw:St B w0 (bldA g b::H) w):
 Calls Tryz.prog 68 [.pointer (some ⟨g,0,none⟩),.int .i64 len,.int .i64 off].toArray w (Post B w0 λv K=>∃A cap iA icap,v=.tuple #[.slice iA (Xb b.n.net (b.q.map RqM.rq) len off).1.2.length icap,.bool (decide ((Xb b.n.net (b.q.map RqM.rq) len off).1.2.length=b.q.length))]/\
  K=bldA g {b with s:=⟨(Xb b.n.net (b.q.map RqM.rq) len off).1.1.len,(Xb b.n.net (b.q.map RqM.rq) len off).1.1.off,A,cap,(Xb b.n.net (b.q.map RqM.rq) len off).1.1.cells⟩,e:=Xr b.e (Xb b.n.net (b.q.map RqM.rq) len off).2}::cels A cap (Xb b.n.net (b.q.map RqM.rq) len off).1.1.cells::Z2 iA icap (Xb b.n.net (b.q.map RqM.rq) len off).1.2::H):=by
 refine Yc Tryz.func68 Tryz.ntmps68 rfl rfl hw ?_
 obtain⟨n,qA,qcap,q,s,cA,ccap,c,fA,fcap,f,e⟩:=b
 dsimp only at hin hq⊢
 have hop:∀w,St B w0 [many H] w->St B w0 H w:=λw hw=>hw.perm (.openT H)
 have hin:=hin.mono hop
 have hq:=hq.mono hop
 have p1:=λ{H':List HP}{w:World}(hin:n.In B w0 H') (hq:QIn B w0 H' qA q) (hw:St B w0 H' w)=>Yn1 n q len off h24 (cap:=qcap) ht hin hq hw
 have p2:=λ(b:BuM) (e:Int) {H':List HP}{w:World}(hw:St B w0 (bldA g b::H') w)=>Uq b g e hw
 unfold OutA NetM.val at p1
 generalize Xb n.net (q.map RqM.rq) len off=R at p1⊢
 obtain⟨⟨⟨rl,ro,rc⟩,ra⟩,re⟩:=R
 dsimp only at p1⊢
 refine Jf (bldA g ⟨n,qA,qcap,q,s,cA,ccap,c,fA,fcap,f,e⟩::[many H]) (λw hw=>hw.perm (.cons _ (.closeT H))) ?_
 dsimp only[bldA]
 iterate 6 (first|refine zga ?_|fail)
 apply Xt
 refine J4 (λz:FtM=>[(8,.pointer (some ⟨z.g8,0,none⟩)),(9,.slice z.iA ra.length z.icap),(10,.int .i64 re),(0,.pointer (some ⟨g,0,none⟩))])
  (λz=>blk z.g8 (.cells #[.int .i64 rl,.int .i64 ro,.slice z.A rc.length z.cap] 37 (0,0))::cels z.A z.cap rc::Z2 z.iA z.icap ra::bldA g ⟨n,qA,qcap,q,s,cA,ccap,c,fA,fcap,f,e⟩::[many H]) ?_ ?_
 ·intro K hK
  repeat'(first|(apply Ye T;exact rfl;exact zm;exact rfl;exact zv;exact rfl;exact rfl)|fail)
  apply Vr (.n1 0 (.n1 1 (.n1 2 (.n1 3 (.n1 4 (.n1 5 (.n1 6 (.n1 7 (.n1 8 (.n1 9 (.n1 10 (.n1 11 (.n2 12 (.n1 13 (.n1 14 (.n1 15 (.n1 16 (.n1 17 (.n1 18 (.n1 19 (.n1 20 .done)))))))) 17 (.n1 12 (.n1 13 (.n1 14 (.n1 15 (.n1 16 (.n1 18 (.n1 19 (.n1 20 .done))))))))))))))))))))) [] [true,true]
  kernel_rfl
  kernel_rfl
  exact zy
  exact rfl
  repeat'(first|(apply Ye T;exact rfl;exact zm;exact rfl;exact zv;exact rfl;exact rfl)|((apply Yh _ Ytw);exact za;exact rfl;exactλ_ hw=>p1 (hin.mono zk) (hq.mono zk) hw;rintro _ _ ⟨A1,cap1,iA1,ic1,rfl,rfl⟩)|(apply Yk;try exact zl)|apply(zs91 ?_ ?_)|(apply Xp;try exact zl)|refine zgd ?_|(refine zgh ?_;intro _)|fail)
  all_goals(
   rename_i gA
   apply hK ⟨gA,A1,cap1,iA1,ic1⟩
   ·exact zu
   ·exact zk)
 rintro⟨g8,A1,c1,iA,ic⟩
 dsimp only
 repeat'(first|refine zga ?_|fail)
 apply Xw [bldA g ⟨n,qA,qcap,q,s,cA,ccap,c,fA,fcap,f,e⟩] _ en70
 exact za
 try exact zl
 exact zp
 exact rfl
 exactλ_ hw=>(p2 ⟨n,qA,qcap,q,s,cA,ccap,c,fA,fcap,f,e⟩ re hw)
 rintro _ _ ⟨rfl,rfl⟩
 unfold BuM.fail
 dsimp only[bldA]
 by_cases hll:ra.length=q.length
 ·rw[Tc hll]
  repeat'(first|refine zgd ?_|(refine zge ?_ ?_<;>intro _<;>try exact zo)|fail)
  apply Yj (bldA g ⟨n,qA,qcap,q,⟨rl,ro,A1,c1,rc⟩,cA,ccap,c,fA,fcap,f,Xr e re⟩::cels A1 c1 rc::Z2 iA ic ra::H)
  ·intro w hw
   have h5:St B w0 (bldA g ⟨n,qA,qcap,q,⟨rl,ro,A1,c1,rc⟩,cA,ccap,c,fA,fcap,f,Xr e re⟩::cels A1 c1 rc::Z2 iA ic ra::[many H]) w:=by
    revert w
    exact zk
   exact h5.perm (.cons _ (.cons _ (.cons _ (.openT H))))
  apply Yp;(iterate 3 exact rfl)
  exact⟨A1,c1,iA,ic,rfl,rfl⟩
 ·rw[Tn hll]
  repeat'(first|refine zgd ?_|(refine zge ?_ ?_<;>intro _<;>try exact zo)|fail)
  apply Yj (bldA g ⟨n,qA,qcap,q,⟨rl,ro,A1,c1,rc⟩,cA,ccap,c,fA,fcap,f,Xr e re⟩::cels A1 c1 rc::Z2 iA ic ra::H)
  ·intro w hw
   have h5:St B w0 (bldA g ⟨n,qA,qcap,q,⟨rl,ro,A1,c1,rc⟩,cA,ccap,c,fA,fcap,f,Xr e re⟩::cels A1 c1 rc::Z2 iA ic ra::[many H]) w:=by
    revert w
    exact zk
   exact h5.perm (.cons _ (.cons _ (.cons _ (.openT H))))
  apply Yp;(iterate 3 exact rfl)
  exact⟨A1,c1,iA,ic,rfl,rfl⟩
theorem Yix{α:Type}(f:α->HP)(y:α):∀(L:List α) (i:Nat) (T:List HP),i<L.length->Perm (f y::(L.map f++T)) ((L.set i y).map f++T)
 |[],i,_,h=>by cases h
 |x::L,0,T,_=>by
  rw[Nv,Re,Re,TC,TC]
  exact .cons _ (.drop _ _)
 |x::L,i+1,T,h=>by
  rw[NT,Re,Re,TC,TC]
  exact(Perm.swap _ _ _).trans (.cons _ (Yix f y L i T (by simpa using h)))
variable {i:Nat}
theorem Ynf{Q:List RqM}{y:RqM}(h:i<Q.length)(T:List HP):Perm (rqQ y::many (Q.map rqQ)::T) (many ((Q.set i y).map rqQ)::T):=
 ((Perm.open_ (Q.map rqQ) T).cons _).trans ((Yix rqQ y Q i T h).trans (.close _ T))
noncomputable def Ve(n:Net)(ia:List Int)(q:List Rqs)(i:Nat):List Rqs:=(List.range q.length).map λj=>if j<i then lowQ n ia q j else rqAt q j
theorem Ypr(n:Net)(ia:List Int)(q:List Rqs):Ve n ia q 0=q:=by
 unfold Ve
 apply SJ
 intro j
 rw[TE]
 by_cases hj:j<q.length
 ·rw[SN hj,ZV hj];rfl
 ·rw[RP (by simp;omega),RP (by omega)];rfl
theorem Yq9(n:Net)(ia:List Int)(q:List Rqs):Ve n ia q q.length=lowL n ia q:=by
 unfold Ve lowL
 refine List.map_congr_left λj hj=>?_
 rw[Tm (TO.1 hj)]
theorem YlG(n:Net)(ia:List Int)(q:List Rqs)(i:Nat):(Ve n ia q i).length=q.length:=by unfold Ve;simp
variable {n:Net}{ia:List Int}{q:List Rqs}
theorem Ypq(h:i<q.length):(Ve n ia q i)[i]? =some (rqAt q i):=by
 unfold Ve
 rw[TE,SN h]
 simp
theorem Yih(h:i<q.length):Ve n ia q (i+1)=(Ve n ia q i).set i (lowQ n ia q i):=by
 apply SJ
 intro j
 by_cases hj:i=j
 ·subst hj
  rw[Sr (by rw[YlG];exact h)]
  unfold Ve
  rw[TE,SN h]
  simp
 ·rw[Nz hj]
  unfold Ve
  rw[TE,TE]
  by_cases hjl:j<q.length
  ·rw[SN hjl]
   simp only[RH]
   by_cases h2:j<i
   ·rw[Tm h2,Tm (by omega)]
   ·rw[Td h2,Td (by omega)]
  ·rw[RP (by simp;omega)];rfl
structure LwM where
 i:Nat
 Q:List RqM
structure LxM where
 g6:Nat
 y:RqM
theorem Ygb(b:BuM)(g:Nat)(ia:List Int)(hia:ia.length<=1000)(hql:b.q.length<=1000)(hqs:∀x∈b.q,x.lens){iA:Option Addr}{icap B:Nat}{w0:World}{H:List HP}{w:World}(hin:b.n.In B w0 H)(hra:Rd B w0 H iA (ia.flatMap numF))(hw:St B w0 (bldA g b::rqs b.qA b.qcap b.q::many (b.q.map rqQ)::H) w):
 Calls Tryz.prog 69 [.pointer (some ⟨g,0,none⟩),.slice iA ia.length icap].toArray w (Post B w0 λv K=>∃q' e',v=.tuple #[]/\q'.length=b.q.length/\(∀x∈q',x.lens)/\((lowB b.n.net ia (b.q.map RqM.rq)=true/\q'.map RqM.rq=lowL b.n.net ia (b.q.map RqM.rq)/\e'=b.e)\/(lowB b.n.net ia (b.q.map RqM.rq)=false/\e'=Xr b.e 18))/\
  K=bldA g {b with q:=q',e:=e'}::rqs b.qA b.qcap q'::many (q'.map rqQ)::H):=by
 refine Yc Tryz.func69 Tryz.ntmps69 rfl rfl hw ?_
 obtain⟨n,qA,qcap,q,s,cA,ccap,c,fA,fcap,f,e⟩:=b
 dsimp only at hin hql hqs⊢
 have hinM:∀{H':List HP},many H∈H'->n.In B w0 H':=λhm=>hin.mono λw hw=>hw.inM hm
 have hraM:∀{H':List HP},many H∈H'->Rd B w0 H' iA (ia.flatMap numF):=λhm=>hra.mono λw hw=>hw.inM hm
 have p1:=λ(v:Int) {H':List HP}{w:World}(hr:Rd B w0 H' iA (ia.flatMap numF)) (hw:St B w0 H' w)=>Yd5 ia v (by omega) (cap:=icap) hr hw
 have p2:=λ(f:Flw) {H':List HP}{w:World}(hin:n.In B w0 H') (hw:St B w0 H' w)=>O5 n f hin hw
 have p3:=λ(b:BuM) (e:Int) {H':List HP}{w:World}(hw:St B w0 (bldA g b::H') w)=>Uq b g e hw
 unfold NetM.val flwV at p2
 refine Jf (bldA g ⟨n,qA,qcap,q,s,cA,ccap,c,fA,fcap,f,e⟩::rqs qA qcap q::many (q.map rqQ)::[many H]) (λw hw=>hw.perm (.cons _ (.cons _ (.cons _ (.closeT H))))) ?_
 dsimp only[bldA]
 obtain⟨q0,hq0⟩:∃q0,q.map RqM.rq=q0:=⟨_,rfl⟩
 have hq0l:q0.length=q.length:=by rw[<-hq0,Tv]
 rw[hq0]
 repeat'(first|(apply Ye T;exact rfl;exact zm;exact rfl;exact zv;exact rfl;exact rfl)|refine zgd ?_|fail)
 refine Yi (λz:LwM=>[(14,.int .i64 (z.i:Nat)),(13,.int .i64 q.length),(12,.slice qA q.length qcap),(0,.pointer (some ⟨g,0,none⟩)),(1,.slice iA ia.length icap)])
  (λz=>blk g (.cells #[.int .i64 n.nodes,.slice n.pA n.rows.length n.pcap,.int .i64 n.noise,.int .i64 n.thr,.slice n.lA n.links.length n.lcap,.slice n.mA n.margin.length n.mcap,.slice qA q.length qcap,.int .i64 s.len,.int .i64 s.off,.slice s.A s.cells.length s.cap,.slice cA c.length ccap,.slice fA f.length fcap,.int .i64 e] 114 (0,0))::sl 86 7 qA q.length qcap (z.Q.flatMap rqF)::many (z.Q.map rqQ)::[many H])
  (λz=>z.i<=q.length/\z.Q.length=q.length/\(∀x∈z.Q,x.lens)/\z.Q.map RqM.rq=Ve n.net ia q0 z.i/\∀j,j<z.i->(j:Int)∈ia\/(V9 n.net (rqAt q0 j).1).2=0) (λz=>q.length-z.i) ⟨0,q⟩ ⟨Tu _,rfl,hqs,by rw[Ypr];exact hq0,λj hj=>absurd hj (Sv _)⟩ ?_ ?_ ?_
 ·exact zu
 ·unfold rqs
  exact zk
 rintro⟨i,Q⟩ ⟨hi,hQl,hQs,hQm,hQk⟩ K hK
 dsimp only at hi hQl hQs hQm hQk⊢
 by_cases hlt:i<q.length
 rotate_left
 ·obtain rfl:i=q.length:=by omega
  clear hK
  have hb:lowB n.net ia q0=true:=TI.2 λj hj=>by
   have hj:=TO.1 hj
   rw[Sj,Tq,Tq]
   exact hQk j (by omega)
  rw[<-hq0l,Yq9]at hQm
  repeat'(first|(apply Ye T;exact rfl;exact zm;exact rfl;exact zv;exact rfl;exact rfl)|refine zgc ?_|(refine zge ?_ ?_<;>intro _<;>try exact zo)|fail)
  apply Yj (bldA g ⟨n,qA,qcap,Q,s,cA,ccap,c,fA,fcap,f,e⟩::rqs qA qcap Q::many (Q.map rqQ)::H)
  ·intro w hw
   have h5:St B w0 (blk g (.cells #[.int .i64 n.nodes,.slice n.pA n.rows.length n.pcap,.int .i64 n.noise,.int .i64 n.thr,.slice n.lA n.links.length n.lcap,.slice n.mA n.margin.length n.mcap,.slice qA q.length qcap,.int .i64 s.len,.int .i64 s.off,.slice s.A s.cells.length s.cap,.slice cA c.length ccap,.slice fA f.length fcap,.int .i64 e] 114 (0,0))::sl 86 7 qA q.length qcap (Q.flatMap rqF)::many (Q.map rqQ)::[many H]) w:=by
    revert w
    exact zk
   rw[<-hQl]at h5
   exact h5.perm (.cons _ (.cons _ (.cons _ (.openT H))))
  apply Zz;exact rfl
  exact⟨Q,e,rfl,hQl,hQs,.inl ⟨hb,hQm,rfl⟩,rfl⟩
 obtain⟨x,hx⟩:∃x,Q[i]? =some x:=⟨_,Ta (by omega)⟩
 have hxm:=Tf hx
 have hxq:x.rq=rqAt q0 i:=by
  have h1:(Q.map RqM.rq)[i]? =some x.rq:=by rw[TE,hx];rfl
  rw[hQm,Ypq (by omega)]at h1
  exact(Tz h1).symm
 have hxf:x.f=(rqAt q0 i).1:=TU Prod.fst hxq
 by_cases hmem:(i:Int)∈ia
 ·have p4:=λ{H':List HP}{w:World}(hr:Rd B w0 H' iA (ia.flatMap numF)) (hw:St B w0 H' w)=>p1 i hr hw
  rw[Tc hmem]at p4
  have hlq:Ve n.net ia q0 (i+1)=Ve n.net ia q0 i:=by
   rw[Yih (by omega)]
   unfold lowQ
   rw[Tm hmem]
   apply SJ
   intro j
   by_cases hj:i=j
   ·subst hj
    rw[Sr (by rw[YlG];omega),Ypq (by omega)]
   ·rw[Nz hj]
  repeat'(first|(apply Ye T;exact rfl;exact zm;exact rfl;exact zv;exact rfl;exact rfl)|refine zgd ?_|(refine zge ?_ ?_<;>intro _<;>try exact zo)|(refine zgh ?_;intro _)|fail)
  first|apply Ya Yle|apply Yb Yle
  exact za
  exact rfl
  exactλ_ hw=>(p4 (hraM zm) hw)
  repeat'(first|(apply Ye T;exact rfl;exact zm;exact rfl;exact zv;exact rfl;exact rfl)|refine zgc ?_|fail)
  apply hK ⟨i+1,Q⟩
  ·exact⟨by show i+1<=_;omega,hQl,hQs,hQm.trans hlq.symm,λj hj=>by
    rcases RU.1 hj with h|rfl
    ·exact hQk j h
    ·exact .inl hmem⟩
  ·dsimp only;omega
  ·exact zu
  ·exact zk
 have p4:=λ{H':List HP}{w:World}(hr:Rd B w0 H' iA (ia.flatMap numF)) (hw:St B w0 H' w)=>p1 i hr hw
 rw[Tn hmem]at p4
 have p5:=λ{H':List HP}{w:World}(hin:n.In B w0 H') (hw:St B w0 H' w)=>p2 x.f hin hw
 clear p1 p2
 have hlq:Ve n.net ia q0 (i+1)=(Ve n.net ia q0 i).set i (V9 n.net x.f).1:=by
  rw[Yih (by omega)]
  unfold lowQ
  rw[Td hmem,hxf]
 have hsk:∀j,j=i->(V9 n.net (rqAt q0 j).1).2=(V9 n.net x.f).2:=λj hj=>by rw[hj,hxf]
 generalize V9 n.net x.f=R at p5 hlq hsk
 obtain⟨ry,re⟩:=R
 unfold OutQ rqV at p5
 dsimp only at p5 hlq hsk
 repeat'(first|(apply Ye T;exact rfl;exact zm;exact rfl;exact zv;exact rfl;exact rfl)|refine zgd ?_|(refine zge ?_ ?_<;>intro _<;>try exact zo)|(refine zgh ?_;intro _)|fail)
 rename_i g5
 first|apply Ya Yle|apply Yb Yle
 exact za
 exact rfl
 exactλ_ hw=>(p4 (hraM zm) hw)
 repeat'(first|(apply Ye T;exact rfl;exact zm;exact rfl;exact zv;exact rfl;exact rfl)|refine zgb ?_|fail)
 refine J4 (λz:{z:LxM//z.y.rq=ry/\z.y.lens}=>[(6,.pointer (some ⟨z.1.g6,0,none⟩)),(7,.int .i64 re),(4,.int .i64 (i:Nat)),(14,.int .i64 (i:Nat)),(13,.int .i64 q.length),(12,.slice qA q.length qcap),(0,.pointer (some ⟨g,0,none⟩)),(1,.slice iA ia.length icap)])
  (λz=>rqA z.1.g6 z.1.y::rqQ z.1.y::blk g (.cells #[.int .i64 n.nodes,.slice n.pA n.rows.length n.pcap,.int .i64 n.noise,.int .i64 n.thr,.slice n.lA n.links.length n.lcap,.slice n.mA n.margin.length n.mcap,.slice qA q.length qcap,.int .i64 s.len,.int .i64 s.off,.slice s.A s.cells.length s.cap,.slice cA c.length ccap,.slice fA f.length fcap,.int .i64 e] 114 (0,0))::sl 86 7 qA q.length qcap (Q.flatMap rqF)::many (Q.map rqQ)::[many H]) ?_ ?_
 ·intro K2 hK2
  apply Vr (.n1 0 (.n1 1 (.n1 2 (.n1 3 (.n1 4 (.n1 5 (.n1 6 (.n2 7 (.n1 8 (.n1 9 (.n1 10 (.n1 11 (.n1 12 (.n1 13 .done)))))) 11 (.n1 7 (.n1 8 (.n1 9 (.n1 10 (.n1 12 (.n1 13 .done)))))))))))))) [] [true,true]
  kernel_rfl
  kernel_rfl
  exact zy
  exact rfl
  repeat'(first|(apply Ye T;exact rfl;exact zm;exact rfl;exact zv;exact rfl;exact rfl)|((apply Yh _ YrL);exact za;exact rfl;exactλ_ hw=>p5 (hinM zm) hw;rintro _ _ ⟨y,rfl,hy,hyl,rfl⟩)|(apply Yk;try exact zl)|apply(zs91 ?_ ?_)|(apply Xp;try exact zl)|refine zgd ?_|(refine zgh ?_;intro _)|fail)
  all_goals(
   rename_i gA
   apply hK2 ⟨⟨gA,y⟩,hy,hyl⟩
   ·exact zu
   ·exact zk)
 rintro⟨⟨g6,y⟩,hy,hyl⟩
 dsimp only at hy hyl⊢
 by_cases hre:re=0
 rotate_left
 ·have hb:lowB n.net ia q0=false:=by
   cases h:lowB n.net ia q0 with
   |false=>rfl
   |true=>
    have h1:=TI.1 h i (TO.2 (by omega))
    rw[Sj,Tq,Tq,hsk i rfl]at h1
    rcases h1 with h1|h1
    ·exact absurd h1 hmem
    ·exact absurd h1 hre
  clear hK
  repeat'(first|(apply Ye T;exact rfl;exact zm;exact rfl;exact zv;exact rfl;exact rfl)|refine zgb ?_|(refine zge ?_ ?_<;>intro _<;>try exact zo)|fail)
  apply XL (bldA g ⟨n,qA,qcap,Q,s,cA,ccap,c,fA,fcap,f,e⟩::rqs qA qcap Q::many (Q.map rqQ)::[many H])
  ·intro w hw
   have h5:St B w0 (blk g (.cells #[.int .i64 n.nodes,.slice n.pA n.rows.length n.pcap,.int .i64 n.noise,.int .i64 n.thr,.slice n.lA n.links.length n.lcap,.slice n.mA n.margin.length n.mcap,.slice qA q.length qcap,.int .i64 s.len,.int .i64 s.off,.slice s.A s.cells.length s.cap,.slice cA c.length ccap,.slice fA f.length fcap,.int .i64 e] 114 (0,0))::sl 86 7 qA q.length qcap (Q.flatMap rqF)::many (Q.map rqQ)::[many H]) w:=by
    revert w
    exact zk
   rw[<-hQl]at h5
   exact h5
  apply Xw [bldA g ⟨n,qA,qcap,Q,s,cA,ccap,c,fA,fcap,f,e⟩] _ en70
  exact za
  try exact zl
  exact zp
  exact rfl
  exactλ_ hw=>(p3 ⟨n,qA,qcap,Q,s,cA,ccap,c,fA,fcap,f,e⟩ 18 hw)
  rintro _ _ ⟨rfl,rfl⟩
  repeat'(first|(apply Ye T;exact rfl;exact zm;exact rfl;exact zv;exact rfl;exact rfl)|refine zgd ?_|fail)
  apply Yj (bldA g (BuM.fail ⟨n,qA,qcap,Q,s,cA,ccap,c,fA,fcap,f,e⟩ 18)::rqs qA qcap Q::many (Q.map rqQ)::H)
  ·intro w hw
   have h5:St B w0 (bldA g (BuM.fail ⟨n,qA,qcap,Q,s,cA,ccap,c,fA,fcap,f,e⟩ 18)::rqs qA qcap Q::many (Q.map rqQ)::[many H]) w:=by
    revert w
    exact zk
   exact h5.perm (.cons _ (.cons _ (.cons _ (.openT H))))
  apply We;exact rfl
  exact⟨Q,Xr e 18,rfl,hQl,hQs,.inr ⟨hb,rfl⟩,rfl⟩
 subst hre
 repeat'(first|(apply Ye T;exact rfl;exact zm;exact rfl;exact zv;exact rfl;exact rfl)|refine zgb ?_|(refine zge ?_ ?_<;>intro _<;>try exact zo)|fail)
 apply YU [0,1,2,3,4,5,6,7] [8] [true,true,true,true,true,true]
 kernel_rfl
 kernel_rfl
 exact zy
 (simp only[Yg,nthO];rfl)
 (simp only[Yg,nthO];rfl)
 repeat'(first|(apply Ye T;exact rfl;exact zm;exact rfl;exact zv;exact rfl;exact rfl)|(apply XV T (f:=rqF) (l:=Q) (i:=i) (a:=y);(iterate 3 exact rfl);exact zd;exactλ_=>rfl;(iterate 3 exact rfl);omega)|refine zgd ?_|fail)
 apply hK ⟨i+1,Q.set i y⟩
 ·refine⟨by show i+1<=_;omega,by show(Q.set i _).length=_;rw[Rh,hQl],λz hz=>?_,?_,λj hj=>?_⟩
  ·rcases NH hz with h|rfl
   ·exact hQs z h
   ·exact hyl
  ·show(Q.set i y).map RqM.rq=_
   rw[List.map_set,hQm,hlq,hy]
  ·rcases RU.1 hj with h|rfl
   ·exact hQk j h
   ·exact .inr (hsk j rfl)
 ·dsimp only;omega
 ·exact zu
 ·intro w hw
  dsimp only
  have h5:St B w0 (rqQ y::many (Q.map rqQ)::blk g (.cells #[.int .i64 n.nodes,.slice n.pA n.rows.length n.pcap,.int .i64 n.noise,.int .i64 n.thr,.slice n.lA n.links.length n.lcap,.slice n.mA n.margin.length n.mcap,.slice qA q.length qcap,.int .i64 s.len,.int .i64 s.off,.slice s.A s.cells.length s.cap,.slice cA c.length ccap,.slice fA f.length fcap,.int .i64 e] 114 (0,0))::sl 86 7 qA q.length qcap ((Q.set i y).flatMap rqF)::[many H]) w:=by
   revert w
   exact zk
  have h6:=h5.perm (Ynf (Q:=Q) (i:=i) (y:=y) (by omega) _)
  clear hw h5
  revert w
  exact zk
structure RwsM where
 i:Nat
 R:List RowM
structure RqsM where
 i:Nat
 Q:List RqM
variable {i:Nat}
theorem YlO{l:List RowM}{r:RowM}{A:Option Addr}{cap:Nat}(h:l[i]? =some r):(l.set i ⟨A,cap,r.xs⟩).map (·.xs)=l.map (·.xs):=by
 apply SJ
 intro j
 rw[TE,TE]
 by_cases hj:i=j
 ·subst hj
  have hi:=(Ti.1 h).1
  rw[Sr hi,h];rfl
 ·rw[Nz hj]
variable {α:Type}
theorem take_set{l:List α}{a:α}(h:i<l.length):(l.set i a).take (i+1)=l.take i++[a]:=by
 rw[TF,Sr h,N6 (TL _)];rfl
theorem YcJ{l m:List α}{a:α}(h:l.drop i=m.drop i):(l.set i a).drop (i+1)=m.drop (i+1):=by
 rw[List.drop_set_of_lt (by omega),<-S9,<-S9,h]
theorem YfS{l m:List α}{a:α}(h:l.drop i=m.drop i)(hm:m[i]? =some a):l[i]? =some a:=by
 have e1:(l.drop i)[0]? =(m.drop i)[0]? :=by rw[h]
 rw[RB,RB,SQ,hm]at e1
 exact e1
theorem UC(b:BuM)(g:Nat){B:Nat}{w0:World}{H:List HP}{w:World}(ht:TabsB B w0)(hin:b.n.In B w0 H)(hq:QIn B w0 H b.qA b.q)(hrs:Rd B w0 H b.s.A (b.s.cells.flatMap celF))(hsl:b.s.cells.length<=1000000000000)(hw:St B w0 (bldA g b::H) w):
 Calls Tryz.prog 72 [.pointer (some ⟨g,0,none⟩)].toArray w (Post B w0 (Yto B w0 H b.s (finE b.n.net (b.q.map RqM.rq) b.s.sch b.e))):=by
 refine Yc Tryz.func72 Tryz.ntmps72 rfl rfl hw ?_
 obtain⟨n,qA,qcap,q,s,cA,ccap,c,fA,fcap,f,e⟩:=b
 dsimp only at hin hq hrs hsl⊢
 have hop:∀w,St B w0 [many H] w->St B w0 H w:=λw hw=>hw.perm (.openT H)
 have hin0:=hin
 have hq0:=hq
 have hin:=hin.mono hop
 have hq:=hq.mono hop
 have hrs:=hrs.mono hop
 have p1:=λ{H':List HP}{w:World}(hin:n.In B w0 H') (hq:QIn B w0 H' qA q) (hrs:Rd B w0 H' s.A (s.cells.flatMap celF)) (hw:St B w0 H' w)=>U3 n q s (cap:=qcap) ht hin hq hrs hsl hw
 have p2:=λ{H':List HP}{w:World}(hrs:Rd B w0 H' s.A (s.cells.flatMap celF)) (hw:St B w0 H' w)=>Yek s ht hrs hsl hw
 unfold OutC NetM.val SchM.val at p1
 unfold SchM.val at p2
 refine Jf (bldA g ⟨n,qA,qcap,q,s,cA,ccap,c,fA,fcap,f,e⟩::[many H]) (λw hw=>hw.perm (.cons _ (.closeT H))) ?_
 dsimp only[bldA]
 unfold finE Ob
 by_cases he:e=0
 rotate_left
 ·rw[Tm he,Tm he]
  repeat'(first|(apply Ye T;exact rfl;exact zm;exact rfl;exact zv;exact rfl;exact rfl)|refine zgd ?_|(refine zge ?_ ?_<;>intro _<;>try exact zo)|(refine zgh ?_;intro _)|fail)
  apply YU [0,1,2,3,4,5,6] [] [false,true,true]
  kernel_rfl
  kernel_rfl
  exact zy
  (simp only[Yg,nthO];rfl)
  exact rfl
  repeat'(first|(apply Ye T;exact rfl;exact zm;exact rfl;exact zv;exact rfl;exact rfl)|(apply Yk;try exact zl)|refine zgd ?_|fail)
  apply Yv T (H2:=H);(iterate 3 exact rfl);exact zm;exact rfl;exact rfl
  ·intro w hw
   have h5:St B w0 [many H] w:=by
    revert w
    exact zk
   exact hop w h5
  exact .inl ⟨rfl,rfl,rfl⟩
 subst he
 rw[Td (show¬(0:Int)≠0 fromλe=>e rfl)]
 obtain⟨⟨RC,ri,re⟩,hR⟩:∃R,YT n.net (q.map RqM.rq) s.sch=R:=⟨_,rfl⟩
 obtain⟨⟨RF,fe⟩,hRF⟩:∃R,Jy s.sch=R:=⟨_,rfl⟩
 rw[hR]at p1⊢
 rw[hRF]at p2⊢
 dsimp only at p1 p2⊢
 have p3:=λ(b:BuM) (e:Int) {H':List HP}{w:World}(hw:St B w0 (bldA g b::H') w)=>Uq b g e hw
 unfold BuM.fail at p3
 repeat'(first|(apply Ye T;exact rfl;exact zm;exact rfl;exact zv;exact rfl;exact rfl)|refine zgd ?_|(refine zge ?_ ?_<;>intro _<;>try exact zo)|(refine zgh ?_;intro _)|fail)
 rename_i g2 _
 apply UI [0,1,2,3,4,5,6,7,8,9,10,11,12,13,14,15,16,17,19,20,18,21,22,23] [0,19,20,24,25] [24,25] [true,true,true]
 kernel_rfl
 kernel_rfl
 exact zy
 (simp only[Yg,nthO];rfl)
 (simp only[Yg,nthO];rfl)
 repeat'(first|(apply Ye T;exact rfl;exact zm;exact rfl;exact zv;exact rfl;exact rfl)|refine zgd ?_|fail)
 apply Yh _ en80
 exact za
 exact rfl
 exactλ_ hw=>(p1 (hin.mono zk) (hq.mono zk) (hrs.mono zk) (hw))
 rintro _ _ ⟨A2,c2,C,rfl,hC,hCl,rfl⟩
 repeat'(first|(apply Ye T;exact rfl;exact zm;exact rfl;exact zv;exact rfl;exact rfl)|(apply Yk;try exact zl)|refine zgd ?_|fail)
 apply Xw [bldA g ⟨n,qA,qcap,q,s,A2,c2,C,fA,fcap,f,0⟩] _ en70
 exact za
 try exact zl
 exact zp
 exact rfl
 exactλ_ hw=>(p3 ⟨n,qA,qcap,q,s,A2,c2,C,fA,fcap,f,0⟩ re hw)
 rintro _ _ ⟨rfl,rfl⟩
 rw[show Xr (BuM.e ⟨n,qA,qcap,q,s,A2,c2,C,fA,fcap,f,0⟩) re=re from Tm rfl]
 dsimp only[bldA]
 repeat'(first|(apply Ye T;exact rfl;exact zm;exact rfl;exact zv;exact rfl;exact rfl)|refine zgd ?_|fail)
 apply Yh _ en88
 exact za
 exact rfl
 exactλ_ hw=>(p2 (hrs.mono zk) (hw))
 rintro _ _ ⟨A3,rfl,rfl⟩
 repeat'(first|(apply Ye T;exact rfl;exact zm;exact rfl;exact zv;exact rfl;exact rfl)|refine zgd ?_|fail)
 apply Xw [bldA g ⟨n,qA,qcap,q,s,A2,c2,C,A3,RF.length,RF,re⟩] _ en70
 exact za
 try exact zl
 exact zp
 exact rfl
 exactλ_ hw=>(p3 ⟨n,qA,qcap,q,s,A2,c2,C,A3,RF.length,RF,re⟩ fe hw)
 rintro _ _ ⟨rfl,rfl⟩
 obtain⟨fin,hfin⟩:∃fin,Xr re fe=fin:=⟨_,rfl⟩
 dsimp only[bldA]
 rw[hfin]
 by_cases hE:fin=0
 rotate_left
 ·rw[Tm hE]
  repeat'(first|(apply Ye T;exact rfl;exact zm;exact rfl;exact zv;exact rfl;exact rfl)|refine zgd ?_|(refine zge ?_ ?_<;>intro _<;>try exact zo)|fail)
  apply YU [0,1,2,3,4,5,6] [] [true]
  kernel_rfl
  kernel_rfl
  exact zy
  (simp only[Yg,nthO];rfl)
  exact rfl
  repeat'(first|(apply Ye T;exact rfl;exact zm;exact rfl;exact zv;exact rfl;exact rfl)|(apply Yk;try exact zl)|refine zgd ?_|fail)
  apply Yv T (H2:=H);(iterate 3 exact rfl);exact zm;exact rfl;exact rfl
  ·intro w hw
   have h5:St B w0 [many H] w:=by
    revert w
    exact zk
   exact hop w h5
  exact .inl ⟨rfl,rfl,rfl⟩
 subst hE
 rw[Td (show¬(0:Int)≠0 fromλe=>e rfl)]
 have hre:re=0/\fe=0:=by
  unfold Xr at hfin
  split at hfin
  ·exact⟨by assumption,hfin⟩
  ·exact absurd hfin (by assumption)
 obtain⟨rfl,rfl⟩:=hre
 have hce:(YT n.net (q.map RqM.rq) s.sch).2.2=0:=by rw[hR]
 have hrq:(rqsE n.net (q.map RqM.rq)).2=0:=RL.1 λh1=>by
  unfold YT at hce;rw[Tm h1]at hce;exact h1 hce
 obtain⟨hck,-,hrt⟩:=V7 hrq
 have hql:q.length<=16:=(Ykq hrq).1
 have hok:=YM hck
 have hrowl:n.rows.length<=32:=by
  have h1:=hok.p0;have h2:=hok.n1
  have h3:n.net.power.length=n.rows.length:=by simp[NetM.net]
  omega
 have hrow1:∀r∈n.rows,r.xs.length<=32:=λr hr=>by
  have h1:=hok.p1 r.xs (by show r.xs∈n.rows.map (·.xs);exact TG.2 ⟨r,hr,rfl⟩)
  have h2:=hok.n1
  omega
 have hlk:n.links.length<=128:=hok.k0
 have hmg:n.margin.length<=128:=by
  have h1:n.margin.length=n.links.length:=hok.k1
  omega
 have hqx:∀x∈q,x.rows.length<=2/\∀r∈x.rows,r.xs.length<=9:=λx hx=>by
  have h1:=hrt x.rq (TG.2 ⟨x,hx,rfl⟩)
  refine⟨?_,λr hr=>?_⟩
  ·have h2:=Yai h1
   have h4:x.rq.2.length=x.rows.length:=Tv _
   omega
  ·exact(JU (J0 h1 r.xs (TG.2 ⟨r,hr,rfl⟩))).2.1.2
 have hCn:C.length<=1000000000000:=by
  have h1:=TU List.length hC
  have h2:=TU (λz=>z.1.length) hR
  dsimp only at h1 h2
  rw[Yk1 hce]at h2
  simp only[Tv]at h1 h2
  omega
 have hFn:RF.length<=1000000000000:=by
  have h2:=TU (λz=>z.1.length) hRF
  dsimp only at h2
  unfold Jy at h2
  split at h2
  ·simp only[RD]at h2;omega
  ·unfold V3 at h2
   rw[U4,Rw]at h2
   have h3:=(VD.1 (Jb.1 (ZH.1 hce).1)).frm.sized
   unfold ZO at h3
   have h4:=Rm h3
   omega
 repeat'(first|(apply Ye T;exact rfl;exact zm;exact rfl;exact zv;exact rfl;exact rfl)|refine zgd ?_|(refine zge ?_ ?_<;>intro _<;>try exact zo)|fail)
 clear p1 p2 p3
 have hinM:∀{H':List HP},many H∈H'->n.In B w0 H':=λhm=>hin0.mono λw hw=>hw.inM hm
 have hqM:∀{H':List HP},many H∈H'->QIn B w0 H' qA q:=λhm=>hq0.mono λw hw=>hw.inM hm
 apply UI [1,0,2,3,4,5,6,7,9,10,11,12,13,14,8,15,16,17,18,19] [1,20,21,22,23,24,25] [20,21,22,23,24,25] [true,true,true,true,true,true]
 kernel_rfl
 kernel_rfl
 exact zy
 (simp only[Yg,nthO];rfl)
 (simp only[Yg,nthO];rfl)
 repeat'(first|(apply Ye T;exact rfl;exact zm;exact rfl;exact zv;exact rfl;exact rfl)|refine zgd ?_|fail)
 apply Yh _ YtA
 exact za
 exact rfl
 exactλ_ hw=>(Ycy n.links (by omega) (hinM zm).lk (hw))
 rintro _ _ ⟨lA,lcap,rfl,rfl⟩
 repeat'(first|(apply Ye T;exact rfl;exact zm;exact rfl;exact zv;exact rfl;exact rfl)|(apply Yk;try exact zl)|refine zgd ?_|fail)
 apply Yh _ YrM
 exact za
 exact rfl
 exactλ_ hw=>(WI n.margin (by omega) (hinM zm).mg (hw))
 rintro _ _ ⟨mA,mcap,rfl,rfl⟩
 repeat'(first|(apply Ye T;exact rfl;exact zm;exact rfl;exact zv;exact rfl;exact rfl)|(apply Yk;try exact zl)|refine zgd ?_|fail)
 apply Yh _ YtB
 exact za
 exact rfl
 exactλ_ hw=>(YbP n.rows (by omega) (hinM zm).pw (hw))
 rintro _ _ ⟨pA,pcap,rfl,rfl⟩
 repeat'(first|(apply Ye T;exact rfl;exact zm;exact rfl;exact zv;exact rfl;exact rfl)|refine zgd ?_|fail)
 refine Yi (λz:RwsM=>[(112,.int .i64 (z.i:Nat)),(111,.int .i64 n.rows.length),(110,.slice pA n.rows.length pcap),(0,.pointer (some ⟨g,0,none⟩)),(2,.pointer (some ⟨g2,0,none⟩)),(3,.int .i64 0)])
  (λz=>sl 24 1 pA n.rows.length pcap (z.R.flatMap rowF)::many ((z.R.take z.i).map rowQ)::blk g (.cells #[.int .i64 n.nodes,.slice pA n.rows.length pcap,.int .i64 n.noise,.int .i64 n.thr,.slice lA n.links.length lcap,.slice mA n.margin.length mcap,.slice qA q.length qcap,.int .i64 s.len,.int .i64 s.off,.slice s.A s.cells.length s.cap,.slice A2 C.length c2,.slice A3 RF.length RF.length,.int .i64 0] 114 (0,0))::sl 140 3 lA n.links.length lcap (n.links.flatMap lkF)::ints mA mcap n.margin::blk g2 (.cells zeroPnV.cells 42 (0,0))::nrs A3 RF.length RF::clsP A2 c2 C::many (C.map clQ)::[many H])
  (λz=>z.i<=n.rows.length/\z.R.length=n.rows.length/\z.R.map (·.xs)=n.rows.map (·.xs)/\z.R.drop z.i=n.rows.drop z.i) (λz=>n.rows.length-z.i) ⟨0,n.rows⟩ ⟨Tu _,rfl,rfl,rfl⟩ ?_ ?_ ?_
 ·exact zu
 ·intro w hw
  have h5:St B w0 (sl 24 1 pA n.rows.length pcap (n.rows.flatMap rowF)::blk g (.cells #[.int .i64 n.nodes,.slice pA n.rows.length pcap,.int .i64 n.noise,.int .i64 n.thr,.slice lA n.links.length lcap,.slice mA n.margin.length mcap,.slice qA q.length qcap,.int .i64 s.len,.int .i64 s.off,.slice s.A s.cells.length s.cap,.slice A2 C.length c2,.slice A3 RF.length RF.length,.int .i64 0] 114 (0,0))::sl 140 3 lA n.links.length lcap (n.links.flatMap lkF)::ints mA mcap n.margin::blk g2 (.cells zeroPnV.cells 42 (0,0))::nrs A3 RF.length RF::clsP A2 c2 C::many (C.map clQ)::[many H]) w:=by
   dsimp only[zeroPnV]
   revert w
   exact zk
  exact(h5.perm (.noMany _)).perm (.swap _ _ _)
 rintro⟨i,R⟩ ⟨hi,hRl,hRm,hRd⟩ K hK
 dsimp only at hi hRl hRm hRd⊢
 by_cases hlt:i<n.rows.length
 ·obtain⟨r,hr⟩:∃r,n.rows[i]? =some r:=⟨_,Ta hlt⟩
  have hrm:=Tf hr
  have hRi:=YfS hRd hr
  have hr32:=hrow1 r hrm
  repeat'(first|(apply Ye T;exact rfl;exact zm;exact rfl;exact zv;exact rfl;exact rfl)|refine zgd ?_|(refine zge ?_ ?_<;>intro _<;>try exact zo)|fail)
  apply YU [0,1,2,3,4,5,6,7,8,9] [10] [true,true,true]
  kernel_rfl
  kernel_rfl
  exact zy
  (simp only[Yg,nthO];rfl)
  (simp only[Yg,nthO];rfl)
  repeat'(first|(apply Ye T;exact rfl;exact zm;exact rfl;exact zv;exact rfl;exact rfl)|refine zgd ?_|fail)
  apply Yh _ YrM
  exact za
  exact rfl
  exactλ_ hw=>(WI r.xs (by omega) ((hinM zm).rw_ r hrm) (hw))
  rintro _ _ ⟨A',cap',rfl,rfl⟩
  repeat'(first|(apply Ye T;exact rfl;exact zm;exact rfl;exact zv;exact rfl;exact rfl)|(apply XB T (f:=rowF) (l:=R) (i:=i) (a:=⟨A',cap',r.xs⟩) (e:=24) (k:=n.rows.length) (cap:=pcap);(iterate 3 exact rfl);exact zd;exact rfl;exact(λ_=>rfl);exact rfl;omega)|(apply Yk;try exact zl)|refine zgd ?_|fail)
  apply hK ⟨i+1,R.set i ⟨A',cap',r.xs⟩⟩
  ·exact⟨by show i+1<=_;omega,by show(R.set i _).length=_;rw[Rh,hRl],by show(R.set i _).map _=_;rw[YlO hRi,hRm],YcJ hRd⟩
  ·dsimp only;omega
  ·exact zu
  ·intro w hw
   dsimp only
   rw[take_set (by omega)]
   have h5:St B w0 (ints A' cap' r.xs::many ((R.take i).map rowQ)::sl 24 1 pA n.rows.length pcap ((R.set i ⟨A',cap',r.xs⟩).flatMap rowF)::blk g (.cells #[.int .i64 n.nodes,.slice pA n.rows.length pcap,.int .i64 n.noise,.int .i64 n.thr,.slice lA n.links.length lcap,.slice mA n.margin.length mcap,.slice qA q.length qcap,.int .i64 s.len,.int .i64 s.off,.slice s.A s.cells.length s.cap,.slice A2 C.length c2,.slice A3 RF.length RF.length,.int .i64 0] 114 (0,0))::sl 140 3 lA n.links.length lcap (n.links.flatMap lkF)::ints mA mcap n.margin::blk g2 (.cells zeroPnV.cells 42 (0,0))::nrs A3 RF.length RF::clsP A2 c2 C::many (C.map clQ)::[many H]) w:=by
    revert w
    exact zk
   exact(h5.perm (OI rowQ (R.take i) ⟨A',cap',r.xs⟩ _)).perm (.swap _ _ _)
 obtain rfl:i=n.rows.length:=by omega
 rw[<-hRl,TY,hRl]
 clear hK hRd hlt hi
 repeat'(first|(apply Ye T;exact rfl;exact zm;exact rfl;exact zv;exact rfl;exact rfl)|refine zgd ?_|(refine zge ?_ ?_<;>intro _<;>try exact zo)|fail)
 apply Yh _ YoQ
 exact za
 exact rfl
 exactλ_ hw=>(W4 q (by omega) (hqM zm).rd (hw))
 rintro _ _ ⟨q1A,q1c,rfl,rfl⟩
 repeat'(first|(apply Ye T;exact rfl;exact zm;exact rfl;exact zv;exact rfl;exact rfl)|refine zgd ?_|fail)
 refine Yi (λz:RqsM=>[(144,.int .i64 (z.i:Nat)),(143,.int .i64 q.length),(142,.slice q1A q.length q1c),(0,.pointer (some ⟨g,0,none⟩)),(2,.pointer (some ⟨g2,0,none⟩)),(3,.int .i64 0)])
  (λz=>sl 86 7 q1A q.length q1c (z.Q.flatMap rqF)::many ((z.Q.take z.i).map rqQ)::blk g (.cells #[.int .i64 n.nodes,.slice pA n.rows.length pcap,.int .i64 n.noise,.int .i64 n.thr,.slice lA n.links.length lcap,.slice mA n.margin.length mcap,.slice q1A q.length q1c,.int .i64 s.len,.int .i64 s.off,.slice s.A s.cells.length s.cap,.slice A2 C.length c2,.slice A3 RF.length RF.length,.int .i64 0] 114 (0,0))::sl 24 1 pA n.rows.length pcap (R.flatMap rowF)::many (R.map rowQ)::sl 140 3 lA n.links.length lcap (n.links.flatMap lkF)::ints mA mcap n.margin::blk g2 (.cells zeroPnV.cells 42 (0,0))::nrs A3 RF.length RF::clsP A2 c2 C::many (C.map clQ)::[many H])
  (λz=>z.i<=q.length/\z.Q.length=q.length/\z.Q.map RqM.rq=q.map RqM.rq/\z.Q.drop z.i=q.drop z.i/\∀x∈z.Q.take z.i,x.lens) (λz=>q.length-z.i) ⟨0,q⟩ ⟨Tu _,rfl,rfl,rfl,(λx hx=>by cases hx)⟩ ?_ ?_ ?_
 ·exact zu
 ·intro w hw
  have h5:St B w0 (sl 86 7 q1A q.length q1c (q.flatMap rqF)::blk g (.cells #[.int .i64 n.nodes,.slice pA n.rows.length pcap,.int .i64 n.noise,.int .i64 n.thr,.slice lA n.links.length lcap,.slice mA n.margin.length mcap,.slice q1A q.length q1c,.int .i64 s.len,.int .i64 s.off,.slice s.A s.cells.length s.cap,.slice A2 C.length c2,.slice A3 RF.length RF.length,.int .i64 0] 114 (0,0))::sl 24 1 pA n.rows.length pcap (R.flatMap rowF)::many (R.map rowQ)::sl 140 3 lA n.links.length lcap (n.links.flatMap lkF)::ints mA mcap n.margin::blk g2 (.cells zeroPnV.cells 42 (0,0))::nrs A3 RF.length RF::clsP A2 c2 C::many (C.map clQ)::[many H]) w:=by
   unfold rqs at hw
   revert w
   exact zk
  exact(h5.perm (.noMany _)).perm (.swap _ _ _)
 rintro⟨i,Q⟩ ⟨hi,hQl,hQm,hQd,hQs⟩ K hK
 dsimp only at hi hQl hQm hQd hQs⊢
 by_cases hlt:i<q.length
 ·obtain⟨x,hx⟩:∃x,q[i]? =some x:=⟨_,Ta hlt⟩
  have hxm:=Tf hx
  have hQi:=YfS hQd hx
  obtain⟨hx2,hx9⟩:=hqx x hxm
  repeat'(first|(apply Ye T;exact rfl;exact zm;exact rfl;exact zv;exact rfl;exact rfl)|refine zgd ?_|(refine zge ?_ ?_<;>intro _<;>try exact zo)|(refine zgh ?_;intro _)|fail)
  rename_i g8
  apply Yh _ YtC
  exact za
  exact rfl
  exactλ_ hw=>(Ycz x.rows (by omega) ((hqM zm).x x hxm).rt (hw))
  rintro _ _ ⟨bA,bc,rfl,rfl⟩
  repeat'(first|(apply Ye T;exact rfl;exact zm;exact rfl;exact zv;exact rfl;exact rfl)|refine zgd ?_|fail)
  refine Yi (λz:RwsM=>[(156,.int .i64 (z.i:Nat)),(155,.int .i64 x.rows.length),(154,.slice bA x.rows.length bc),(7,.int .i64 (i:Nat)),(8,.pointer (some ⟨g8,0,none⟩)),(144,.int .i64 (i:Nat)),(143,.int .i64 q.length),(142,.slice q1A q.length q1c),(0,.pointer (some ⟨g,0,none⟩)),(2,.pointer (some ⟨g2,0,none⟩)),(3,.int .i64 0)])
   (λz=>sl 93 1 bA x.rows.length bc (z.R.flatMap rowF)::many ((z.R.take z.i).map rowQ)::blk g8 (.cells #[.int .i64 x.f.1,.int .i64 x.f.2.1,.int .i64 x.f.2.2.1,.int .i64 x.f.2.2.2.1,.int .i64 x.f.2.2.2.2.1,.int .i64 x.f.2.2.2.2.2,.slice bA x.rows.length bc] 86 (0,0))::sl 86 7 q1A q.length q1c (Q.flatMap rqF)::many ((Q.take i).map rqQ)::blk g (.cells #[.int .i64 n.nodes,.slice pA n.rows.length pcap,.int .i64 n.noise,.int .i64 n.thr,.slice lA n.links.length lcap,.slice mA n.margin.length mcap,.slice q1A q.length q1c,.int .i64 s.len,.int .i64 s.off,.slice s.A s.cells.length s.cap,.slice A2 C.length c2,.slice A3 RF.length RF.length,.int .i64 0] 114 (0,0))::sl 24 1 pA n.rows.length pcap (R.flatMap rowF)::many (R.map rowQ)::sl 140 3 lA n.links.length lcap (n.links.flatMap lkF)::ints mA mcap n.margin::blk g2 (.cells zeroPnV.cells 42 (0,0))::nrs A3 RF.length RF::clsP A2 c2 C::many (C.map clQ)::[many H])
   (λz=>z.i<=x.rows.length/\z.R.length=x.rows.length/\z.R.map (·.xs)=x.rows.map (·.xs)/\z.R.drop z.i=x.rows.drop z.i/\∀r∈z.R.take z.i,r.xs.length<=1000/\r.xs.length<=r.cap) (λz=>x.rows.length-z.i) ⟨0,x.rows⟩ ⟨Tu _,rfl,rfl,rfl,(λx hx=>by cases hx)⟩ ?_ ?_ ?_
  ·exact zu
  ·intro w hw
   have h5:St B w0 (sl 93 1 bA x.rows.length bc (x.rows.flatMap rowF)::blk g8 (.cells #[.int .i64 x.f.1,.int .i64 x.f.2.1,.int .i64 x.f.2.2.1,.int .i64 x.f.2.2.2.1,.int .i64 x.f.2.2.2.2.1,.int .i64 x.f.2.2.2.2.2,.slice bA x.rows.length bc] 86 (0,0))::sl 86 7 q1A q.length q1c (Q.flatMap rqF)::many ((Q.take i).map rqQ)::blk g (.cells #[.int .i64 n.nodes,.slice pA n.rows.length pcap,.int .i64 n.noise,.int .i64 n.thr,.slice lA n.links.length lcap,.slice mA n.margin.length mcap,.slice q1A q.length q1c,.int .i64 s.len,.int .i64 s.off,.slice s.A s.cells.length s.cap,.slice A2 C.length c2,.slice A3 RF.length RF.length,.int .i64 0] 114 (0,0))::sl 24 1 pA n.rows.length pcap (R.flatMap rowF)::many (R.map rowQ)::sl 140 3 lA n.links.length lcap (n.links.flatMap lkF)::ints mA mcap n.margin::blk g2 (.cells zeroPnV.cells 42 (0,0))::nrs A3 RF.length RF::clsP A2 c2 C::many (C.map clQ)::[many H]) w:=by
    revert w
    exact zk
   exact(h5.perm (.noMany _)).perm (.swap _ _ _)
  rintro⟨k,S⟩ ⟨hk,hSl,hSm,hSd,hSs⟩ K2 hK2
  dsimp only at hk hSl hSm hSd hSs⊢
  by_cases hlk2:k<x.rows.length
  ·obtain⟨r,hr⟩:∃r,x.rows[k]? =some r:=⟨_,Ta hlk2⟩
   have hrm:=Tf hr
   have hRi:=YfS hSd hr
   have hr9:=hx9 r hrm
   clear hK hQi
   repeat'(first|(apply Ye T;exact rfl;exact zm;exact rfl;exact zv;exact rfl;exact rfl)|refine zgd ?_|(refine zge ?_ ?_<;>intro _<;>try exact zo)|fail)
   apply YU [0,1,2,3,4,5] [6] [true,true,true]
   kernel_rfl
   kernel_rfl
   exact zy
   (simp only[Yg,nthO];rfl)
   (simp only[Yg,nthO];rfl)
   repeat'(first|(apply Ye T;exact rfl;exact zm;exact rfl;exact zv;exact rfl;exact rfl)|refine zgd ?_|fail)
   apply Yh _ YoV
   exact za
   exact rfl
   exactλ_ hw=>(Vj r.xs (by omega) (((hqM zm).x x hxm).rw_ r hrm) (hw))
   rintro _ _ ⟨A',cap',rfl,rfl⟩
   apply Wc (e:=3) (size:=1) (k:=r.xs.length) (cap:=cap') (A:=A') (xs:=r.xs.flatMap numF) zm
   intro hcap
   repeat'(first|(apply Ye T;exact rfl;exact zm;exact rfl;exact zv;exact rfl;exact rfl)|(apply XB T (f:=rowF) (l:=S) (i:=k) (a:=⟨A',cap',r.xs⟩) (e:=93) (k:=x.rows.length) (cap:=bc);(iterate 3 exact rfl);exact zd;exact rfl;exact(λ_=>rfl);exact rfl;omega)|(apply Yk;try exact zl)|refine zgd ?_|fail)
   apply hK2 ⟨k+1,S.set k ⟨A',cap',r.xs⟩⟩
   ·refine⟨by show k+1<=_;omega,by show(S.set k _).length=_;rw[Rh,hSl],by show(S.set k _).map _=_;rw[YlO hRi,hSm],YcJ hSd,λy hy=>?_⟩
    dsimp only at hy
    rw[take_set (by omega)]at hy
    rcases TT.1 hy with hy|hy
    ·exact hSs y hy
    ·rw[TJ.1 hy]
     exact⟨by show r.xs.length<=_;omega,hcap⟩
   ·dsimp only;omega
   ·exact zu
   ·intro w hw
    dsimp only
    rw[take_set (by omega)]
    have h5:St B w0 (ints A' cap' r.xs::many ((S.take k).map rowQ)::sl 93 1 bA x.rows.length bc ((S.set k ⟨A',cap',r.xs⟩).flatMap rowF)::blk g8 (.cells #[.int .i64 x.f.1,.int .i64 x.f.2.1,.int .i64 x.f.2.2.1,.int .i64 x.f.2.2.2.1,.int .i64 x.f.2.2.2.2.1,.int .i64 x.f.2.2.2.2.2,.slice bA x.rows.length bc] 86 (0,0))::sl 86 7 q1A q.length q1c (Q.flatMap rqF)::many ((Q.take i).map rqQ)::blk g (.cells #[.int .i64 n.nodes,.slice pA n.rows.length pcap,.int .i64 n.noise,.int .i64 n.thr,.slice lA n.links.length lcap,.slice mA n.margin.length mcap,.slice q1A q.length q1c,.int .i64 s.len,.int .i64 s.off,.slice s.A s.cells.length s.cap,.slice A2 C.length c2,.slice A3 RF.length RF.length,.int .i64 0] 114 (0,0))::sl 24 1 pA n.rows.length pcap (R.flatMap rowF)::many (R.map rowQ)::sl 140 3 lA n.links.length lcap (n.links.flatMap lkF)::ints mA mcap n.margin::blk g2 (.cells zeroPnV.cells 42 (0,0))::nrs A3 RF.length RF::clsP A2 c2 C::many (C.map clQ)::[many H]) w:=by
     revert w
     exact zk
    exact(h5.perm (OI rowQ (S.take k) ⟨A',cap',r.xs⟩ _)).perm (.swap _ _ _)
  obtain rfl:k=x.rows.length:=by omega
  have hSt:S.take x.rows.length=S:=by rw[<-hSl,TY]
  rw[hSt]at hSs⊢
  clear hK2 hSd hlk2 hk
  have hrqv:rqF ⟨x.f,bA,bc,S⟩=[.int .i64 x.f.1,.int .i64 x.f.2.1,.int .i64 x.f.2.2.1,.int .i64 x.f.2.2.2.1,.int .i64 x.f.2.2.2.2.1,.int .i64 x.f.2.2.2.2.2,.slice bA x.rows.length bc]:=by
   unfold rqF;rw[hSl]
  repeat'(first|(apply Ye T;exact rfl;exact zm;exact rfl;exact zv;exact rfl;exact rfl)|refine zgc ?_|(refine zge ?_ ?_<;>intro _<;>try exact zo)|fail)
  apply YU [0,1,2,3,4,5,6,7] [8] [true,true,true,true,true,true]
  kernel_rfl
  kernel_rfl
  exact zy
  (simp only[Yg,nthO];rfl)
  (simp only[Yg,nthO];rfl)
  repeat'(first|(apply Ye T;exact rfl;exact zm;exact rfl;exact zv;exact rfl;exact rfl)|(apply XV T (f:=rqF) (l:=Q) (i:=i) (a:=⟨x.f,bA,bc,S⟩);exact rfl;exact rfl;exact hrqv;exact zd;exactλ_=>rfl;(iterate 3 exact rfl);omega)|refine zgd ?_|fail)
  apply hK ⟨i+1,Q.set i ⟨x.f,bA,bc,S⟩⟩
  ·refine⟨by show i+1<=_;omega,by show(Q.set i _).length=_;rw[Rh,hQl],?_,YcJ hQd,λy hy=>?_⟩
   ·show(Q.set i _).map RqM.rq=_
    rw[<-hQm]
    apply SJ
    intro j
    rw[TE,TE]
    by_cases hj:i=j
    ·subst hj
     rw[Sr (by omega),hQi]
     show some (RqM.rq ⟨x.f,bA,bc,S⟩)=some x.rq
     unfold RqM.rq
     dsimp only
     rw[hSm]
    ·rw[Nz hj]
   ·dsimp only at hy
    rw[take_set (by omega)]at hy
    rcases TT.1 hy with hy|hy
    ·exact hQs y hy
    ·rw[TJ.1 hy]
     exact⟨by show S.length<=_;omega,hSs⟩
  ·dsimp only;omega
  ·exact zu
  ·intro w hw
   dsimp only
   rw[take_set (by omega)]
   have h5:St B w0 (sl 93 1 bA x.rows.length bc (S.flatMap rowF)::many (S.map rowQ)::many ((Q.take i).map rqQ)::sl 86 7 q1A q.length q1c ((Q.set i ⟨x.f,bA,bc,S⟩).flatMap rqF)::blk g (.cells #[.int .i64 n.nodes,.slice pA n.rows.length pcap,.int .i64 n.noise,.int .i64 n.thr,.slice lA n.links.length lcap,.slice mA n.margin.length mcap,.slice q1A q.length q1c,.int .i64 s.len,.int .i64 s.off,.slice s.A s.cells.length s.cap,.slice A2 C.length c2,.slice A3 RF.length RF.length,.int .i64 0] 114 (0,0))::sl 24 1 pA n.rows.length pcap (R.flatMap rowF)::many (R.map rowQ)::sl 140 3 lA n.links.length lcap (n.links.flatMap lkF)::ints mA mcap n.margin::blk g2 (.cells zeroPnV.cells 42 (0,0))::nrs A3 RF.length RF::clsP A2 c2 C::many (C.map clQ)::[many H]) w:=by
    revert w
    exact zk
   rw[<-hSl]at h5
   have h6:=h5.perm (.close [_,_] _)
   exact(h6.perm (Yde (Q.take i) ⟨x.f,bA,bc,S⟩ _)).perm (.swap _ _ _)
 obtain rfl:i=q.length:=by omega
 have hQt:Q.take q.length=Q:=by rw[<-hQl,TY]
 rw[hQt]at hQs⊢
 clear hK hQd hlt hi
 repeat'(first|(apply Ye T;exact rfl;exact zm;exact rfl;exact zv;exact rfl;exact rfl)|refine zgd ?_|(refine zge ?_ ?_<;>intro _<;>try exact zo)|fail)
 apply Yv T (H2:=many [sl 86 7 q1A Q.length q1c (Q.flatMap rqF),many (Q.map rqQ),sl 24 1 pA R.length pcap (R.flatMap rowF),many (R.map rowQ),sl 140 3 lA n.links.length lcap (n.links.flatMap lkF),ints mA mcap n.margin,nrs A3 RF.length RF,clsP A2 c2 C,many (C.map clQ)]::H);(iterate 3 exact rfl);exact zm;exact rfl;exact rfl
 ·intro w hw
  have h5:St B w0 (sl 86 7 q1A q.length q1c (Q.flatMap rqF)::many (Q.map rqQ)::sl 24 1 pA n.rows.length pcap (R.flatMap rowF)::many (R.map rowQ)::sl 140 3 lA n.links.length lcap (n.links.flatMap lkF)::ints mA mcap n.margin::nrs A3 RF.length RF::clsP A2 c2 C::many (C.map clQ)::[many H]) w:=by
   revert w
   exact zk
  rw[<-hQl,<-hRl]at h5
  exact(h5.perm (.close [_,_,_,_,_,_,_,_,_] _)).perm (.cons _ (.openT H))
 have hC:C.map ClM.clm=RC:=hC
 refine .inr ⟨⟨⟨n.nodes,pA,pcap,R,n.noise,n.thr,lA,lcap,n.links,mA,mcap,n.margin⟩,q1A,q1c,Q,s,A2,c2,C,A3,RF.length,RF⟩,_,?_,?_,λH' hrs'=>?_,rfl⟩
 ·show some (Pln.mk n.net (q.map RqM.rq) s.sch RC RF)=some (Pln.mk ⟨n.nodes,R.map (·.xs),n.noise,n.thr,n.links,n.margin⟩ (Q.map RqM.rq) s.sch (C.map ClM.clm) RF)
  rw[hRm,hQm,hC];rfl
 ·unfold PnM.val
  dsimp only
  rw[hRl,hQl]
 ·have hb:∀{L:List HP}(w:World),St B w0 (many L::H') w->St B w0 L w:=λw hw=>hw.inM (.head _)
  refine⟨⟨Rd.mono (.sl (.tail _ (.tail _ (.head _)))) hb,λr hr=>Rd.mono (Rd.many (L:=R.map rowQ) (.tail _ (.tail _ (.tail _ (.head _)))) (SO hr)) hb,Rd.mono (.sl (.tail _ (.tail _ (.tail _ (.tail _ (.head _)))))) hb,Rd.mono (.sl (.tail _ (.tail _ (.tail _ (.tail _ (.tail _ (.head _))))))) hb,by show R.length<=_;omega,λr hr=>?_,by show n.links.length<=_;omega,by show n.margin.length<=_;omega⟩,
   ⟨Rd.mono (.sl (.head _)) hb,λx hx=>RqM.In.mono (YlN (q:=Q) (.tail _ (.head _)) hx (hQs x hx)) hb,by show Q.length<=_;omega⟩,hrs'.cons,hsl,
   ⟨Rd.mono (.sl (.tail _ (.tail _ (.tail _ (.tail _ (.tail _ (.tail _ (.tail _ (.head _))))))))) hb,λx hx=>ClM.In.mono (Ykc (C:=C) (.tail _ (.tail _ (.tail _ (.tail _ (.tail _ (.tail _ (.tail _ (.tail _ (.head _))))))))) hx (hCl x hx)) hb,hCn⟩,
   Rd.mono (.sl (.tail _ (.tail _ (.tail _ (.tail _ (.tail _ (.tail _ (.head _)))))))) hb,hFn⟩
  have h1:r.xs∈n.rows.map (·.xs):=by rw[<-hRm];exact TG.2 ⟨r,hr,rfl⟩
  obtain⟨r2,h2,h3⟩:=TG.1 h1
  have h4:=hrow1 r2 h2
  have h3:r2.xs=r.xs:=h3
  rw[h3]at h4
  omega
structure RuM where
 f:Int
 u:Int
 v:Int
 k:Int
 A:Option Addr
 cap:Nat
 os:List Int
def ruF(r:RuM):List Value:=[.int .i64 r.f,.int .i64 r.u,.int .i64 r.v,.int .i64 r.k,.slice r.A r.os.length r.cap]
structure RuM.In(B:Nat)(w0:World)(H:List HP)(r:RuM):Prop where
 rd:Rd B w0 H r.A (r.os.flatMap numF)
 ln:r.os.length<=9223372036854775807
structure XIn(B:Nat)(w0:World)(H:List HP)(A:Option Addr)(xs:List RuM):Prop where
 rd:Rd B w0 H A (xs.flatMap ruF)
 x:∀r∈xs,r.In B w0 H
variable {B:Nat}{w0:World}{H K:List HP}
theorem RuM.In.mono{r:RuM}(h:r.In B w0 H)(hop:∀w,St B w0 K w->St B w0 H w):r.In B w0 K:=⟨h.rd.mono hop,h.ln⟩
theorem XIn.mono{A:Option Addr}{xs:List RuM}(h:XIn B w0 H A xs)(hop:∀w,St B w0 K w->St B w0 H w):XIn B w0 K A xs:=⟨h.rd.mono hop,λr hr=>(h.x r hr).mono hop⟩
end Go.Proofs.YtaholidehobiiaaGreatDoor
namespace Go.Eng
open Go.RowKit
open Go.ChangeMaps (setBlock)
abbrev KL:=List Int
def kv(k:KL):Value:=.agg (k.map λx=>Value.int .i64 x).toArray
abbrev Zg:=List (KL×Value×Nat)
def vE(e:KL×Value×Nat):MapEntry:=⟨kv e.1,e.2.1,e.2.2⟩
def vobj(es:Zg)(clock:Nat):Obj:=.map (es.map vE).toArray clock
def vget(es:Zg)(k:KL):Option Value:=(es.find? λe=>e.1==k).map (·.2.1)
def keyT(P:Program)(kt:TypeId)(n:Nat):Bool:=
 match P.underlying kt with
 |some (.struct fs)=>!P.stoodInHeld kt&&(fs.toList.map (·.offset)==List.range n)&&fs.toList.all (λf=>f.name != "_" &&(match P.underlying f.type with|some (.int .i64)=>true|_=>false))
 |_=>false
def YdO(P:Program)(t kt et:TypeId)(n:Nat):Bool:=(match P.underlying t with|some (.map a b)=>a==kt&&b==et|_=>false)&&keyT P kt n
section
variable {P:Program}
variable {kt:TypeId}{n b:Nat}
theorem YaM(h:keyT P kt n=true):∃fs,P.underlying kt=some (.struct fs)/\P.stoodInHeld kt=false/\fs.toList.map (·.offset)=List.range n/\
 ∀f∈fs.toList,f.name≠ "_" /\P.underlying f.type=some (.int .i64):=by
 unfold keyT at h
 split at h
 ·rename_i fs hu
  simp only[To,Si,Nc,TI,bne_iff_ne,ne_eq]at h
  obtain⟨⟨h1,h2⟩,h3⟩:=h
  refine⟨fs,hu,h1,h2,λf hf=>⟨(h3 f hf).1,?_⟩⟩
  have h4:=(h3 f hf).2
  split at h4
  ·rename_i hq;exact hq
  ·cases h4
 ·cases h
theorem WG{t et:TypeId}(h:YdO P t kt et n=true):P.underlying t=some (.map kt et)/\keyT P kt n=true:=by
 unfold YdO at h
 rw[To]at h
 obtain⟨h1,h2⟩:=h
 refine⟨?_,h2⟩
 split at h1
 ·rename_i a b hu
  simp only[To,Nc]at h1
  rw[hu,h1.1,h1.2]
 ·cases h1
theorem YpD{fs:Array Field}(h:fs.toList.map (·.offset)=List.range n){f:Field}(hf:f∈fs.toList):f.offset<n:=by
 have:f.offset∈fs.toList.map (·.offset):=TG.2 ⟨f,hf,rfl⟩
 rw[h]at this
 exact TO.1 this
theorem Ygt(w:World)(h:keyT P kt n=true){a b:KL}(la:a.length=n)(lb:b.length=n):(Op.equal kt (kv a) (kv b)).run P w=.ok (a==b) w:=by
 obtain⟨fs,hu,h1,h2,h3⟩:=YaM h
 have hl:OB P kt (a.map λx=>Value.int .i64 x) (b.map λx=>Value.int .i64 x)=true:=by
  unfold OB
  simp only[hu,h1,h2,Tv,la,lb,Bool.not_false,beq_self_eq_true,RS,TI,To,bne_iff_ne,ne_eq]
  intro f hf
  have hlt:=YpD h2 hf
  refine⟨(h3 f hf).1,?_⟩
  rw[Ta (by simp[la,hlt]),Ta (by simp[lb,hlt]),NP,NP]
  simp only[Qg,(h3 f hf).2,decide_true,Bool.and_self]
 obtain⟨r,hr,hiff⟩:=V8 w hl
 unfold kv
 rw[hr]
 have:r=(a==b):=by
  rw[NI,hiff,Nc]
  exact List.map_inj_right (λx y e=>by injection e)
 rw[this]
variable {k:KL}
theorem Wz(w:World)(h:keyT P kt n=true)(lk:k.length=n)(em:Bool):(Instr.checkKey em 10000 kt (kv k)).run P w=.ok () w:=by
 obtain⟨fs,hu,h1,h2,h3⟩:=YaM h
 have each:∀f∈fs.toList,f.name≠ "_" /\P.underlying f.type=some (.int .i64)/\f.offset<n:=λf hf=>⟨(h3 f hf).1,(h3 f hf).2,YpD h2 hf⟩
 unfold kv
 rw[show 10000=9998+1+1 from rfl,Instr.checkKey]
 simp only[Sem.run_bind,run_underlying hu,Result.andThen_ok]
 rw[<-Array.forIn_toList]
 clear h1 h2 h3 hu h
 generalize fs.toList=L at each
 induction L with
 |nil=>simp
 |cons f L ih=>
  obtain⟨hn,hp,hlt⟩:=each f (by simp)
  have p1:=run_part_plain (P:=P) (w:=w) (e:=f.type) (by simp[Program.plainKey,hp]) (xs:=(k.map λx=>Value.int .i64 x).toArray) (off:=f.offset) (v:=.int .i64 (k[f.offset]'(by omega)))
   (by rw[NG,Ta (by simp[lk,hlt]),NP])
  have p2:(Instr.checkKey em (9998+1) f.type (.int .i64 (k[f.offset]'(by omega)))).run P w=.ok () w:=by
   unfold Instr.checkKey
   simp[run_underlying hp]
  simp only[List.forIn_cons,Sem.run_bind,hn,ne_eq,not_false_eq_true,NF,Result.andThen_ok,p1,p2,Sem.run_pure]
  exact ih (λy hy=>each y (by simp[hy]))
theorem YiM(m:Nat)(k:KL):Instr.sameBits (m+1) (kv k) (kv k)=true:=by
 unfold kv
 simp only[Instr.sameBits,beq_self_eq_true,RS]
 induction k with
 |nil=>rfl
 |cons x k ih=>
  simp only[Re,List.zip_cons_cons,NV,To]
  refine⟨?_,ih⟩
  cases m<;>simp[Instr.sameBits]
theorem Ygu(w:World)(k:KL):(Instr.keyThatStays (kv k) (kv k)).run P w=.ok (kv k) w:=by
 unfold Instr.keyThatStays
 rw[show 10000=9999+1 from rfl,YiM]
 simp
theorem YeU{kt:TypeId}{n:Nat}(w:World)(h:keyT P kt n=true){k:KL}(lk:k.length=n):∀(es:Zg) (i:Nat),(∀e∈es,e.1.length=n)->vget es k=none->
 (Instr.findAsking kt (kv k) (es.map vE) i).run P w=.ok none w
 |[],i,_,_=>by simp[Instr.findAsking]
 |e::es,i,hok,hg=>by
  unfold vget at hg
  rw[N9]at hg
  by_cases he:e.1=k
  ·simp[he]at hg
  ·have hb:(e.1==k)=false:=by simpa using he
   have hb':(k==e.1)=false:=by simpa usingλx=>he x.symm
   rw[hb]at hg
   simp only[Re,Instr.findAsking,Sem.run_bind,vE,Ygt w h lk (hok e (by simp)),hb',Result.andThen_ok,SA,N8]
   exact YeU w h lk es (i+1) (λe he=>hok e (by simp[he])) hg
theorem Yly{kt:TypeId}{n:Nat}(w:World)(h:keyT P kt n=true){k:KL}(lk:k.length=n){v:Value}{b:Nat}{l2:Zg}:∀(l1:Zg) (i:Nat),(∀e∈l1,e.1.length=n)->(∀e∈l1,e.1≠k)->
 (Instr.findAsking kt (kv k) ((l1++(k,v,b)::l2).map vE) i).run P w=.ok (some (i+l1.length,v)) w
 |[],i,_,_=>by
  simp only[TK,Re,Instr.findAsking,Sem.run_bind,vE,Ygt w h lk lk,beq_self_eq_true,Result.andThen_ok,NF,Sem.run_pure,RD,SQ]
 |e::l1,i,hok,hne=>by
  have hb':(k==e.1)=false:=by simpa usingλx=>hne e (by simp) x.symm
  simp only[TC,Re,Instr.findAsking,Sem.run_bind,vE,Ygt w h lk (hok e (by simp)),hb',Result.andThen_ok,SA,N8]
  have:=Yly w h lk (v:=v) (b:=b) (l2:=l2) l1 (i+1) (λe he=>hok e (by simp[he])) (λe he=>hne e (by simp[he]))
  rw[show i+(e::l1).length=i+1+l1.length by simp;omega]
  exact this
variable {es l1 l2:Zg}{v:Value}
theorem YdN(h:vget es k=some v):∃l1 b l2,es=l1++(k,v,b)::l2/\∀e∈l1,e.1≠k:=by
 unfold vget at h
 induction es with
 |nil=>simp at h
 |cons e es ih=>
  rw[N9]at h
  by_cases he:e.1=k
  ·simp only[he,beq_self_eq_true,RH,Ru]at h
   exact⟨[],e.2.2,es,by rw[<-he,<-h];rfl,by simp⟩
  ·have hb:(e.1==k)=false:=by simpa using he
   rw[hb]at h
   obtain⟨l1,b,l2,rfl,hne⟩:=ih h
   exact⟨e::l1,b,l2,rfl,by
    intro x hx
    rcases TN.1 hx with rfl|hx
    ·exact he
    ·exact hne x hx⟩
theorem Ye4(h:keyT P kt n=true):(match P.underlying kt with|some (.array _ _)|some (.struct _)=>true|_=>false)=true:=by
 obtain⟨fs,hu,_⟩:=YaM h
 rw[hu]
theorem Yh9(w:World)(h:keyT P kt n=true)(lk:k.length=n)(hok:∀e∈es,e.1.length=n)(hg:vget es k=none):
 (Instr.findKey kt (kv k) (es.map vE)).run P w=.ok none w:=by
 rw[run_findKey_eq w (Ye4 h)]
 exact YeU w h lk es 0 hok hg
theorem Ypj(w:World)(h:keyT P kt n=true)(lk:k.length=n)(hok:∀e∈l1,e.1.length=n)(hne:∀e∈l1,e.1≠k):
 (Instr.findKey kt (kv k) ((l1++(k,v,b)::l2).map vE)).run P w=.ok (some (l1.length,v)) w:=by
 rw[run_findKey_eq w (Ye4 h)]
 have:=Yly w h lk (v:=v) (b:=b) (l2:=l2) l1 0 hok hne
 rwa [Ry]at this
theorem Ypk(w:World)(h:keyT P kt n=true)(lk:k.length=n)(hok:∀e∈es,e.1.length=n)(hg:vget es k=some v):
 ∃i,(Instr.findKey kt (kv k) (es.map vE)).run P w=.ok (some (i,v)) w:=by
 obtain⟨l1,b,l2,rfl,hne⟩:=YdN hg
 exact⟨_,Ypj w h lk (λe he=>hok e (by simp[he])) hne⟩
end
section
variable {P:Program}{n:Shp}{B:Nat}{w0:World}{Q:Exit->Act->World->Prop}{env:Env}{H:List HP}{m:Mode}{ops:Array Oper}{rest:List Oper}{d:Nat}{ty:TypeId}{pos:String}{after:Array Edge}
theorem Yg2{t:TypeId}(hn:Nat.ble (d+1) n.k=true)(h:∀g,VL P none n B w0 ops Q rest ((d,.map (some g))::env) (blk g (vobj [] 0)::H)):VL P none n B w0 ops Q (⟨some d,.makeMap t none,ty,pos,after,none⟩::rest) env H:=
 XH (λv K=>∃g,v=.map (some g)/\K=blk g (vobj [] 0)::H) rfl rfl hn
  (λa w _ hw=>⟨_,_,w.alloc (vobj [] 0),by simp[execOp,Instr.makeMap,newObj,Sem.run,vobj],hw.alloc _,w.heap.size,rfl,rfl⟩)
  (by rintro _ _ ⟨g,rfl,rfl⟩;exact h g)
variable {t et g clock N b:Nat}{es l1 l2:Zg}{x y u:Operand}{v:Value}
theorem Yhb{kt:Nat}(k:KL)(hx:evo env x=some (.map (some g)))(hy:evo env y=some (kv k))(hm:blk g (vobj es clock)∈H)(ht:YdO P t kt et N=true)(lk:k.length=N)(hok:∀e∈es,e.1.length=N)(hn:Nat.ble (d+1) n.k=true)(hk:vget es k=some v)
 (h:VL P m n B w0 ops Q rest ((d,v)::env) H):VL P m n B w0 ops Q (⟨some d,.lookup t x y false,ty,pos,after,none⟩::rest) env H:=by
 obtain⟨h1,h2⟩:=WG ht
 refine Yy rfl rfl hn rfl (λa w ha hw=>?_) h
 have hb:=(hw.blk hm).1
 unfold vobj at hb
 obtain⟨i,e3⟩:=Ypk w h2 lk hok hk
 simp[execOp,ha.eval hx,ha.eval hy,Instr.lookup,run_underlying h1,getObj,Sem.run,hb,Wz _ h2 lk,e3]
theorem Yha{kt:Nat}(k:KL){z:Value}(hx:evo env x=some (.map (some g)))(hy:evo env y=some (kv k))(hm:blk g (vobj es clock)∈H)(ht:YdO P t kt et N=true)(lk:k.length=N)(hok:∀e∈es,e.1.length=N)(hn:Nat.ble (d+1) n.k=true)(hk:vget es k=none)(hz:∀w,(zeroValue et).run P w=.ok z w)
 (h:VL P m n B w0 ops Q rest ((d,z)::env) H):VL P m n B w0 ops Q (⟨some d,.lookup t x y false,ty,pos,after,none⟩::rest) env H:=by
 obtain⟨h1,h2⟩:=WG ht
 refine Yy rfl rfl hn rfl (λa w ha hw=>?_) h
 have hb:=(hw.blk hm).1
 unfold vobj at hb
 simp[execOp,ha.eval hx,ha.eval hy,Instr.lookup,run_underlying h1,getObj,Sem.run,hb,Wz _ h2 lk,Yh9 w h2 lk hok hk,hz]
theorem Ya5{kt:Nat}(k:KL)(hx:evo env x=some (.map (some g)))(hy:evo env y=some (kv k))(hm:blk g (vobj es clock)∈H)(ht:YdO P t kt et N=true)(lk:k.length=N)(hok:∀e∈es,e.1.length=N)(hn:Nat.ble (d+1) n.k=true)
 (hk:vget es k=some v\/(vget es k=none/\∀w,(zeroValue et).run P w=.ok v w))
 (h:VL P m n B w0 ops Q rest ((d,v)::env) H):VL P m n B w0 ops Q (⟨some d,.lookup t x y false,ty,pos,after,none⟩::rest) env H:=by
 rcases hk with hk|⟨hk,hz⟩
 ·exact Yhb k hx hy hm ht lk hok hn hk h
 ·exact Yha k hx hy hm ht lk hok hn hk hz h
variable {K:List HP}
theorem Yjh{kt:Nat}(k:KL)(hx:evo env x=some (.map (some g)))(hy:evo env y=some (kv k))(hv:evo env u=some v)(ht:YdO P t kt et N=true)(lk:k.length=N)(hok:∀e∈es,e.1.length=N)
 (hu:Upd (blk g (vobj es clock)) (blk g (vobj (es++[(k,v,clock)]) (clock+1))) H K) (hk:vget es k=none)
 (h:VL P none n B w0 ops Q rest env K):VL P none n B w0 ops Q (⟨none,.mapUpdate t x y u,ty,pos,after,none⟩::rest) env H:=by
 obtain⟨h1,h2⟩:=WG ht
 refine J5 rfl rfl (λa w ha hw=>⟨setBlock w g (vobj (es++[(k,v,clock)]) (clock+1)),?_,hw.setBlock hu⟩) h
 have hb:w.heap[g]? =some (vobj es clock):=by
  obtain⟨L1,L2,rfl,_⟩:=hu
  exact(hw.blk (by simp)).1
 unfold vobj at hb
 simp[execOp,ha.eval hx,ha.eval hy,ha.eval hv,Instr.mapUpdate,run_underlying h1,getObj,Sem.run,hb,Wz _ h2 lk,Yh9 w h2 lk hok hk,MapKept.run_setObj_map _ hb,setBlock,vobj,vE]
theorem Yji{kt:Nat}(k:KL){v0:Value}(hx:evo env x=some (.map (some g)))(hy:evo env y=some (kv k))(hv:evo env u=some v)(ht:YdO P t kt et N=true)(lk:k.length=N)(hok:∀e∈l1,e.1.length=N)
 (hu:Upd (blk g (vobj (l1++(k,v0,b)::l2) clock)) (blk g (vobj (l1++(k,v,b)::l2) clock)) H K) (hk:∀e∈l1,e.1≠k)
 (h:VL P none n B w0 ops Q rest env K):VL P none n B w0 ops Q (⟨none,.mapUpdate t x y u,ty,pos,after,none⟩::rest) env H:=by
 obtain⟨h1,h2⟩:=WG ht
 refine J5 rfl rfl (λa w ha hw=>⟨setBlock w g (vobj (l1++(k,v,b)::l2) clock),?_,hw.setBlock hu⟩) h
 have hb:w.heap[g]? =some (vobj (l1++(k,v0,b)::l2) clock):=by
  obtain⟨L1,L2,rfl,_⟩:=hu
  exact(hw.blk (by simp)).1
 unfold vobj at hb
 have hf:=Ypj w h2 lk (v:=v0) (b:=b) (l2:=l2) hok hk
 have hsz:(l1++(k,v0,b)::l2).map vE=l1.map vE++vE (k,v0,b)::l2.map vE:=by simp
 have hget:((List.map vE (l1++(k,v0,b)::l2)).toArray)[l1.length]? =some (vE (k,v0,b)):=by rw[hsz];simp
 have hmod:((List.map vE (l1++(k,v0,b)::l2)).toArray).modify l1.length (λe=>{e with key:=kv k,val:=v})=(List.map vE (l1++(k,v,b)::l2)).toArray:=by
  rw[hsz,List.modify_toArray,show l1.length=(l1.map vE).length by simp,Qi];simp[vE]
 have hks:=Ygu (P:=P) w k
 have hkey:(Option.map (λx:MapEntry=>x.key) (some (vE (k,v0,b)))).getD (kv k)=kv k:=rfl
 have hrun:(Instr.mapUpdate t (.map (some g)) (kv k) v).run P w=.ok () (setBlock w g (vobj (l1++(k,v,b)::l2) clock)):=by
  simp only[Instr.mapUpdate,Sem.run_bind,run_underlying h1,getObj,Sem.run,hb,Wz _ h2 lk,hf,hget,hkey,hks,hmod,Result.andThen,MapKept.run_setObj_map _ hb,setBlock,vobj]
 simp[execOp,ha.eval hx,ha.eval hy,ha.eval hv,hrun]
end
end Go.Eng
namespace Go.Proofs.YtaholidehobiiaaGreatDoor
open Go.RowKit Go.Eng Go.Nw Go.Rt
def Yug(es:List (Int×Int×Nat))(k:Int):Option Int:=(es.find? λe=>e.1==k).map (·.2.1)
def Yum(es:List (KL×Int×Nat))(k:KL):Option Int:=(es.find? λe=>e.1==k).map (·.2.1)
structure SM where
 frame:Int
 g:Option (Nat×Nat×Nat)
 es:List (Int×Int×Nat)
 ce:Nat
 ts:Zg
 ct:Nat
 ak:List (KL×Int×Nat)
 ca:Nat
 done:Bool
def SM.st(x:SM):StM:=⟨x.frame,Yug x.es,λu v=>Yum x.ak [u,v],x.done⟩
structure VOk(N:Nat)(es:Zg)(ct:Nat):Prop where
 len:∀e∈es,e.1.length=N
 lt:∀e∈es,e.2.2<ct
 ne:es.Pairwise λa b=>a.2.2≠b.2.2
variable {N ct:Nat}
theorem VOk.nil:VOk N [] ct:=⟨(λe h=>by cases h),(λe h=>by cases h),.nil⟩
theorem VOk.set{b:Nat}{l1 l2:Zg}{k:KL}{v0:Value}(h:VOk N (l1++(k,v0,b)::l2) ct)(v:Value):VOk N (l1++(k,v,b)::l2) ct:=by
 have e:∀P:KL×Value×Nat->Prop,(∀z:KL×Value×Nat,P z↔P (z.1,v,z.2.2))->(∀z∈l1++(k,v0,b)::l2,P z)->∀z∈l1++(k,v,b)::l2,P z:=λP hP hz z hm=>by
  rcases TT.1 hm with hm|hm
  ·exact hz z (TT.2 (.inl hm))
  ·rcases TN.1 hm with rfl|hm
   ·exact(hP (k,v0,b)).1 (hz (k,v0,b) (by simp))
   ·exact hz z (TT.2 (.inr (TB _ hm)))
 refine⟨e (λz=>z.1.length=N) (λ_=>Iff.rfl) h.len,e (λz=>z.2.2<ct) (λ_=>Iff.rfl) h.lt,?_⟩
 have hp:=h.ne
 rw[N3,Ns]at hp⊢
 refine⟨hp.1,hp.2.1,λa ha z hz=>?_⟩
 rcases TN.1 hz with rfl|hz
 ·exact hp.2.2 a ha (k,v0,b) (by simp)
 ·exact hp.2.2 a ha z (TB _ hz)
structure TOk(ts:Zg)(ct:Nat)(b:Int):Prop where
 ok:VOk 2 ts ct
 z:∀e∈ts,∃z,e.2.1=.int .i64 z/\0<=z/\z<=b
variable {b b':Int}
theorem TOk.mono{ts:Zg}(h:TOk ts ct b)(hb:b<=b'):TOk ts ct b':=⟨h.ok,λe he=>by
 obtain⟨z,h1,h2,h3⟩:=h.z e he
 exact⟨z,h1,h2,by omega⟩⟩
structure SM.Ok(x:SM)(b:Int):Prop where
 g:0<=x.frame->x.g.isSome=true
 ts:TOk x.ts x.ct b
 ak:∀e∈x.ak,e.1.length=2
theorem SM.Ok.mono{x:SM}(h:x.Ok b)(hb:b<=b'):x.Ok b':=⟨h.g,h.ts.mono hb,h.ak⟩
end Go.Proofs.YtaholidehobiiaaGreatDoor
namespace Go.Proofs
open Go.Shelf
def Tryz.sortCels_ren:Go.Shelf.Ren:=⟨λ|6=>160|15=>234|14=>251|28=>308|29=>309|20=>328|21=>329|22=>330|23=>331|24=>332|25=>333|26=>334|27=>335|46=>388|47=>372|48=>373|49=>389|50=>390|57=>417|n=>n,λ|22=>35|24=>64|25=>209|3=>3|39=>231|0=>0|53=>242|55=>244|4=>4|46=>324|45=>323|50=>90|5=>5|9=>9|66=>387|70=>391|76=>428|77=>429|n=>n,λ|n=>n⟩
theorem Tryz.sortCels:Go.Proofs.SlLaysF0.n6 Tryz.prog Tryz.sortCels_ren:={
 mixed:=by kernel_rfl
 f6:=⟨Tryz.f160.name,by decide,Tryz.func160.trans (TU some (by kernel_rfl))⟩
 f14:=⟨Tryz.f251.name,by decide,Tryz.func251.trans (TU some (by kernel_rfl))⟩
 f15:=Tryz.func234.trans (TU some (by kernel_rfl))
 f20:=⟨Tryz.f328.name,by decide,Tryz.func328.trans (TU some (by kernel_rfl))⟩
 f21:=⟨Tryz.f329.name,by decide,Tryz.func329.trans (TU some (by kernel_rfl))⟩
 f22:=⟨Tryz.f330.name,by decide,Tryz.func330.trans (TU some (by kernel_rfl))⟩
 f23:=⟨Tryz.f331.name,by decide,Tryz.func331.trans (TU some (by kernel_rfl))⟩
 f24:=⟨Tryz.f332.name,by decide,Tryz.func332.trans (TU some (by kernel_rfl))⟩
 f25:=⟨Tryz.f333.name,by decide,Tryz.func333.trans (TU some (by kernel_rfl))⟩
 f26:=⟨Tryz.f334.name,by decide,Tryz.func334.trans (TU some (by kernel_rfl))⟩
 f27:=⟨Tryz.f335.name,by decide,Tryz.func335.trans (TU some (by kernel_rfl))⟩
 f28:=Tryz.func308.trans (TU some (by kernel_rfl))
 f29:=Tryz.func309.trans (TU some (by kernel_rfl))
 f46:=⟨Tryz.f388.name,by decide,Tryz.func388.trans (TU some (by kernel_rfl))⟩
 f47:=Tryz.func372.trans (TU some (by kernel_rfl))
 f48:=Tryz.func373.trans (TU some (by kernel_rfl))
 f49:=⟨Tryz.f389.name,by decide,Tryz.func389.trans (TU some (by kernel_rfl))⟩
 f50:=⟨Tryz.f390.name,by decide,Tryz.func390.trans (TU some (by kernel_rfl))⟩
 f57:=⟨Tryz.f417.name,by decide,Tryz.func417.trans (TU some (by kernel_rfl))⟩
 t0:=Tryz.underlying0
 a0:=Tryz.isAgg0
 z0:=Tryz.sizeOf0
 v0:=Tryz.zeroValue0
 t3:=Tryz.underlying3
 a3:=Tryz.isAgg3
 z3:=Tryz.sizeOf3
 v3:=Tryz.zeroValue3
 t4:=Tryz.underlying4
 a4:=Tryz.isAgg4
 z4:=Tryz.sizeOf4
 v4:=Tryz.zeroValue4
 t5:=Tryz.underlying5
 a5:=Tryz.isAgg5
 z5:=Tryz.sizeOf5
 v5:=Tryz.zeroValue5
 t9:=Tryz.underlying9
 a9:=Tryz.isAgg9
 z9:=Tryz.sizeOf9
 v9:=Tryz.zeroValue9
 t22:=Tryz.underlying35
 a22:=Tryz.isAgg35
 z22:=Tryz.sizeOf35
 v22:=Tryz.zeroValue35
 t25:=Tryz.underlying209
 a25:=Tryz.isAgg209
 z25:=Tryz.sizeOf209
 v25:=Tryz.zeroValue209
 t39:=Tryz.underlying231
 a39:=Tryz.isAgg231
 z39:=Tryz.sizeOf231
 v39:=Tryz.zeroValue231
 t45:=Tryz.underlying323
 a45:=Tryz.isAgg323
 z45:=Tryz.sizeOf323
 v45:=Tryz.zeroValue323
 t46:=Tryz.underlying324
 a46:=Tryz.isAgg324
 z46:=Tryz.sizeOf324
 v46:=Tryz.zeroValue324
 t50:=Tryz.underlying90
 a50:=Tryz.isAgg90
 z50:=Tryz.sizeOf90
 v50:=Tryz.zeroValue90
 t53:=Tryz.underlying242
 a53:=Tryz.isAgg242
 z53:=Tryz.sizeOf242
 v53:=Tryz.zeroValue242
 t55:=Tryz.underlying244
 a55:=Tryz.isAgg244
 z55:=Tryz.sizeOf244
 v55:=Tryz.zeroValue244
 t66:=Tryz.underlying387
 a66:=Tryz.isAgg387
 z66:=Tryz.sizeOf387
 v66:=Tryz.zeroValue387
 t70:=Tryz.underlying391
 a70:=Tryz.isAgg391
 z70:=Tryz.sizeOf391
 v70:=Tryz.zeroValue391
 t76:=Tryz.underlying428
 a76:=Tryz.isAgg428
 z76:=Tryz.sizeOf428
 v76:=Tryz.zeroValue428
 t77:=Tryz.underlying429
 a77:=Tryz.isAgg429
 z77:=Tryz.sizeOf429
 v77:=Tryz.zeroValue429}
end Go.Proofs
namespace Go.Proofs.YtaholidehobiiaaGreatDoor
open Go.RowKit Go.Eng Go.Nw Go.Rt Go.Sort Go.Shelf Go.Proofs
theorem Ykf{α:Type}[Inhabited α]{d d':Array α}(h:PermIn 0 d.size d d'):d'.toList.Perm d.toList:=by
 obtain⟨h1,_,h3⟩:=h
 have e1:d.extract 0 d.size=d:=Array.extract_size
 have e2:d'.extract 0 d.size=d':=by rw[<-h1];exact Array.extract_size
 rw[e1,e2]at h3
 exact h3
theorem Yrl(a b c d e:Int)(g:Nat)(W:World)(h0:W.cell? ⟨g,0,none⟩=some (.int .i64 a))(h1:W.cell? ⟨g,1,none⟩=some (.int .i64 b))(h2:W.cell? ⟨g,2,none⟩=some (.int .i64 c))(h3:W.cell? ⟨g,3,none⟩=some (.int .i64 d))(h4:W.cell? ⟨g,4,none⟩=some (.int .i64 e)):
 Calls Tryz.prog 139 #[.slice (some ⟨g,0,none⟩) 5 5] W λr w'=>r=.returned (.int .i64 (Xn [a,b,c,d,e]))/\w'=W:=by
 go_enter Tryz.func139,Tryz.ntmps139
 go_wp2
 refine wp_loop_rounds 6 ?_
 rw[rounds_succ]
 go_wp2
 ·rename_i hx
  have hx:a≠0:=by simpa using hx
  go_ret
  exact⟨by simp only[Xn];rw[Tm hx];rfl,rfl⟩
 rename_i ha
 have ha:a=0:=by simpa using ha
 rw[rounds_succ]
 go_wp2
 ·rename_i hx
  have hx:b≠0:=by simpa using hx
  go_ret
  exact⟨by simp only[Xn];rw[Td (by omega)];rw[Tm hx];rfl,rfl⟩
 rename_i hb
 have hb:b=0:=by simpa using hb
 rw[rounds_succ]
 go_wp2
 ·rename_i hx
  have hx:c≠0:=by simpa using hx
  go_ret
  exact⟨by simp only[Xn];rw[Td (by omega)];rw[Td (by omega)];rw[Tm hx];rfl,rfl⟩
 rename_i hc
 have hc:c=0:=by simpa using hc
 rw[rounds_succ]
 go_wp2
 ·rename_i hx
  have hx:d≠0:=by simpa using hx
  go_ret
  exact⟨by simp only[Xn];rw[Td (by omega)];rw[Td (by omega)];rw[Td (by omega)];rw[Tm hx];rfl,rfl⟩
 rename_i hd
 have hd:d=0:=by simpa using hd
 rw[rounds_succ]
 go_wp2
 ·rename_i hx
  have hx:e≠0:=by simpa using hx
  go_ret
  exact⟨by simp only[Xn];rw[Td (by omega)];rw[Td (by omega)];rw[Td (by omega)];rw[Td (by omega)];rw[Tm hx];rfl,rfl⟩
 rename_i he
 have he:e=0:=by simpa using he
 rw[rounds_succ]
 go_wp2
 go_ret
 exact⟨by simp only[Xn];rw[Td (by omega),Td (by omega),Td (by omega),Td (by omega),Td (by omega)];rfl,rfl⟩
def cfC(x y:Cel):Int:=Xn [Lib.compareInt x.1 y.1,Lib.compareInt x.2.1 y.2.1,Lib.compareInt x.2.2.1 y.2.2.1,Lib.compareInt x.2.2.2.1 y.2.2.2.1,Lib.compareInt x.2.2.2.2 y.2.2.2.2]
theorem YsQ(x y:Cel)(W:World):Calls Tryz.prog 161 #[.agg #[.int .i64 x.1,.int .i64 x.2.1,.int .i64 x.2.2.1,.int .i64 x.2.2.2.1,.int .i64 x.2.2.2.2],.agg #[.int .i64 y.1,.int .i64 y.2.1,.int .i64 y.2.2.1,.int .i64 y.2.2.2.1,.int .i64 y.2.2.2.2]] W λe w'=>e=.returned (.int .i64 (cfC x y))/\∃q os',w'=grow (W.drewN q) os':=by
 have c1:=λW'=>Tryz.cmp_Compare_int x.1 y.1 W'
 have c2:=λW'=>Tryz.cmp_Compare_int x.2.1 y.2.1 W'
 have c3:=λW'=>Tryz.cmp_Compare_int x.2.2.1 y.2.2.1 W'
 have c4:=λW'=>Tryz.cmp_Compare_int x.2.2.2.1 y.2.2.2.1 W'
 have c5:=λW'=>Tryz.cmp_Compare_int x.2.2.2.2 y.2.2.2.2 W'
 unfold cfC
 generalize Lib.compareInt x.1 y.1=r1 at c1⊢
 generalize Lib.compareInt x.2.1 y.2.1=r2 at c2⊢
 generalize Lib.compareInt x.2.2.1 y.2.2.1=r3 at c3⊢
 generalize Lib.compareInt x.2.2.2.1 y.2.2.2.1=r4 at c4⊢
 generalize Lib.compareInt x.2.2.2.2 y.2.2.2.2=r5 at c5⊢
 go_enter Tryz.func161,Tryz.ntmps161
 go_wp2
 generalize hw1:(W.alloc (.cells #[.int .i64 x.1,.int .i64 x.2.1,.int .i64 x.2.2.1,.int .i64 x.2.2.2.1,.int .i64 x.2.2.2.2] 64)).alloc (.cells #[.int .i64 y.1,.int .i64 y.2.1,.int .i64 y.2.2.1,.int .i64 y.2.2.2.1,.int .i64 y.2.2.2.2] 64)=w1
 have hg:grow W #[.cells #[.int .i64 x.1,.int .i64 x.2.1,.int .i64 x.2.2.1,.int .i64 x.2.2.2.1,.int .i64 x.2.2.2.2] 64 (0,0),.cells #[.int .i64 y.1,.int .i64 y.2.1,.int .i64 y.2.2.1,.int .i64 y.2.2.2.1,.int .i64 y.2.2.2.2] 64 (0,0)]=w1:=by
  rw[<-hw1,alloc_eq_grow,alloc_eq_grow,grow_grow];rfl
 have x0:w1.drew.cell? ⟨W.heap.size,0,none⟩=some (.int .i64 x.1):=by rw[<-hw1];simp
 have x1:w1.drew.cell? ⟨W.heap.size,1,none⟩=some (.int .i64 x.2.1):=by rw[<-hw1];simp
 have x2:w1.drew.cell? ⟨W.heap.size,2,none⟩=some (.int .i64 x.2.2.1):=by rw[<-hw1];simp
 have x3:w1.drew.cell? ⟨W.heap.size,3,none⟩=some (.int .i64 x.2.2.2.1):=by rw[<-hw1];simp
 have x4:w1.drew.cell? ⟨W.heap.size,4,none⟩=some (.int .i64 x.2.2.2.2):=by rw[<-hw1];simp
 have y0:w1.drew.cell? ⟨W.heap.size+1,0,none⟩=some (.int .i64 y.1):=by rw[<-hw1];simp
 have y1:w1.drew.cell? ⟨W.heap.size+1,1,none⟩=some (.int .i64 y.2.1):=by rw[<-hw1];simp
 have y2:w1.drew.cell? ⟨W.heap.size+1,2,none⟩=some (.int .i64 y.2.2.1):=by rw[<-hw1];simp
 have y3:w1.drew.cell? ⟨W.heap.size+1,3,none⟩=some (.int .i64 y.2.2.2.1):=by rw[<-hw1];simp
 have y4:w1.drew.cell? ⟨W.heap.size+1,4,none⟩=some (.int .i64 y.2.2.2.2):=by rw[<-hw1];simp
 refine wp_region_still_tail 25 (by kernel_rfl) (by kernel_rfl) ?_
 have e9:({w1 with drawn:=w1.drawn+1}:World)=w1.drew:=rfl
 rw[e9]
 clear e9
 generalize hw2:w1.drew=w2 at x0 x1 x2 x3 x4 y0 y1 y2 y3 y4⊢
 simp only[NL,Nl,List.drop_succ_cons,List.drop_zero]
 repeat still_step
 still_call (c1 _)
 repeat still_step
 still_call (c2 _)
 repeat still_step
 still_call (c3 _)
 repeat still_step
 still_call (c4 _)
 repeat still_step
 still_call (c5 _)
 refine wpStill_nil ?_
 clear c1 c2 c3 c4 c5
 have hor:Calls Tryz.prog 139 #[.slice (some ⟨w2.heap.size,0,none⟩) 5 5] (w2.alloc (.cells #[.int .i64 r1,.int .i64 r2,.int .i64 r3,.int .i64 r4,.int .i64 r5] 3)) λe w'=>e=.returned (.int .i64 (Xn [r1,r2,r3,r4,r5]))/\w'=w2.alloc (.cells #[.int .i64 r1,.int .i64 r2,.int .i64 r3,.int .i64 r4,.int .i64 r5] 3):=
  Yrl r1 r2 r3 r4 r5 w2.heap.size _ (by simp) (by simp) (by simp) (by simp) (by simp)
 generalize Xn [r1,r2,r3,r4,r5]=r at hor⊢
 clear x0 x1 x2 x3 x4 y0 y1 y2 y3 y4
 go_wp2_with (go_at_call 139;refine hor.mono ?_;rintro e w' ⟨rfl,rfl⟩)
 go_ret
 refine⟨by first|rfl|kernel_rfl|simp,1,#[.cells #[.int .i64 x.1,.int .i64 x.2.1,.int .i64 x.2.2.1,.int .i64 x.2.2.2.1,.int .i64 x.2.2.2.2] 64 (0,0),.cells #[.int .i64 y.1,.int .i64 y.2.1,.int .i64 y.2.2.1,.int .i64 y.2.2.2.1,.int .i64 y.2.2.2.2] 64 (0,0),.cells #[.int .i64 r1,.int .i64 r2,.int .i64 r3,.int .i64 r4,.int .i64 r5] 3 (0,0)],?_⟩
 rw[<-hw2,<-hw1,alloc_eq_grow]
 rfl
theorem YsN(x y:Cel):cfC x y=cmpV (nums x) (nums y):=Yj6 (nums x) (nums y) rfl
theorem YlH(x y:Cel):ltOf cfC x y=Y8 x y:=by
 rw[NI]
 unfold ltOf
 rw[Tq,YsN,Yaz]
theorem swoC:SWO (ltOf cfC) where
 irrefl x:=by rw[YlH];exact JS x
 trans x y z h1 h2:=by rw[YlH]at*;exact Jk h1 h2
 ntrans x y z h1 h2:=by
  rw[YlH]at*
  cases h:Y8 x z with
  |false=>rfl
  |true=>
   cases h3:Y8 z y with
   |true=>rw[Jk h h3]at h1;cases h1
   |false=>rw[QI h2 h3]at h1;rw[h]at h1;cases h1
theorem YgE(l:List Cel)(hl:l.length<=100000000){A:Option Addr}{cap B:Nat}{w0:World}{H:List HP}{w:World}(hw:St B w0 (cels A cap l::H) w):
 Calls Tryz.prog 160 [.slice A l.length cap,.func (.func 161) #[] #[]].toArray w (Post B w0 λv K=>v=.tuple #[]/\∃l',l'.Perm l/\OrdW l'/\K=cels A cap l'::H):=by
 by_cases h0:l.length=0
 ·have hl0:l=[]:=RJ h0
  rw[h0]
  refine(AnyF.slices_SortFunc_none Tryz.sortCels A cap (.func (.func 161) #[] #[]) w).mono ?_
  rintro e w' ⟨rfl,rfl⟩
  exact⟨_,_,rfl,hw,rfl,l,List.Perm.refl _,by rw[hl0];exact .nil,rfl⟩
 have ho:=hw.sl (TA)
 obtain⟨g,rfl⟩:∃g,A=some ⟨g,0,none⟩:=by
  rcases ho.2 with⟨h1,h2⟩|⟨g,c,cur,h1,h2,h3,h4,h5,h6,h7⟩
  ·omega
  ·injection h1 with e1 e2 e3
   exact⟨g,e1⟩
 obtain⟨hH,hg,hst⟩:=YnG (enc:=celF) (λ_=>rfl) (by decide) (Tu _) hw
 have eg:∀args w,(callFunc 161 args).run Tryz.prog w=.ok (.enter 161 args) w:=YoU
 rw[List.drop_zero,N4]at hH
 have hsz:l.toArray.size=l.length:=by simp
 have hcon:=AnyQ.slices_SortFunc Tryz.sortCels 5 Tryz.isAgg64 Tryz.sizeOf64 celF (λ_=>rfl) (λx v hv=>by simp[celF]at hv;rcases hv with rfl|rfl|rfl|rfl|rfl<;>rfl) cfC swoC 161 #[] g 0 cap l.toArray w eg (λ_ _ _ _ x y=>YsQ x y _) hH hg (by rw[hsz];omega)
 rw[hsz]at hcon
 refine hcon.mono ?_
 rintro e w' ⟨rfl,d',n,os,hp,hs,rfl⟩
 have hp:d'.toList.Perm l:=Ykf (d:=l.toArray) (by rw[hsz];exact hp)
 have h5:=hst d'.toList n os (by rw[hp.length_eq];rfl)
 rw[Array.toArray_toList,N4,Nl,TK]at h5
 refine⟨_,_,rfl,h5,rfl,d'.toList,hp,?_,?_⟩
 ·have hdl:d'.toList.length=l.length:=hp.length_eq
  rw[OrdW,RO]
  intro i j hi hj hij
  have h6:=hs i j (Tu _) hij (by omega)
  rw[YlH,getElem!_pos d' j (by simpa using hj),getElem!_pos d' i (by simpa using hi)]at h6
  simpa using h6
 ·unfold cels
  rw[hp.length_eq]
open Go.RowKit Go.Eng Go.Nw Go.Rt
theorem Yk5:∀(a:Cel) (l:List Cel),Xk (a::l)=a::(Xk (a::l)).drop 1
 |_,[]=>rfl
 |a,b::l=>by
  have ih:=Yk5 b l
  unfold Xk
  by_cases h:a=b
  ·rw[Tm h,h];exact ih
  ·rw[Td h];rfl
variable {l:List Cel}{m:Nat}{a:Cel}
theorem Un(h:l[m]? =some a):l.drop m=a::l.drop (m+1):=by
 obtain⟨h1,rfl⟩:=Ti.1 h
 exact Rx h1
theorem Yey(h:l[m]? =some a)(h2:l[m+1]? =some a):Xk (l.drop m)=Xk (l.drop (m+1)):=by
 rw[Un h,Un h2,Xk,Tm rfl]
theorem Yex{b:Cel}(h:l[m]? =some a)(h2:l[m+1]? =some b)(hne:a≠b):Xk (l.drop m)=a::Xk (l.drop (m+1)):=by
 rw[Un h,Un h2,Xk,Td hne]
theorem Yk4(h:l[m]? =some a):Xk (l.drop m)=a::(Xk (l.drop m)).drop 1:=by
 rw[Un h];exact Yk5 _ _
structure CpM where
 i:Nat
 j:Nat
 M:List Cel
theorem Yd3(l:List Cel)(hlen:l.length<=100000){A:Option Addr}{cap B:Nat}{w0:World}{H:List HP}{w:World}(hw:St B w0 (cels A cap l::H) w):
 Calls Tryz.prog 162 [.slice A l.length cap].toArray w (Post B w0 λv K=>v=.slice A (Xk l).length cap/\K=cels A cap (Xk l)::H):=by
 refine Yc Tryz.func162 Tryz.ntmps162 rfl rfl hw ?_
 refine Qw (e:=64) (size:=5) (A:=A) (xs:=l.flatMap celF) (k:=l.length) (cap:=cap) TA λhcap=>?_
 by_cases hl2:l.length<2
 ·have e:Xk l=l:=by
   match l,hl2 with
   |[],_=>rfl
   |[_],_=>rfl
  rw[e]
  repeat'(first|refine zgb ?_|(refine zge ?_ ?_<;>intro _<;>try exact zo)|fail)
  apply Yd;exact rfl;exact rfl;exact⟨rfl,rfl⟩
 repeat'(first|refine zgb ?_|(refine zge ?_ ?_<;>intro _<;>try exact zo)|fail)
 refine Yi (λk:Nat=>[(3,.int .i64 k),(0,.slice A l.length cap)]) (λ_=>cels A cap l::H) (λk=>1<=k/\k<=l.length/\Xk l=l.take (k-1)++Xk (l.drop (k-1))) (λk=>l.length-k) 1 ⟨TL _,by omega,by simp⟩ ?_ (λw hw=>hw) ?_
 ·exact zu
 rintro k ⟨hk1,hk,hce⟩ K hK
 by_cases hlt:k<l.length
 rotate_left
 ·obtain rfl:k=l.length:=by omega
  obtain⟨a,ha⟩:∃a,l[l.length-1]? =some a:=⟨_,Ta (by omega)⟩
  have e:Xk l=l:=by
   rw[hce,Un ha,TZ (by omega)]
   show l.take (l.length-1)++[a]=l
   conv=>rhs;rw[<-SC (l.length-1) l,Un ha,TZ (show l.length<=l.length-1+1 by omega)]
  rw[e]
  repeat'(first|refine zgc ?_|(refine zge ?_ ?_<;>intro _<;>try exact zo)|fail)
  apply Yd;exact rfl;exact rfl;exact⟨rfl,rfl⟩
 obtain⟨m,rfl⟩:∃m,k=m+1:=⟨k-1,by omega⟩
 rw[SR]at hce
 obtain⟨a,ha⟩:∃a,l[m]? =some a:=⟨_,Ta (by omega)⟩
 obtain⟨b,hb⟩:∃b,l[m+1]? =some b:=⟨_,Ta hlt⟩
 have hm1:(((m+1:Nat):Int)-1).toNat=m:=by omega
 have ha2:l[(((m+1:Nat):Int)-1).toNat]? =some a:=by rw[hm1];exact ha
 have hr0:Rd B w0 (cels A cap l::H) A (l.flatMap celF):=.sl TA
 repeat'(first|(apply Yqp b a;(iterate 3 exact rfl);all_goals intro hca)|refine zgd ?_|(refine zge ?_ ?_<;>intro _<;>try exact zo)|fail)
 rotate_left
 ·apply hK (m+1+1)
  ·refine⟨by omega,by omega,?_⟩
   rw[SR,TF,ha,hce,Yex ha hb (λe=>hca e.symm)]
   simp
  ·omega
  ·exact zu
  ·exactλw hw=>hw
 obtain rfl:=hca
 clear hK
 obtain⟨N,hN⟩:∃N,l.length=m+1+N:=⟨l.length-(m+1),by omega⟩
 apply XS T (n':=(l.drop (m+1)).length);(iterate 4 exact rfl);omega;(rw[Rf];omega)
 rw[RZ]
 repeat'(first|refine zgb ?_|fail)
 refine Yi (λz:CpM=>[(5,.int .i64 z.j),(3,.int .i64 z.i),(4,.slice (subA A (m+1) cap 5) (z.M.drop (m+1)).length (cap-(m+1))),(0,.slice A z.M.length cap)]) (λz=>cels A cap z.M::H)
  (λz=>z.M.length=l.length/\(1<=z.j/\z.j<=N)/\z.i<=m+z.j/\Xk l=z.M.take z.i++(Xk (l.drop (m+z.j))).drop 1/\∀i,m+z.j<=i->z.M[i]? =l[i]?) (λz=>N-z.j) ⟨m+1,1,l⟩ ⟨rfl,⟨TL _,by show 1<=N;omega⟩,TL _,?_,λ_ _=>rfl⟩ ?_ (λw hw=>hw) ?_
 ·show Xk l=l.take (m+1)++(Xk (l.drop (m+1))).drop 1
  rw[TF,ha,hce,Yey ha hb,Yk4 hb]
  simp
 ·exact zu
 rintro⟨i,j,M⟩ ⟨hM,⟨hj1,hj⟩,hi,hco,hsame⟩ K hK
 dsimp only at hM hj1 hj hi hco hsame⊢
 have hdl:(M.drop (m+1)).length=N:=by rw[Rf];omega
 by_cases hjl:j<N
 ·obtain⟨x,hx⟩:∃x,l[m+j]? =some x:=⟨_,Ta (by omega)⟩
  obtain⟨y,hy⟩:∃y,l[m+1+j]? =some y:=⟨_,Ta (by omega)⟩
  have hj3:((j:Int)-1).toNat=j-1:=by omega
  have hx2:(M.drop (m+1))[((j:Int)-1).toNat]? =some x:=by
   rw[hj3,RB,show m+1+(j-1)=m+j by omega,hsame _ (TL _)];exact hx
  have hy2:(M.drop (m+1))[j]? =some y:=by
   rw[RB,hsame _ (by omega)];exact hy
  have hy3:l[m+j+1]? =some y:=by rw[show m+j+1=m+1+j by omega];exact hy
  have hs2:Rd B w0 (cels A cap M::H) (subA A (m+1) cap 5) ((M.drop (m+1)).flatMap celF):=by
   have h1:=Rd.sub (B:=B) (w0:=w0) (H:=cels A cap M::H) (q:=5) (f:=celF) (l:=M) (o:=m+1) (k:=M.length) (cap:=cap) (A:=A) (λ_=>rfl) (.sl TA) (by omega)
   rwa [TQ (by rw[Rf];omega)]at h1
  unfold cels at hs2⊢
  have hMl:(M.set i y).length=M.length:=Rh
  have hMd:((M.set i y).drop (m+1)).length=(M.drop (m+1)).length:=by rw[Rf,Rf,hMl]
  repeat'(first|(apply Yqq y x;(iterate 3 exact rfl);all_goals intro hca)|(apply XV T (f:=celF) (l:=M) (i:=i) (a:=y);(iterate 3 exact rfl);exact zd;exactλ_=>rfl;(iterate 3 exact rfl);omega)|refine zgd ?_|(refine zge ?_ ?_<;>intro _<;>try exact zo)|fail)
  ·apply hK ⟨i+1,j+1,M.set i y⟩
   ·refine⟨hMl.trans hM,⟨by show 1<=j+1;omega,hjl⟩,by show i+1<=m+(j+1);omega,?_,λt ht=>?_⟩
    ·show Xk l=(M.set i y).take (i+1)++(Xk (l.drop (m+(j+1)))).drop 1
     rw[hco,Yex hx hy3 (λe=>hca e.symm),List.drop_one,List.tail_cons,TF,Sr (by omega),N6 (TL _),show m+(j+1)=m+j+1 by omega,Yk4 hy3]
     simp
    ·dsimp only at ht⊢
     rw[Nz (by omega)]
     exact hsame t (by omega)
   ·dsimp only;omega
   ·dsimp only
    rw[hMl,hMd]
    exact zu
   ·unfold cels
    dsimp only
    rw[hMl]
    exactλw hw=>hw
  ·apply hK ⟨i,j+1,M⟩
   ·refine⟨hM,⟨by show 1<=j+1;omega,hjl⟩,by show i<=m+(j+1);omega,?_,λt ht=>hsame t (by dsimp only at ht;omega)⟩
    show Xk l=M.take i++(Xk (l.drop (m+(j+1)))).drop 1
    rw[hco,Yey hx (by rw[hy3,hca]),show m+(j+1)=m+j+1 by omega]
   ·dsimp only;omega
   ·exact zu
   ·exactλw hw=>hw
 ·obtain rfl:j=N:=by omega
  clear hK
  have hce2:Xk l=M.take i:=by
   obtain⟨x,hx⟩:∃x,l[m+j]? =some x:=⟨_,Ta (by omega)⟩
   have hd:l.drop (m+j+1)=[]:=TZ (by omega)
   rw[hco,Un hx,hd]
   exact TM _
  have hil:(Xk l).length=i:=by rw[hce2,TD];omega
  have hfl:(M.flatMap celF).take (i*5)=(Xk l).flatMap celF:=by rw[<-XG (q:=5) (λ_=>rfl),hce2]
  unfold cels
  repeat'(first|(apply XS T (n':=M.length-i);(iterate 4 exact rfl);omega;omega)|refine zgc ?_|(refine zge ?_ ?_<;>intro _<;>try exact zo)|fail)
  rw[RZ]
  apply XL (sl 64 5 A i cap ((Xk l).flatMap celF)::H)
  ·intro w hw
   refine hw.shrink (e:=64) (size:=5) (cap:=cap) (A:=A) (xs:=M.flatMap celF) (k:=M.length) (k':=i) (by omega) ?_
   rw[hfl]
   exact Upd.here _
  apply Qy T T2 (e:=64) (size:=5) (k:=i) (xs:=(Xk l).flatMap celF);exact rfl;exact TA;(iterate 3 exact rfl);omega
  repeat'(first|(apply X7 T (l:=M) (n':=i);(iterate 4 exact rfl);omega;omega;omega)|refine zgd ?_|fail)
  rw[Qr]
  repeat'(first|fail)
  apply Yd;exact rfl;exact rfl
  exact⟨by rw[hil],by rw[hil]⟩
end Go.Proofs.YtaholidehobiiaaGreatDoor
namespace Go.Eng
open Go.RowKit
section
variable {P:Program}{B:Nat}{w0:World}{env:Env}{H:List HP}{Q:Exit->Act->World->Prop}
theorem YgS{α:Type}{k:Nat}{r:Option Nat}{ds0:List Deferred}(DS:α->List Deferred)(E:α->Env)(HH:α->List HP)(I:α->Prop)(μ:α->Nat){c:Code}(x0:α)(h0:I x0)(hd:DS x0=ds0)
 (he:∀t v,get (E x0) t=some v->get env t=some v) (hH:∀w,St B w0 H w->St B w0 (HH x0) w)
 (round:∀x,I x->∀K:Act->World->Prop,(∀x',I x'->μ x'<μ x->∀env' H',(∀t v,get (E x') t=some v->get env' t=some v)->(∀w,St B w0 H' w->St B w0 (HH x') w)->VQ ⟨k,DS x',r⟩ B w0 (Exit.then K Q) .normal env' H')->
  VC P ⟨k,DS x,r⟩ B w0 c (Exit.then K Q) (E x) (HH x)):VC P ⟨k,ds0,r⟩ B w0 (.loop c) Q env H:=by
 subst hd
 refine⟨λa w ha hw=>Yi8 (λj a w=>∃x,μ x=j/\I x/\Fits ⟨k,DS x,r⟩ a (E x)/\St B w0 (HH x) w) (μ x0) ⟨x0,rfl,h0,ha.sub he,hH w hw⟩ ?_⟩
 rintro j a w ⟨x,rfl,hx,ha,hw⟩
 refine ZQ ((round x hx (λa w=>∃y,I y/\μ y<μ x/\Fits ⟨k,DS y,r⟩ a (E y)/\St B w0 (HH y) w) (λy hI hμ env' H' he' hH'=>⟨λa w ha hw=>⟨y,hI,hμ,ha.sub he',hH' w hw⟩⟩)).run a w ha hw) ?_
 intro e a w hq
 cases e with
 |normal=>obtain⟨y,h1,h2,h3,h4⟩:=hq;exact⟨μ y,h2,y,rfl,h1,h3,h4⟩
 |exit id=>exact hq
 |goto l=>exact hq
 |ret=>exact hq
 |panic ch=>exact hq
 |outgrown=>exact hq
abbrev mkD(D:Nat):Deferred:=⟨.collected D,#[]⟩
abbrev mkB(D:Nat):HP:=blk D (.deferred (some []))
theorem Yhc{n:Nat}{ds:List Deferred}{fn:Func}{R:Ending->World->Prop}:∀{Ds:List Nat}{H H':List HP},(∀w,St B w0 H w->St B w0 (Ds.map mkB++H') w)->VQ ⟨n,ds,none⟩ B w0 (bodyPostM Fence.wide 0 P fn R) .ret env H'->
 VQ ⟨n,Ds.map mkD++ds,none⟩ B w0 (bodyPostM Fence.wide 0 P fn R) .ret env H
 |[],_,_,hp,h=>Yj _ hp h
 |D::Ds,_,H',hp,h=>by
  refine Yj (mkB D::(Ds.map mkB++H')) hp ?_
  exact ZR Yt (Yhc (λw hw=>hw) h)
end
end Go.Eng
namespace Go.Proofs.YtaholidehobiiaaGreatDoor
open Go.RowKit Go.Eng Go.Nw Go.Rt
theorem Yqc(es:Zg)(k k':KL)(v:Value)(b:Nat):vget (es++[(k,v,b)]) k'=match vget es k' with|some u=>some u|none=>if k=k' then some v else none:=by
 unfold vget
 rw[List.find?_append]
 cases h:es.find? (λe=>e.1==k')with
 |some e=>rfl
 |none=>
  by_cases hk:k=k'
  ·simp[hk]
  ·have:(k==k')=false:=by simpa using hk
   simp[hk,this]
structure CSet(es:Zg)(p:Cel->Bool):Prop where
 len:∀e∈es,e.1.length=5
 val:∀e∈es,e.2.1=.bool true
 mem:∀c,vget es (nums c)=if p c=true then some (.bool true)else none
theorem CSet.nil:CSet [] λ_=>false:=⟨(λe h=>by cases h),(λe h=>by cases h),λc=>rfl⟩
section
variable {n:Shp}{B d:Nat}{w0:World}{ops:Array Oper}{Q:Exit->Act->World->Prop}{rest:List Oper}{env:Env}{H:List HP}{ty:TypeId}{pos:String}{after:Array Edge}
theorem Yqr{es:Zg}{clock g:Nat}{p p':Cel->Bool}(c:Cel)(hS:CSet es p)(hp:∀x,p' x=(p x||decide (c=x))){x y u:Operand}{K:Zg->Nat->List HP}(hx:evo env x=some (.map (some g)))(hy:evo env y=some (kv (nums c)))(hv:evo env u=some (.bool true))
 (hu:∀es' cl',Upd (blk g (vobj es clock)) (blk g (vobj es' cl')) H (K es' cl')) (h:∀es' cl',CSet es' p'->VL Tryz.prog none n B w0 ops Q rest env (K es' cl')):
 VL Tryz.prog none n B w0 ops Q (⟨none,.mapUpdate 272 x y u,ty,pos,after,none⟩::rest) env H:=by
 by_cases hc:p c=true
 ·have hg:=hS.mem c
  rw[Tm hc]at hg
  obtain⟨l1,b,l2,e,hn⟩:=YdN hg
  subst e
  refine Yji (kt:=64) (et:=4) (N:=5) (nums c) hx hy hv (by kernel_rfl) rfl (λe he=>hS.len e (Ss _ he)) (hu _ clock) hn ?_
  refine h _ _ ⟨hS.len,hS.val,λx=>?_⟩
  rw[hS.mem x,hp]
  by_cases hx2:c=x
  ·subst hx2;simp[hc]
  ·simp[hx2]
 ·have hg:=hS.mem c
  rw[Td hc]at hg
  refine Yjh (kt:=64) (et:=4) (N:=5) (nums c) hx hy hv (by kernel_rfl) rfl hS.len (hu _ _) hg ?_
  refine h _ _ ⟨λe he=>?_,λe he=>?_,λx=>?_⟩
  ·rcases TT.1 he with he|he
   ·exact hS.len e he
   ·rw[TJ.1 he];rfl
  ·rcases TT.1 he with he|he
   ·exact hS.val e he
   ·rw[TJ.1 he]
  ·rw[Yqc,hS.mem x,hp]
   by_cases hx2:c=x
   ·subst hx2
    simp[hc]
   ·have:nums c≠nums x:=λe=>hx2 (Yiq e)
    cases hpx:p x<;>simp[hx2,this]
end
def usR(n:Net)(s:Sch)(f:Flw)(r:List Int)(i:Nat)(c:Cel):Bool:=(List.range i).any λt=>decide (f.2.2.2.2.1+t*f.2.2.2.1<s.len)&&(runP s.len (XN s f.1) (f.2.2.2.2.1+t*f.2.2.2.1+f.2.2.2.1) (Yr n r) (f.2.2.2.2.1+t*f.2.2.2.1)).any λp=>decide (p.1=c)
variable {n:Net}{s:Sch}{f:Flw}{r:List Int}{i:Nat}
theorem YrC(h:f.2.2.2.2.1+i*f.2.2.2.1<s.len)(c:Cel):usR n s f r (i+1) c=(usR n s f r i c||(runP s.len (XN s f.1) (f.2.2.2.2.1+i*f.2.2.2.1+f.2.2.2.1) (Yr n r) (f.2.2.2.2.1+i*f.2.2.2.1)).any λp=>decide (p.1=c)):=by
 unfold usR
 rw[RA,SV]
 simp[h]
theorem YrB(h:¬f.2.2.2.2.1+i*f.2.2.2.1<s.len)(hp:1<=f.2.2.2.1)(_h0:0<=f.2.2.2.2.1)(hi:i<=s.len.toNat)(c:Cel):Ox n s f r c=usR n s f r i c:=by
 have key:∀k,usR n s f r (i+k) c=usR n s f r i c:=by
  intro k
  induction k with
  |zero=>rfl
  |succ k ih=>
   rw[<-ih]
   unfold usR
   rw[show i+(k+1)=i+k+1 from rfl,RA,SV]
   have h2:¬f.2.2.2.2.1+(i+k:Nat)*f.2.2.2.1<s.len:=by
    have:(i:Int)*f.2.2.2.1<=((i+k:Nat):Int)*f.2.2.2.1:=SX (by omega) (by omega)
    omega
   simp only[MA,List.any_nil,MC,Tn h2,SI]
 have:=key (s.len.toNat-i)
 rw[show i+(s.len.toNat-i)=s.len.toNat by omega]at this
 exact this
theorem Yj3(c:Cel)(p:Cel->Bool)(gp gm:Nat)(es:Zg)(clock:Nat)(hS:CSet es p){B:Nat}{w0:World}{H:List HP}{w:World}(h1:blk gp (.cells #[.map (some gm)] 272 (0,0))∈H)(h2:blk gm (vobj es clock)∈H)(hw:St B w0 H w):
 Calls Tryz.prog 250 [celV c,.pointer (some ⟨gp,0,none⟩)].toArray w (Post B w0 λv K=>v=.bool (!(p c))/\K=H):=by
 refine Yc Tryz.func250 Tryz.ntmps250 rfl rfl hw ?_
 have hz:∀w,(zeroValue 4).run Tryz.prog w=.ok (.bool false) w:=λw=>by kernel_rfl
 have hm:=hS.mem c
 have hl:=hS.len
 cases hpc:p c with
 |true=>
  rw[hpc,Tm rfl]at hm
  repeat'(first|(apply Ya5 (kt:=64) (et:=4) (N:=5) (nums c) (v:=.bool true);exact rfl;exact rfl;exact(by simp only[TN];exact .inr h2);kernel_rfl;exact rfl;exact hl;exact rfl;exact .inl hm)|refine zgd ?_|(refine zgh ?_;intro _)|fail)
  apply Yj H
  ·exact zk
  apply Yd;exact rfl;exact rfl;exact⟨rfl,rfl⟩
 |false=>
  rw[hpc,Td (by decide)]at hm
  repeat'(first|(apply Ya5 (kt:=64) (et:=4) (N:=5) (nums c) (v:=.bool false);exact rfl;exact rfl;exact(by simp only[TN];exact .inr h2);kernel_rfl;exact rfl;exact hl;exact rfl;exact .inr ⟨hm,hz⟩)|refine zgd ?_|(refine zgh ?_;intro _)|fail)
  apply Yj H
  ·exact zk
  apply Yd;exact rfl;exact rfl;exact⟨rfl,rfl⟩
structure NdM where
 k:Nat
 i:Nat
 es:Zg
 cl:Nat
 Ds:List Nat
theorem Yj4(n:NetM)(s:SchM)(f:Flw)(l:List RowM)(h1:1<=l.length/\l.length<=1000)(hok:∀r∈l,(YV n.net s.sch f r.xs).2=0){A:Option Addr}{cap B:Nat}{w0:World}{H:List HP}{w:World}(ht:TabsB B w0)(hin:n.In B w0 H)(hrs:Rd B w0 H s.A (s.cells.flatMap celF))(hsl:s.cells.length<=1000000000000)(hrt:Rd B w0 H A (l.flatMap rowF))(hrw:∀r∈l,Rd B w0 H r.A (r.xs.flatMap numF))(hrl:∀r∈l,r.xs.length<=1000000000000/\r.xs.length<=r.cap)(hw:St B w0 H w):
 Calls Tryz.prog 159 [n.val,s.val,flwV f,.slice A l.length cap].toArray w (Post B w0 λv K=>∃A' cap',v=.tuple #[.slice A' (s.cells.filter (O6 n.net s.sch (f,l.map (·.xs)))).length cap',.int .i64 0]/\K=cels A' cap' (s.cells.filter (O6 n.net s.sch (f,l.map (·.xs))))::H):=by
 refine Zi Tryz.func159 Tryz.ntmps159 rfl rfl hw ?_
 have hop:∀w,St B w0 [many H] w->St B w0 H w:=λw hw=>hw.perm (.openT H)
 have hwi:∀r∈l,(WayM.mk n s f r.A r.cap r.xs).In B w0 [many H]:=λr hr=>WayM.In.mono (H:=H) ⟨hin,hrs,hrw r hr,hsl,(hrl r hr).1,(hrl r hr).2⟩ hop
 have hrs:=hrs.mono hop
 have hrt:=hrt.mono hop
 have hWok:∀r∈l,UK (WayM.mk n s f r.A r.cap r.xs):=λr hr=>Yb5 (Yag (hok r hr)).1
 obtain⟨r0,hr0⟩:∃r0,l[0]? =some r0:=⟨_,Ta (by omega)⟩
 have hW0:=hWok r0 (Tf hr0)
 have hper:1<=f.2.2.2.1/\f.2.2.2.1<=512:=hW0.per
 have hph:0<=f.2.2.2.2.1/\f.2.2.2.2.1<f.2.2.2.1:=hW0.ph
 have hlen:1<=s.len/\s.len<=512:=hW0.slen
 have hfew:s.cells.length<=512:=hW0.few
 have p1:=λ(r:RowM) {H':List HP}{w:World}(hi:(WayM.mk n s f r.A r.cap r.xs).In B w0 H') (hw:St B w0 H' w)=>Ydt ⟨n,s,f,r.A,r.cap,r.xs⟩ ht hi hw
 have p2:=λ(r:RowM) (a:Int) {H':List HP}{w:World}(hw:St B w0 H' w)=>Ya8 ⟨n,s,f,r.A,r.cap,r.xs⟩ a (B:=B) (w0:=w0) (H:=H') (w:=w) hw
 unfold NetM.val SchM.val flwV at p1
 unfold WayM.val intB at p2
 dsimp only at p1 p2
 unfold NetM.val SchM.val flwV
 refine Jf [many H] (λw hw=>hw.perm (.closeT H)) ?_
 repeat'(first|(apply Yg2;exact rfl;intro _)|refine zgd ?_|(refine zge ?_ ?_<;>intro _<;>try exact zo)|(refine zgh ?_;intro _)|fail)
 rename_i g4 g5 g6 _ gm g10
 refine YgS (λz:NdM=>z.Ds.map mkD++[]) (λz:NdM=>[(26,.int .i64 (z.k:Nat)),(25,.int .i64 l.length),(24,.slice A l.length cap),(10,.pointer (some ⟨g10,0,none⟩)),(6,.pointer (some ⟨g6,0,none⟩)),(5,.pointer (some ⟨g5,0,none⟩)),(4,.pointer (some ⟨g4,0,none⟩))])
  (λz=>blk g10 (.cells #[.map (some gm)] 272 (0,0))::blk gm (vobj z.es z.cl)::flwB g6 f::schA g5 s::netA g4 n::many (z.Ds.map mkB)::[many H])
  (λz=>z.k<=l.length/\CSet z.es λc=>((l.map (·.xs)).take z.k).any λr=>Ox n.net s.sch f r c) (λz=>l.length-z.k) ⟨0,0,[],0,[]⟩ ⟨Tu _,CSet.nil⟩ rfl ?_ ?_ ?_
 ·exact zu
 ·intro w hw
  have h5:St B w0 (blk g10 (.cells #[.map (some gm)] 272 (0,0))::blk gm (vobj [] 0)::flwB g6 f::schA g5 s::netA g4 n::[many H]) w:=by
   revert w
   exact zk
  have h6:=h5.perm (.noMany _)
  clear hw h5
  have h7:St B w0 (blk g10 (.cells #[.map (some gm)] 272 (0,0))::blk gm (vobj [] 0)::flwB g6 f::schA g5 s::netA g4 n::many []::[many H]) w:=by
   revert w
   exact zk
  exact h7
 rintro⟨k,_,es,cl,Ds⟩ ⟨hk,hS⟩ K hK
 dsimp only at hk hS⊢
 by_cases hlt:k<l.length
 rotate_left
 ·obtain rfl:k=l.length:=by omega
  clear hK
  have hS:CSet es (O6 n.net s.sch (f,l.map (·.xs))):=by
   rw[TQ (by rw[Tv];exact TL _)]at hS
   exact hS
  generalize O6 n.net s.sch (f,l.map (·.xs))=p at hS⊢
  repeat'(first|refine zgc ?_|(refine zge ?_ ?_<;>intro _<;>try exact zo)|fail)
  apply Yh _ YeI
  exact za
  exact rfl
  exactλ_ hw=>(Jl s.cells (by omega) (hrs.mono zk) (hw))
  rintro _ _ ⟨A1,c1,rfl,rfl⟩
  repeat'(first|(apply zg29;(apply Ym;exact za;exact rfl))|fail)
  apply Yh _ Yli
  exact za
  exact rfl
  exactλ_ hw=>(Ul (λc=>!(p c)) s.cells 250 [.pointer (some ⟨g10,0,none⟩)] YtM (by omega) (λc _ X w hw=>Yj3 c p g10 gm es cl hS (Rb _ zm) (Rb _ zm) hw) (hw))
  rintro _ _ ⟨rfl,rfl⟩
  have e:s.cells.filter (λc=>!!(p c))=s.cells.filter p:=Ni λc _=>MF _
  rw[e]
  repeat'(first|refine zga ?_|fail)
  apply Yhc (H':=cels A1 c1 (s.cells.filter p)::H)
  ·intro w hw
   have h5:St B w0 (many (Ds.map mkB)::cels A1 c1 (s.cells.filter p)::[many H]) w:=by
    revert w
    exact zk
   exact(h5.perm (.cons _ (.cons _ (.openT H)))).perm (.open_ (Ds.map mkB) _)
  apply VQ_m
  apply Yp;(iterate 3 exact rfl)
  exact⟨A1,c1,rfl,rfl⟩
 obtain⟨r,hr⟩:∃r,l[k]? =some r:=⟨_,Ta hlt⟩
 have hrm:=Tf hr
 have hri:=hwi r hrm
 have hWr:=hWok r hrm
 have p3:=λ{H':List HP}{w:World}(hi:(WayM.mk n s f r.A r.cap r.xs).In B w0 H') (hw:St B w0 H' w)=>p1 r hi hw
 rw[hok r hrm]at p3
 have hiter:=λ(a:Int) (ha:0<=a/\a<=1000000) {ga gw:Nat}{H':List HP}(hi:(WayM.mk n s f r.A r.cap r.xs).In B w0 H')=>QM ⟨n,s,f,r.A,r.cap,r.xs⟩ a hWr ha ga gw hi
 unfold intB YhC runW at hiter
 dsimp only at hiter
 have hst:∀c,((l.map (·.xs)).take (k+1)).any (λr=>Ox n.net s.sch f r c)=(((l.map (·.xs)).take k).any (λr=>Ox n.net s.sch f r c)||Ox n.net s.sch f r.xs c):=λc=>by
  rw[TF,TE,hr,SV]
  simp
 generalize hbp:(λc=>((l.map (·.xs)).take k).any λr=>Ox n.net s.sch f r c)=bp at hS
 have hst:∀c,((l.map (·.xs)).take (k+1)).any (λr=>Ox n.net s.sch f r c)=(bp c||Ox n.net s.sch f r.xs c):=λc=>by rw[hst,<-hbp]
 repeat'(first|refine zgd ?_|(refine zge ?_ ?_<;>intro _<;>try exact zo)|fail)
 apply Yh _ YrZ
 exact za
 exact rfl
 exactλ_ hw=>(p3 (hri.mono zk) (hw))
 rintro _ _ ⟨A2,c2,rfl,rfl⟩
 repeat'(first|refine zgd ?_|(refine zge ?_ ?_<;>intro _<;>try exact zo)|(refine zgh ?_;intro _)|fail)
 rename_i g17
 refine YgS (λz:NdM=>z.Ds.map mkD++[]) (λz:NdM=>[(18,.int .i64 (f.2.2.2.2.1+(z.i:Int)*f.2.2.2.1)),(17,.pointer (some ⟨g17,0,none⟩)),(26,.int .i64 (k:Nat)),(25,.int .i64 l.length),(24,.slice A l.length cap),(10,.pointer (some ⟨g10,0,none⟩)),(6,.pointer (some ⟨g6,0,none⟩)),(5,.pointer (some ⟨g5,0,none⟩)),(4,.pointer (some ⟨g4,0,none⟩))])
  (λz=>blk gm (vobj z.es z.cl)::wayB g17 ⟨n,s,f,r.A,r.cap,r.xs⟩::blk g10 (.cells #[.map (some gm)] 272 (0,0))::flwB g6 f::schA g5 s::netA g4 n::many (z.Ds.map mkB)::[many H])
  (λz=>z.i<=s.len.toNat/\CSet z.es λc=>(bp c||usR n.net s.sch f r.xs z.i c)) (λz=>s.len.toNat-z.i) ⟨k,0,es,cl,Ds⟩ ⟨Tu _,?_⟩ rfl ?_ ?_ ?_
 ·have:(λc=>(bp c||usR n.net s.sch f r.xs 0 c))=bp:=by
   funext c
   unfold usR
   simp
  show CSet es λc=>(bp c||usR n.net s.sch f r.xs 0 c)
  rw[this];exact hS
 ·dsimp only
  rw[show f.2.2.2.2.1+((0:Nat):Int)*f.2.2.2.1=f.2.2.2.2.1 by simp]
  exact zu
 ·exact zk
 rintro⟨_,i,es2,cl2,Ds2⟩ ⟨hi,hS2⟩ K2 hK2
 dsimp only at hi hS2⊢
 obtain⟨y,hy⟩:∃y:Int,f.2.2.2.2.1+(i:Int)*f.2.2.2.1=y:=⟨_,rfl⟩
 have hiy:(i:Int)<=(i:Int)*f.2.2.2.1:=by
  have:=Ny hper.1 (show(0:Int)<=i by omega)
  rw[Int.mul_one]at this
  exact this
 by_cases hyl:f.2.2.2.2.1+(i:Int)*f.2.2.2.1<s.len
 rotate_left
 ·have hud:=YrB (n:=n.net) (s:=s.sch) (f:=f) (r:=r.xs) (i:=i) hyl hper.1 hph.1 hi
  clear hK2
  rw[hy]at hyl⊢
  repeat'(first|refine zgc ?_|(refine zge ?_ ?_<;>intro _<;>try exact zo)|fail)
  apply hK ⟨k+1,0,es2,cl2,Ds2⟩
  ·refine⟨by show k+1<=_;omega,?_⟩
   have:(λc=>((l.map (·.xs)).take (k+1)).any λr=>Ox n.net s.sch f r c)=λc=>(bp c||usR n.net s.sch f r.xs i c):=by
    funext c
    rw[hst,hud]
   show CSet es2 λc=>((l.map (·.xs)).take (k+1)).any λr=>Ox n.net s.sch f r c
   rw[this];exact hS2
  ·dsimp only;omega
  ·exact zu
  ·exact zk
 have hus:=YrC (n:=n.net) (s:=s.sch) (f:=f) (r:=r.xs) (i:=i) hyl
 have he18:f.2.2.2.2.1+((i+1:Nat):Int)*f.2.2.2.1=y+f.2.2.2.1:=by
  rw[<-hy,Int.natCast_add,Int.add_mul]
  omega
 rw[hy]at hyl hus⊢
 have hit:=λ{ga gw:Nat}{H':List HP}(hi:(WayM.mk n s f r.A r.cap r.xs).In B w0 H')=>hiter y ⟨by omega,by omega⟩ (ga:=ga) (gw:=gw) hi
 clear hiter hK
 have hsl2:s.sch.len=s.len:=rfl
 rw[hsl2]at hus
 generalize runP s.len (XN s.sch f.1) (y+f.2.2.2.1) (Yr n.net r.xs) y=W at hus hit
 have p5:=λ{H':List HP}{w:World}(hw:St B w0 H' w)=>p2 r y hw
 repeat'(first|refine zgb ?_|(refine zge ?_ ?_<;>intro _<;>try exact zo)|fail)
 apply Yh _ Yr0
 exact za
 exact rfl
 exactλ_ hw=>(p5 (hw))
 rintro _ _ ⟨ga,gw,rfl,rfl⟩
 repeat'(first|refine zgb ?_|fail)
 refine Zj (gf:=325) (lb:=[.pointer (some ⟨ga,0,none⟩),.pointer (some ⟨gw,0,none⟩)]) (xs:=W.map cntV)
  (blk ga (.cells #[.int .i64 y] 3 (0,0))::wayB gw ⟨n,s,f,r.A,r.cap,r.xs⟩::wayB g17 ⟨n,s,f,r.A,r.cap,r.xs⟩::blk g10 (.cells #[.map (some gm)] 272 (0,0))::flwB g6 f::schA g5 s::netA g4 n::many (Ds2.map mkB)::[many H])
  (λz:Zg×Nat=>[blk gm (vobj z.1 z.2)]) (λj z=>CSet z.1 λc=>((bp c||usR n.net s.sch f r.xs i c)||(W.take j).any λp=>decide (p.1=c))) (λ_ _=>False) (es2,cl2) rfl Ysa (hit (hri.mono zk)) rfl ?_ (by kernel_rfl) (by kernel_rfl) ?_ ?_ ?_ ?_ (λ_ _ _ h=>h.elim)
 ·intro args h
  obtain⟨z,_,rfl⟩:=TG.1 h
  rfl
 ·simp only[TC,TK]
  exact zk
 ·simpa using hS2
 ·rintro lb j args R ⟨es3,cl3⟩ hk hI
  rw[TE]at hk
  obtain⟨⟨d,sl⟩,hz,rfl⟩:∃z,W[j]? =some z/\args=cntV z:=by
   cases h:W[j]? with
   |none=>rw[h]at hk;cases hk
   |some z=>rw[h]at hk;exact⟨z,rfl,(Tz hk).symm⟩
  dsimp only at hI
  dsimp only[UG,cntV,List.cons_append,List.nil_append]
  unfold celV
  repeat'(first|refine zgc ?_|(refine zgh ?_;intro _)|fail)
  apply JO (YD Yt)
  intro R'
  repeat'(first|refine zgb ?_|fail)
  apply Yqr d hI (p':=λc=>((bp c||usR n.net s.sch f r.xs i c)||(W.take (j+1)).any λp=>decide (p.1=c))) (λc=>by rw[TF,hz,SV];simp[Bool.or_assoc]);(iterate 3 exact rfl);(intro _ _;exact zd);intro es4 cl4 hS4
  repeat'(first|refine zgc ?_|fail)
  apply Ug (es4,cl4)
  ·exact hS4
  ·dsimp only[List.cons_append,List.nil_append]
   exact zk
 ·rintro D ⟨es3,cl3⟩ hI
  dsimp only at hI
  rw[Tv,TY]at hI
  dsimp only[List.cons_append,List.nil_append]
  repeat'(first|refine zgc ?_|fail)
  apply hK2 ⟨k,i+1,es3,cl3,D::Ds2⟩
  ·refine⟨by show i+1<=_;omega,?_⟩
   have:(λc=>(bp c||usR n.net s.sch f r.xs (i+1) c))=λc=>((bp c||usR n.net s.sch f r.xs i c)||W.any λp=>decide (p.1=c)):=by
    funext c
    rw[hus,Bool.or_assoc]
   show CSet es3 λc=>(bp c||usR n.net s.sch f r.xs (i+1) c)
   rw[this];exact hI
  ·dsimp only;omega
  ·dsimp only
   rw[he18]
   exact zu
  ·intro w hw
   have h5:St B w0 (mkB D::many (Ds2.map mkB)::blk gm (vobj es3 cl3)::wayB g17 ⟨n,s,f,r.A,r.cap,r.xs⟩::blk g10 (.cells #[.map (some gm)] 272 (0,0))::flwB g6 f::schA g5 s::netA g4 n::[many H]) w:=by
    revert w
    exact zk
   have h6:=h5.perm (((Perm.open_ (Ds2.map mkB) _).cons _).trans (.close (mkB D::Ds2.map mkB) _))
   clear hw h5
   have h7:St B w0 (blk gm (vobj es3 cl3)::wayB g17 ⟨n,s,f,r.A,r.cap,r.xs⟩::blk g10 (.cells #[.map (some gm)] 272 (0,0))::flwB g6 f::schA g5 s::netA g4 n::many (mkB D::Ds2.map mkB)::[many H]) w:=by
    revert w
    exact zk
   exact h7
structure TmM where
 i:Nat
 A:Option Addr
 cap:Nat
 l:List Cel
theorem Yl4(n:NetM)(q:List RqM)(s:SchM){A:Option Addr}{cap B:Nat}{w0:World}{H:List HP}{w:World}(ht:TabsB B w0)(hin:n.In B w0 H)(hq:QIn B w0 H A q)(hrs:Rd B w0 H s.A (s.cells.flatMap celF))(hsl:s.cells.length<=1000000000000)(hw:St B w0 H w):
 Calls Tryz.prog 71 [n.val,.slice A q.length cap,s.val].toArray w (Post B w0 (OutS H (WT n.net (q.map RqM.rq) s.sch))):=by
 refine Yc Tryz.func71 Tryz.ntmps71 rfl rfl hw ?_
 have hop:∀w,St B w0 [many H] w->St B w0 H w:=λw hw=>hw.perm (.openT H)
 have hin:=hin.mono hop
 have hq:=hq.mono hop
 have hrs:=hrs.mono hop
 have p1:=λ{H':List HP}{w:World}(hin:n.In B w0 H') (hq:QIn B w0 H' A q) (hrs:Rd B w0 H' s.A (s.cells.flatMap celF)) (hw:St B w0 H' w)=>YbC n q s (cap:=cap) ht hin hq hrs hsl hw
 have p2:=λ(x:RqM) (h1:1<=x.rows.length/\x.rows.length<=1000) (hok:∀r∈x.rows,(YV n.net s.sch x.f r.xs).2=0) {H':List HP}{w:World}(hin:n.In B w0 H') (hrs:Rd B w0 H' s.A (s.cells.flatMap celF)) (hx:x.In B w0 H') (hw:St B w0 H' w)=>Yj4 n s x.f x.rows h1 hok (cap:=x.cap) ht hin hrs hsl hx.rt hx.rw_ hx.rl hw
 unfold NetM.val SchM.val at p1 p2⊢
 unfold flwV at p2
 refine Jf [many H] (λw hw=>hw.perm (.closeT H)) ?_
 unfold WT
 repeat'(first|refine zgb ?_|(refine zgh ?_;intro _)|fail)
 rename_i g3 g5 g6
 first|apply Ya Ylf|apply Yb Ylf
 exact za
 exact rfl
 exactλ_ hw=>(p1 hin.cons.cons.cons hq.cons.cons.cons hrs.cons.cons.cons hw)
 by_cases hc:(YT n.net (q.map RqM.rq) s.sch).2.2=0
 rotate_left
 ·rw[Tn hc,Tm hc]
  repeat'(first|refine zgd ?_|fail)
  apply Yv T (H2:=cels none 0 []::H);(iterate 3 exact rfl);exact zm;exact rfl;exact rfl
  ·intro w hw
   have h5:St B w0 [many H] w:=by
    revert w
    exact zk
   exact St.nilSlice (h5.perm (.openT H)) _ _
  exact Ux 1 rfl rfl
 rw[Tc hc,Td (λe=>e hc)]
 have hrq:(rqsE n.net (q.map RqM.rq)).2=0:=RL.1 λh1=>by
  unfold YT at hc;rw[Tm h1]at hc;exact h1 hc
 have hql:q.length<=16:=(Ykq hrq).1
 obtain⟨hval,hwant⟩:=ZH.1 hc
 have hfrm:=(VD.1 (Jb.1 hval)).frm
 have hfew:s.cells.length<=512:=hfrm.few
 have hord:Ord s.cells:=hfrm.ord
 have hwx:∀x∈q,(1<=x.rows.length/\x.rows.length<=1000)/\∀r∈x.rows,(YV n.net s.sch x.f r.xs).2=0:=λx hx=>by
  have h1:=hwant x.rq (TG.2 ⟨x,hx,rfl⟩)
  unfold Oy at h1
  rw[To,Tq,Si]at h1
  obtain⟨h2,h3⟩:=h1
  have h4:x.rq.2.length=x.rows.length:=Tv _
  refine⟨by omega,λr hr=>?_⟩
  exact(Yf9 h3 (TG.2 ⟨r,hr,rfl⟩)).1
 repeat'(first|refine zgd ?_|fail)
 refine Yi (λz:TmM=>[(21,.int .i64 (z.i:Nat)),(20,.int .i64 q.length),(19,.slice A q.length cap),(8,.slice z.A z.l.length z.cap),(6,.pointer (some ⟨g6,0,none⟩)),(5,.pointer (some ⟨g5,0,none⟩)),(3,.pointer (some ⟨g3,0,none⟩))])
  (λz=>cels z.A z.cap z.l::blk g6 (.cells (Value.agg #[.int .i64 0,.int .i64 0,.slice none 0 0]).cells 37 (0,0))::schA g5 s::netA g3 n::[many H])
  (λz=>z.i<=q.length/\z.l=Yc8 n.net s.sch ((q.map RqM.rq).take z.i)) (λz=>q.length-z.i) ⟨0,none,0,[]⟩ ⟨Tu _,rfl⟩ ?_ ?_ ?_
 ·exact zu
 ·intro w hw
  have h5:St B w0 (blk g6 (.cells (Value.agg #[.int .i64 0,.int .i64 0,.slice none 0 0]).cells 37 (0,0))::schA g5 s::netA g3 n::[many H]) w:=by
   revert w
   exact zk
  exact h5.nilSlice 64 5
 rintro⟨i,A1,c1,l⟩ ⟨hi,hl⟩ K hK
 dsimp only at hi hl⊢
 have hll:l.length<=16*512:=by
  have h1:=Yh8 n.net s.sch ((q.map RqM.rq).take i)
  rw[<-hl]at h1
  have h2:((q.map RqM.rq).take i).length<=16:=by rw[TD,Tv];omega
  have h3:=Nat.mul_le_mul h2 hfew
  have h4:s.sch.cells.length=s.cells.length:=rfl
  rw[h4]at h1
  omega
 by_cases hlt:i<q.length
 rotate_left
 ·obtain rfl:i=q.length:=by omega
  rw[TQ (by rw[Tv];exact TL _)]at hl
  clear hK
  repeat'(first|refine zgc ?_|(refine zge ?_ ?_<;>intro _<;>try exact zo)|fail)
  apply Xw [cels A1 c1 l] _ Yty
  exact za
  try exact zl
  exact zp
  exact rfl
  exactλ_ hw=>(YgE l (by omega) hw)
  rintro _ _ ⟨rfl,l2,hp,ho,rfl⟩
  have hl2:l2.length=l.length:=hp.length_eq
  rw[<-hl2]
  repeat'(first|refine zga ?_|fail)
  apply Xw [cels A1 c1 l2] _ Ytz
  exact za
  try exact zl
  exact zp
  exact rfl
  exactλ_ hw=>(Yd3 l2 (by omega) hw)
  rintro _ _ ⟨rfl,rfl⟩
  rw[Ym5 hord (hl▸hp) ho]
  repeat'(first|refine zgd ?_|fail)
  apply Yv T (H2:=cels A1 c1 (s.sch.cells.filter (Yi3 n.net s.sch (q.map RqM.rq)))::H);(iterate 3 exact rfl);exact zm;exact rfl;exact rfl
  ·intro w hw
   have h5:St B w0 (cels A1 c1 (s.sch.cells.filter (Yi3 n.net s.sch (q.map RqM.rq)))::[many H]) w:=by
    revert w
    exact zk
   exact h5.perm (.cons _ (.openT H))
  exact⟨A1,c1,rfl,rfl⟩
 obtain⟨x,hx⟩:∃x,q[i]? =some x:=⟨_,Ta hlt⟩
 have hxm:=Tf hx
 obtain⟨hx1,hx2⟩:=hwx x hxm
 have hqr:Rd B w0 (cels A1 c1 l::blk g6 (.cells (Value.agg #[.int .i64 0,.int .i64 0,.slice none 0 0]).cells 37 (0,0))::schA g5 s::netA g3 n::[many H]) A (q.flatMap rqF):=hq.rd.cons.cons.cons.cons
 have hst:Yc8 n.net s.sch ((q.map RqM.rq).take (i+1))=l++s.cells.filter (O6 n.net s.sch (x.f,x.rows.map (·.xs))):=by
  rw[hl,TF,TE,hx]
  unfold Yc8
  rw[TV]
  simp only[RH,RI,TR,SZ,TM]
  rfl
 have p3:=λ{H':List HP}{w:World}(hin:n.In B w0 H') (hrs:Rd B w0 H' s.A (s.cells.flatMap celF)) (hxi:x.In B w0 H') (hw:St B w0 H' w)=>p2 x hx1 hx2 hin hrs hxi hw
 have hfl:=Rn (O6 n.net s.sch (x.f,x.rows.map (·.xs))) s.cells
 clear p2
 generalize s.cells.filter (O6 n.net s.sch (x.f,x.rows.map (·.xs)))=m at p3 hst hfl
 repeat'(first|(apply Ye T;exact rfl;exact zm;exact rfl;exact zv;exact rfl;exact rfl)|refine zgd ?_|(refine zge ?_ ?_<;>intro _<;>try exact zo)|(refine zgh ?_;intro _)|fail)
 apply Yh _ Ytx
 exact za
 exact rfl
 exactλ_ hw=>(p3 (hin.mono zk) (hrs.mono zk) ((hq.x x hxm).mono zk) (hw))
 rintro _ _ ⟨A2,c2,rfl,rfl⟩
 unfold cels
 repeat'(first|(apply XA T (f:=celF) (l2:=m) (e:=64) (size:=5) (xs:=l.flatMap celF);(iterate 3 exact rfl);exact Rd.sl zm;exact(λ_=>rfl);exact(λ_=>rfl);exact rfl;(intro _ _;exact zd);omega;intro A3 c3)|refine zgc ?_|(refine zge ?_ ?_<;>intro _<;>try exact zo)|fail)
 rename_i A3 c3
 apply hK ⟨i+1,A3,c3,l++m⟩
 ·exact⟨by show i+1<=_;omega,hst.symm⟩
 ·dsimp only;omega
 ·rw[Tj]
  exact zu
 ·intro w hw
  dsimp only
  unfold cels
  rw[Tj,TV]
  revert w
  exact zk
variable {B cap:Nat}{w0 w:World}{H:List HP}
theorem Ypw(y:Flw)(len:Int)(g:Nat)(hl:0<=len)(hp:1<=y.2.2.2.1)(hm:intA g len∈H)(hw:St B w0 H w):
 Calls Tryz.prog 67 [flwV y,.pointer (some ⟨g,0,none⟩)].toArray w (Post B w0 λv K=>v=.bool (decide (len.tmod y.2.2.2.1≠0))/\K=H):=by
 refine Yc Tryz.func67 Tryz.ntmps67 rfl rfl hw ?_
 unfold flwV
 rw[RV hl]
 by_cases h:len%y.2.2.2.1=0
 ·have h2:decide (len%y.2.2.2.1≠0)=false:=Tn (λe=>e h)
  rw[h2]
  repeat'(first|refine zgd ?_|(refine zge ?_ ?_<;>intro _<;>try exact zo)|(refine zgh ?_;intro _)|fail)
  all_goals(apply Yj H;exact zk;apply Yd;exact rfl;exact rfl;first|exact⟨rfl,rfl⟩|contradiction)
 ·have h2:decide (len%y.2.2.2.1≠0)=true:=Tc h
  rw[h2]
  repeat'(first|refine zgd ?_|(refine zge ?_ ?_<;>intro _<;>try exact zo)|(refine zgh ?_;intro _)|fail)
  all_goals(apply Yj H;exact zk;apply Yd;exact rfl;exact rfl;first|exact⟨rfl,rfl⟩|contradiction)
structure MkOk(n:NetM)(qA:Option Addr)(qcap:Nat)(ql:Nat)(RR:Option Pln×Int)(z:BuM):Prop where
 eqn:z.n=n
 eqA:z.qA=qA
 eqc:z.qcap=qcap
 eql:z.q.length=ql
 lens:∀x∈z.q,x.lens
 sl:z.s.cells.length<=1000000000000
 res:fin2 n.net (z.q.map RqM.rq) z.s.sch z.e=RR
theorem Ycm(n:Net)(q:List Rqs)(len off:Int):(Xb n q len off).1.1.cells.length<=512:=by
 unfold Xb
 split
 ·exact Tu _
 rename_i h1
 split
 ·exact Tu _
 rename_i h2
 split
 ·exact Tu _
 have hrq:(rqsE n q).2=0:=RL.1 λh=>h1 (.inr h)
 have:=YbT hrq (len:=len) (off:=off) (by omega) (by omega) q.length (TL _)
 exact(VD.1 (Jb.1 (ZH.1 this.ok).1)).frm.few
theorem YqJ(n:Net)(q:List Rqs)(len off:Int):(Xb n q len off).1.2.length<=q.length:=by
 unfold Xb
 split
 ·exact Tu _
 rename_i h1
 split
 ·exact Tu _
 rename_i h2
 split
 ·exact Tu _
 have hrq:(rqsE n q).2=0:=RL.1 λh=>h1 (.inr h)
 have:=YbT hrq (len:=len) (off:=off) (by omega) (by omega) q.length (TL _)
 show(JL n q len off q.length).at_.length<=_
 rw[this.cnt];exact this.few
variable {A:Option Addr}
theorem YpL{l:List Int}(h:Z2 A cap l∈H):Rd B w0 H A (l.flatMap numF):=Rd.sl h
theorem YkB(n:Net)(q:List Rqs)(s:Sch):(WT n q s).1.cells.length<=s.cells.length:=by
 unfold WT
 split
 ·exact Tu _
 ·exact Rn _ _
theorem YmO(e:Int):Xr 0 e=e:=Tm rfl
theorem YaC{a:Int}(b:Int)(h:a≠0):Xr a b=a:=Td h
theorem YcN{n:Net}{q:List Rqs}{s:Sch}{e:Int}(h:e≠0):fin2 n q s e=(none,e):=Td h
theorem Ybu(n:NetM)(l:List Flw)(len off:Int)(h24:len<=24\/512<len)(hll:l.length<=1000000000000)(ht:TabsB B w0)(hin:n.In B w0 H)(hr:Rd B w0 H A (l.flatMap flwF))(hw:St B w0 H w):
 Calls Tryz.prog 16 [n.val,.slice A l.length cap,.int .i64 len,.int .i64 off].toArray w (Post B w0 (YgP B w0 H (Ybv n.net l len off))):=by
 refine Yc Tryz.func16 Tryz.ntmps16 rfl rfl hw ?_
 have p1:=λ{H':List HP}{w:World}(hin:n.In B w0 H') (hw:St B w0 H' w)=>WF n hin hw
 have p2:=λ{H':List HP}{w:World}(hr:Rd B w0 H' A (l.flatMap flwF)) (hw:St B w0 H' w)=>Y5 n.nodes l (RE hll (by decide)) (cap:=cap) hr hw
 have p3:=λ{H':List HP}{w:World}(hin:n.In B w0 H') (hr:Rd B w0 H' A (l.flatMap flwF)) (hw:St B w0 H' w)=>Yed n l hll (cap:=cap) hin hr hw
 have hop:∀w,St B w0 [many H] w->St B w0 H w:=λw hw=>hw.perm (.openT H)
 have hinM:∀{H':List HP},many H∈H'->n.In B w0 H':=λhm=>hin.mono λw hw=>hw.inM hm
 have hrM:∀{H':List HP},many H∈H'->Rd B w0 H' A (l.flatMap flwF):=λhm=>hr.mono λw hw=>hw.inM hm
 unfold NetM.val at p1 p3⊢
 refine Jf [many H] (λw hw=>hw.perm (.closeT H)) ?_
 unfold Ybv
 by_cases hck:Yq n.net=0
 rotate_left
 ·rw[Tm (.inl hck)]
  rw[Tn hck]at p1
  repeat'(first|(apply zg23;first|(refine zs52 ?_;intro _)|(refine zs53 ?_;intro _))|refine zgb ?_|(refine zgh ?_;intro _)|fail)
  first|apply Ya en58|apply Yb en58
  exact za
  exact rfl
  exactλ_ hw=>(p1 (hinM zm) hw)
  repeat'(first|refine zgd ?_|fail)
  apply Yv T (H2:=H);(iterate 3 exact rfl);exact zm;exact rfl;exact rfl
  ·intro w hw
   have h5:St B w0 [many H] w:=by
    revert w
    exact zk
   exact hop w h5
  exact .inl ⟨rfl,rfl,rfl⟩
 rw[Tc hck]at p1
 have hnd:n.net.nodes=n.nodes:=rfl
 rw[hnd]
 obtain⟨⟨fi,fe⟩,hF⟩:∃R,YE n.nodes l=R:=⟨_,rfl⟩
 rw[hF]at p2⊢
 dsimp only at p2⊢
 by_cases hfe:fe=0
 rotate_left
 ·rw[Tm (.inr hfe)]
  repeat'(first|(apply zg23;first|(refine zs52 ?_;intro _)|(refine zs53 ?_;intro _))|refine zgb ?_|(refine zgh ?_;intro _)|fail)
  first|apply Ya en58|apply Yb en58
  exact za
  exact rfl
  exactλ_ hw=>(p1 (hinM zm) hw)
  repeat'(first|refine zgd ?_|fail)
  first|apply Ya en59|apply Yb en59
  exact za
  exact rfl
  exactλ_ hw=>(p2 (hrM zm) hw)
  repeat'(first|refine zgd ?_|(refine zge ?_ ?_<;>intro _<;>try exact zo)|fail)
  apply Yv T (H2:=H);(iterate 3 exact rfl);exact zm;exact rfl;exact rfl
  ·intro w hw
   have h5:St B w0 [many H] w:=by
    revert w
    exact zk
   exact hop w h5
  exact .inl ⟨rfl,rfl,rfl⟩
 subst hfe
 rw[Td (by rintro(h|h);exact h hck;exact h rfl)]
 have hl16:l.length<=16:=by
  unfold YE at hF
  split at hF
  ·cases hF
  split at hF
  ·cases hF
  ·omega
 have hper:∀f∈l,1<=f.2.2.2.1:=λf hf=>(ZI (VJ (nodes:=n.nodes) (by rw[hF]) hf)).2.1.1
 repeat'(first|(apply zg23;first|(refine zs52 ?_;intro _)|(refine zs53 ?_;intro _))|refine zgb ?_|(refine zgh ?_;intro _)|fail)
 rename_i g4 g6 g8
 first|apply Ya en58|apply Yb en58
 exact za
 exact rfl
 exactλ_ hw=>(p1 (hinM zm) hw)
 repeat'(first|refine zgd ?_|fail)
 first|apply Ya en59|apply Yb en59
 exact za
 exact rfl
 exactλ_ hw=>(p2 (hrM zm) hw)
 by_cases hrg:len<1\/512<len\/off<1\/16<off
 ·rw[Tm hrg]
  repeat'(first|refine zgd ?_|(refine zgf ?_ ?_<;>intro _<;>try exact zo)|fail)
  all_goals try exact zo
  all_goals(
   apply Yv T (H2:=H);(iterate 3 exact rfl);exact zm;exact rfl;exact rfl
   ·intro w hw
    have h5:St B w0 [many H] w:=by
     revert w
     exact zk
    exact hop w h5
   exact .inl ⟨rfl,rfl,rfl⟩)
 rw[Td hrg]
 repeat'(first|(apply zg29;(apply Ym;exact za;exact rfl))|refine zgc ?_|(refine zgf ?_ ?_<;>intro _<;>try exact zo)|fail)
 all_goals try exact zo
 first|apply Ya en66|apply Yb en66
 exact za
 exact rfl
 exactλ_ hw=>(W6 (λy=>decide (len.tmod y.2.2.2.1≠0)) l 67 [.pointer (some ⟨g6,0,none⟩)] en67 (by omega) (hrM zm) (λa ha w hw=>Ypw a len g6 (by omega) (hper a ha) zm hw) hw)
 have hpb:(l.any λy:Flw=>decide (len.tmod y.2.2.2.1≠0))=perB l len:=rfl
 rw[hpb]
 cases hh:perB l len with
 |true=>
  rw[Tm rfl]
  repeat'(first|refine zgd ?_|fail)
  apply Yv T (H2:=H);(iterate 3 exact rfl);exact zm;exact rfl;exact rfl
  ·intro w hw
   have h5:St B w0 [many H] w:=by
    revert w
    exact zk
   exact hop w h5
  exact .inl ⟨rfl,rfl,rfl⟩
 |false=>
 rw[Td (by decide)]
 have hrf:=Yds (n:=n.net) (l:=l)
 generalize JZ n.net l=R at p3 hrf
 obtain⟨RQ,ri,re⟩:=R
 unfold Yn5 at p3
 dsimp only at p3 hrf⊢
 repeat'(first|refine zgc ?_|fail)
 apply Yh _ en13
 exact za
 exact rfl
 exactλ_ hw=>(p3 (hinM zm) (hrM zm) (hw))
 rintro _ _ ⟨A1,c1,q,rfl,hq,hql,rfl⟩
 by_cases hre:re=0
 rotate_left
 ·rw[Tm hre]
  repeat'(first|refine zgd ?_|(refine zge ?_ ?_<;>intro _<;>try exact zo)|fail)
  apply Yv T (H2:=H);(iterate 3 exact rfl);exact zm;exact rfl;exact rfl
  ·intro w hw
   have h5:St B w0 [many H] w:=by
    revert w
    exact zk
   exact hop w h5
  exact .inl ⟨rfl,rfl,rfl⟩
 subst hre
 rw[Td (show¬(0:Int)≠0 fromλe=>e rfl)]
 have hqn:q.length<=16:=by
  have h1:=TU List.length (hrf rfl)
  have h2:=TU List.length hq
  unfold YB at h1
  rw[Tv]at h1 h2
  omega
 have hRQn:RQ.length=q.length:=by rw[<-hq,Tv]
 have hQI:∀{H':List HP}{Q:List RqM},rqs A1 c1 Q∈H'->many (Q.map rqQ)∈H'->Q.length<=16->(∀x∈Q,x.lens)->QIn B w0 H' A1 Q:=λh1 h2 h3 h4=>⟨Ykk h1,λx hx=>YlN h2 hx (h4 x hx),by omega⟩
 clear p1 p2 p3
 iterate 30 (first|refine zgd ?_|(refine zge ?_ ?_<;>intro _<;>try exact zo)|(refine zgh ?_;intro _)|fail)
 rename_i g15
 have p4:=λ(b:BuM) {H':List HP}{w:World}(hin:b.n.In B w0 H') (hq:QIn B w0 H' b.qA b.q) (hw:St B w0 (bldA g15 b::H') w)=>YhR b g15 len off h24 ht hin hq hw
 have p5:=λ(b:BuM) (ia:List Int) (hia:ia.length<=1000) (hql:b.q.length<=1000) (hqs:∀x∈b.q,x.lens) {iA:Option Addr}{icap:Nat}{H':List HP}{w:World}(hin:b.n.In B w0 H') (hra:Rd B w0 H' iA (ia.flatMap numF)) (hw:St B w0 (bldA g15 b::rqs b.qA b.qcap b.q::many (b.q.map rqQ)::H') w)=>Ygb b g15 ia hia hql hqs (icap:=icap) hin hra hw
 have p6:=λ(b:BuM) (e:Int) {H':List HP}{w:World}(hw:St B w0 (bldA g15 b::H') w)=>Uq b g15 e hw
 obtain⟨RR,hRR⟩:∃RR,Yau n.net RQ len off=RR:=⟨_,rfl⟩
 rw[hRR]
 refine J4 (λz:{z:BuM//MkOk n A1 c1 q.length RR z}=>[(15,.pointer (some ⟨g15,0,none⟩)),(4,.pointer (some ⟨g4,0,none⟩)),(8,.pointer (some ⟨g8,0,none⟩)),(9,.int .i64 0)])
  (λz=>bldA g15 z.1::rqs A1 c1 z.1.q::many (z.1.q.map rqQ)::cels z.1.s.A z.1.s.cap z.1.s.cells::netA g4 n::blk g8 (.cells zeroPnV.cells 42 (0,0))::[many H]) ?_ ?_
 ·intro K hK
  repeat'(first|refine zga ?_|fail)
  apply XL (bldA g15 ⟨n,A1,c1,q,⟨0,0,none,0,[]⟩,none,0,[],none,0,[],0⟩::rqs A1 c1 q::many (q.map rqQ)::blk g8 (.cells zeroPnV.cells 42 (0,0))::intA g6 len::netA g4 n::[many H])
  ·intro w hw
   have h5:St B w0 (blk g15 (.cells #[.int .i64 n.nodes,.slice n.pA n.rows.length n.pcap,.int .i64 n.noise,.int .i64 n.thr,.slice n.lA n.links.length n.lcap,.slice n.mA n.margin.length n.mcap,.slice A1 q.length c1,.int .i64 0,.int .i64 0,.slice none 0 0,.slice none 0 0,.slice none 0 0,.int .i64 0] 114 (0,0))::rqs A1 c1 q::many (q.map rqQ)::blk g8 (.cells (Value.agg #[.int .i64 0,.slice none 0 0,.int .i64 0,.int .i64 0,.slice none 0 0,.slice none 0 0,.slice none 0 0,.int .i64 0,.int .i64 0,.slice none 0 0,.slice none 0 0,.slice none 0 0]).cells 42 (0,0))::intA g6 len::netA g4 n::[many H]) w:=by
    revert w
    exact zk
   exact h5
  have hc1:=Ycm n.net RQ len off
  have ha1:=YqJ n.net RQ len off
  unfold Yau at hRR
  have p7:=λ{H':List HP}{w:World}(hin:n.In B w0 H') (hqi:QIn B w0 H' A1 q) (hw:St B w0 (bldA g15 ⟨n,A1,c1,q,⟨0,0,none,0,[]⟩,none,0,[],none,0,[],0⟩::H') w)=>p4 ⟨n,A1,c1,q,⟨0,0,none,0,[]⟩,none,0,[],none,0,[],0⟩ hin hqi hw
  dsimp only at p7
  rw[hq]at p7
  generalize Xb n.net RQ len off=R1 at p7 hc1 ha1 hRR
  obtain⟨⟨⟨rl,ro,rc⟩,ra⟩,re⟩:=R1
  dsimp only at p7 hc1 ha1 hRR
  rw[YmO]at p7
  apply Xw [bldA g15 ⟨n,A1,c1,q,⟨0,0,none,0,[]⟩,none,0,[],none,0,[],0⟩] _ en68
  exact za
  try exact zl
  exact zp
  exact rfl
  exactλ_ hw=>(p7 (hinM zm) (hQI zm zm hqn hql) hw)
  rintro _ _ ⟨A2,c2,iA,ic,rfl,rfl⟩
  by_cases hl1:ra.length=q.length
  ·rw[Tm (by rw[hl1,hRQn])]at hRR
   rw[Tc hl1]
   repeat'(first|refine zgd ?_|fail)
   apply hK ⟨⟨n,A1,c1,q,⟨rl,ro,A2,c2,rc⟩,none,0,[],none,0,[],re⟩,⟨rfl,rfl,rfl,rfl,hql,by show rc.length<=_;omega,by rw[<-hRR,<-hq];rfl⟩⟩
   ·exact zu
   ·exact zk
  rw[Td (by rw[hRQn];exact hl1)]at hRR
  rw[Tn hl1]
  repeat'(first|refine zgd ?_|fail)
  apply Xw [bldA g15 ⟨n,A1,c1,q,⟨rl,ro,A2,c2,rc⟩,none,0,[],none,0,[],re⟩,rqs A1 c1 q,many (q.map rqQ)] _ en69
  exact za
  try exact zl
  exact zp
  exact rfl
  exactλ_ hw=>(p5 ⟨n,A1,c1,q,⟨rl,ro,A2,c2,rc⟩,none,0,[],none,0,[],re⟩ ra (by omega) (by show q.length<=_;omega) hql (hinM zm) (YpL (cap:=ic) zm) hw)
  rintro _ _ ⟨q',e',rfl,hl',hs',hc',rfl⟩
  dsimp only at hl' hc'
  rw[hq]at hc'
  have hl'16:q'.length<=16:=by omega
  have hRR2:(e'=re/\(if(Xb n.net (q'.map RqM.rq) len off).1.2.length=q'.length then fin2 n.net (q'.map RqM.rq) (Xb n.net (q'.map RqM.rq) len off).1.1 (Xr re (Xb n.net (q'.map RqM.rq) len off).2)else(none,Xr (Xr re (Xb n.net (q'.map RqM.rq) len off).2) 18))=RR)\/(e'≠0/\RR=(none,e')):=by
   rcases hc' with⟨hb,hm,he⟩|⟨hb,he⟩
   ·left
    rw[Td (by rw[hb];decide),<-hm]at hRR
    unfold fin3 at hRR
    rw[Tv]at hRR
    exact⟨he,hRR⟩
   ·right
    rw[Tm hb]at hRR
    exact⟨by rw[he];exact YbW (by decide),by rw[<-hRR,he]⟩
  have hc2:=Ycm n.net (q'.map RqM.rq) len off
  have p8:=λ{H':List HP}{w:World}(hin:n.In B w0 H') (hqi:QIn B w0 H' A1 q') (hw:St B w0 (bldA g15 ⟨n,A1,c1,q',⟨rl,ro,A2,c2,rc⟩,none,0,[],none,0,[],e'⟩::H') w)=>p4 ⟨n,A1,c1,q',⟨rl,ro,A2,c2,rc⟩,none,0,[],none,0,[],e'⟩ hin hqi hw
  dsimp only at p8
  clear p4 p5 p7
  generalize Xb n.net (q'.map RqM.rq) len off=R2 at p8 hc2 hRR2
  obtain⟨⟨⟨rl2,ro2,rc2⟩,ra2⟩,re2⟩:=R2
  dsimp only at p8 hc2 hRR2
  repeat'(first|refine zga ?_|fail)
  apply Xw [bldA g15 ⟨n,A1,c1,q',⟨rl,ro,A2,c2,rc⟩,none,0,[],none,0,[],e'⟩] _ en68
  exact za
  try exact zl
  exact zp
  exact rfl
  exactλ_ hw=>(p8 (hinM zm) (hQI zm zm hl'16 hs') hw)
  rintro _ _ ⟨A3,c3,iA3,ic3,rfl,rfl⟩
  by_cases hl2:ra2.length=q'.length
  ·rw[Tm hl2]at hRR2
   rw[Tc hl2]
   repeat'(first|refine zgd ?_|fail)
   apply hK ⟨⟨n,A1,c1,q',⟨rl2,ro2,A3,c3,rc2⟩,none,0,[],none,0,[],Xr e' re2⟩,⟨rfl,rfl,rfl,hl',hs',by show rc2.length<=_;omega,?_⟩⟩
   ·exact zu
   ·exact zk
   rcases hRR2 with⟨he,h⟩|⟨he,h⟩
   ·rw[<-h,he];rfl
   ·show fin2 _ _ _ (Xr e' re2)=_
    rw[YaC _ he,YcN he,h]
  rw[Td hl2]at hRR2
  rw[Tn hl2]
  repeat'(first|refine zgd ?_|fail)
  apply Xw [bldA g15 ⟨n,A1,c1,q',⟨rl2,ro2,A3,c3,rc2⟩,none,0,[],none,0,[],Xr e' re2⟩] _ en70
  exact za
  try exact zl
  exact zp
  exact rfl
  exactλ_ hw=>(p6 ⟨n,A1,c1,q',⟨rl2,ro2,A3,c3,rc2⟩,none,0,[],none,0,[],Xr e' re2⟩ 18 hw)
  rintro _ _ ⟨rfl,rfl⟩
  unfold BuM.fail
  dsimp only
  repeat'(first|refine zga ?_|fail)
  apply hK ⟨⟨n,A1,c1,q',⟨rl2,ro2,A3,c3,rc2⟩,none,0,[],none,0,[],Xr (Xr e' re2) 18⟩,⟨rfl,rfl,rfl,hl',hs',by show rc2.length<=_;omega,?_⟩⟩
  ·exact zu
  ·exact zk
  rcases hRR2 with⟨he,h⟩|⟨he,h⟩
  ·rw[<-h,he]
   exact YcN (YbW (by decide))
  ·show fin2 _ _ _ (Xr (Xr e' re2) 18)=_
   rw[YaC _ he,YaC _ he,YcN he,h]
 rintro⟨⟨n',qA',qc',Q,S,cA',cc',C',fA',fc',F',e'⟩,hz⟩
 obtain⟨h1,h2,h3,hQl,hQs,hSl,hres⟩:=hz
 dsimp only at h1 h2 h3 hQl hQs hSl hres⊢
 subst h1 h2 h3
 clear p4 p5 p6 hRR
 dsimp only[bldA]
 have hQ16:Q.length<=16:=by omega
 unfold fin2 at hres
 have p7:=λ{H':List HP}{w:World}(hin:n'.In B w0 H') (hqi:QIn B w0 H' qA' Q) (hrs:Rd B w0 H' S.A (S.cells.flatMap celF)) (hw:St B w0 H' w)=>Yl4 n' Q S (cap:=qc') ht hin hqi hrs hSl hw
 have htc:=YkB n'.net (Q.map RqM.rq) S.sch
 by_cases he:e'=0
 ·subst he
  rw[Tm rfl]at hres
  unfold OutS NetM.val SchM.val at p7
  generalize WT n'.net (Q.map RqM.rq) S.sch=RT at p7 hres htc
  obtain⟨t,te⟩:=RT
  dsimp only at p7 hres htc
  have htl:t.cells.length<=1000000000000:=RE htc hSl
  repeat'(first|(apply Ye T;exact rfl;exact zm;exact rfl;exact zv;exact rfl;exact rfl)|refine zgd ?_|(refine zge ?_ ?_<;>intro _<;>try exact zo)|fail)
  apply UI [1,0,2,3,4,5,6,7,8,9,10,11,12,13,14,16,15,17,18,19] [0,1,16,20,21,22,23] [20,21,22,23] [true,true,true,true,true,true,true]
  kernel_rfl
  kernel_rfl
  exact zy
  (simp only[Yg,nthO];rfl)
  (simp only[Yg,nthO];rfl)
  repeat'(first|(apply Ye T;exact rfl;exact zm;exact rfl;exact zv;exact rfl;exact rfl)|refine zgd ?_|fail)
  apply Yh _ en71
  exact za
  exact rfl
  exactλ_ hw=>(p7 (hinM zm) (hQI zm zm hQ16 hQs) (Wy (cap:=S.cap) zm) (hw))
  rintro _ _ ⟨A4,c4,rfl,rfl⟩
  repeat'(first|(apply Ye T;exact rfl;exact zm;exact rfl;exact zv;exact rfl;exact rfl)|(apply Yk;try exact zl)|refine zgd ?_|fail)
  apply Xw [bldA g15 ⟨n',qA',qc',Q,⟨t.len,t.off,A4,c4,t.cells⟩,cA',cc',C',fA',fc',F',te⟩] _ en72
  exact za
  try exact zl
  exact zp
  exact rfl
  exactλ_ hw=>(UC ⟨n',qA',qc',Q,⟨t.len,t.off,A4,c4,t.cells⟩,cA',cc',C',fA',fc',F',te⟩ g15 ht (hinM zm) (hQI zm zm hQ16 hQs) (Wy (cap:=c4) zm) htl hw)
  rintro _ _ hO
  rcases hO with⟨h1,rfl,rfl⟩|⟨p,X,h1,rfl,hp,rfl⟩
  ·unfold zeroPnV
   repeat'(first|refine zgc ?_|fail)
   apply Yv T (H2:=H);(iterate 3 exact rfl);exact zm;exact rfl;exact rfl
   ·intro w hw
    have h5:St B w0 [many H] w:=by
     revert w
     exact zk
    exact hop w h5
   rw[<-hres]
   exact .inl ⟨h1,rfl,rfl⟩
  ·unfold PnM.val
   repeat'(first|refine zgc ?_|fail)
   apply Yv T (H2:=many [many X,cels A4 c4 t.cells]::H);(iterate 3 exact rfl);exact zm;exact rfl;exact rfl
   ·intro w hw
    have h5:St B w0 (many X::cels A4 c4 t.cells::[many H]) w:=by
     revert w
     exact zk
    exact(h5.perm (.cons _ (.cons _ (.openT H)))).perm (.close [_,_] H)
   rw[<-hres]
   exact .inr ⟨p,_,h1,rfl,(hp _ (Wy (cap:=c4) (.head _))).mono λw hw=>(hw.perm (.open_ [_,_] H)),rfl⟩
 ·rw[Td he]at hres
  have hfe:finE n'.net (Q.map RqM.rq) S.sch e'=(none,e'):=by
   have h:Ob n'.net (Q.map RqM.rq) S.sch e'=e':=Tm he
   unfold finE
   rw[h,Tm he]
  repeat'(first|(apply Ye T;exact rfl;exact zm;exact rfl;exact zv;exact rfl;exact rfl)|refine zgd ?_|(refine zge ?_ ?_<;>intro _<;>try exact zo)|fail)
  apply Xw [bldA g15 ⟨n',qA',qc',Q,S,cA',cc',C',fA',fc',F',e'⟩] _ en72
  exact za
  try exact zl
  exact zp
  exact rfl
  exactλ_ hw=>(UC ⟨n',qA',qc',Q,S,cA',cc',C',fA',fc',F',e'⟩ g15 ht (hinM zm) (hQI zm zm hQ16 hQs) (Wy (cap:=S.cap) zm) hSl hw)
  rintro _ _ hO
  dsimp only at hO
  rw[hfe]at hO
  rcases hO with⟨h1,rfl,rfl⟩|⟨p,X,h1,rfl,hp,rfl⟩
  ·unfold zeroPnV
   repeat'(first|refine zgc ?_|fail)
   apply Yv T (H2:=H);(iterate 3 exact rfl);exact zm;exact rfl;exact rfl
   ·intro w hw
    have h5:St B w0 [many H] w:=by
     revert w
     exact zk
    exact hop w h5
   rw[<-hres]
   exact .inl ⟨h1,rfl,rfl⟩
  ·cases h1
theorem Ys7:∀l:List RqM,∀v∈l.flatMap rqF,v.oneCell'=true:=λl v hv=>by
 obtain⟨a,_,ha⟩:=RN.1 hv
 revert ha
 simp only[rqF,TN,R7,N2]
 rintro h
 repeat'(rcases h with rfl|h)
 all_goals(try subst h)
 all_goals rfl
variable {B:Nat}{w0 w:World}{H:List HP}
theorem YfW(l:List RqM)(i:Nat)(hi:i<l.length)(hlen:l.length<=1000){A:Option Addr}{cap:Nat}(hw:St B w0 (rqs A cap l::H) w):
 Calls Tryz.prog 108 [.slice A l.length cap,.int .i64 i,.int .i64 ((i:Int)+1)].toArray w (Post B w0 λv K=>v=.slice A (l.eraseIdx i).length cap/\K=rqs A cap (l.eraseIdx i)::H):=by
 refine Yc Tryz.func108 Tryz.ntmps108 rfl rfl hw ?_
 unfold rqs
 refine Qw (k:=l.length) (cap:=cap) zm λhcap=>?_
 have hel:(l.eraseIdx i).length=l.length-1:=List.length_eraseIdx_of_lt hi
 have hfl:=Ybg (f:=rqF) (q:=7) (λ_=>rfl) l i hi
 have hone:=Ys7 l
 repeat'(first|(apply Ymg T;(iterate 6 exact rfl);omega)|refine zgb ?_|(refine zge ?_ ?_<;>intro _<;>try exact zo)|fail)
 apply YU [0,1,2,3,4,5,6,7] [] [false]
 kernel_rfl
 kernel_rfl
 exact zy
 (simp only[Yg,nthO];rfl)
 exact rfl
 repeat'(first|refine zga ?_|fail)
 apply X7 T (l:=l) (n':=i);(iterate 4 exact rfl);omega;exact hcap;omega
 rw[Qr]
 repeat'(first|refine zga ?_|fail)
 apply XS T (n':=l.length-(i+1));(iterate 4 exact rfl);omega;omega
 rw[show((i:Int)+1).toNat=i+1 by omega]
 repeat'(first|refine zgd ?_|fail)
 apply YfD T (e:=86) (size:=7) (k:=l.length) (i:=i) (j:=i+1) (xs:=l.flatMap rqF);(iterate 4 exact rfl);exact zd;exact hone;omega
 rw[hfl,show i+(l.length-(i+1))=(l.eraseIdx i).length by omega]
 repeat'(first|(apply Yk;try exact zl)|refine zgd ?_|fail)
 apply WW T (n':=1);(iterate 5 exact rfl);omega;omega
 rw[show(((l.eraseIdx i).length:Nat):Int).toNat=(l.eraseIdx i).length by omega]
 apply Qy T T2 (e:=86) (size:=7) (k:=(l.eraseIdx i).length) (xs:=(l.eraseIdx i).flatMap rqF);exact rfl;exact zm;(iterate 3 exact rfl);omega
 repeat'(first|refine zga ?_|fail)
 apply Yd;exact rfl;exact rfl;exact⟨rfl,rfl⟩
theorem YlD{α β:Type}(g:α->β)(p:β->Bool):∀(l:List α) (k:Int),Yn p (l.map g) k=Yn (λx=>p (g x)) l k
 |[],_=>rfl
 |a::l,k=>by
  rw[Re]
  unfold Yn
  rw[YlD g p l (k+1)]
theorem Ypd{α:Type}(p:α->Bool):∀(l:List α) (k:Int),0<=k->Yn p l k= -1\/(k<=Yn p l k/\Yn p l k<k+l.length)
 |[],k,_=>.inl rfl
 |a::l,k,h=>by
  have ih:=Ypd p l (k+1) (by omega)
  unfold Yn
  split
  ·right;simp only[TS];omega
  ·rcases ih with h1|h1
   ·exact .inl h1
   ·right;simp only[TS];omega
theorem Yqe(y:RqM)(id:Int)(g:Nat)(hm:intA g id∈H)(hw:St B w0 H w):
 Calls Tryz.prog 107 [rqV y,.pointer (some ⟨g,0,none⟩)].toArray w (Post B w0 λv K=>v=.bool (decide (y.f.1=id))/\K=H):=by
 refine Yc Tryz.func107 Tryz.ntmps107 rfl rfl hw ?_
 unfold rqV
 by_cases h:y.f.1=id
 ·rw[Tc h]
  repeat'(first|refine zgb ?_|(refine zge ?_ ?_<;>intro _<;>try exact zo)|(refine zgh ?_;intro _)|fail)
  all_goals(apply Yj H;exact zk;apply Yd;exact rfl;exact rfl;first|exact⟨rfl,rfl⟩|contradiction)
 ·rw[Tn h]
  repeat'(first|refine zgb ?_|(refine zge ?_ ?_<;>intro _<;>try exact zo)|(refine zgh ?_;intro _)|fail)
  all_goals(apply Yj H;exact zk;apply Yd;exact rfl;exact rfl;first|exact⟨rfl,rfl⟩|contradiction)
theorem YjD(s:Sch)(id:Int):(QN s id).1.cells.length<=s.cells.length:=by
 unfold QN
 split
 ·exact Tu _
 ·exact Rn _ _
theorem YbR(p:PnM)(id:Int)(ht:TabsB B w0)(hp:p.In B w0 H)(hw:St B w0 H w):
 Calls Tryz.prog 29 [p.val,.int .i64 id].toArray w (Post B w0 (YgP B w0 H (wdrP p.pln id))):=by
 refine Yc Tryz.func29 Tryz.ntmps29 rfl rfl hw ?_
 have p1:=λ{H':List HP}{w:World}(hp:p.In B w0 H') (hw:St B w0 H' w)=>Vu p ht hp hw
 have hop:∀w,St B w0 [many H] w->St B w0 H w:=λw hw=>hw.perm (.openT H)
 have hpM:∀{H':List HP},many H∈H'->p.In B w0 H':=λhm=>hp.mono λw hw=>hw.inM hm
 obtain⟨n,qA,qcap,q,s,cA,ccap,c,fA,fcap,f⟩:=p
 have hinM:∀{H':List HP},many H∈H'->n.In B w0 H':=λhm=>(hpM hm).n
 have hqM:∀{H':List HP},many H∈H'->QIn B w0 H' qA q:=λhm=>(hpM hm).q
 have hrsM:∀{H':List HP},many H∈H'->Rd B w0 H' s.A (s.cells.flatMap celF):=λhm=>(hpM hm).s
 have hsl:s.cells.length<=1000000000000:=hp.sl
 have p2:=λ{H':List HP}{w:World}(hrs:Rd B w0 H' s.A (s.cells.flatMap celF)) (hw:St B w0 H' w)=>Yl1 s id ht hrs hsl hw
 unfold PnM.val at p1⊢
 have hpl:(⟨n,qA,qcap,q,s,cA,ccap,c,fA,fcap,f⟩:PnM).pln=⟨n.net,q.map RqM.rq,s.sch,c.map ClM.clm,f⟩:=rfl
 rw[hpl]at p1⊢
 unfold wdrP
 dsimp only at p1⊢
 refine Jf [many H] (λw hw=>hw.perm (.closeT H)) ?_
 by_cases hk:chkP ⟨n.net,q.map RqM.rq,s.sch,c.map ClM.clm,f⟩=0
 rotate_left
 ·rw[Tm hk]
  repeat'(first|(apply zg23;first|(refine zs52 ?_;intro _)|(refine zs53 ?_;intro _))|refine zgb ?_|(refine zgh ?_;intro _)|fail)
  first|apply Ya en21|apply Yb en21
  exact za
  exact rfl
  exactλ_ hw=>(p1 (hpM zm) hw)
  repeat'(first|refine zgd ?_|(refine zge ?_ ?_<;>intro _<;>try exact zo)|fail)
  apply Yv T (H2:=H);(iterate 3 exact rfl);exact zm;exact rfl;exact rfl
  ·intro w hw
   have h5:St B w0 [many H] w:=by
    revert w
    exact zk
   exact hop w h5
  exact .inl ⟨rfl,rfl,rfl⟩
 have hq16:q.length<=16:=by
  have:=(YlR (Yhw (Yhx hk))).1
  rwa [Tv]at this
 rw[hk]at p1
 rw[Td (λe=>e hk)]
 have hidx:idQ (q.map RqM.rq) id=Yn (λy:RqM=>decide (y.f.1=id)) q 0:=YlD _ _ _ _
 rw[hidx]
 repeat'(first|(apply zg23;first|(refine zs52 ?_;intro _)|(refine zs53 ?_;intro _))|refine zgb ?_|(refine zgh ?_;intro _)|fail)
 rename_i g2 g3 g4
 first|apply Ya en21|apply Yb en21
 exact za
 exact rfl
 exactλ_ hw=>(p1 (hpM zm) hw)
 repeat'(first|(apply zg29;(apply Ym;exact za;exact rfl))|refine zgb ?_|(refine zge ?_ ?_<;>intro _<;>try exact zo)|fail)
 first|apply Ya Yk6|apply Yb Yk6
 exact za
 exact rfl
 exactλ_ hw=>(Yc6 (λy=>decide (y.f.1=id)) q 107 [.pointer (some ⟨g3,0,none⟩)] Yts (by omega) (hqM zm).rd (λa _ w hw=>Yqe a id g3 zm hw) hw)
 have hil:=Ypd (λy:RqM=>decide (y.f.1=id)) q 0 (by omega)
 generalize Yn (λy:RqM=>decide (y.f.1=id)) q 0=k at hil⊢
 by_cases hk0:k<0
 ·rw[Tm hk0]
  repeat'(first|refine zgd ?_|(refine zge ?_ ?_<;>intro _<;>try exact zo)|fail)
  apply Yv T (H2:=H);(iterate 3 exact rfl);exact zm;exact rfl;exact rfl
  ·intro w hw
   have h5:St B w0 [many H] w:=by
    revert w
    exact zk
   exact hop w h5
  exact .inl ⟨rfl,rfl,rfl⟩
 rw[Td hk0]
 obtain⟨j,rfl⟩:∃j:Nat,k=j:=⟨k.toNat,by omega⟩
 have hj:j<q.length:=by omega
 rw[RZ]
 have hdel:delQ (q.map RqM.rq) j=(q.eraseIdx j).map RqM.rq:=by
  unfold delQ
  rw[List.eraseIdx_eq_take_drop_succ,T8,List.map_take,List.map_drop]
 rw[hdel]
 have hdc:=YjD s.sch id
 unfold OutS SchM.val at p2
 generalize QN s.sch id=R at p2 hdc⊢
 obtain⟨t,te⟩:=R
 dsimp only at p2 hdc⊢
 have htl:t.cells.length<=1000000000000:=RE hdc hsl
 repeat'(first|(apply Ye T;exact rfl;exact zm;exact rfl;exact zv;exact rfl;exact rfl)|refine zgb ?_|(refine zge ?_ ?_<;>intro _<;>try exact zo)|fail)
 apply YU [0,1,2,3,5,6,7,4,8,9,10,11,12] [] [true,true,true,true]
 kernel_rfl
 kernel_rfl
 exact zy
 (simp only[Yg,nthO];rfl)
 exact rfl
 repeat'(first|(apply Ye T;exact rfl;exact zm;exact rfl;exact zv;exact rfl;exact rfl)|refine zgd ?_|fail)
 apply Yh _ YoQ
 exact za
 exact rfl
 exactλ_ hw=>(W4 q (by omega) (hqM zm).rd (hw))
 rintro _ _ ⟨A1,c1,rfl,rfl⟩
 repeat'(first|(apply Ye T;exact rfl;exact zm;exact rfl;exact zv;exact rfl;exact rfl)|(apply Yk;try exact zl)|refine zgd ?_|fail)
 apply Xw [rqs A1 c1 q] _ Ytt
 exact za
 try exact zl
 exact zp
 exact rfl
 exactλ_ hw=>(YfW q j hj (by omega) hw)
 rintro _ _ ⟨rfl,rfl⟩
 repeat'(first|(apply Ye T;exact rfl;exact zm;exact rfl;exact zv;exact rfl;exact rfl)|(apply Yk;try exact zl)|refine zgd ?_|(refine zgh ?_;intro _)|fail)
 rename_i g7
 apply Yh _ Ytu
 exact za
 exact rfl
 exactλ_ hw=>(p2 (hrsM zm) (hw))
 rintro _ _ ⟨A4,c4,rfl,rfl⟩
 repeat'(first|(apply Ye T;exact rfl;exact zm;exact rfl;exact zv;exact rfl;exact rfl)|refine zgd ?_|fail)
 apply XL (bldA g7 ⟨n,A1,c1,q.eraseIdx j,⟨t.len,t.off,A4,c4,t.cells⟩,none,0,[],none,0,[],te⟩::rqs A1 c1 (q.eraseIdx j)::cels A4 c4 t.cells::blk g4 (.cells zeroPnV.cells 42 (0,0))::[many H])
 ·intro w hw
  have h5:St B w0 (blk g7 (.cells #[.int .i64 n.nodes,.slice n.pA n.rows.length n.pcap,.int .i64 n.noise,.int .i64 n.thr,.slice n.lA n.links.length n.lcap,.slice n.mA n.margin.length n.mcap,.slice A1 (q.eraseIdx j).length c1,.int .i64 t.len,.int .i64 t.off,.slice A4 t.cells.length c4,.slice none 0 0,.slice none 0 0,.int .i64 te] 114 (0,0))::rqs A1 c1 (q.eraseIdx j)::cels A4 c4 t.cells::blk g4 (.cells (Value.agg #[.int .i64 0,.slice none 0 0,.int .i64 0,.int .i64 0,.slice none 0 0,.slice none 0 0,.slice none 0 0,.int .i64 0,.int .i64 0,.slice none 0 0,.slice none 0 0,.slice none 0 0]).cells 42 (0,0))::[many H]) w:=by
   revert w
   exact zk
  exact h5
 have hqe:∀{H':List HP},many H∈H'->rqs A1 c1 (q.eraseIdx j)∈H'->QIn B w0 H' A1 (q.eraseIdx j):=λh1 h2=>⟨Ykk h2,λx hx=>(hqM h1).x x (List.mem_of_mem_eraseIdx hx),by have:=List.length_eraseIdx_le q j;omega⟩
 apply Xw [bldA g7 ⟨n,A1,c1,q.eraseIdx j,⟨t.len,t.off,A4,c4,t.cells⟩,none,0,[],none,0,[],te⟩] _ en72
 exact za
 try exact zl
 exact zp
 exact rfl
 exactλ_ hw=>(UC ⟨n,A1,c1,q.eraseIdx j,⟨t.len,t.off,A4,c4,t.cells⟩,none,0,[],none,0,[],te⟩ g7 ht (hinM zm) (hqe zm zm) (Wy (cap:=c4) zm) htl hw)
 rintro _ _ hO
 dsimp only at hO
 rcases hO with⟨h1,rfl,rfl⟩|⟨p,X,h1,rfl,hp,rfl⟩
 ·unfold zeroPnV
  repeat'(first|refine zgc ?_|fail)
  apply Yv T (H2:=H);(iterate 3 exact rfl);exact zm;exact rfl;exact rfl
  ·intro w hw
   have h5:St B w0 [many H] w:=by
    revert w
    exact zk
   exact hop w h5
  exact .inl ⟨h1,rfl,rfl⟩
 ·unfold PnM.val
  repeat'(first|refine zgc ?_|fail)
  apply Yv T (H2:=many [many X,cels A4 c4 t.cells]::H);(iterate 3 exact rfl);exact zm;exact rfl;exact rfl
  ·intro w hw
   have h5:St B w0 (many X::cels A4 c4 t.cells::[many H]) w:=by
    revert w
    exact zk
   exact(h5.perm (.cons _ (.cons _ (.openT H)))).perm (.close [_,_] H)
  exact .inr ⟨p,_,h1,rfl,(hp _ (Wy (cap:=c4) (.head _))).mono λw hw=>(hw.perm (.open_ [_,_] H)),rfl⟩
variable {B:Nat}{w0 w:World}{H:List HP}
theorem YjH(hw:St B w0 H w):
 Calls Tryz.prog 55 [].toArray w (Post B w0 λv K=>∃(n:NetM) (A:Option Addr),v=.tuple #[n.val,.slice A 1 1]/\n.net=exN5/\n.In B w0 K/\Rd B w0 K A ([exF5].flatMap flwF)/\∀w,St B w0 K w->St B w0 H w):=by
 refine Yc Tryz.func55 Tryz.ntmps55 rfl rfl hw ?_
 repeat'(first|refine zgd ?_|(refine zgh ?_;intro _)|fail)
 rename_i g0 r1 r2 gp gl gm g2 gf
 apply Yv T;(iterate 3 exact rfl);exact zm;exact rfl;exact rfl;exactλw hw=>hw
 refine⟨⟨2,(some ⟨gp,0,none⟩),2,[⟨(some ⟨r1,0,none⟩),2,[0,9]⟩,⟨(some ⟨r2,0,none⟩),2,[9,0]⟩],1,1000,(some ⟨gl,0,none⟩),2,[(0,1,0),(1,0,0)],(some ⟨gm,0,none⟩),2,[9,9]⟩,(some ⟨gf,0,none⟩),rfl,rfl,?_,?_,?_⟩
 ·refine⟨Rd.blk (cs:=#[.slice (some ⟨r1,0,none⟩) 2 2,.slice (some ⟨r2,0,none⟩) 2 2]) (t:=24) (fr:=(0,0)) zm,λr hr=>?_,Rd.blk (cs:=#[.int .i64 0,.int .i64 1,.int .i64 0,.int .i64 1,.int .i64 0,.int .i64 0]) (t:=140) (fr:=(0,0)) zm,Rd.blk (cs:=#[.int .i64 9,.int .i64 9]) (t:=3) (fr:=(0,0)) zm,by show 2<=_;omega,λr hr=>?_,by show 2<=_;omega,by show 2<=_;omega⟩
  ·simp only[TN,R7,N2]at hr
   rcases hr with rfl|rfl
   ·exact Rd.blk (cs:=#[.int .i64 0,.int .i64 9]) (t:=3) (fr:=(0,0)) zm
   ·exact Rd.blk (cs:=#[.int .i64 9,.int .i64 0]) (t:=3) (fr:=(0,0)) zm
  ·simp only[TN,R7,N2]at hr
   rcases hr with rfl|rfl<;>(show 2<=_;omega)
 ·exact Rd.blk (cs:=#[.int .i64 1,.int .i64 0,.int .i64 1,.int .i64 2,.int .i64 0,.int .i64 2]) (t:=53) (fr:=(0,0)) zm
 ·exact zk
theorem Yi4(ht:TabsB B w0)(hw:St B w0 H w):
 Calls Tryz.prog 11 [].toArray w (Post B w0 λv K=>v=.bool true/\K=H):=by
 refine Yc Tryz.func11 Tryz.ntmps11 rfl rfl hw ?_
 repeat'(first|refine zga ?_|fail)
 apply Yh _ en55
 exact za
 exact rfl
 exactλ_ hw=>(YjH (hw))
 rintro _ K0 ⟨n,A,rfl,hn,hin,hr,hback⟩
 have p1:∀{H':List HP}{w:World},n.In B w0 H'->Rd B w0 H' A ([exF5].flatMap flwF)->St B w0 H' w->Calls Tryz.prog 16 [n.val,.slice A 1 1,.int .i64 2,.int .i64 1].toArray w (Post B w0 (YgP B w0 H' (some exP5,0))):=λhin hr hw=>by
  have h:=Ybu n [exF5] 2 1 (by omega) (by decide) (cap:=1) ht hin hr hw
  rw[hn,Yo3]at h
  exact h
 unfold NetM.val
 unfold NetM.val at p1
 repeat'(first|refine zgc ?_|(refine zgh ?_;intro _)|fail)
 apply Yh _ en16
 exact za
 exact rfl
 exactλ_ hw=>(p1 (hin.mono zk) (hr.mono zk) (hw))
 rintro _ K1 (⟨h,-⟩|⟨p,X,hp,rfl,hpin,rfl⟩)
 ·cases h
 have hp:exP5=p.pln:=Tz hp
 have p2:∀{H':List HP}{w:World},p.In B w0 H'->St B w0 H' w->Calls Tryz.prog 35 [p.val].toArray w (Post B w0 λv K=>v=.tuple #[strV exT5,.int .i64 0]/\K=H'):=λhpin hw=>by
  have h:=YiD p ht hpin hw
  rw[<-hp,Yo5]at h
  exact h
 have p3:∀{H':List HP}{w:World},p.In B w0 H'->St B w0 H' w->Calls Tryz.prog 21 [p.val].toArray w (Post B w0 λv K=>v=.int .i64 0/\K=H'):=λhpin hw=>by
  have h:=Vu p ht hpin hw
  rw[<-hp,Ylw]at h
  exact h
 obtain⟨pw,hwd,hq0,hc0⟩:=YqT
 have p4:∀{H':List HP}{w:World},p.In B w0 H'->St B w0 H' w->Calls Tryz.prog 29 [p.val,.int .i64 1].toArray w (Post B w0 (YgP B w0 H' (some pw,0))):=λhpin hw=>by
  have h:=YbR p 1 ht hpin hw
  rw[<-hp,hwd]at h
  exact h
 have hf:p.f=[0,1]:=by have:=TU Pln.f hp;exact this.symm
 have p5:∀{A2:Option Addr}{cap2:Nat}{H':List HP}{w:World},Rd B w0 H' p.fA (p.f.flatMap numF)->Rd B w0 H' A2 ([0,1].flatMap numF)->St B w0 H' w->Calls Tryz.prog 56 [.slice p.fA p.f.length p.fcap,.slice A2 2 cap2].toArray w (Post B w0 λu K=>u=.bool true/\K=H'):=λ{A2 cap2 H' w} h1 h2 hw=>by
  have h:=YcK p.f [0,1] (by rw[hf];decide) (cap:=p.fcap) (cap2:=cap2) h1 h2 hw
  rw[hf,Tc rfl]at h
  rw[hf]
  exact h
 unfold PnM.val
 unfold PnM.val at p2 p3 p4
 repeat'(first|refine zgc ?_|(refine zgh ?_;intro _)|fail)
 first|apply Ya en35|apply Yb en35
 exact za
 exact rfl
 exactλ_ hw=>(p2 (hpin.mono zk) hw)
 repeat'(first|refine zgc ?_|fail)
 apply Yh _ en29
 exact za
 exact rfl
 exactλ_ hw=>(p4 (hpin.mono zk) (hw))
 rintro _ K2 (⟨h,-⟩|⟨p',X',hp',rfl,hpin',rfl⟩)
 ·cases h
 have hp':pw=p'.pln:=Tz hp'
 have hq0':p'.q.length=0:=by
  have h1:(p'.q.map RqM.rq)=[]:=by rw[<-hq0,hp'];rfl
  rw[<-Tv (f:=RqM.rq),h1];rfl
 have hc0':p'.s.cells.length=0:=by
  have h1:p'.s.cells=[]:=by rw[<-hc0,hp'];rfl
  rw[h1];rfl
 unfold PnM.val
 rw[hq0',hc0']
 repeat'(first|((first|apply Ya en56|apply Yb en56);exact za;exact rfl;exactλ_ hw=>(p5 (hpin.f.mono zk) (Rd.blk (cs:=#[.int .i64 0,.int .i64 1]) (t:=3) (fr:=(0,0)) zm) hw))|((first|apply Ya en21|apply Yb en21);exact za;exact rfl;exactλ_ hw=>(p3 (hpin.mono zk) hw))|(apply YqB;(iterate 3 exact rfl);all_goals(intro hE;try(exact absurd rfl hE)))|refine zgc ?_|(refine zge ?_ ?_<;>intro _<;>try exact zo)|(refine zgh ?_;intro _)|fail)
 apply Yj H
 ·intro w hw
  refine hback w ?_
  revert w
  exact zk
 apply Yd;exact rfl;exact rfl
 exact⟨rfl,rfl⟩
theorem Ynx{rs rs':List RowM}(h:rs.map (·.xs)=rs'.map (·.xs)):rs.length=rs'.length:=by simpa using TU List.length h
variable {A A2:Option Addr}{cap cap2 B:Nat}{w0 w:World}{H:List HP}
theorem Yfo(l m:List Int)(h:l=m)(hlen:l.length<=9223372036854775807)(hr:Rd B w0 H A (l.flatMap numF))(hr2:Rd B w0 H A2 (m.flatMap numF))(hw:St B w0 H w):
 Calls Tryz.prog 89 [.slice A l.length cap,.slice A2 m.length cap2].toArray w (Post B w0 λu K=>u=.bool true/\K=H):=by
 refine Yc Tryz.func89 Tryz.ntmps89 rfl rfl hw ?_
 subst h
 repeat'(first|refine zgb ?_|(refine zge ?_ ?_<;>intro _<;>try exact zo)|fail)
 refine Yi (λ(k:Nat)=>[(5,.int .i64 k),(0,.slice A l.length cap),(1,.slice A2 l.length cap2)]) (λ_=>H) (λk=>k<=l.length) (λk=>l.length-k) 0 (Tu _) ?_ (λw hw=>hw) ?_
 ·exact zu
 rintro k hk K hK
 by_cases hlt:k<l.length
 ·obtain⟨a,ha⟩:∃a,l[k]? =some a:=⟨_,Ta hlt⟩
  repeat'(first|refine zgd ?_|(refine zge ?_ ?_<;>intro _<;>try exact zo)|fail)
  apply hK (k+1)
  ·omega
  ·omega
  ·exact zu
  ·exactλw hw=>hw
 ·repeat'(first|refine zgc ?_|(refine zge ?_ ?_<;>intro _<;>try exact zo)|fail)
  apply Yd;exact rfl;exact rfl;exact⟨rfl,rfl⟩
theorem Yku(n m:NetM)(h:n.net=m.net)(hin:n.In B w0 H)(hin2:m.In B w0 H)(hw:St B w0 H w):
 Calls Tryz.prog 24 [n.val,m.val].toArray w (Post B w0 λu K=>u=.bool true/\K=H):=by
 refine Yc Tryz.func24 Tryz.ntmps24 rfl rfl hw ?_
 obtain⟨hpw,hrw,hlk,hmg,hs1,hs2,hs3,hs4⟩:=id hin
 obtain⟨hpw',hrw',hlk',hmg',hs1',hs2',hs3',hs4'⟩:=id hin2
 simp only[NetM.net,Net.mk.injEq]at h
 obtain⟨e1,e2,e3,e4,e5,e6⟩:=h
 have e7:=Ynx e2
 have e8:n.links.length=m.links.length:=by rw[e5]
 have e9:n.margin.length=m.margin.length:=by rw[e6]
 (apply Xt;apply Y0;apply YR;exact rfl;exact rfl;intro g)
 apply YR;exact rfl;exact rfl;intro g2
 repeat'(first|refine zgc ?_|(refine zge ?_ ?_<;>intro _<;>try exact zo)|fail)
 refine Yi (λ(k:Nat)=>[(5,.int .i64 k),(2,.pointer (some ⟨g,0,none⟩)),(3,.pointer (some ⟨g2,0,none⟩))]) (λ_=>netB g2 m::netB g n::H) (λk=>k<=n.rows.length) (λk=>n.rows.length-k) 0 (Tu _) ?_ (λw hw=>hw) ?_
 ·exact zu
 rintro k hk K hK
 by_cases hlt:k<n.rows.length
 ·obtain⟨a,ha⟩:∃a,n.rows[k]? =some a:=⟨_,Ta hlt⟩
  obtain⟨b,hb⟩:∃b,m.rows[k]? =some b:=⟨_,Ta (by omega)⟩
  have hab:a.xs=b.xs:=by
   have h1:(n.rows.map (·.xs))[k]? =some a.xs:=by simp[ha]
   have h2:(m.rows.map (·.xs))[k]? =some b.xs:=by simp[hb]
   rw[e2,h2]at h1
   exact(Tz h1).symm
  have ham:=Tf ha
  have hbm:=Tf hb
  repeat'(first|((first|apply Ya en89|apply Yb en89);exact za;exact rfl;exactλ_ hw=>(Yfo a.xs b.xs hab (hs2 a ham) (hrw a ham).cons.cons (hrw' b hbm).cons.cons hw))|(apply zg28;refine zs84 ?_)|refine zgd ?_|(refine zge ?_ ?_<;>intro _<;>try exact zo)|fail)
  apply hK (k+1)
  ·omega
  ·omega
  ·exact zu
  ·exactλw hw=>hw
 clear hK
 repeat'(first|refine zgc ?_|(refine zge ?_ ?_<;>intro _<;>try exact zo)|fail)
 refine Yi (λ(k:Nat)=>[(6,.int .i64 k),(2,.pointer (some ⟨g,0,none⟩)),(3,.pointer (some ⟨g2,0,none⟩))]) (λ_=>netB g2 m::netB g n::H) (λk=>k<=n.links.length) (λk=>n.links.length-k) 0 (Tu _) ?_ (λw hw=>hw) ?_
 ·exact zu
 rintro k hk K hK
 by_cases hlt:k<n.links.length
 ·obtain⟨a,ha⟩:∃a,n.links[k]? =some a:=⟨_,Ta hlt⟩
  have hb:m.links[k]? =some a:=by rw[<-e5];exact ha
  repeat'(first|(apply YfB (xs:=lkF a) (ys:=lkF a);(iterate 3 exact rfl);kernel_rfl;kernel_rfl;(intro hne;exact absurd rfl hne);intro _)|refine zgd ?_|(refine zge ?_ ?_<;>intro _<;>try exact zo)|fail)
  apply hK (k+1)
  ·omega
  ·omega
  ·exact zu
  ·exactλw hw=>hw
 clear hK
 repeat'(first|((first|apply Ya en89|apply Yb en89);exact za;exact rfl;exactλ_ hw=>(Yfo n.margin m.margin e6 hs4 hmg.cons.cons hmg'.cons.cons hw))|refine zgc ?_|(refine zge ?_ ?_<;>intro _<;>try exact zo)|fail)
 apply Yl;apply Yl;apply Yd;exact rfl;exact rfl;exact⟨rfl,rfl⟩
theorem YjG(l:List Flw)(hlen:l.length<=1000000000000)(hr:Rd B w0 H A (l.flatMap flwF))(hr2:Rd B w0 H A2 (l.flatMap flwF))(hw:St B w0 H w):
 Calls Tryz.prog 22 [.slice A l.length cap,.slice A2 l.length cap2].toArray w (Post B w0 λu K=>u=.bool true/\K=H):=by
 refine Yc Tryz.func22 Tryz.ntmps22 rfl rfl hw ?_
 repeat'(first|refine zgb ?_|(refine zge ?_ ?_<;>intro _<;>try exact zo)|fail)
 refine Yi (λ(k:Nat)=>[(13,.int .i64 k),(12,.int .i64 l.length),(0,.slice A l.length cap),(1,.slice A2 l.length cap2)]) (λ_=>H) (λk=>k<=l.length) (λk=>l.length-k) 0 (Tu _) ?_ (λw hw=>hw) ?_
 ·exact zu
 rintro k hk K hK
 by_cases hlt:k<l.length
 ·obtain⟨a,ha⟩:∃a,l[k]? =some a:=⟨_,Ta hlt⟩
  repeat'(first|(apply YfB (xs:=flwF a) (ys:=flwF a);(iterate 3 exact rfl);kernel_rfl;kernel_rfl;(intro hne;exact absurd rfl hne);intro _)|refine zgd ?_|(refine zge ?_ ?_<;>intro _<;>try exact zo)|fail)
  apply hK (k+1)
  ·omega
  ·omega
  ·exact zu
  ·exactλw hw=>hw
 ·repeat'(first|refine zgc ?_|(refine zge ?_ ?_<;>intro _<;>try exact zo)|fail)
  apply Yd;exact rfl;exact rfl;exact⟨rfl,rfl⟩
def YgD(n:Net)(l:List Flw):Bool:=fewE n&&decide (n.power.length<=6)&&decide (l.length<=3)
theorem YgC(n:NetM)(l:List Flw)(hl:l.length<=9223372036854775807)(hin:n.In B w0 H)(hw:St B w0 H w):
 Calls Tryz.prog 12 [n.val,.slice A l.length cap].toArray w (Post B w0 λv K=>v=.bool (YgD n.net l)/\K=H):=by
 refine Yc Tryz.func12 Tryz.ntmps12 rfl rfl hw ?_
 unfold YgD
 have e2:n.net.power.length=n.rows.length:=by simp[NetM.net]
 have hs1:=hin.s1
 rw[e2]
 (apply Xt;apply Y0;apply YR;exact rfl;exact rfl;intro g)
 cases h1:fewE n.net
 all_goals(
  repeat'(first|((first|apply Ya en57|apply Yb en57);exact za;exact rfl;exactλ_ hw=>(Yav (TU Value.bool h1) (λ_ hw=>Yo6 n hin.cons hw) hw))|refine zgc ?_|(refine zgf ?_ ?_<;>intro _<;>try exact zo)|fail)
  all_goals(apply Yl;apply Yd;exact rfl;exact rfl;exact⟨TU Value.bool (by first|rfl|simp<;>omega),rfl⟩))
theorem Yso(n:NetM)(l:List Flw)(len off:Int)(hl:l.length<=9223372036854775807){A:Option Addr}{cap B:Nat}{w0:World}{H:List HP}{w:World}(ht:TabsB B w0)(hin:n.In B w0 H)(hr:Rd B w0 H A (l.flatMap flwF))(hw:St B w0 H w):
 Calls Tryz.prog 5 [n.val,.slice A l.length cap,.int .i64 len,.int .i64 off].toArray w (Post B w0 λv K=>v=.bool true/\K=H):=by
 refine Yc Tryz.func5 Tryz.ntmps5 rfl rfl hw ?_
 have p0:=λ{H':List HP}{w:World}(hin:n.In B w0 H') (hw:St B w0 H' w)=>YgC n l hl (A:=A) (cap:=cap) hin hw
 unfold NetM.val
 unfold NetM.val at p0
 obtain⟨b,hb⟩:∃b,YgD n.net l=b:=⟨_,rfl⟩
 rw[hb]at p0
 (apply Xt;apply Y0;apply YR;exact rfl;exact rfl;intro g)
 repeat'(first|refine zga ?_|fail)
 first|apply Ya en11|apply Yb en11
 exact za
 exact rfl
 exactλ_ hw=>(Yi4 ht hw)
 cases b with
 |false=>
  repeat'(first|((first|apply Ya en12|apply Yb en12);exact za;exact rfl;exactλ_ hw=>(p0 hin.cons hw))|refine zgd ?_|fail)
  apply Yl
  apply Yd;exact rfl;exact rfl;exact⟨rfl,rfl⟩
 |true=>
 have hl3:l.length<=3:=by
  unfold YgD at hb
  simp only[To,Tq]at hb
  exact hb.2
 by_cases h24:24<len
 ·skip
  repeat'(first|((first|apply Ya en12|apply Yb en12);exact za;exact rfl;exactλ_ hw=>(p0 hin.cons hw))|refine zgd ?_|(refine zgf ?_ ?_<;>intro _<;>try exact zo)|fail)
  apply Yl
  apply Yd;exact rfl;exact rfl;exact⟨rfl,rfl⟩
 have hre:∀(R:Option Pln×Int),Ybv n.net l len off=R->Made n.net l len off R:=λR h=>h▸Yne n.net l len off
 obtain⟨⟨R1,R2⟩,hR⟩:∃R,Ybv n.net l len off=R:=⟨_,rfl⟩
 have hmade:=hre _ hR
 have p1:∀{H':List HP}{w:World},n.In B w0 H'->Rd B w0 H' A (l.flatMap flwF)->St B w0 H' w->Calls Tryz.prog 16 [n.val,.slice A l.length cap,.int .i64 len,.int .i64 off].toArray w (Post B w0 (YgP B w0 H' (R1,R2))):=λhin hr hw=>by
  have h:=Ybu n l len off (by omega) (by omega) (cap:=cap) ht hin hr hw
  rwa [hR]at h
 unfold NetM.val at p1
 repeat'(first|((first|apply Ya en12|apply Yb en12);exact za;exact rfl;exactλ_ hw=>(p0 hin.cons hw))|refine zgd ?_|(refine zgf ?_ ?_<;>intro _<;>try exact zo)|fail)
 apply Yh _ en16
 exact za
 exact rfl
 exactλ_ hw=>(p1 hin.cons hr.cons (hw))
 rintro _ K0 (⟨h,rfl,rfl⟩|⟨p,X,hp,rfl,hpin,rfl⟩)
 ·dsimp only at h
  subst h
  have hR2:R2≠0:=by
   rcases hmade with⟨h,-⟩|⟨p,h,-⟩
   ·exact h
   ·cases h
  unfold zeroPnV
  dsimp only
  repeat'(first|refine zgc ?_|(refine zge ?_ ?_<;>intro _<;>try exact zo)|(refine zgh ?_;intro _)|fail)
  apply Yj H
  ·exact zk
  apply Yd;exact rfl;exact rfl;exact⟨rfl,rfl⟩
 dsimp only at hp
 subst hp
 obtain⟨pp,h1,hok,hpn,hpq,hpl,hpo⟩:∃p',(some p.pln,R2)=(some p',0)/\PlnOk p'/\p'.n=n.net/\YB p'.q=l/\p'.s.len=len/\p'.s.off=off:=by
  rcases hmade with⟨-,h⟩|h
  ·cases h
  ·exact h
 obtain rfl:R2=0:=TU Prod.snd h1
 obtain rfl:p.pln=pp:=Tz (TU Prod.fst h1)
 have hfl:RqM.fl p.q=l:=by
  rw[<-hpq]
  show p.q.map (·.f)=(p.q.map RqM.rq).map Prod.fst
  rw[NS];rfl
 have hn:p.n.net=n.net:=hpn
 have hl1:p.s.len=len:=hpl
 have hl2:p.s.off=off:=hpo
 have hce:(YT n.net (p.q.map RqM.rq) p.s.sch).2.2=0:=by rw[<-hpn];exact hok.cert
 have hc:p.c.map ClM.clm=(YT n.net (p.q.map RqM.rq) p.s.sch).1:=by rw[<-hpn];exact hok.c
 have hqfl:YB (p.q.map RqM.rq)=l:=hpq
 have hsc:(schE n.net l p.s.sch).2=0:=by rw[<-hqfl];exact(ZH.1 hce).1
 have hadm:(Js (p.c.map ClM.clm) l l.length).length=l.length:=by
  have h:=(YnC hce).adm
  rw[hqfl]at h
  have h2:(p.q.map RqM.rq).length=l.length:=by rw[<-hqfl];unfold YB;simp
  rw[h2]at h
  rw[hc,Yk1 hce]
  exact h
 have p2:∀{H':List HP}{w:World},n.In B w0 H'->p.In B w0 H'->St B w0 H' w->Calls Tryz.prog 19 [n.val,.slice p.qA p.q.length p.qcap,p.s.val,.slice p.cA p.c.length p.ccap].toArray w (Post B w0 λv K=>v=.tuple #[.int .i64 (-1),.int .i64 0]/\K=H'):=λhin hp hw=>by
  have h:=QJ n p.q p.s p.c (cap:=p.qcap) (cap1:=p.ccap) ht hin hp.q hp.s hp.sl hp.c hw
  rw[hc,Yhy hce]at h
  exact h
 have p3:∀{H':List HP}{w:World},n.In B w0 H'->Rd B w0 H' A (l.flatMap flwF)->p.In B w0 H'->St B w0 H' w->Calls Tryz.prog 20 [n.val,.slice A l.length cap,p.s.val].toArray w (Post B w0 λv K=>v=.tuple #[.int .i64 (schE n.net l p.s.sch).1,.int .i64 0]/\K=H'):=λhin hr hp hw=>by
  have h:=O3 n l p.s hl hp.sl (cap:=cap) hin hr hp.s hw
  rw[hsc]at h
  exact h
 have p4:∀{H':List HP}{w:World},p.In B w0 H'->St B w0 H' w->Calls Tryz.prog 21 [p.val].toArray w (Post B w0 λv K=>v=.int .i64 0/\K=H'):=λhp hw=>by
  have h:=Vu p ht hp hw
  rw[hok.chk]at h
  exact h
 have hpql:p.q.length=l.length:=by have h:=TU List.length hfl;rwa [RqM.fl,Tv]at h
 have p5:∀{H':List HP}{w:World},p.In B w0 H'->St B w0 H' w->Calls Tryz.prog 23 [.slice p.qA p.q.length p.qcap].toArray w (Post B w0 λv K=>∃A2 cap2,v=.slice A2 l.length cap2/\K=flws A2 cap2 l::H'):=λhp hw=>by
  have h:=YiI p.q (cap:=p.qcap) (by omega) hp.q.rd hw
  rw[hfl]at h
  exact h
 have p6:=λ{A2:Option Addr}{cap2:Nat}{H':List HP}{w:World}(h1:Rd B w0 H' A2 (l.flatMap flwF)) (h2:Rd B w0 H' A (l.flatMap flwF)) (hw:St B w0 H' w)=>YjG l (by omega) (cap:=cap2) (cap2:=cap) h1 h2 hw
 have p7:=λ{H':List HP}{w:World}(h1:p.In B w0 H') (h2:n.In B w0 H') (hw:St B w0 H' w)=>Yku p.n n hn h1.n h2 hw
 have p8:∀{H':List HP}{w:World},p.In B w0 H'->Rd B w0 H' A (l.flatMap flwF)->St B w0 H' w->Calls Tryz.prog 25 [.slice p.cA p.c.length p.ccap,.slice A l.length cap].toArray w (Post B w0 λv K=>∃A2 cap2 L,v=.slice A2 l.length cap2/\K=nrs A2 cap2 L::H'):=λhp hr hw=>by
  refine Yjp (λw hw=>YdZ p.c l (by omega) (cap:=p.ccap) (cap1:=cap) hp.c hr hw) ?_ hw
  rintro v K ⟨A5,cap5,rfl,rfl⟩
  exact⟨A5,cap5,_,by rw[hadm],rfl⟩
 unfold PnM.val
 unfold PnM.val at p4
 unfold NetM.val at p2 p3 p7
 unfold SchM.val at p2 p3
 dsimp only
 repeat'(first|(apply Ye T;exact rfl;exact zm;exact rfl;exact zv;exact rfl;exact rfl)|refine zgc ?_|(refine zge ?_ ?_<;>intro _<;>try exact zo)|(refine zgh ?_;intro _)|fail)
 first|apply Ya en19|apply Yb en19
 exact za
 exact rfl
 exactλ_ hw=>(p2 (hin.mono zk) (hpin.mono zk) hw)
 repeat'(first|(apply Ye T;exact rfl;exact zm;exact rfl;exact zv;exact rfl;exact rfl)|refine zgc ?_|fail)
 first|apply Ya en20|apply Yb en20
 exact za
 exact rfl
 exactλ_ hw=>(p3 (hin.mono zk) (hr.mono zk) (hpin.mono zk) hw)
 repeat'(first|(apply Ye T;exact rfl;exact zm;exact rfl;exact zv;exact rfl;exact rfl)|refine zgc ?_|fail)
 first|apply Ya en21|apply Yb en21
 exact za
 exact rfl
 exactλ_ hw=>(p4 (hpin.mono zk) hw)
 repeat'(first|(apply Ye T;exact rfl;exact zm;exact rfl;exact zv;exact rfl;exact rfl)|refine zgc ?_|(refine zge ?_ ?_<;>intro _<;>try exact zo)|fail)
 apply Yh _ en23
 exact za
 exact rfl
 exactλ_ hw=>(p5 (hpin.mono zk) (hw))
 rintro _ _ ⟨A2,cap2,rfl,rfl⟩
 repeat'(first|((first|apply Ya en22|apply Yb en22);exact za;exact rfl;exactλ_ hw=>(p6 (Rd.sl zm) (hr.mono zk) hw))|((first|apply Ya en24|apply Yb en24);exact za;exact rfl;exactλ_ hw=>(p7 (hpin.mono zk) (hin.mono zk) hw))|(apply Ye T;exact rfl;exact zm;exact rfl;exact zv;exact rfl;exact rfl)|refine zgc ?_|fail)
 apply Yh _ en25
 exact za
 exact rfl
 exactλ_ hw=>(p8 (hpin.mono zk) (hr.mono zk) (hw))
 rintro _ _ ⟨A3,cap3,L,rfl,rfl⟩
 repeat'(first|refine zgc ?_|(refine zge ?_ ?_<;>intro _<;>try exact zo)|fail)
 apply Yj H
 ·exact zk
 apply Yd;exact rfl;exact rfl;exact⟨rfl,rfl⟩
open Go.ChangeShapes Go.WideShapes Go.ChangeAt Go.RowKit Go.Eng
section
variable {H:Type}{enc:TypeId×Value->H}
theorem YlA{a:Assume}{C:Checked}{os:Os}{f:FuncId}{fn:Func}{s:ChangeSpec}{conds:List PathCond}{apart fresh handsOn again:Bool}{X:World->Prop}(hX:∀w w':World,w.heap=w'.heap->X w->X w')
 (own:ownKnob C.prog.godebug=none) (started:os.Started) (noInit:C.prog.inits.idxOf? f=none) (hfn:C.prog.funcs[f]? =some fn)
 (witness:∃(w:World) (tape:Tape) (i:Input),w.os=os/\(w.forCall tape i).Shaped C.prog/\i.vars=[]/\Input.okWide C.prog (w.forCall tape i) .any w.heap.size f i/\
  ((s.pre enc C.prog fn conds apart (w.forCall tape i).memory i.args/\X (w.forCall tape i).memory)/\sizedMet enc C.prog fn (OpenSpec.ofChange s) apart (w.forCall tape i).memory i.args)/\a.holds C.prog (lone (Frame.enter C.prog f i.args .normal) [] (w.forCall tape i)))
 (contract:∀(W:World) (base:Nat) (args:Array Value) (ds gs:List (DataW H)) (before:List MemPlace),
  (∀(j:Nat) t v,fn.params[j]? =some t->args[j]? =some v->Value.okWide C.prog W .any base t v)->
  DataW.Whole enc C.prog fn.params.toList s.vars apart W args.toList ds gs before->X W->W.ShapedOpen C.prog->
  Calls C.prog f args W λe W'=>∃v,e=.returned v/\s.post enc C.prog fn apart fresh handsOn again W args v W'):
 ReturnsInHanded a C os f .any (λw args=>(s.pre enc C.prog fn conds apart w args/\X w)/\sizedMet enc C.prog fn (OpenSpec.ofChange s) apart w args) (s.post enc C.prog fn apart fresh handsOn again):=by
 refine returnsInHanded_of_calls own started noInit witness ?_
 intro w tape i _ hsh _ hok hpre _
 obtain⟨_,_,_,fn',hfn',_,_,_,_,hval⟩:=hok
 have e:fn'=fn:=Tz (hfn'.symm.trans hfn)
 subst e
 obtain⟨⟨⟨ds,gs,before,hw,_⟩,hx⟩,_⟩:=hpre
 have hw':=DataW.Whole.of_heap (w':=w.forCall tape i) (by rfl) hw
 refine(contract (w.forCall tape i) w.heap.size i.args ds gs before hval hw' (hX _ _ (by rfl) hx) hsh).mono λe W' ⟨v,he,hp⟩=>?_
 subst he
 exact ChangeSpec.post_blind hp
end
def Yia:List (String×DataW Unit):=[("math/bits.deBruijn32tab",Rows.laid_math_bits_deBruijn32tab),("math/bits.deBruijn64tab",Rows.laid_math_bits_deBruijn64tab),("internal/strconv.uint64pow10",Rows.laid_internal_strconv_uint64pow10)]
noncomputable def Ye5(os:Os):World:=
 World.doorLaid Tryz.prog 72 os
theorem Ybq(w:World):laidMetH Tryz.prog Yia w=laidMet Tryz.prog Yia w:=MakeChecks.laidMetH_plain _ _ _ (by kernel_rfl)
theorem Yqj(os:Os)(args:Array Value):laidMetH Tryz.prog Yia ((Ye5 os).forCall (λ_ _=>0) ⟨#[],args,[]⟩).memory:=by
 rw[Ybq]
 exact laidMet_of_run3 8 (by kernel_rfl) (by kernel_rfl) (by kernel_rfl)
theorem Ym6(os:Os)(args:Array Value):((Ye5 os).forCall (λ_ _=>0) ⟨#[],args,[]⟩).Shaped Tryz.prog:=World.shaped_of_RefB (by kernel_rfl) (by kernel_rfl)
variable {W:World}
theorem YnV{w:World}{n:String}{cs:Array Value}(h:W.var? Tryz.prog n=some cs)(hb:Below W.heap.size W w):w.var? Tryz.prog n=some cs:=by
 unfold World.var? at h⊢
 cases hg:Tryz.prog.globalNamed n with
 |none=>rw[hg]at h;cases h
 |some g=>
  rw[hg]at h
  simp only[Nu]at h⊢
  rcases SB g W.heap.size with hlt|hge
  ·rw[hb.block g hlt];exact h
  ·rw[RG hge]at h;cases h
theorem tabs_of(hL:laidMetH Tryz.prog Yia W)(_hsh:W.ShapedOpen Tryz.prog):TabsB W.heap.size W:=by
 rw[Ybq]at hL
 have hpow:Lib.TabIs Tryz.prog W "internal/strconv.uint64pow10" .u64 Lib.pow10Tab:=by
  obtain⟨g,t,cs,fuel,p,h1,h2,h3,h4⟩:=Lib.laidMet.reads hL (n:= "internal/strconv.uint64pow10") (d:=Rows.laid_internal_strconv_uint64pow10) (by unfold Yia;simp)
  have hT:(Tryz.prog.globalNamed "internal/strconv.uint64pow10").bind (λg=>(Tryz.prog.globals[g]?).map (·.type))=some 453:=by kernel_rfl
  rw[h1]at hT
  obtain rfl:t=453:=Tz (h2.symm.trans hT)
  have h5:Rows.laid_internal_strconv_uint64pow10 (H:=Unit)=Lib.tabData .u64 Lib.pow10Tab:=by kernel_rfl
  rw[h5]at h4
  have h6:=Lib.cells_of_tab Tryz.underlying453 Tryz.underlying244 (by kernel_rfl) (by kernel_rfl) h4
  unfold Lib.TabIs
  rw[h3,<-h6]
 intro w hb
 exact⟨YnV hpow hb⟩
theorem Tryz.own:ownKnob Tryz.prog.godebug=none:=by kernel_rfl
theorem Tryz.laidOut:laidOutB Tryz.prog=true:=by kernel_rfl
end Go.Proofs.YtaholidehobiiaaGreatDoor
