/- Lemmas. -/
import Derived.Test.YtambgjgljcadlaaGreatDoorQ20
import Derived.Test.YtambgjgljcadlaaGreatDoorQ21
import Derived.Test.YtambgjgljcadlaaGreatDoorQ22
set_option maxRecDepth 100000
set_option maxHeartbeats 8000000
set_option linter.all false
namespace Go.Proofs.YtambgjgljcadlaaGreatDoor
open Go.RowKit Go.Eng Go.Nw Go.Rt
def QC(f:Flw):List Int:=[f.1,f.2.1,f.2.2.1,f.2.2.2.1,f.2.2.2.2.1,f.2.2.2.2.2]
def rqT(x:Rqs)(k:Nat):List UInt8:=XF wordF (QC x.1)++(List.range k).flatMap λj=>XF wordR (rtAt x.2 j)
def plnT(q:List Rqs)(k:Nat):List UInt8:=(q.take k).flatMap λx=>rqT x x.2.length
def O9(p:Pln):List UInt8×Int:=if chkP p≠0 then([],1)else(plnT p.q p.q.length++(Xs p.s).1++(VN p.c).1,0)
structure RqD(x:Rqs):Prop where
 f:∀n∈QC x.1,0<=n/\n<10000
 n:x.2.length<=2
 l:∀r∈x.2,r.length<=9
 r:∀r∈x.2,∀n∈r,0<=n/\n<10000
theorem YhB{p:Pln}(h:chkP p=0):(YS p.n p.q p.s).2.2=0:=by
 unfold chkP at h
 omega
variable {n:Net}{q:List Rqs}
theorem YhA{s:Sch}(h:(YS n q s).2.2=0):(rqsE n q).2=0:=RE.1 λh1=>by
 simp_all [YS]
theorem Yme(h:(rqsE n q).2=0):q.length<=16/\∀x∈q,RqD x:=by
 obtain⟨hck,hfl,hrt⟩:=Uq h
 have hok:=YM hck
 have h32:=hok.n1
 refine⟨?_,λx hx=>?_⟩
 ·grind [Yz,Y6]
 have hfx:YX n.nodes x.1=0:=Vt hfl (TE.2 ⟨x,hx,rfl⟩)
 obtain⟨h1,h2,h3,-,h5⟩:=Zs hfx
 have h6:(0<=x.1.2.1/\x.1.2.1<n.nodes)/\0<=x.1.2.2.1/\x.1.2.2.1<n.nodes:=by
  grind [YX,insE]
 have hrx:=hrt x hx
 refine⟨λz hz=>?_,?_,λr hr=>?_,λr hr z hz=>?_⟩
 ·unfold QC at hz
  grind
 ·grind [QT]
 ·exact(Zp (JL hrx r hr)).2.1.2
 ·have hc:=JL hrx r hr
  unfold X6 at hc
  split at hc
  ·exact absurd hc (by assumption)
  have ho:=(QB hc).2.1
  rw[RA]at ho
  have h8:=ho z hz
  unfold offE at h8
  simp only[Tt]at h8
  omega
theorem YbG{x:Rqs}(h:RqD x):∀k,k<=x.2.length->(rqT x k).length<=35+51*k
 |0,_=>by
  have:=Zb (w:=wordF) h.f
  simp_all [wordF,QC,rqT]
 |k+1,hk=>by
  have ih:=YbG h k (by omega)
  have hr:rtAt x.2 k∈x.2:=by
   grind [rtAt]
  have h1:=Zb (w:=wordR) (h.r _ hr)
  have h2:=h.l _ hr
  have e:wordR.length=5:=rfl
  grind [rqT,RD]
theorem Yqt(x:Rqs)(k:Nat):rqT x (k+1)=rqT x k++XF wordR (rtAt x.2 k):=by
 grind [rqT,RD]
theorem Yfl{k:Nat}{x:Rqs}(h:q[k]? =some x):plnT q (k+1)=plnT q k++rqT x x.2.length:=by
 grind [plnT,TG]
theorem YiH{q:List Rqs}(h:∀x∈q,RqD x):∀k,k<=q.length->(plnT q k).length<=150*k
 |0,_=>by grind [plnT]
 |k+1,hk=>by
  have ih:=YiH h k (by omega)
  obtain⟨x,hx⟩:∃x,q[k]? =some x:=⟨_,Ta (by omega)⟩
  have hd:=h x (Tc hx)
  have h1:=YbG hd x.2.length (TI _)
  grind [Go.Proofs.YtambgjgljcadlaaGreatDoor.RqD.n,Yfl]
theorem Ykx(s:Sch):(Xs s).1.length<=30000:=by
 unfold Xs
 cases hf:Y5 s with
 |false=>simp_all
 |true=>
  have hfr:=Zt.1 hf
  have h1:=Qf hfr s.cells.length (TI _)
  grind [Go.Proofs.YtambgjgljcadlaaGreatDoor.Frm.few,ZX,Yi6]
theorem Ykw(c:List Clm):(VN c).1.length<=30000:=by
 unfold VN
 cases hf:YaT c with
 |false=>simp_all
 |true=>
  obtain⟨h16,hfd⟩:=Yh0 hf
  have h1:=Yab hfd c.length (TI _)
  grind [Yfv]
variable {B:Nat}{w0 w:World}{H:List HP}
theorem NetM.In.here{n:NetM}(h:n.In B w0 H)(hw:St B w0 H w):n.In w.heap.size w []:=⟨h.pw.here hw,λr hr=>(h.rw_ r hr).here hw,h.lk.here hw,h.mg.here hw,h.s1,h.s2,h.s3,h.s4⟩
theorem QIn.here{q:List RqM}{A:Option Addr}(h:QIn B w0 H A q)(hw:St B w0 H w):QIn w.heap.size w [] A q:=⟨h.rd.here hw,λx hx=>⟨(h.x x hx).rt.here hw,λr hr=>((h.x x hx).rw_ r hr).here hw,(h.x x hx).ln,(h.x x hx).rl⟩,h.ln⟩
theorem PnM.In.here{p:PnM}(h:p.In B w0 H)(hw:St B w0 H w):p.In w.heap.size w []:=⟨h.n.here hw,h.q.here hw,h.s.here hw,h.sl,h.c.here hw,h.f.here hw,h.fl⟩
theorem YnX(p:PnM)(ht:TabsB B w0)(hp:p.In B w0 [])(hw:St B w0 [] w):
 CX B w0 32 [p.val] w λv _=>v=.tuple #[strV (O9 p.pln).1,.int .i64 (O9 p.pln).2]:=by
 refine Ya Tryz.func32 Tryz.ntmps32 rfl rfl hw ?_
 have p1:=λ{H':List HP}{w:World}(hp:p.In B w0 H') (hw:St B w0 H' w)=>Vf p ht hp hw
 obtain⟨n,qA,qcap,q,s,cA,ccap,c,fA,fcap,f⟩:=p
 have hp0:=hp
 obtain⟨hin,hq,hrs,hsl,hc,hf,hfl⟩:=hp
 dsimp only at hin hq hrs hsl hc hf hfl
 have p2:=λ{H':List HP}{w:World}(hrs:Rd B w0 H' s.A (s.cells.flatMap celF)) (hw:St B w0 H' w)=>VO s ht hrs hsl hw
 have p3:=λ{H':List HP}{w:World}(hc:CIn B w0 H' cA c) (hw:St B w0 H' w)=>YhI c (cap:=ccap) ht hc hw
 unfold PnM.val at p1⊢
 unfold SchM.val at p2
 have hpl:(⟨n,qA,qcap,q,s,cA,ccap,c,fA,fcap,f⟩:PnM).pln=⟨n.net,q.map RqM.rq,s.sch,c.map ClM.clm,f⟩:=rfl
 rw[hpl]at p1⊢
 dsimp only at p1⊢
 unfold O9
 by_cases hk:chkP ⟨n.net,q.map RqM.rq,s.sch,c.map ClM.clm,f⟩=0
 rotate_left
 ·rw[Tj hk]
  refine zX97 ?_<;>intros
  first|apply Yb en9|apply Yc en9
  exact za
  exact rfl
  exactλ_ hw=>(p1 (hp0.mono zc0) hw)
  refine zX98 ?_<;>intros
  apply YL;(iterate 3 exact rfl)
  rfl
 have hrq:=YhA (YhB hk)
 dsimp only at hrq
 rw[hk]at p1
 rw[Tf (λe=>e hk)]
 obtain⟨hq16,hqd⟩:=Yme hrq
 rw[Tv]at hq16
 have hsL:=Ykx s.sch
 have hcL:=Ykw (c.map ClM.clm)
 obtain⟨⟨sT,se⟩,hsT⟩:∃R,Xs s.sch=R:=⟨_,rfl⟩
 obtain⟨⟨cT,ce⟩,hcT⟩:∃R,VN (c.map ClM.clm)=R:=⟨_,rfl⟩
 rw[hsT]at p2 hsL⊢
 rw[hcT]at p3 hcL⊢
 dsimp only at p2 p3 hsL hcL⊢
 refine zX97 ?_<;>intros
 first|apply Yb en9|apply Yc en9
 exact za
 exact rfl
 exactλ_ hw=>(p1 (hp0.mono zc0) hw)
 refine Yji ?_<;>intros
 rename_i g1 _ gb
 obtain⟨q0,hq0⟩:∃q0,q.map RqM.rq=q0:=⟨_,rfl⟩
 have hq0l:q0.length=q.length:=by rw[<-hq0,Tv]
 rw[hq0]at hqd⊢
 refine Yh (λz:PrM=>[(20,.int .i64 (z.i:Nat)),(19,.int .i64 q.length),(18,.slice qA q.length qcap),(1,.pointer (some ⟨g1,0,none⟩)),(4,.pointer (some ⟨gb,0,none⟩))])
  (λz=>bdP gb (if z.i=0 then .pointer none else .pointer (some ⟨gb,0,none⟩)) z.A z.cap (plnT q0 z.i) [blk g1 (.cells #[.int .i64 n.nodes,.slice n.pA n.rows.length n.pcap,.int .i64 n.noise,.int .i64 n.thr,.slice n.lA n.links.length n.lcap,.slice n.mA n.margin.length n.mcap,.slice qA q.length qcap,.int .i64 s.len,.int .i64 s.off,.slice s.A s.cells.length s.cap,.slice cA c.length ccap,.slice fA f.length fcap] 35 (0,0))]) (λz=>z.i<=q.length) (λz=>q.length-z.i) ⟨0,none,0⟩ (Tm _) ?_ ?_ ?_
 ·exact zc1
 ·intro w hw
  have h5:St B w0 [blk gb (.cells (Value.agg #[.pointer none,.slice none 0 0]).cells 175 (0,0)),blk g1 (.cells #[.int .i64 n.nodes,.slice n.pA n.rows.length n.pcap,.int .i64 n.noise,.int .i64 n.thr,.slice n.lA n.links.length n.lcap,.slice n.mA n.margin.length n.mcap,.slice qA q.length qcap,.int .i64 s.len,.int .i64 s.off,.slice s.A s.cells.length s.cap,.slice cA c.length ccap,.slice fA f.length fcap] 35 (0,0))] w:=by
   revert w
   exact zc0
  exact(h5.nilSlice 5 1).perm (.swap _ _ _)
 rintro⟨k,A1,cap1⟩ hk2 K hK
 dsimp only at hk2⊢
 have htl:=YiH hqd k (by omega)
 by_cases hlt:k<q.length
 rotate_left
 ·obtain rfl:k=q.length:=by omega
  obtain⟨pp,hpp⟩:∃p,(if q.length=0 then Value.pointer none else .pointer (some ⟨gb,0,none⟩))=p:=⟨_,rfl⟩
  have hp2:pp=.pointer none\/pp=.pointer (some ⟨gb,0,none⟩):=by rw[<-hpp];split<;>simp
  rw[hpp,hq0l]
  clear hK
  unfold bdP
  refine Ybj ?_<;>intros
  first|apply Yb en85|apply Yc en85
  exact za
  exact rfl
  exactλ_ hw=>(p2 (hrs.mono zc0) hw)
  refine YdJ ?_
  first|apply Yb en86|apply Yc en86
  exact za
  exact rfl
  exactλ_ hw=>(p3 (hc.mono zc0) hw)
  refine YdJ ?_
  apply Ye _ en87
  exact za
  exact rfl
  exactλ_ hw=>(Oe (l:=plnT q0 q.length) hp2 (hw))
  rintro _ _ ⟨rfl,rfl⟩
  repeat'(first|(apply UQ (plnT q0 q.length) sT;(iterate 3 exact rfl);omega)|(apply UQ (plnT q0 q.length++sT) cT;(iterate 3 exact rfl);(rw[To];omega))|refine zga ?_|fail)
  apply YL;(iterate 3 exact rfl)
  rfl
 obtain⟨x,hx⟩:∃x,q[k]? =some x:=⟨_,Ta hlt⟩
 have hxm:=Tc hx
 have hx0:q0[k]? =some x.rq:=by rw[<-hq0,TM,hx];rfl
 have hxd:=hqd x.rq (Tc hx0)
 have hxi:=hq.x x hxm
 have hqr:=hq.rd
 obtain⟨pp,hpp⟩:∃p,(if k=0 then Value.pointer none else .pointer (some ⟨gb,0,none⟩))=p:=⟨_,rfl⟩
 have hp2:pp=.pointer none\/pp=.pointer (some ⟨gb,0,none⟩):=by rw[<-hpp];split<;>simp
 rw[hpp]
 have hxn:=hxd.n
 have hxn2:x.rq.2.length=x.rows.length:=Tv _
 have hf0:=YbG hxd 0 (Tm _)
 have ef:rqT x.rq 0=XF wordF (QC x.f):=by unfold rqT;simp;rfl
 rw[ef]at hf0
 have l1:=λ{g:Nat}{cap:Nat}{H':List HP}{w:World}(hm:blk g (.cells #[.int .i64 x.f.1,.int .i64 x.f.2.1,.int .i64 x.f.2.2.1,.int .i64 x.f.2.2.2.1,.int .i64 x.f.2.2.2.2.1,.int .i64 x.f.2.2.2.2.2] 3 (0,0))∈H') (hw:St B w0 H' w)=>Ydd wordF (QC x.f) hxd.f (by show 6<=100;decide) (by decide) (A:=some ⟨g,0,none⟩) (cap:=cap) ht (show Rd B w0 H' _ ((QC x.f).flatMap numF) from Rd.blk (cs:=#[.int .i64 x.f.1,.int .i64 x.f.2.1,.int .i64 x.f.2.2.1,.int .i64 x.f.2.2.2.1,.int .i64 x.f.2.2.2.2.1,.int .i64 x.f.2.2.2.2.2]) hm) hw
 obtain⟨s1,hs1⟩:∃s,XF wordF (QC x.f)=s:=⟨_,rfl⟩
 rw[hs1]at l1 hf0 ef
 unfold bdP
 refine Q5 ?_<;>intros
 rename_i gx gf gl
 first|apply Yb en84|apply Yc en84
 exact za
 exact rfl
 exactλ_ hw=>(l1 (by(focus exact zc2)) hw)
 apply Xv (bdP gb pp A1 cap1 (plnT q0 k) [rqA gx x,blk g1 (.cells #[.int .i64 n.nodes,.slice n.pA n.rows.length n.pcap,.int .i64 n.noise,.int .i64 n.thr,.slice n.lA n.links.length n.lcap,.slice n.mA n.margin.length n.mcap,.slice qA q.length qcap,.int .i64 s.len,.int .i64 s.off,.slice s.A s.cells.length s.cap,.slice cA c.length ccap,.slice fA f.length fcap] 35 (0,0))])
 ·unfold bdP
  exact zc0
 apply Ye _ en83
 exact za
 exact rfl
 exactλ_ hw=>(JP gb pp hp2 A1 cap1 (plnT q0 k) s1 (by omega) (hw))
 rintro _ _ ⟨rfl,A2,cap2,rfl⟩
 unfold bdP
 refine YdJ ?_
 refine Yh (λz:PrM=>[(44,.int .i64 (z.i:Nat)),(43,.int .i64 x.rows.length),(42,.slice x.A x.rows.length x.cap),(20,.int .i64 (k:Nat)),(19,.int .i64 q.length),(18,.slice qA q.length qcap),(1,.pointer (some ⟨g1,0,none⟩)),(4,.pointer (some ⟨gb,0,none⟩))])
  (λz=>bdP gb (.pointer (some ⟨gb,0,none⟩)) z.A z.cap (plnT q0 k++rqT x.rq z.i) [blk g1 (.cells #[.int .i64 n.nodes,.slice n.pA n.rows.length n.pcap,.int .i64 n.noise,.int .i64 n.thr,.slice n.lA n.links.length n.lcap,.slice n.mA n.margin.length n.mcap,.slice qA q.length qcap,.int .i64 s.len,.int .i64 s.off,.slice s.A s.cells.length s.cap,.slice cA c.length ccap,.slice fA f.length fcap] 35 (0,0))]) (λz=>z.i<=x.rows.length) (λz=>x.rows.length-z.i) ⟨0,A2,cap2⟩ (Tm _) ?_ ?_ ?_
 ·exact zc1
 ·dsimp only
  rw[ef]
  unfold bdP
  exact zc0
 rintro⟨j,A3,cap3⟩ hj K2 hK2
 dsimp only at hj⊢
 have hjl:=YbG hxd j (by omega)
 by_cases hjx:j<x.rows.length
 rotate_left
 ·obtain rfl:j=x.rows.length:=by omega
  clear hK2
  have hst:=Yfl hx0
  rw[hxn2]at hst
  rw[<-hst]
  unfold bdP
  refine zX0 ?_<;>intros
  apply hK ⟨k+1,A3,cap3⟩
  ·show k+1<=q.length
   omega
  ·exact zc36
  ·exact zc1
  ·dsimp only
   rw[Tf (Nat.succ_ne_zero k)]
   unfold bdP
   exact zc0
 obtain⟨r,hr⟩:∃r,x.rows[j]? =some r:=⟨_,Ta hjx⟩
 have hrm:=Tc hr
 have hrt:=hxi.rt
 have hrx:r.xs∈x.rq.2:=TE.2 ⟨r,hrm,rfl⟩
 have hst:=Yqt x.rq j
 have hrj:rtAt x.rq.2 j=r.xs:=UL hr
 rw[hrj]at hst
 have h9:=hxd.l _ hrx
 have l2:=λ{H':List HP}{w:World}(hr:Rd B w0 H' r.A (r.xs.flatMap numF)) (hw:St B w0 H' w)=>Ydd wordR r.xs (hxd.r _ hrx) (by omega) (by decide) (cap:=r.cap) ht hr hw
 have hl2:=Zb (w:=wordR) (hxd.r _ hrx)
 have e5:wordR.length=5:=rfl
 obtain⟨s2,hs2⟩:∃s,XF wordR r.xs=s:=⟨_,rfl⟩
 rw[hs2]at l2 hl2 hst
 unfold bdP
 refine zX1 ?_<;>intros
 first|apply Yb en84|apply Yc en84
 exact za
 exact rfl
 exactλ_ hw=>(l2 ((hxi.rw_ r hrm).mono zc0) hw)
 apply Xv (bdP gb (.pointer (some ⟨gb,0,none⟩)) A3 cap3 (plnT q0 k++rqT x.rq j) [blk g1 (.cells #[.int .i64 n.nodes,.slice n.pA n.rows.length n.pcap,.int .i64 n.noise,.int .i64 n.thr,.slice n.lA n.links.length n.lcap,.slice n.mA n.margin.length n.mcap,.slice qA q.length qcap,.int .i64 s.len,.int .i64 s.off,.slice s.A s.cells.length s.cap,.slice cA c.length ccap,.slice fA f.length fcap] 35 (0,0))])
 ·unfold bdP
  exact zc0
 apply Ye _ en83
 exact za
 exact rfl
 exactλ_ hw=>(JP gb _ (.inr rfl) A3 cap3 (plnT q0 k++rqT x.rq j) s2 (by rw[To];omega) (hw))
 rintro _ _ ⟨rfl,A4,cap4,rfl⟩
 unfold bdP
 refine zX9 ?_
 apply hK2 ⟨j+1,A4,cap4⟩
 ·show j+1<=x.rows.length
  omega
 ·exact zc36
 ·exact zc1
 ·dsimp only
  intro w hw
  rw[hst,show plnT q0 k++(rqT x.rq j++s2)=plnT q0 k++rqT x.rq j++s2 from(Ru _ _ _).symm]
  unfold bdP
  exact hw
theorem YiK(p:PnM)(ht:TabsB B w0)(hp:p.In B w0 H)(hw:St B w0 H w):
 CX B w0 32 [p.val] w λv K=>v=.tuple #[strV (O9 p.pln).1,.int .i64 (O9 p.pln).2]/\K=H:=
 WJ hw (YnX p (ht.here hw) (hp.here hw) (St.start w))
variable {B:Nat}{w0 w:World}{H:List HP}
theorem PnM.In.inX{X:List HP}{p:PnM}(h:p.In B w0 [many X])(hm:many X∈H):p.In B w0 H:=h.mono λ_ hw=>(hw.inM hm).perm (.closeT X)
theorem Yvf:∀l:List RqM,∀v∈l.flatMap rqF,v.oneCell'=true:=λl v hv=>by
 obtain⟨a,_,ha⟩:=SQ.1 hv
 revert ha
 simp only[rqF,TV,RJ,N4]
 rintro h
 repeat'(rcases h with rfl|h)
 all_goals(try subst h)
 all_goals rfl
theorem Yf3(l:List RqM)(i:Nat)(hi:i<l.length)(hlen:l.length<=1000){A:Option Addr}{cap:Nat}(hw:St B w0 (rqs A cap l::H) w):
 CX B w0 90 [.slice A l.length cap,.int .i64 i,.int .i64 ((i:Int)+1)] w λv K=>v=.slice A (l.eraseIdx i).length cap/\K=rqs A cap (l.eraseIdx i)::H:=by
 refine Ya Tryz.func90 Tryz.ntmps90 rfl rfl hw ?_
 unfold rqs
 refine Qg (k:=l.length) (cap:=cap) zm λhcap=>?_
 have hel:(l.eraseIdx i).length=l.length-1:=List.length_eraseIdx_of_lt hi
 have hfl:=YaR (f:=rqF) (q:=7) (λ_=>rfl) l i hi
 have hone:=Yvf l
 repeat'(first|(apply YmE T;(iterate 6 exact rfl);omega)|refine zgc ?_|(refine zge ?_ ?_<;>intro _<;>try exact zo)|fail)
 apply YD [0,1,2,3,4,5,6,7] [] [false]
 kernel_rfl
 kernel_rfl
 exact zy
 (simp only[Yd,nthO];rfl)
 exact rfl
 repeat'(first|refine zga ?_|fail)
 apply Jh T (l:=l) (n':=i);(iterate 4 exact rfl);omega;exact hcap;omega
 rw[Ydx]
 repeat'(first|refine zga ?_|fail)
 apply X0 T (n':=l.length-(i+1));(iterate 4 exact rfl);omega;omega
 rw[show((i:Int)+1).toNat=i+1 by omega]
 repeat'(first|refine zgd ?_|fail)
 apply YfH T (e:=56) (size:=7) (k:=l.length) (i:=i) (j:=i+1) (xs:=l.flatMap rqF);(iterate 4 exact rfl);exact zd;exact hone;omega
 rw[hfl,show i+(l.length-(i+1))=(l.eraseIdx i).length by omega]
 repeat'(first|(apply Yj;try exact zl)|refine zgd ?_|fail)
 apply WC T (n':=1);(iterate 5 exact rfl);omega;omega
 rw[show(((l.eraseIdx i).length:Nat):Int).toNat=(l.eraseIdx i).length by omega]
 apply Qj T T2 (e:=56) (size:=7) (k:=(l.eraseIdx i).length) (xs:=(l.eraseIdx i).flatMap rqF);exact rfl;exact zm;(iterate 3 exact rfl);omega
 repeat'(first|refine zga ?_|fail)
 apply Yf;exact rfl;exact rfl;exact⟨rfl,rfl⟩
theorem Yl0{α β:Type}(g:α->β)(p:β->Bool):∀(l:List α) (k:Int),Yi p (l.map g) k=Yi (λx=>p (g x)) l k
 |[],_=>rfl
 |a::l,k=>by
  rw[Rh]
  unfold Yi
  rw[Yl0 g p l (k+1)]
theorem YpK{α:Type}(p:α->Bool):∀(l:List α) (k:Int),0<=k->Yi p l k= -1\/(k<=Yi p l k/\Yi p l k<k+l.length)
 |[],k,_=>.inl rfl
 |a::l,k,h=>by
  have ih:=YpK p l (k+1) (by omega)
  grind [Yi]
theorem YqM(y:RqM)(id:Int)(g:Nat)(hm:intA g id∈H)(hw:St B w0 H w):
 CX B w0 89 [rqV y,.pointer (some ⟨g,0,none⟩)] w λv K=>v=.bool (decide (y.f.1=id))/\K=H:=by
 refine Ya Tryz.func89 Tryz.ntmps89 rfl rfl hw ?_
 unfold rqV
 by_cases h:y.f.1=id
 ·rw[Ti h]
  refine zX43 ?_<;>intros
  all_goals(apply Yg H;((intro w hw;refine hw.perm ?_;focus exact zc3));exact zc13)
 ·rw[Tn h]
  refine zX43 ?_<;>intros
  all_goals(apply Yg H;((intro w hw;refine hw.perm ?_;focus exact zc3));exact zc13)
theorem YjU(s:Sch)(id:Int):(QA s id).1.cells.length<=s.cells.length:=by
 unfold QA
 split
 ·exact YdM
 ·exact Ymo
theorem Ybs(p:PnM)(id:Int)(ht:TabsB B w0)(hp:p.In B w0 H)(hw:St B w0 H w):
 CX B w0 33 [p.val,.int .i64 id] w (Yk4 B w0 H (wdrP p.pln id)):=by
 refine Ya Tryz.func33 Tryz.ntmps33 rfl rfl hw ?_
 have p1:=λ{H':List HP}{w:World}(hp:p.In B w0 H') (hw:St B w0 H' w)=>Vf p ht hp hw
 have hop:∀w,St B w0 [many H] w->St B w0 H w:=λw hw=>hw.perm (.openT H)
 have hpM:∀{H':List HP},many H∈H'->p.In B w0 H':=λhm=>hp.mono λw hw=>hw.inM hm
 obtain⟨n,qA,qcap,q,s,cA,ccap,c,fA,fcap,f⟩:=p
 have hinM:∀{H':List HP},many H∈H'->n.In B w0 H':=λhm=>(hpM hm).n
 have hqM:∀{H':List HP},many H∈H'->QIn B w0 H' qA q:=λhm=>(hpM hm).q
 have hrsM:∀{H':List HP},many H∈H'->Rd B w0 H' s.A (s.cells.flatMap celF):=λhm=>(hpM hm).s
 have hsl:s.cells.length<=1000000000000:=hp.sl
 have p2:=λ{H':List HP}{w:World}(hrs:Rd B w0 H' s.A (s.cells.flatMap celF)) (hw:St B w0 H' w)=>Ymr s id ht hrs hsl hw
 unfold PnM.val at p1⊢
 have hpl:(⟨n,qA,qcap,q,s,cA,ccap,c,fA,fcap,f⟩:PnM).pln=⟨n.net,q.map RqM.rq,s.sch,c.map ClM.clm,f⟩:=rfl
 rw[hpl]at p1⊢
 unfold wdrP
 dsimp only at p1⊢
 refine XM [many H] (λw hw=>hw.perm (.closeT H)) ?_
 by_cases hk:chkP ⟨n.net,q.map RqM.rq,s.sch,c.map ClM.clm,f⟩=0
 rotate_left
 ·rw[Tj hk]
  repeat'(first|(apply zg23;first|(refine zs52 ?_;intro _)|(refine zs53 ?_;intro _))|refine zgb ?_|(refine zgh ?_;intro _)|fail)
  first|apply Yb en9|apply Yc en9
  exact za
  exact rfl
  exactλ_ hw=>(p1 (hpM zm) hw)
  repeat'(first|refine zgd ?_|(refine zge ?_ ?_<;>intro _<;>try exact zo)|fail)
  apply Yw T (H2:=H);(iterate 3 exact rfl);exact zm;exact rfl;exact rfl
  ·intro w hw
   have h5:St B w0 [many H] w:=by
    revert w
    exact zk
   exact hop w h5
  exact .inl ⟨rfl,rfl,rfl⟩
 have hq16:q.length<=16:=by
  have:=(Yme (YhA (YhB hk))).1
  rwa [Tv]at this
 rw[hk]at p1
 rw[Tf (λe=>e hk)]
 have hidx:idQ (q.map RqM.rq) id=Yi (λy:RqM=>decide (y.f.1=id)) q 0:=Yl0 _ _ _ _
 rw[hidx]
 repeat'(first|(apply zg23;first|(refine zs52 ?_;intro _)|(refine zs53 ?_;intro _))|refine zgb ?_|(refine zgh ?_;intro _)|fail)
 rename_i g2 g3 g4
 first|apply Yb en9|apply Yc en9
 exact za
 exact rfl
 exactλ_ hw=>(p1 (hpM zm) hw)
 repeat'(first|(apply zg29;(apply Yo;exact za;exact rfl))|refine zgb ?_|(refine zge ?_ ?_<;>intro _<;>try exact zo)|fail)
 first|apply Yb en88|apply Yc en88
 exact za
 exact rfl
 exactλ_ hw=>(YcQ (λy=>decide (y.f.1=id)) q 89 [.pointer (some ⟨g3,0,none⟩)] en89 (by omega) (hqM zm).rd (λa _ w hw=>YqM a id g3 zm hw) hw)
 have hil:=YpK (λy:RqM=>decide (y.f.1=id)) q 0 (by omega)
 generalize Yi (λy:RqM=>decide (y.f.1=id)) q 0=k at hil⊢
 by_cases hk0:k<0
 ·rw[Tj hk0]
  repeat'(first|refine zgd ?_|(refine zge ?_ ?_<;>intro _<;>try exact zo)|fail)
  apply Yw T (H2:=H);(iterate 3 exact rfl);exact zm;exact rfl;exact rfl
  ·intro w hw
   have h5:St B w0 [many H] w:=by
    revert w
    exact zk
   exact hop w h5
  exact .inl ⟨rfl,rfl,rfl⟩
 rw[Tf hk0]
 obtain⟨j,rfl⟩:∃j:Nat,k=j:=⟨k.toNat,by omega⟩
 have hj:j<q.length:=by omega
 rw[Rx]
 have hdel:delQ (q.map RqM.rq) j=(q.eraseIdx j).map RqM.rq:=by
  unfold delQ
  rw[List.eraseIdx_eq_take_drop_succ,Rb,List.map_take,List.map_drop]
 rw[hdel]
 have hdc:=YjU s.sch id
 unfold OutS SchM.val at p2
 generalize QA s.sch id=R at p2 hdc⊢
 obtain⟨t,te⟩:=R
 dsimp only at p2 hdc⊢
 have htl:t.cells.length<=1000000000000:=TU hdc hsl
 repeat'(first|(apply Yk T;exact rfl;exact zm;exact rfl;exact zv;exact rfl;exact rfl)|refine zgb ?_|(refine zge ?_ ?_<;>intro _<;>try exact zo)|fail)
 apply YD [0,1,2,3,5,6,7,4,8,9,10,11,12] [] [true,true,true,true]
 kernel_rfl
 kernel_rfl
 exact zy
 (simp only[Yd,nthO];rfl)
 exact rfl
 repeat'(first|(apply Yk T;exact rfl;exact zm;exact rfl;exact zv;exact rfl;exact rfl)|refine zgd ?_|fail)
 apply Ye _ en91
 exact za
 exact rfl
 exactλ_ hw=>(WK q (by omega) (hqM zm).rd (hw))
 rintro _ _ ⟨A1,c1,rfl,rfl⟩
 repeat'(first|(apply Yk T;exact rfl;exact zm;exact rfl;exact zv;exact rfl;exact rfl)|(apply Yj;try exact zl)|refine zgd ?_|fail)
 apply Xt [rqs A1 c1 q] _ en90
 exact za
 try exact zl
 exact zp
 exact rfl
 exactλ_ hw=>(Yf3 q j hj (by omega) hw)
 rintro _ _ ⟨rfl,rfl⟩
 repeat'(first|(apply Yk T;exact rfl;exact zm;exact rfl;exact zv;exact rfl;exact rfl)|(apply Yj;try exact zl)|refine zgd ?_|(refine zgh ?_;intro _)|fail)
 rename_i g7
 apply Ye _ en92
 exact za
 exact rfl
 exactλ_ hw=>(p2 (hrsM zm) (hw))
 rintro _ _ ⟨A4,c4,rfl,rfl⟩
 repeat'(first|(apply Yk T;exact rfl;exact zm;exact rfl;exact zv;exact rfl;exact rfl)|refine zgd ?_|fail)
 apply Xv (bldA g7 ⟨n,A1,c1,q.eraseIdx j,⟨t.len,t.off,A4,c4,t.cells⟩,none,0,[],none,0,[],te⟩::rqs A1 c1 (q.eraseIdx j)::cels A4 c4 t.cells::blk g4 (.cells zeroPnV.cells 35 (0,0))::[many H])
 ·intro w hw
  have h5:St B w0 (blk g7 (.cells #[.int .i64 n.nodes,.slice n.pA n.rows.length n.pcap,.int .i64 n.noise,.int .i64 n.thr,.slice n.lA n.links.length n.lcap,.slice n.mA n.margin.length n.mcap,.slice A1 (q.eraseIdx j).length c1,.int .i64 t.len,.int .i64 t.off,.slice A4 t.cells.length c4,.slice none 0 0,.slice none 0 0,.int .i64 te] 164 (0,0))::rqs A1 c1 (q.eraseIdx j)::cels A4 c4 t.cells::blk g4 (.cells (Value.agg #[.int .i64 0,.slice none 0 0,.int .i64 0,.int .i64 0,.slice none 0 0,.slice none 0 0,.slice none 0 0,.int .i64 0,.int .i64 0,.slice none 0 0,.slice none 0 0,.slice none 0 0]).cells 35 (0,0))::[many H]) w:=by
   revert w
   exact zk
  exact h5
 have hqe:∀{H':List HP},many H∈H'->rqs A1 c1 (q.eraseIdx j)∈H'->QIn B w0 H' A1 (q.eraseIdx j):=λh1 h2=>⟨YkA h2,λx hx=>(hqM h1).x x (List.mem_of_mem_eraseIdx hx),by have:=List.length_eraseIdx_le q j;omega⟩
 apply Xt [bldA g7 ⟨n,A1,c1,q.eraseIdx j,⟨t.len,t.off,A4,c4,t.cells⟩,none,0,[],none,0,[],te⟩] _ en82
 exact za
 try exact zl
 exact zp
 exact rfl
 exactλ_ hw=>(Un ⟨n,A1,c1,q.eraseIdx j,⟨t.len,t.off,A4,c4,t.cells⟩,none,0,[],none,0,[],te⟩ g7 ht (hinM zm) (hqe zm zm) (Wf (cap:=c4) zm) htl hw)
 rintro _ _ hO
 dsimp only at hO
 rcases hO with⟨h1,rfl,rfl⟩|⟨p,X,h1,rfl,hp,rfl⟩
 ·unfold zeroPnV
  repeat'(first|refine zgc ?_|fail)
  apply Yw T (H2:=H);(iterate 3 exact rfl);exact zm;exact rfl;exact rfl
  ·intro w hw
   have h5:St B w0 [many H] w:=by
    revert w
    exact zk
   exact hop w h5
  exact .inl ⟨h1,rfl,rfl⟩
 ·unfold PnM.val
  repeat'(first|refine zgc ?_|fail)
  apply Yw T (H2:=many [many X,cels A4 c4 t.cells]::H);(iterate 3 exact rfl);exact zm;exact rfl;exact rfl
  ·intro w hw
   have h5:St B w0 (many X::cels A4 c4 t.cells::[many H]) w:=by
    revert w
    exact zk
   exact(h5.perm (.cons _ (.cons _ (.openT H)))).perm (.close [_,_] H)
  exact .inr ⟨p,_,h1,rfl,(hp _ (Wf (cap:=c4) (.head _))).mono λw hw=>(hw.perm (.open_ [_,_] [])),rfl⟩
end Go.Proofs.YtambgjgljcadlaaGreatDoor
namespace Go.Rt
open Go.Nw
def YjR(nodes:Nat)(l:List Lk)(to:Int)(far:List Int):Bool:=
 decide (far.length=nodes)&&decide (Yl far to=0)&&((List.range nodes).all λv:Nat=>decide (0<=Yl far v/\Yl far v<=Xg))&&
 ((List.range nodes).all λv:Nat=>decide ((v:Int)=to)||decide (¬Yl far v<Xg)||l.any λa=>decide (a.1=v/\Yl far a.2.1+a.2.2<=Yl far v))&&
 l.all λa=>decide (¬Yl far a.2.1<Xg)||decide (Yl far a.1<=Yl far a.2.1+a.2.2)
variable {l:List Lk}{to:Int}{far:List Int}
theorem Ym4{nodes:Nat}(h:YjR nodes l to far=true):Dist nodes l to far:=by
 unfold YjR at h
 simp only[Tq,TK,RO,Tt,Re,TN]at h
 obtain⟨⟨⟨⟨h1,h2⟩,h3⟩,h4⟩,h5⟩:=h
 refine⟨h1,h2,λv h0 hn=>?_,λv h0 hn hne hlt=>?_,λa ha hlt=>?_⟩
 ·have:=h3 v.toNat (by omega)
  grind
 ·have:=h4 v.toNat (by omega)
  grind
 grind
def Yo5(nodes:Nat)(l:List Lk):Bool:=l.all λa=>decide ((0<=a.1/\a.1<nodes)/\(0<=a.2.1/\a.2.1<nodes)/\(1<=a.2.2/\a.2.2<=1000000))
theorem YmR{nodes:Nat}(h:Yo5 nodes l=true):ArcsOk nodes l:=λa ha=>by
 have:=TK.1 h a ha
 simp_all
theorem YjS{nodes:Nat}(h1:Yo5 nodes l=true)(h:YjR nodes l to far=true):J8 nodes l to=far:=Qy (YmR h1) (Ym4 h)
end Go.Rt
namespace Go.Proofs.YtambgjgljcadlaaGreatDoor
open Go.RowKit Go.Eng Go.Nw Go.Rt
def exN5:Net:=⟨2,[[0,9],[9,0]],1,1000,[(0,1,0),(1,0,0)],[9,9]⟩
def exF5:Flw:=(1,0,1,2,0,2)
def exS5:Sch:=⟨2,1,[(0,0,0,1,1)]⟩
def exP5:Pln:=⟨exN5,[(exF5,[[0,1]])],exS5,[⟨1,[[0,1]],[1],[0],[[0]]⟩],[0,1]⟩
def exA5:List Lk:=[(0,1,1),(1,0,1)]
theorem YhM:JW exN5=exA5:=by decide
theorem YhN:Z8 exN5 0 1=0:=by decide
theorem YpA:∃x es,YaJ 100000 2 exA5 0 0 1 (λ_=>false)=some (x,false,es):=by
 have h:(YaJ 100000 2 exA5 0 0 1 (λ_=>false)).map (λr=>r.2.1)=some false:=by decide
 simp_all
theorem YeO:Wz 100000 exN5 0 1=some (none,17):=by
 obtain⟨x,es,hb⟩:=YpA
 have hp:Yfh 100000 2 exA5 0 1=some none:=by
  simp_all [Yfh]
 unfold Wz
 rw[Tf (by grind [YhN]),YhM,show exN5.nodes.toNat=2 from rfl,hp]
theorem YpC:VM exN5 exF5=(none,17):=by
 grind [VM,exF5,YeO]
theorem YrM:Wz 100000 exN5 exF5.2.1 exF5.2.2.1=some (VM exN5 exF5):=by
 exact YeO
theorem Yna:ZR exN5 0 1=([0,1],0):=by
 have hr:Qb exN5 0 1=[0,1]:=by
  unfold Qb
  rw[YhM,show exN5.nodes.toNat=2 from rfl,YjS (far:=[34,0]) (by decide) (by decide)]
  decide
 grind [ZR,YhN]
theorem YlS:reqE exN5 exF5=((exF5,[[0,1]]),0):=by
 grind [reqE,YpC,VX,exF5,Yna]
theorem Ym9:VW exN5 [exF5]=([(exF5,[[0,1]])],(-1,0)):=by
 have h1:Ydf exN5 [exF5]=(-1,0):=by
  grind [Ydf,YT,Xk,YlS]
 unfold VW
 rw[h1,Tf (by decide),Tf (by decide),Tf (by decide),Rh,N5,YlS]
theorem Ym8:YfY exN5 [(exF5,[[0,1]])] 2 1=(some exP5,0):=by rfl
theorem YpB:Yl3 exN5 [exF5] 2 1=(some exP5,0):=by
 unfold Yl3
 rw[Ym9,Tf (by decide),Tf (by decide),Tf (by decide),Tf (by decide)]
 exact Ym8
theorem YlR:chkP exP5=0:=by decide
def exR5:Pln:=⟨exN5,[],⟨2,1,[]⟩,[],[1,1]⟩
theorem YrN:∃p,wdrP exP5 1=(some p,0)/\p.q=[]/\p.s.cells=[]:=⟨exR5,by rfl,rfl,rfl⟩
theorem Yam{n:Int}(h:0<=n/\n<10):Lib.itoa n=[UInt8.ofNat (48+n.toNat)]:=by
 grind [Yia,Go.Lib.decDigits_one]
def exT5:List UInt8:=[102,108,111,119,32,49,32,48,32,49,32,50,32,48,32,50,10,114,111,117,116,101,32,48,32,49,10,115,99,104,101,100,117,108,101,32,50,32,49,10,99,101,108,108,32,48,32,48,32,48,32,49,32,49,10,102,108,111,119,32,49,10,114,111,117,116,101,32,48,32,49,10,98,111,117,110,100,32,49,32,48,10,115,108,111,116,115,32,48,10]
theorem YpD:O9 exP5=(exT5,0):=by
 have h0:Lib.itoa 0=[48]:=Yam (by omega)
 have h1:Lib.itoa 1=[49]:=Yam (by omega)
 have h2:Lib.itoa 2=[50]:=Yam (by omega)
 unfold O9
 rw[Tf (by grind [YlR])]
 unfold exP5 exS5 exF5 Xs VN
 rw[Tf (by decide),Tf (by decide)]
 unfold plnT Ymi Ymc Yi6
 simp only[TR,ND,TS,Rj,List.take,show List.range (0+1)=[0] from rfl]
 unfold Ymd rqT XF Zh QC nums rtAt
 simp[h0,h1,h2,exT5,wordF,wordR,YdE,YdF]
 rfl
variable {B:Nat}{w0 w:World}{H:List HP}
theorem YjV(hw:St B w0 H w):
 CX B w0 30 [] w λv K=>∃(n:NetM) (A:Option Addr),v=.tuple #[n.val,.slice A 1 1]/\n.net=exN5/\n.In B w0 K/\Rd B w0 K A ([exF5].flatMap flwF)/\∀w,St B w0 K w->St B w0 H w:=by
 refine Ya Tryz.func30 Tryz.ntmps30 rfl rfl hw ?_
 repeat'(first|refine zgd ?_|(refine zgh ?_;intro _)|fail)
 rename_i g0 r1 r2 gp gl gm g2 gf
 apply Yw T;(iterate 3 exact rfl);exact zm;exact rfl;exact rfl;exactλw hw=>hw
 refine⟨⟨2,(some ⟨gp,0,none⟩),2,[⟨(some ⟨r1,0,none⟩),2,[0,9]⟩,⟨(some ⟨r2,0,none⟩),2,[9,0]⟩],1,1000,(some ⟨gl,0,none⟩),2,[(0,1,0),(1,0,0)],(some ⟨gm,0,none⟩),2,[9,9]⟩,(some ⟨gf,0,none⟩),rfl,rfl,?_,?_,?_⟩
 ·refine⟨Rd.blk (cs:=#[.slice (some ⟨r1,0,none⟩) 2 2,.slice (some ⟨r2,0,none⟩) 2 2]) (t:=24) (fr:=(0,0)) zm,λr hr=>?_,Rd.blk (cs:=#[.int .i64 0,.int .i64 1,.int .i64 0,.int .i64 1,.int .i64 0,.int .i64 0]) (t:=124) (fr:=(0,0)) zm,Rd.blk (cs:=#[.int .i64 9,.int .i64 9]) (t:=3) (fr:=(0,0)) zm,by show 2<=_;omega,λr hr=>?_,by show 2<=_;omega,by show 2<=_;omega⟩
  ·simp only[TV,RJ,N4]at hr
   rcases hr with rfl|rfl
   ·exact Rd.blk (cs:=#[.int .i64 0,.int .i64 9]) (t:=3) (fr:=(0,0)) zm
   ·exact Rd.blk (cs:=#[.int .i64 9,.int .i64 0]) (t:=3) (fr:=(0,0)) zm
  ·simp only[TV,RJ,N4]at hr
   rcases hr with rfl|rfl<;>(show 2<=_;omega)
 ·exact Rd.blk (cs:=#[.int .i64 1,.int .i64 0,.int .i64 1,.int .i64 2,.int .i64 0,.int .i64 2]) (t:=53) (fr:=(0,0)) zm
 ·exact zk
theorem Yjb(ht:TabsB B w0)(hw:St B w0 H w):
 CX B w0 7 [] w λv K=>v=.bool true/\K=H:=by
 refine Ya Tryz.func7 Tryz.ntmps7 rfl rfl hw ?_
 repeat'(first|refine zga ?_|fail)
 apply Ye _ en30
 exact za
 exact rfl
 exactλ_ hw=>(YjV (hw))
 rintro _ K0 ⟨n,A,rfl,hn,hin,hr,hback⟩
 have p1:∀{H':List HP}{w:World},n.In B w0 H'->Rd B w0 H' A ([exF5].flatMap flwF)->St B w0 H' w->CX B w0 31 [n.val,.slice A 1 1,.int .i64 2,.int .i64 1] w (Yk4 B w0 H' (some exP5,0)):=λhin hr hw=>by
  have h:=Yim n [exF5] 2 1 (by omega) (by decide) (λf hf=>by rw[TO.1 hf,hn];exact YrM) (cap:=1) ht hin hr hw
  rw[hn,YpB]at h
  exact h
 unfold NetM.val
 unfold NetM.val at p1
 repeat'(first|refine zgc ?_|(refine zgh ?_;intro _)|fail)
 apply Ye _ en31
 exact za
 exact rfl
 exactλ_ hw=>(p1 (hin.mono zk) (hr.mono zk) (hw))
 rintro _ K1 (⟨h,-⟩|⟨p,X,hp,rfl,hpin,rfl⟩)
 ·cases h
 have hp:exP5=p.pln:=Tz hp
 have p2:∀{H':List HP}{w:World},p.In B w0 H'->St B w0 H' w->CX B w0 32 [p.val] w λv K=>v=.tuple #[strV exT5,.int .i64 0]/\K=H':=λhpin hw=>by
  have h:=YiK p ht hpin hw
  rw[<-hp,YpD]at h
  exact h
 have p3:∀{H':List HP}{w:World},p.In B w0 H'->St B w0 H' w->CX B w0 9 [p.val] w λv K=>v=.int .i64 0/\K=H':=λhpin hw=>by
  have h:=Vf p ht hpin hw
  rw[<-hp,YlR]at h
  exact h
 obtain⟨pw,hwd,hq0,hc0⟩:=YrN
 have p4:∀{H':List HP}{w:World},p.In B w0 H'->St B w0 H' w->CX B w0 33 [p.val,.int .i64 1] w (Yk4 B w0 H' (some pw,0)):=λhpin hw=>by
  have h:=Ybs p 1 ht hpin hw
  rw[<-hp,hwd]at h
  exact h
 have hf:p.f=[0,1]:=by have:=TC Pln.f hp;exact this.symm
 have p5:∀{A2:Option Addr}{cap2:Nat}{H':List HP}{w:World},Rd B w0 H' p.fA (p.f.flatMap numF)->Rd B w0 H' A2 ([0,1].flatMap numF)->St B w0 H' w->CX B w0 34 [.slice p.fA p.f.length p.fcap,.slice A2 2 cap2] w λu K=>u=.bool true/\K=H':=λ{A2 cap2 H' w} h1 h2 hw=>by
  have h:=Ycs p.f [0,1] (by rw[hf];decide) (cap:=p.fcap) (cap2:=cap2) h1 h2 hw
  rw[hf,Ti rfl]at h
  rw[hf]
  exact h
 unfold PnM.val
 unfold PnM.val at p2 p3 p4
 repeat'(first|refine zgc ?_|(refine zgh ?_;intro _)|fail)
 first|apply Yb en32|apply Yc en32
 exact za
 exact rfl
 exactλ_ hw=>(p2 (hpin.inX zm) hw)
 repeat'(first|refine zgc ?_|fail)
 apply Ye _ en33
 exact za
 exact rfl
 exactλ_ hw=>(p4 (hpin.inX zm) (hw))
 rintro _ K2 (⟨h,-⟩|⟨p',X',hp',rfl,hpin',rfl⟩)
 ·cases h
 have hp':pw=p'.pln:=Tz hp'
 have hq0':p'.q.length=0:=by
  have h1:(p'.q.map RqM.rq)=[]:=by rw[<-hq0,hp'];rfl
  rw[<-Tv (f:=RqM.rq),h1];rfl
 have hc0':p'.s.cells.length=0:=by
  have h1:p'.s.cells=[]:=by rw[<-hc0,hp'];rfl
  rw[h1];rfl
 unfold PnM.val
 rw[hq0',hc0']
 repeat'(first|((first|apply Yb en34|apply Yc en34);exact za;exact rfl;exactλ_ hw=>(p5 ((hpin.inX zm).f) (Rd.blk (cs:=#[.int .i64 0,.int .i64 1]) (t:=3) (fr:=(0,0)) zm) hw))|((first|apply Yb en9|apply Yc en9);exact za;exact rfl;exactλ_ hw=>(p3 (hpin.inX zm) hw))|(apply Yrs;(iterate 3 exact rfl);all_goals(intro hE;try(exact absurd rfl hE)))|refine zgc ?_|(refine zge ?_ ?_<;>intro _<;>try exact zo)|(refine zgh ?_;intro _)|fail)
 apply Yg H
 ·intro w hw
  refine hback w ?_
  revert w
  exact zk
 apply Yf;exact rfl;exact rfl
 exact⟨rfl,rfl⟩
theorem YuT{p:Pln}(h:chkP p=0):YsM p:=by
 unfold chkP at h
 split at h
 ·cases h
 split at h
 ·cases h
 split at h
 ·cases h
 split at h
 ·cases h
 split at h
 ·cases h
 rename_i h3 h4 h5
 have h3:=RE.1 h3
 have h4:=RE.1 h4
 refine⟨h3,?_,RE.1 λe=>h5 (.inl e),(RE.1 λe=>h5 (.inr e)).symm⟩
 unfold chkE at h4
 rw[Tf (λe=>e h3)]at h4
 by_cases hl:p.c.length=(YS p.n p.q p.s).1.length
 rotate_left
 ·rw[Tj hl]at h4;cases h4
 rw[Tf (λe=>e hl)]at h4
 refine List.ext_getElem hl λi h6 h7=>?_
 have:=YG.1 h4 i (Tm _) (by omega)
 by_cases e:VD p.c i=VD (YS p.n p.q p.s).1 i
 ·unfold VD at e
  rwa [Tu,Tu,Ta h6,Ta h7]at e
 ·rw[Tf e]at this;cases this
theorem cmpI_zero{a b:Int}:cmpI a b=0↔a=b:=by
 unfold cmpI
 omega
abbrev plnA(g:Nat)(n:NetM)(qA:Option Addr)(qcap:Nat)(q:List RqM)(s:SchM)(cA:Option Addr)(ccap:Nat)(c:List ClM)(fA:Option Addr)(fcap:Nat)(fm:List Int):HP:=blk g (.cells #[.int .i64 n.nodes,.slice n.pA n.rows.length n.pcap,.int .i64 n.noise,.int .i64 n.thr,.slice n.lA n.links.length n.lcap,.slice n.mA n.margin.length n.mcap,.slice qA q.length qcap,.int .i64 s.len,.int .i64 s.off,.slice s.A s.cells.length s.cap,.slice cA c.length ccap,.slice fA fm.length fcap] 35 (0,0))
theorem PnM.Bg.mono{B:Nat}{w0:World}{H H':List HP}{p:PnM}(h:p.Bg B w0 H)(hH:∀w,St B w0 H' w->St B w0 H w):p.Bg B w0 H':=⟨h.n.mono hH,h.q.mono hH,h.s.mono hH,h.sl,h.c.mono5 hH,h.f.mono hH,h.fl⟩
theorem Yid{n:Net}{s:Sch}{l:List Flw}{sl:Int}{st:List StM}{atts:List AttM}{dels:List (Int×Int×Int)}{out:List BrM}(hpl:Pl l s sl 0 ⟨st,atts,dels⟩)(hf32:(Yz 32 l).2=0){f:Flw}(hf:f∈l)(hl:1<=s.len){r:List Int}(hr:(Y4 n s f r).2=0)(hdl:(Y4 n s f r).1.1<=f.2.2.2.2.2)
 (hbr:∀(k:KL) b,Ya4 n k=some b->brO b (osK atts k) 0=true->∃x∈out,[x.f,x.k,x.u,x.v]=k) {k:Int}(hk0:0<=k) (hk1:YC f k+f.2.2.2.2.2<=sl) (hno:out.any (onBr f.1 k r)=false):
 ∃t,delT dels f.1 k=some t/\0<=t/\t-YC f k+1<=(Y4 n s f r).1.1:=by
 obtain⟨hw,b,hb,he⟩:=Ob hr
 obtain⟨hc,hfm,-,hmod,hck⟩:=YdD hw
 obtain⟨hg,hid⟩:=O2 hf32
 have hfx:=hg f hf
 obtain⟨h1,h2,-,h4⟩:=XW hfx
 have hfk:0<=YC f k:=by
  have:=SJ hk0 (show 0<=perF f by unfold perF;omega)
  unfold YC phaF
  omega
 rw[he]at hdl⊢
 dsimp only at hdl⊢
 obtain⟨hch,hloss,hne,-,-⟩:=Uh hck
 obtain⟨t,ht,htl,hun⟩:=Ynw (λf hf=>YrQ (hg f hf)) hid hpl hf hfm hl (by unfold phaF perF;omega) hmod hne hch hloss (b:=b) hb hk0 (by omega) (YnM hck hbr hno)
 refine⟨t,?_,(Ysr hpl).2 _ ht,htl⟩
 unfold delT
 cases hfi:dels.find? (Qx f.1 k)with
 |none=>exact absurd (show Qx f.1 k (f.1,k,t)=true from Ti ⟨rfl,rfl⟩) (by have:=SN.1 hfi _ ht;exact this)
 |some d=>
  have h6:Qx f.1 k d=true:=by grind
  have h5:=Rn (show decide (d.1=f.1/\d.2.1=k)=true from h6)
  have:=hun d (List.mem_of_find?_eq_some hfi) h5.1 h5.2
  rw[Sl,this]
theorem YpU(p:PnM)(xs:List RuM){xA:Option Addr}{xc B:Nat}{w0:World}{H:List HP}{w:World}(ht:TabsB B w0)(hp:p.Bg B w0 H)(hx:XIn B w0 H xA xs)(hxl:xs.length<=9223372036854775807)(hw:St B w0 H w):
 CX B w0 3 [p.val,.slice xA xs.length xc] w λv K=>v=.bool true/\K=H:=by
 refine Ya Tryz.func3 Tryz.ntmps3 rfl rfl hw ?_
 have p0:=λ{H':List HP}{w:World}(hp:p.Bg B w0 H') (hw:St B w0 H' w)=>YjY p hp hw
 have hop:∀w,St B w0 [many H] w->St B w0 H w:=λw hw=>hw.perm (.openT H)
 have hbM:∀{H':List HP},many H∈H'->p.Bg B w0 H':=λhm=>hp.mono λw hw=>hw.inM hm
 have hx:=hx.mono hop
 unfold PnM.val
 unfold PnM.val at p0
 refine XM [many H] (λw hw=>hw.perm (.closeT H)) ?_
 refine zX16 ?_<;>intros
 rename_i g2
 first|apply Yb en7|apply Yc en7
 exact za
 exact rfl
 exactλ_ hw=>(Yjb ht hw)
 refine zX2 ?_
 apply Ye _ en8
 exact za
 exact rfl
 exactλ_ hw=>(p0 (hbM (by(focus exact zc2))) (hw))
 rintro _ _ ⟨⟨b,rfl,hfew⟩,hK0⟩
 rw[hK0]
 have hfin:∀{K:List HP},[many H]=K->∀w,St B w0 K w->St B w0 H w:=λh w hw=>hop w (h▸hw)
 cases b with
 |false=>
  refine zX2 ?_
  apply Yg H
  ·intro w hw
   have h5:St B w0 [many H] w:=by
    revert w
    exact zc0
   exact hop w h5
  exact zc5
 |true=>
 have hfew:=hfew rfl
 have hpM:∀{H':List HP},many H∈H'->p.In B w0 H':=λhm=>(hbM hm).small hfew
 by_cases hc24:24<p.s.cells.length
 ·skip
  refine YtE ?_<;>intros
  apply Yg H
  ·intro w hw
   have h5:St B w0 [many H] w:=by
    revert w
    exact zc0
   exact hop w h5
  exact zc5
 by_cases hx40:40<xs.length
 ·skip
  refine YtE ?_<;>intros
  apply Yg H
  ·intro w hw
   have h5:St B w0 [many H] w:=by
    revert w
    exact zc0
   exact hop w h5
  exact zc5
 have p1:=λ{H':List HP}{w:World}(hp:p.In B w0 H') (hw:St B w0 H' w)=>Vf p ht hp hw
 unfold PnM.val at p1
 by_cases hk:chkP p.pln=0
 rotate_left
 ·skip
  refine YtF ?_<;>intros
  apply Yg H
  ·intro w hw
   have h5:St B w0 [many H] w:=by
    revert w
    exact zc0
   exact hop w h5
  exact zc5
 rw[hk]at p1
 have hok:=YuT hk
 have hcert:=hok.cert
 have hR:(YS p.n.net (p.q.map RqM.rq) p.s.sch).2.2=0:=hcert
 have hfll:(RqM.fl p.q).length=p.q.length:=by unfold RqM.fl;exact YdL
 have hflq:Y6 (p.q.map RqM.rq)=RqM.fl p.q:=by
  show(p.q.map RqM.rq).map Prod.fst=p.q.map (·.f)
  rw[N7];rfl
 have hsch:=(Zo.1 hR).1
 rw[hflq]at hsch
 obtain⟨hnc,hfl,hsz,hmod,-⟩:=Oi (ZW.1 hsch).whole
 have hsb:1<=p.s.len/\p.s.len<=24:=by
  unfold Zy at hsz
  have h1:=Rn hsz
  have h2:1<=p.s.len/\p.s.len<=512:=⟨h1.1,h1.2.1⟩
  rcases hfew.2.2.2 with h|h<;>omega
 have hq4:=hfew.1.1
 have hqI:=(hpM (H':=[many H]) (.head _)).q
 have hqr:=hqI.rd
 have pf:=λ{H':List HP}{w:World}(hr:Rd B w0 H' p.qA (p.q.flatMap rqF)) (hw:St B w0 H' w)=>YiQ p.q (cap:=p.qcap) (by omega) hr hw
 have pp:=λ(A4:Option Addr) (cap4:Nat) {H':List HP}{w:World}(hr:Rd B w0 H' A4 ((RqM.fl p.q).flatMap flwF)) (hs:Rd B w0 H' p.s.A (p.s.cells.flatMap celF)) (hx:XIn B w0 H' xA xs) (hw:St B w0 H' w)=>Ykv (PlC.mk A4 cap4 (RqM.fl p.q) p.s xA xc xs) 100 zc36 zc36 zc36 ht hr hs hx hw
 unfold SchM.val at pp
 dsimp only at pp
 refine YtF ?_<;>intros
 refine XE (λ(z:{z:(Option Addr×Nat)×Nat×(Option Addr×Nat×List AttM)×(Option Addr×Nat×List (Int×Int×Int))×Int//You (PlC.mk z.1.1 z.1.2 (RqM.fl p.q) p.s xA xc xs) 100 z.2.2.1.2.2 z.2.2.2.1.2.2 z.2.2.2.2})=>[(6,.int .i64 z.1.2.2.2.2),(5,.pointer (some ⟨z.1.2.1,0,none⟩)),(4,.bool false),(2,.pointer (some ⟨g2,0,none⟩)),(1,.slice xA xs.length xc)])
  (λz=>blk z.1.2.1 (.cells #[.slice z.1.2.2.1.1 z.1.2.2.1.2.2.length z.1.2.2.1.2.1,.slice z.1.2.2.2.1.1 z.1.2.2.2.1.2.2.length z.1.2.2.2.1.2.1] 45 (0,0))::plT z.1.2.2.1.1 z.1.2.2.1.2.1 z.1.2.2.1.2.2::plD z.1.2.2.2.1.1 z.1.2.2.2.1.2.1 z.1.2.2.2.1.2.2::plnA g2 p.n p.qA p.qcap p.q p.s p.cA p.ccap p.c p.fA p.fcap p.f::[many H]) ?_ ?_
 ·intro K2 hK2
  apply Je (.n1 0 (.n1 1 (.n1 3 (.n1 4 (.n1 5 (.n2 2 (.n2 6 (.n1 7 (.n1 8 (.n1 9 (.n1 10 (.n1 11 (.n1 12 .done)))))) 10 (.n1 6 (.n1 7 (.n1 8 (.n1 9 (.n1 11 (.n1 12 .done))))))) 10 (.n1 2 (.n1 6 (.n1 7 (.n1 8 (.n1 9 (.n1 11 (.n1 12 .done))))))))))))) [] [true,true]
  kernel_rfl
  kernel_rfl
  exact zy
  exact rfl
  repeat'(first|(apply Yk T;exact rfl;exact zm;exact rfl;exact zv;exact rfl;exact rfl)|(apply Yj;try exact zl)|apply(zs91 ?_ ?_)|(apply YW;try exact zl)|refine zgd ?_|(refine zgh ?_;intro _)|fail)
  ·skip
   apply Ye _ en11
   exact za
   exact rfl
   exactλ_ hw=>(pf (hqr.mono zc0) (hw))
   rintro _ _ ⟨A4,cap4,rfl,rfl⟩
   repeat'(first|(apply Yk T;exact rfl;exact zm;exact rfl;exact zv;exact rfl;exact rfl)|(apply Yj;try exact zl)|apply(zs91 ?_ ?_)|(apply YW;try exact zl)|refine zgd ?_|(refine zgh ?_;intro _)|fail)
   ·skip
    apply Ye _ en10
    exact za
    exact rfl
    exactλ_ hw=>(pp A4 cap4 (.sl (by(focus exact zc2))) (hpM (by(focus exact zc2))).s (hx.mono zc0) (hw))
    rintro _ _ ⟨tA,tc,atts,dA,dc,dels,e,rfl,hpo,rfl⟩
    repeat'(first|(apply Yj;try exact zl)|(apply YW;try exact zl)|refine zgd ?_|(refine zgh ?_;intro _)|fail)
    rename_i g13
    apply hK2 ⟨((A4,cap4),g13,(tA,tc,atts),(dA,dc,dels),e),hpo⟩
    ·exact zc1
    ·exact zc0
   ·rename_i g13
    apply Ye _ en10
    exact za
    exact rfl
    exactλ_ hw=>(pp A4 cap4 (.sl (by(focus exact zc2))) (hpM (by(focus exact zc2))).s (hx.mono zc0) (hw))
    rintro _ _ ⟨tA,tc,atts,dA,dc,dels,e,rfl,hpo,rfl⟩
    repeat'(first|(apply Yj;try exact zl)|(apply YW;try exact zl)|refine zgd ?_|fail)
    apply hK2 ⟨((A4,cap4),g13,(tA,tc,atts),(dA,dc,dels),e),hpo⟩
    ·exact zc1
    ·exact zc0
  ·rename_i g13
   apply Ye _ en11
   exact za
   exact rfl
   exactλ_ hw=>(pf (hqr.mono zc0) (hw))
   rintro _ _ ⟨A4,cap4,rfl,rfl⟩
   repeat'(first|(apply Yk T;exact rfl;exact zm;exact rfl;exact zv;exact rfl;exact rfl)|(apply Yj;try exact zl)|(apply YW;try exact zl)|refine zgd ?_|fail)
   apply Ye _ en10
   exact za
   exact rfl
   exactλ_ hw=>(pp A4 cap4 (.sl (by(focus exact zc2))) (hpM (by(focus exact zc2))).s (hx.mono zc0) (hw))
   rintro _ _ ⟨tA,tc,atts,dA,dc,dels,e,rfl,hpo,rfl⟩
   repeat'(first|(apply Yj;try exact zl)|(apply YW;try exact zl)|refine zgd ?_|fail)
   apply hK2 ⟨((A4,cap4),g13,(tA,tc,atts),(dA,dc,dels),e),hpo⟩
   ·exact zc1
   ·exact zc0
 rintro⟨⟨⟨A4,cap4⟩,g13,⟨tA,tc,atts⟩,⟨dA,dc,dels⟩,e⟩,hpo⟩
 dsimp only at hpo⊢
 by_cases he:e=0
 rotate_left
 ·refine zX98 ?_<;>intros
  apply Yg H
  ·intro w hw
   have h5:St B w0 [many H] w:=by
    revert w
    exact zc0
   exact hop w h5
  exact zc5
 obtain⟨⟨ss,hP⟩,hal,hf32,hfm,-⟩:=hpo he
 subst he
 dsimp only at hP hf32 hfm
 have pb:=λ{H':List HP}{w:World}(hin:p.n.In B w0 H') (hr:Rd B w0 H' tA (atts.flatMap attF)) (hw:St B w0 H' w)=>YdT p.n atts hal dA dels.length dc (tc:=tc) hin hr hw
 unfold NetM.val at pb
 refine Yml ?_<;>intros
 apply Ye _ en12
 exact za
 exact rfl
 exactλ_ hw=>(pb (hpM (by(focus exact zc2))).n (.sl (by(focus exact zc2))) (hw))
 rintro _ _ ⟨out,A5,cap5,rfl,hol,hbr,rfl⟩
 have hbr:=hbr hnc
 have hdl9:dels.length<=1000000000:=by have:=hP.dl;omega
 repeat'(first|(apply Yk T;exact rfl;exact zm;exact rfl;exact zv;exact rfl;exact rfl)|refine zgd ?_|(refine zgh ?_;intro _)|fail)
 rename Nat=>g7
 refine Yh (λj:Nat=>[(60,.int .i64 (j:Nat)),(59,.int .i64 p.q.length),(58,.slice p.qA p.q.length p.qcap),(7,.pointer (some ⟨g7,0,none⟩)),(5,.pointer (some ⟨g13,0,none⟩)),(2,.pointer (some ⟨g2,0,none⟩))])
  (λ_=>gbA g7 A5 out.length cap5::brP A5 cap5 out::blk g13 (.cells #[.slice tA atts.length tc,.slice dA dels.length dc] 45 (0,0))::plT tA tc atts::plD dA dc dels::[many H]) (λj=>j<=p.q.length) (λj=>p.q.length-j) 0 (Tm _) ?_ ?_ ?_
 ·exact zc1
 ·exact zc0
 rintro j hj K hK
 dsimp only at hj⊢
 by_cases hlt:j<p.q.length
 rotate_left
 ·clear hK
  refine zX0 ?_<;>intros
  apply Yg H
  ·intro w hw
   have h5:St B w0 [many H] w:=by
    revert w
    exact zc0
   exact hop w h5
  exact zc5
 obtain⟨x,hxj⟩:∃x,p.q[j]? =some x:=⟨_,Ta hlt⟩
 have hxm:x∈p.q:=Tc hxj
 have hxl:x.f∈RqM.fl p.q:=TE.2 ⟨x,hxm,rfl⟩
 have hfx:YX 32 x.f=0:=(O2 hf32).1 x.f hxl
 have hnum:=XW hfx
 have hdl:x.f.2.2.2.2.2<=24:=by
  have hsl:p.s.sch.len=p.s.len:=rfl
  have h1:=Int.le_of_dvd (by omega) (Int.dvd_of_tmod_eq_zero (hmod x.f hxl))
  omega
 obtain⟨to_,hto⟩:∃t:Int,100-x.f.2.2.2.2.2+1=t:=⟨_,rfl⟩
 have htb:0<=to_/\to_<=1000:=by omega
 have hfr0:frIx x.f 0<=frIx x.f to_:=by
  have h1:=U6 hfx (t:=0) (RI _)
  have h2:=U6 hfx (t:=to_) htb.1
  omega
 have pfr:=λ{H':List HP}{w:World}(hw:St B w0 H' w)=>Yh2 x.f 0 to_ hfx ⟨RI _,htb.1⟩ htb.2 hfr0 hw
 rw[<-hto]at pfr
 obtain⟨F,hF⟩:∃F,frsL x.f 0 (100-x.f.2.2.2.2.2+1)=F:=⟨_,rfl⟩
 rw[hF]at pfr
 have hFl:F.length<=1000:=by
  rw[<-hF,hto]
  unfold frsL
  rw[Tv,List.length_range]
  have h1:=U6 hfx (t:=to_) htb.1
  have h2:=U6 hfx (t:=0) (RI _)
  omega
 have hxi:=hqI.x x hxm
 have hrk:∀r∈x.rows,r.xs.length<=9/\∀k∈F,out.any (onBr x.f.1 k r.xs)=false->∃t,delT dels x.f.1 k=some t/\t<=YC x.f k+x.f.2.2.2.2.2-1:=λr hr=>by
  have h1:=YhD (n:=p.n.net) (q:=p.q.map RqM.rq) (s:=p.s.sch) hR (x:=x.rq) (RX hxm) (r:=r.xs) (TE.2 ⟨r,hr,rfl⟩)
  have h2:(Y4 p.n.net p.s.sch x.f r.xs).1.1<=x.f.2.2.2.2.2:=h1.2
  refine⟨(Zp (YdD (Ob h1.1).1).2.2.2.2).2.1.2,λk hk hno=>?_⟩
  rw[<-hF,hto]at hk
  obtain⟨k0,k1⟩:=YlW hfx htb.1 hk
  obtain⟨t,t1,-,t2⟩:=Yid (l:=RqM.fl p.q) (s:=p.s.sch) hP.pl hf32 hxl hsb.1 h1.1 h1.2 hbr k0 (by omega) hno
  exact⟨t,t1,by omega⟩
 unfold flwV at pfr
 refine Q5 ?_<;>intros
 rename Nat=>gq
 apply Ye _ en13
 exact za
 exact rfl
 exactλ_ hw=>(pfr (hw))
 rintro _ _ ⟨A6,cap6,rfl,rfl⟩
 refine zX0 ?_<;>intros
 refine Yh (λi:Nat=>[(79,.int .i64 (i:Nat)),(78,.int .i64 F.length),(77,.slice A6 F.length cap6),(9,.pointer (some ⟨gq,0,none⟩)),(60,.int .i64 (j:Nat)),(59,.int .i64 p.q.length),(58,.slice p.qA p.q.length p.qcap),(7,.pointer (some ⟨g7,0,none⟩)),(5,.pointer (some ⟨g13,0,none⟩)),(2,.pointer (some ⟨g2,0,none⟩))])
  (λ_=>gbA g7 A5 out.length cap5::rqA gq x::nrs A6 cap6 F::brP A5 cap5 out::blk g13 (.cells #[.slice tA atts.length tc,.slice dA dels.length dc] 45 (0,0))::plT tA tc atts::plD dA dc dels::[many H]) (λi=>i<=F.length) (λi=>F.length-i) 0 (Tm _) ?_ ?_ ?_
 ·exact zc1
 ·exact zc0
 rintro i hi K2 hK2
 dsimp only at hi⊢
 by_cases hlt2:i<F.length
 rotate_left
 ·refine zX0 ?_<;>intros
  apply hK (j+1)
  ·show j+1<=_;omega
  ·omega
  ·exact zc1
  ·exact zc0
 obtain⟨k,hk⟩:∃k,F[i]? =some k:=⟨_,Ta hlt2⟩
 have hkm:k∈F:=Tc hk
 have hkb:0<=k/\YC x.f k<to_:=by
  have h1:=hkm
  rw[<-hF,hto]at h1
  exact YlW hfx htb.1 h1
 have hfb:0<=YC x.f k/\k<=1000000:=by
  have h1:=Ry hnum.1.1 hkb.1
  have h2:=hkb.2
  unfold YC phaF perF at h2⊢
  omega
 have pw:=λ{H':List HP}{w:World}(hw:St B w0 H' w)=>Ypk x.f k hfx ⟨hkb.1,hfb.2⟩ hw
 unfold flwV at pw
 have pd:=λ{H':List HP}{w:World}(hr:Rd B w0 H' dA (dels.flatMap delF)) (hw:St B w0 H' w)=>Yck dels x.f.1 k hdl9 tA atts.length tc (dc:=dc) hr hw
 obtain⟨od,hod⟩:∃o,delT dels x.f.1 k=o:=⟨_,rfl⟩
 rw[hod]at pd
 obtain⟨fw,hfw⟩:∃o,YC x.f k=o:=⟨_,rfl⟩
 rw[hfw]at pw hfb hkb
 refine Q5 ?_<;>intros
 rename Nat=>gk
 first|apply Yb en14|apply Yc en14
 exact za
 exact rfl
 exactλ_ hw=>(pw hw)
 refine zX9 ?_
 first|apply Yb en15|apply Yc en15
 exact za
 exact rfl
 exactλ_ hw=>(pd (.sl (by(focus exact zc2))) hw)
 repeat'(first|(apply zg29;(apply Yo;exact za;exact rfl))|refine zgc ?_|fail)
 apply Xv (gbA g7 A5 out.length cap5::rqA gq x::blk gk (.cells #[.int .i64 k] 3 (0,0))::nrs A6 cap6 F::brP A5 cap5 out::blk g13 (.cells #[.slice tA atts.length tc,.slice dA dels.length dc] 45 (0,0))::plT tA tc atts::plD dA dc dels::[many H])
 ·exact zc0
 first|apply Yb en16|apply Yc en16
 exact za
 exact rfl
 exactλ_ hw=>(Ybq (λr=>!out.any (onBr x.f.1 k r.xs)) x.rows 17 [.pointer (some ⟨g7,0,none⟩),.pointer (some ⟨gq,0,none⟩),.pointer (some ⟨gk,0,none⟩)] en17 hxi.ln (hxi.rt.mono zc0) (λa ha w hw=>Ykb out A5 cap5 k x a g7 gq gk (by omega) (TU (hrk a ha).1 (by decide)) ((hxi.rw_ a ha).mono zc0) (.sl (by(focus exact zc2))) hw) hw)
 cases hkept:x.rows.any (λr=>!out.any (onBr x.f.1 k r.xs))with
 |false=>
  refine zX0 ?_<;>intros
  all_goals(
   apply hK2 (i+1)
   ·exact zc71
   ·omega
   ·exact zc1
   ·exact zc0)
 |true=>
  obtain⟨r,hr,hno⟩:=Re.1 hkept
  obtain⟨t,t1,t2⟩:=(hrk r hr).2 k hkm (by simpa using hno)
  obtain rfl:od=some t:=hod.symm.trans t1
  rw[hfw]at t2
  dsimp only[Option.isSome_some,Option.getD_some]
  refine zX13 ?_<;>intros
  all_goals(
   apply hK2 (i+1)
   ·exact zc71
   ·omega
   ·exact zc1
   ·exact zc0)
end Go.Proofs.YtambgjgljcadlaaGreatDoor
