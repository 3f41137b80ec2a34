/- Lemmas. -/
import Derived.Test.YtjommdkgfbhbdaaGreatDoorQ19
import Derived.Test.YtjommdkgfbhbdaaGreatDoorQ22
import Derived.Test.YtjommdkgfbhbdaaGreatDoorQ23
set_option maxRecDepth 100000
set_option maxHeartbeats 8000000
set_option linter.all false
namespace Go.Proofs.YtjommdkgfbhbdaaGreatDoor
open Go.RowKit Go.Eng Go.Nw Go.Rt
theorem YeL(c:List ClM){A:Option Addr}{cap B:Nat}{w0:World}{H:List HP}{w:World}(hc:CIn B w0 H A c)(hw:St B w0 H w):
 CX B w0 87 [.slice A c.length cap] w λv K=>v=.tuple #[strV (ZH (c.map ClM.clm)).1,.int .i64 (ZH (c.map ClM.clm)).2]/\K=H:=by
 refine Ya Tryz.func87 Tryz.ntmps87 rfl rfl hw ?_
 have hop:∀w,St B w0 [many H] w->St B w0 H w:=λw hw=>hw.perm (.openT H)
 have hc:=hc.mono hop
 refine Y6 [many H] (λw hw=>hw.perm (.closeT H)) ?_
 have hcl:=hc.ln
 have hcr:=hc.rd
 have p1:=λ{H':List HP}{w:World}(hc:CIn B w0 H' A c) (hw:St B w0 H' w)=>YdQ c (cap:=cap) hc hw
 cases hf:WJ (c.map ClM.clm)with
 |false=>
  have hp:ZH (c.map ClM.clm)=([],1):=by unfold ZH;rw[Tn hf]
  rw[hp]
  rw[hf]at p1
  repeat'(first|refine zga ?_|fail)
  apply Yb YsK
  exact za
  exact rfl
  exactλ_ hw=>(p1 (hc.mono zk) hw)
  repeat'(first|refine zgd ?_|fail)
  apply Yf H
  ·intro w hw
   refine hop w ?_
   revert w
   exact zk
  apply YH;(iterate 3 exact rfl);exact⟨rfl,rfl⟩
 |true=>
 rw[hf]at p1
 obtain⟨hf1,hf2⟩:=Ydd hf
 rw[To]at hf1
 have hp:ZH (c.map ClM.clm)=(Zo (c.map ClM.clm) c.length,0):=by
  unfold ZH
  rw[hf,Tj (by decide),Ya4 hf2,To]
 rw[hp]
 obtain⟨cs,hcs⟩:∃cs,c.map ClM.clm=cs:=⟨_,rfl⟩
 rw[hcs]at hf2⊢
 have hcsl:cs.length=c.length:=by rw[<-hcs,To]
 repeat'(first|refine zga ?_|fail)
 apply Yb YsK
 exact za
 exact rfl
 exactλ_ hw=>(p1 (hc.mono zk) hw)
 repeat'(first|refine zgc ?_|fail)
 refine Ye (λi:Nat=>[(5,.int .i64 (i:Nat)),(4,strV (Zo cs i)),(0,.slice A c.length cap)]) (λ_=>[many H]) (λi=>i<=c.length) (λi=>c.length-i) 0 (Td _) ?_ (λw hw=>hw) ?_
 ·exact zu
 rintro i hi K hK
 have hct:=OG hf2 i (by omega)
 by_cases hlt:i<c.length
 rotate_left
 ·obtain rfl:i=c.length:=by omega
  clear hK
  repeat'(first|refine zgc ?_|(refine zge ?_ ?_<;>intro _<;>try exact zo)|fail)
  apply Yf H
  ·intro w hw
   refine hop w ?_
   revert w
   exact zk
  apply YH;(iterate 3 exact rfl);exact⟨rfl,rfl⟩
 obtain⟨x,hx⟩:∃x,c[i]? =some x:=⟨_,Ta hlt⟩
 have hxi:=hc.x x (Tc hx)
 have hxc:cs[i]? =some x.clm:=by rw[<-hcs,TN,hx];rfl
 have hxf:=hf2 x.clm (Tc hxc)
 have hst:=YaE hxc
 have hrl:x.clm.routes.length=x.rs.length:=by unfold ClM.clm;rw[To]
 have hsl:x.clm.slots.length=x.ss.length:=by unfold ClM.clm;rw[To]
 have hn:=hxf.n
 have hb:=hxf.b
 have hwl:=hxf.w
 have hs:=hxf.s
 have hfl:=hxf.f
 rw[hrl]at hst hn hb hwl hs
 rw[hsl]at hs
 have hb:x.bs.length=x.rs.length:=hb
 have hwl:x.ws.length=x.rs.length:=hwl
 have h0:(Y0 wordF [x.flow]).length<=20:=by
  have:=QS hxf 0 (Td _)
  unfold clT at this
  have this2:(Y0 wordF [x.clm.flow]).length<=20:=by simpa using this
  exact this2
 have hcl0:Zo cs i++Y0 wordF [x.flow]=Zo cs i++clT x.clm 0:=by unfold clT;simp;rfl
 have hone:∀z∈[x.flow],0<=z/\z<10000:=λz hz=>by
  rw[Ru.1 hz]
  have:0<=x.flow/\x.flow<=255:=hfl
  omega
 repeat'(first|refine zgd ?_|(refine zge ?_ ?_<;>intro _<;>try exact zo)|(refine zgh ?_;intro _)|fail)
 apply Yb en85
 exact za
 exact rfl
 exactλ_ hw=>(X7 wordF [x.flow] hone (by show 1<=100;decide) (by decide) (Rd.blk (cs:=#[.int .i64 x.flow]) zm) hw)
 repeat'(first|(apply XY (Zo cs i) (Y0 wordF [x.flow]);(iterate 3 exact rfl);omega)|refine zgb ?_|fail)
 rw[hcl0]
 refine Ye (λj:Nat=>[(6,.int .i64 (j:Nat)),(5,.int .i64 (i:Nat)),(4,strV (Zo cs i++clT x.clm j)),(0,.slice A c.length cap)]) (λ_=>[many H]) (λj=>j<=x.rs.length) (λj=>x.rs.length-j) 0 (Td _) ?_ ?_ ?_
 ·exact zu
 ·exact zk
 rintro j hj K2 hK2
 have hcj:=QS hxf j (by omega)
 have hcrs:Rd B w0 [many H] x.rA (x.rs.flatMap rowF):=hxi.rt
 have hcss:Rd B w0 [many H] x.sA (x.ss.flatMap rowF):=hxi.st
 have hbs:=hxi.bd
 have hws:=hxi.ws
 by_cases hjl:j<x.rs.length
 rotate_left
 ·obtain rfl:j=x.rs.length:=by omega
  clear hK2
  repeat'(first|refine zgd ?_|(refine zge ?_ ?_<;>intro _<;>try exact zo)|fail)
  apply hK (i+1)
  ·show i+1<=_
   omega
  ·omega
  ·rw[hst]
   exact zu
  ·exact zk
 clear hK
 obtain⟨r,hr⟩:∃r,x.rs[j]? =some r:=⟨_,Ta hjl⟩
 obtain⟨z,hzz⟩:∃z,x.ss[j]? =some z:=⟨_,Ta (by omega)⟩
 obtain⟨bv,hbv⟩:∃v,x.bs[j]? =some v:=⟨_,Ta (by omega)⟩
 obtain⟨wv,hwv⟩:∃v,x.ws[j]? =some v:=⟨_,Ta (by omega)⟩
 have hrm:=Tc hr
 have hzm:=Tc hzz
 have hrs:=hxf.rs j (by omega)
 have hls:=hxf.ls j (by omega)
 have hbn:=YaC hxf (i:=j) (by omega)
 have e1:rtAt x.clm.routes j=r.xs:=ZF hr
 have e2:rtAt x.clm.slots j=z.xs:=ZF hzz
 have e3:x.clm.bounds.getD j 0=bv:=by
  show x.bs.getD j 0=bv
  rw[Tz,hbv];rfl
 have e4:x.clm.worst.getD j 0=wv:=by
  show x.ws.getD j 0=wv
  rw[Tz,hwv];rfl
 have hrt:=YgM hxf (i:=j) (by omega)
 have hstep:=YcI x.clm j
 have hrt3:rt3 x.clm j=Y0 wordR r.xs++Y0 Oy [bv,wv]++Y0 Oz z.xs:=by unfold rt3;rw[e1,e2,e3,e4]
 rw[hrt3]at hrt hstep
 rw[e1]at hrs
 rw[e2]at hls
 rw[e3,e4]at hbn
 rw[Tt,Tt]at hrt
 have p2:=λ{H':List HP}{w:World}(hx:x.In B w0 H') (hw:St B w0 H' w)=>X7 wordR r.xs (J0 (b:=31) (by decide) hrs.2.2) (by omega) (by decide) (cap:=r.cap) (hx.rw_ r hrm) hw
 have p3:=λ{g cap:Nat}{H':List HP}{w:World}(hm:blk g (.cells #[.int .i64 bv,.int .i64 wv] 3 (0,0))∈H') (hw:St B w0 H' w)=>X7 Oy [bv,wv] (Ya5 hbn.1 hbn.2) (by show 2<=100;decide) (by decide) (A:=some ⟨g,0,none⟩) (cap:=cap) (Rd.blk (cs:=#[.int .i64 bv,.int .i64 wv]) hm) hw
 have p4:=λ{H':List HP}{w:World}(hx:x.In B w0 H') (hw:St B w0 H' w)=>X7 Oz z.xs (J0 (b:=511) (by decide) hls.2.2) (by omega) (by decide) (cap:=z.cap) (hx.sw z hzm) hw
 obtain⟨T0,hT0⟩:∃T0,Zo cs i++clT x.clm j=T0:=⟨_,rfl⟩
 have hT0l:T0.length<=20000:=by rw[<-hT0,Tt];omega
 have hTn:Zo cs i++clT x.clm (j+1)=T0++Y0 wordR r.xs++Y0 Oy [bv,wv]++Y0 Oz z.xs:=by
  rw[hstep,<-hT0]
  simp only[TV]
 rw[hT0]
 obtain⟨L1,hL1⟩:∃L,Y0 wordR r.xs=L:=⟨_,rfl⟩
 obtain⟨L2,hL2⟩:∃L,Y0 Oy [bv,wv]=L:=⟨_,rfl⟩
 obtain⟨L3,hL3⟩:∃L,Y0 Oz z.xs=L:=⟨_,rfl⟩
 rw[hL1,hL2,hL3]at hTn hrt
 rw[hL1]at p2
 rw[hL2]at p3
 rw[hL3]at p4
 have hl12:(T0++L1).length<=30000:=by rw[Tt];omega
 have hl123:(T0++L1++L2).length<=40000:=by rw[Tt];omega
 repeat'(first|refine zgd ?_|(refine zge ?_ ?_<;>intro _<;>try exact zo)|fail)
 apply Jb (.n1 0 (.n1 1 (.n1 2 (.n1 3 (.n1 4 (.n1 5 (.n1 6 (.n1 7 (.n1 8 (.n1 11 (.n1 12 (.n1 13 (.n1 14 (.n1 15 (.n1 16 (.n1 17 (.n1 18 (.n1 19 (.n1 20 (.n1 21 (.n1 22 (.n1 23 (.n1 24 (.n1 25 (.n1 26 (.n1 30 (.n1 31 (.n1 32 (.n1 33 (.n1 34 (.n1 35 (.n1 36 (.n1 37 (.n2 9 (.n1 10 (.n1 27 (.n1 28 (.n1 29 (.n1 38 (.n1 39 (.n1 40 .done))))))) 27 (.n1 9 (.n1 10 (.n1 28 (.n1 29 (.n1 38 (.n1 39 (.n1 40 .done))))))))))))))))))))))))))))))))))))))))) [] [true]
 kernel_rfl
 kernel_rfl
 exact zy
 exact rfl
 repeat'(first|(apply Yh;try exact zl)|apply(zs91 ?_ ?_)|(apply Xf;try exact zl)|refine zgd ?_|(refine zgh ?_;intro _)|fail)
 all_goals(
  apply Yb en85
  exact za
  exact rfl
  exactλ_ hw=>(p2 (hxi.mono zk) hw)
  repeat'(first|(apply XY T0 L1;(iterate 3 exact rfl);omega)|(apply Yh;try exact zl)|(apply Xf;try exact zl)|refine zgd ?_|(refine zgh ?_;intro _)|fail)
  apply Yb en85
  exact za
  exact rfl
  exactλ_ hw=>(p3 zm hw)
  repeat'(first|(apply XY (T0++L1) L2;(iterate 3 exact rfl);omega)|(apply Yh;try exact zl)|(apply Xf;try exact zl)|refine zgd ?_|fail)
  apply Yb en85
  exact za
  exact rfl
  exactλ_ hw=>(p4 (hxi.mono zk) hw)
  repeat'(first|(apply XY (T0++L1++L2) L3;(iterate 3 exact rfl);omega)|(apply Yh;try exact zl)|(apply Xf;try exact zl)|refine zgd ?_|fail)
  apply hK2 (j+1)
  ·show j+1<=_
   omega
  ·omega
  ·rw[hTn]
   exact zu
  ·exact zk)
theorem O6(p:PnM){B:Nat}{w0:World}{H:List HP}{w:World}(hp:p.In B w0 H)(hw:St B w0 H w):
 CX B w0 23 [p.val] w λv K=>v=.int .i64 (chkP p.pln)/\K=H:=by
 refine Ya Tryz.func23 Tryz.ntmps23 rfl rfl hw ?_
 have hop:∀w,St B w0 [many H] w->St B w0 H w:=λw hw=>hw.perm (.openT H)
 have hpM:∀{H':List HP},many H∈H'->p.In B w0 H':=λhm=>hp.mono λw hw=>hw.inM hm
 rw[Yry]
 rw[show p.pln.n=p.n.net from rfl,show p.pln.q=p.q.map RqM.rq from rfl,show p.pln.s=p.s.sch from rfl,show p.pln.c=p.c.map ClM.clm from rfl,show p.pln.f=p.f from rfl]
 have p1:=λ{H':List HP}{w:World}(hp:p.In B w0 H') (hw:St B w0 H' w)=>O8 p.n p.q (cap:=p.qcap) hp.n hp.q hw
 have p2:=λ{H':List HP}{w:World}(hp:p.In B w0 H') (hw:St B w0 H' w)=>YkS p.n p.q p.s (cap:=p.qcap) hp.n hp.q hp.s hp.sl hw
 have p4:=λ{H':List HP}{w:World}(hp:p.In B w0 H') (hw:St B w0 H' w)=>YgH p.s hp.s hp.sl hw
 obtain⟨⟨fi,fe⟩,hF⟩:∃R,rqsE p.n.net (p.q.map RqM.rq)=R:=⟨_,rfl⟩
 obtain⟨⟨RC,ri,re⟩,hR⟩:∃R,YJ p.n.net (p.q.map RqM.rq) p.s.sch=R:=⟨_,rfl⟩
 obtain⟨⟨RF,ge⟩,hG⟩:∃R,XP p.s.sch=R:=⟨_,rfl⟩
 rw[hF]at p1⊢
 rw[hR]at p2⊢
 rw[hG]at p4⊢
 have hRF:RF.length<=1000000000000:=by
  have h2:=TF (λz=>z.1.length) hG
  dsimp only at h2
  unfold XP at h2
  split at h2
  ·exact Yq1
  ·rename_i h0
   unfold JP at h2
   rw[Jx,TS]at h2
   have h4:=TT (XF.1 (by simpa using h0)).sized
   omega
 have hRCl:re=0->RC.length<=1000000000000:=λe=>by
  have hq:=hp.q.ln
  have h1:=Ylz (n:=p.n.net) (q:=p.q.map RqM.rq) (s:=p.s.sch) (by rw[hR];exact e)
  rw[hR]at h1
  have h2:=TF (λz=>z.1.length) h1
  dsimp only at h2
  rw[To,To]at h2
  omega
 have hge:re=0->ge=0:=λe=>by
  have h1:=Ym7 (n:=p.n.net) (q:=p.q.map RqM.rq) (s:=p.s.sch) (by rw[hR];exact e)
  have h2:=TF (λz=>z.2) hG
  dsimp only at h2
  unfold XP at h2
  rw[Tj (by rw[h1];decide)]at h2
  exact h2.symm
 unfold OutC at p2
 dsimp only at p1 p2 p4⊢
 clear hF hR hG
 unfold PnM.val
 unfold NetM.val at p1
 unfold NetM.val SchM.val at p2
 unfold SchM.val at p4
 refine Y6 [many H] (λw hw=>hw.perm (.closeT H)) ?_
 by_cases h1:fe=0
 rotate_left
 ·rw[Tn h1]
  refine YtQ ?_<;>intros
  apply Yf H
  ·intro w hw
   have h5:St B w0 [many H] w:=by
    revert w
    exact zc0
   exact hop w h5
  exact zc3
 rw[Tj (λe=>e h1)]
 subst h1
 refine YtQ ?_<;>intros
 apply Yg _ en94
 exact za
 exact rfl
 exactλ_ hw=>(p2 (hpM (by(focus exact zc2))) (hw))
 rintro _ _ ⟨A2,c2,C,rfl,hC,hCl,rfl⟩
 by_cases h2:re=0
 rotate_left
 ·rw[Tn h2]
  refine Yel ?_<;>intros
  apply Yf H
  ·intro w hw
   have h5:St B w0 [many H] w:=by
    revert w
    exact zc0
   exact hop w h5
  exact zc3
 rw[Tj (λe=>e h2)]
 subst h2
 have hCn:C.length<=1000000000000:=by have h5:=TF List.length hC;have h6:=hRCl rfl;rw[To]at h5;omega
 have hci:∀{H':List HP},clsP A2 c2 C∈H'->many (C.map clQ)∈H'->CIn B w0 H' A2 C:=λh1 h2=>⟨.sl h1,λx hx=>YgE h2 hx (hCl x hx),hCn⟩
 obtain rfl:=hge rfl
 have p3:=λ{H':List HP}{w:World}(hc:CIn B w0 H' A2 C) (hp:p.In B w0 H') (hw:St B w0 H' w)=>YdU C p.c (cap:=c2) (cap2:=p.ccap) hc hp.c hw
 rw[hC]at p3
 by_cases h3:RC=p.c.map ClM.clm
 rotate_left
 ·rw[Tn h3]
  rw[Ti h3]at p3
  repeat'(first|refine Yr T ?_|((apply Yb en58);exact za;exact rfl;exactλ_ hw=>(p3 (hci zm zm) (hpM zm) hw))|refine zgd ?_|(refine zge ?_ ?_<;>intro _<;>try exact zo)|fail)
  apply Yf H
  ·intro w hw
   have h5:St B w0 [many H] w:=by
    revert w
    exact zc0
   exact hop w h5
  exact zc3
 rw[Tj (λe=>e h3)]
 rw[Tf h3]at p3
 repeat'(first|refine Yr T ?_|((apply Yb en58);exact za;exact rfl;exactλ_ hw=>(p3 (hci zm zm) (hpM zm) hw))|refine zgc ?_|(refine zge ?_ ?_<;>intro _<;>try exact zo)|fail)
 apply Yg _ en95
 exact za
 exact rfl
 exactλ_ hw=>(p4 (hpM (by(focus exact zc2))) (hw))
 rintro _ _ ⟨A3,c3,rfl,rfl⟩
 have p5:=λ{H':List HP}{w:World}(h1:Rd B w0 H' A3 (RF.flatMap numF)) (hp:p.In B w0 H') (hw:St B w0 H' w)=>YeN RF p.f hRF (cap:=c3) (cap2:=p.fcap) h1 hp.f hw
 by_cases h4:RF=p.f
 ·rw[Tf h4]at p5
  rw[Tj (by rintro(e|e);exact e rfl;exact e h4)]
  repeat'(first|refine Yr T ?_|((apply Yb en59);exact za;exact rfl;exactλ_ hw=>(p5 (Rd.sl zm) (hpM zm) hw))|refine zgc ?_|fail)
  apply Yf H
  ·intro w hw
   have h5:St B w0 [many H] w:=by
    revert w
    exact zc0
   exact hop w h5
  exact zc3
 ·rw[Ti h4]at p5
  rw[Tn (.inr h4)]
  repeat'(first|refine Yr T ?_|((apply Yb en59);exact za;exact rfl;exactλ_ hw=>(p5 (Rd.sl zm) (hpM zm) hw))|refine zgd ?_|fail)
  apply Yf H
  ·intro w hw
   have h5:St B w0 [many H] w:=by
    revert w
    exact zc0
   exact hop w h5
  exact zc3
end Go.Proofs.YtjommdkgfbhbdaaGreatDoor
namespace Go.Rt
open Go.Nw
def Yj3(nodes:Nat)(l:List Lk)(to:Int)(far:List Int):Bool:=
 decide (far.length=nodes)&&decide (Yk far to=0)&&((List.range nodes).all λv:Nat=>decide (0<=Yk far v/\Yk far v<=Xr))&&
 ((List.range nodes).all λv:Nat=>decide ((v:Int)=to)||decide (¬Yk far v<Xr)||l.any λa=>decide (a.1=v/\Yk far a.2.1+a.2.2<=Yk far v))&&
 l.all λa=>decide (¬Yk far a.2.1<Xr)||decide (Yk far a.1<=Yk far a.2.1+a.2.2)
variable {l:List Lk}{to:Int}{far:List Int}
theorem Ynf{nodes:Nat}(h:Yj3 nodes l to far=true):Dist nodes l to far:=by
 unfold Yj3 at h
 simp only[Tq,TL,RH,Tm,Rj,TQ]at h
 obtain⟨⟨⟨⟨h1,h2⟩,h3⟩,h4⟩,h5⟩:=h
 refine⟨h1,h2,λv h0 hn=>?_,λv h0 hn hne hlt=>?_,λa ha hlt=>?_⟩
 ·have:=h3 v.toNat (by omega)
  grind
 ·have:=h4 v.toNat (by omega)
  grind
 grind
def YoZ(nodes:Nat)(l:List Lk):Bool:=l.all λa=>decide ((0<=a.1/\a.1<nodes)/\(0<=a.2.1/\a.2.1<nodes)/\(1<=a.2.2/\a.2.2<=1000000))
theorem Ym0{nodes:Nat}(h:YoZ nodes l=true):ArcsOk nodes l:=λa ha=>by
 have:=TL.1 h a ha
 simp_all
theorem Yj4{nodes:Nat}(h1:YoZ nodes l=true)(h:Yj3 nodes l to far=true):Uj nodes l to=far:=YhH (Ym0 h1) (Ynf h)
end Go.Rt
namespace Go.Proofs.YtjommdkgfbhbdaaGreatDoor
open Go.RowKit Go.Eng Go.Nw Go.Rt
def exN5:Net:=⟨2,[[0,9],[9,0]],1,1000,[(0,1,0),(1,0,0)],[9,9]⟩
def exF5:Flw:=(1,0,1,2,0,2)
def exS5:Sch:=⟨2,1,[(0,0,0,1,1)]⟩
def exP5:Pln:=⟨exN5,[(exF5,[[0,1]])],exS5,[⟨1,[[0,1]],[1],[0],[[0]]⟩],[0,1]⟩
def exA5:List Lk:=[(0,1,1),(1,0,1)]
theorem YhR:JO exN5=exA5:=by decide
theorem Yc2:Zp exN5 0 1=0:=by decide
theorem Ypx:∃x es,QM 100000 2 exA5 0 0 1 (λ_=>false)=some (x,false,es):=by
 have h:(QM 100000 2 exA5 0 0 1 (λ_=>false)).map (λr=>r.2.1)=some false:=by decide
 simp_all
theorem Yni:Yop 100000 exN5 0 1=some (none,17):=by
 obtain⟨x,es,hb⟩:=Ypx
 have hp:Yqe 100000 2 exA5 0 1=some none:=by
  simp_all [Yqe]
 unfold Yop
 rw[Tj (by grind [Yc2]),YhR,show exN5.nodes.toNat=2 from rfl,hp]
theorem YhS:WL exN5 exF5=(none,17):=by
 grind [WL,exF5,Yni]
theorem Ynk:Z5 exN5 0 1=([0,1],0):=by
 have hr:Qv exN5 0 1=[0,1]:=by
  unfold Qv
  rw[YhR,show exN5.nodes.toNat=2 from rfl,Yj4 (far:=[34,0]) (by decide) (by decide)]
  decide
 grind [Z5,Yc2]
theorem YlU:reqE exN5 exF5=((exF5,[[0,1]]),0):=by
 grind [reqE,YhS,Ua,exF5,Ynk]
theorem Ynj:V8 exN5 [exF5]=([(exF5,[[0,1]])],(-1,0)):=by
 have h1:YdO exN5 [exF5]=(-1,0):=by
  grind [YdO,YD,Xa,YlU]
 unfold V8
 rw[h1,Tj (by decide),Tj (by decide),Tj (by decide),Rx,List.map_nil,YlU]
theorem Ynh:Ygb exN5 [(exF5,[[0,1]])] 2 1=(some exP5,0):=by rfl
theorem Ypy:Yl5 exN5 [exF5] 2 1=(some exP5,0):=by
 unfold Yl5
 rw[Ynj,Tj (by decide),Tj (by decide),Tj (by decide),Tj (by decide)]
 exact Ynh
theorem YlT:chkP exP5=0:=by decide
def exR5:Pln:=⟨exN5,[],⟨2,1,[]⟩,[],[1,1]⟩
theorem YrC:∃p,wdrP exP5 1=(some p,0)/\p.q=[]/\p.s.cells=[]:=⟨exR5,by rfl,rfl,rfl⟩
theorem YaR{n:Int}(h:0<=n/\n<10):Lib.itoa n=[UInt8.ofNat (48+n.toNat)]:=by
 grind [Ydr,Go.Lib.decDigits_one]
def exT5:List UInt8:=[102,108,111,119,32,49,32,48,32,49,32,50,32,48,32,50,10,114,111,117,116,101,32,48,32,49,10,115,99,104,101,100,117,108,101,32,50,32,49,10,99,101,108,108,32,48,32,48,32,48,32,49,32,49,10,102,108,111,119,32,49,10,114,111,117,116,101,32,48,32,49,10,98,111,117,110,100,32,49,32,48,10,115,108,111,116,115,32,48,10]
theorem Ypz:ZI exP5=(exT5,0):=by
 have h0:Lib.itoa 0=[48]:=YaR (by omega)
 have h1:Lib.itoa 1=[49]:=YaR (by omega)
 have h2:Lib.itoa 2=[50]:=YaR (by omega)
 unfold ZI
 rw[Tj (by grind [YlT])]
 unfold exP5 exS5 exF5 Xq ZH
 rw[Tj (by decide),Tj (by decide)]
 unfold plnT Ymk Yme Yea
 simp only[Re,List.flatMap_nil,Ro,Sr,List.take,show List.range (0+1)=[0] from rfl]
 unfold Ymf rqT Y0 XW UV nums rtAt
 simp[h0,h1,h2,exT5,wordF,wordR,Oy,Oz]
 rfl
abbrev plnC(g:Nat)(n:NetM)(qA:Option Addr)(qcap:Nat)(q:List RqM)(s:SchM)(cA:Option Addr)(ccap:Nat)(c:List ClM)(fA:Option Addr)(fcap:Nat)(fm:List Int):HP:=blk g (.cells #[.int .i64 n.nodes,.slice n.pA n.rows.length n.pcap,.int .i64 n.noise,.int .i64 n.thr,.slice n.lA n.links.length n.lcap,.slice n.mA n.margin.length n.mcap,.slice qA q.length qcap,.int .i64 s.len,.int .i64 s.off,.slice s.A s.cells.length s.cap,.slice cA c.length ccap,.slice fA fm.length fcap] 38 (0,0))
theorem Qa(p:PnM){B:Nat}{w0:World}{H:List HP}{w:World}(hp:p.In B w0 H)(hw:St B w0 H w):
 CX B w0 19 [p.val] w λv K=>v=.tuple #[strV (ZI p.pln).1,.int .i64 (ZI p.pln).2]/\K=H:=by
 refine Ya Tryz.func19 Tryz.ntmps19 rfl rfl hw ?_
 have p1:=λ{H':List HP}{w:World}(hp:p.In B w0 H') (hw:St B w0 H' w)=>O6 p hp hw
 have hop:∀w,St B w0 [many H] w->St B w0 H w:=λw hw=>hw.perm (.openT H)
 have hpM:∀{H':List HP},many H∈H'->p.In B w0 H':=λhm=>hp.mono λw hw=>hw.inM hm
 obtain⟨n,qA,qcap,q,s,cA,ccap,c,fA,fcap,f⟩:=p
 have hqM:∀{H':List HP},many H∈H'->QIn B w0 H' qA q:=λhm=>(hpM hm).q
 have hrsM:∀{H':List HP},many H∈H'->Rd B w0 H' s.A (s.cells.flatMap celF):=λhm=>(hpM hm).s
 have hcM:∀{H':List HP},many H∈H'->CIn B w0 H' cA c:=λhm=>(hpM hm).c
 have hsl:s.cells.length<=1000000000000:=hp.sl
 have p2:=λ{H':List HP}{w:World}(hrs:Rd B w0 H' s.A (s.cells.flatMap celF)) (hw:St B w0 H' w)=>YiU s hrs hsl hw
 have p3:=λ{H':List HP}{w:World}(hc:CIn B w0 H' cA c) (hw:St B w0 H' w)=>YeL c (cap:=ccap) hc hw
 unfold PnM.val at p1⊢
 unfold SchM.val at p2
 have hpl:(⟨n,qA,qcap,q,s,cA,ccap,c,fA,fcap,f⟩:PnM).pln=⟨n.net,q.map RqM.rq,s.sch,c.map ClM.clm,f⟩:=rfl
 rw[hpl]at p1⊢
 dsimp only at p1⊢
 unfold ZI
 refine Y6 [many H] (λw hw=>hw.perm (.closeT H)) ?_
 by_cases hk:chkP ⟨n.net,q.map RqM.rq,s.sch,c.map ClM.clm,f⟩=0
 rotate_left
 ·rw[Tn hk]
  repeat'(first|refine zgb ?_|(refine zgh ?_;intro _)|fail)
  apply Yb en23
  exact za
  exact rfl
  exactλ_ hw=>(p1 (hpM zm) hw)
  repeat'(first|refine zgb ?_|(refine zge ?_ ?_<;>intro _<;>try exact zo)|fail)
  apply Yf H
  ·intro w hw
   have h5:St B w0 [many H] w:=by
    revert w
    exact zk
   exact hop w h5
  apply YH;(iterate 3 exact rfl);exact⟨rfl,rfl⟩
 have hrq:=QP (QQ hk)
 dsimp only at hrq
 rw[hk]at p1
 rw[Tj (λe=>e hk)]
 obtain⟨hq16,hqd⟩:=Yca hrq
 rw[To]at hq16
 have hsL:=Qs s.sch
 have hcL:=Qr (c.map ClM.clm)
 obtain⟨⟨sT,se⟩,hsT⟩:∃R,Xq s.sch=R:=⟨_,rfl⟩
 obtain⟨⟨cT,ce⟩,hcT⟩:∃R,ZH (c.map ClM.clm)=R:=⟨_,rfl⟩
 rw[hsT]at p2 hsL⊢
 rw[hcT]at p3 hcL⊢
 dsimp only at p2 p3 hsL hcL⊢
 repeat'(first|refine zgb ?_|(refine zgh ?_;intro _)|fail)
 apply Yb en23
 exact za
 exact rfl
 exactλ_ hw=>(p1 (hpM zm) hw)
 repeat'(first|refine zgb ?_|(refine zge ?_ ?_<;>intro _<;>try exact zo)|fail)
 rename Nat=>g1
 obtain⟨q0,hq0⟩:∃q0,q.map RqM.rq=q0:=⟨_,rfl⟩
 have hq0l:q0.length=q.length:=by rw[<-hq0,To]
 rw[hq0]at hqd⊢
 refine Ye (λi:Nat=>[(5,.int .i64 (i:Nat)),(1,.pointer (some ⟨g1,0,none⟩)),(4,strV (plnT q0 i))]) (λ_=>plnC g1 n qA qcap q s cA ccap c fA fcap f::[many H]) (λi=>i<=q.length) (λi=>q.length-i) 0 (Td _) ?_ ?_ ?_
 ·exact zu
 ·exact zk
 intro k hk2 K hK
 have htl:=Yag hqd k (by omega)
 by_cases hlt:k<q.length
 rotate_left
 ·obtain rfl:k=q.length:=by omega
  rw[hq0l]
  clear hK
  repeat'(first|refine Yr T ?_|refine zgc ?_|(refine zge ?_ ?_<;>intro _<;>try exact zo)|fail)
  apply Yb en86
  exact za
  exact rfl
  exactλ_ hw=>(p2 (hrsM zm) hw)
  repeat'(first|refine Yr T ?_|refine zgc ?_|fail)
  apply Yb en87
  exact za
  exact rfl
  exactλ_ hw=>(p3 (hcM zm) hw)
  repeat'(first|(apply XY (plnT q0 q.length) sT;(iterate 3 exact rfl);omega)|(apply XY (plnT q0 q.length++sT) cT;(iterate 3 exact rfl);(rw[Tt];omega))|refine zgc ?_|fail)
  apply Yf H
  ·intro w hw
   have h5:St B w0 [many H] w:=by
    revert w
    exact zk
   exact hop w h5
  apply YH;(iterate 3 exact rfl);exact⟨rfl,rfl⟩
 obtain⟨x,hx⟩:∃x,q[k]? =some x:=⟨_,Ta hlt⟩
 have hxm:=Tc hx
 have hx0:q0[k]? =some x.rq:=by rw[<-hq0,TN,hx];rfl
 have hxd:=hqd x.rq (Tc hx0)
 have hxn:=hxd.n
 have hxn2:x.rq.2.length=x.rows.length:=To _
 have hf0:=OP hxd 0 (Td _)
 have ef:rqT x.rq 0=Y0 wordF (UV x.f):=by unfold rqT;simp;rfl
 rw[ef]at hf0
 have l1:=λ{g:Nat}{cap:Nat}{H':List HP}{w:World}(hm:blk g (.cells #[.int .i64 x.f.1,.int .i64 x.f.2.1,.int .i64 x.f.2.2.1,.int .i64 x.f.2.2.2.1,.int .i64 x.f.2.2.2.2.1,.int .i64 x.f.2.2.2.2.2] 3 (0,0))∈H') (hw:St B w0 H' w)=>X7 wordF (UV x.f) hxd.f (by show 6<=100;decide) (by decide) (A:=some ⟨g,0,none⟩) (cap:=cap) (show Rd B w0 H' _ ((UV x.f).flatMap numF) from Rd.blk (cs:=#[.int .i64 x.f.1,.int .i64 x.f.2.1,.int .i64 x.f.2.2.1,.int .i64 x.f.2.2.2.1,.int .i64 x.f.2.2.2.2.1,.int .i64 x.f.2.2.2.2.2]) hm) hw
 obtain⟨s1,hs1⟩:∃s,Y0 wordF (UV x.f)=s:=⟨_,rfl⟩
 rw[hs1]at l1 hf0 ef
 have hqr:=(hqM (H':=plnC g1 n qA qcap q s cA ccap c fA fcap f::[many H]) (.tail _ (.head _))).rd
 repeat'(first|(apply WS T (vs:=flwF x.f);exact rfl;exact hqr;exact hx;exactλ_=>rfl;(iterate 6 exact rfl))|refine zgd ?_|(refine zge ?_ ?_<;>intro _<;>try exact zo)|(refine zgh ?_;intro _)|fail)
 apply Yb en85
 exact za
 exact rfl
 exactλ_ hw=>(l1 zm hw)
 repeat'(first|(apply XY (plnT q0 k) s1;(iterate 3 exact rfl);omega)|refine zgb ?_|fail)
 refine Ye (λj:Nat=>[(7,.int .i64 (j:Nat)),(5,.int .i64 (k:Nat)),(1,.pointer (some ⟨g1,0,none⟩)),(4,strV (plnT q0 k++rqT x.rq j))]) (λ_=>plnC g1 n qA qcap q s cA ccap c fA fcap f::[many H]) (λj=>j<=x.rows.length) (λj=>x.rows.length-j) 0 (Td _) ?_ ?_ ?_
 ·rw[ef]
  exact zu
 ·exact zk
 intro j hj K2 hK2
 have hjl:=OP hxd j (by omega)
 have hxi:=(hqM (H':=plnC g1 n qA qcap q s cA ccap c fA fcap f::[many H]) (.tail _ (.head _))).x x hxm
 have hrt:=hxi.rt
 by_cases hjx:j<x.rows.length
 rotate_left
 ·obtain rfl:j=x.rows.length:=by omega
  clear hK2
  have hst:=YaX hx0
  rw[hxn2]at hst
  repeat'(first|refine zgd ?_|(refine zge ?_ ?_<;>intro _<;>try exact zo)|fail)
  apply hK (k+1)
  ·show k+1<=q.length
   omega
  ·omega
  ·rw[hst]
   exact zu
  ·exactλw hw=>hw
 obtain⟨r,hr⟩:∃r,x.rows[j]? =some r:=⟨_,Ta hjx⟩
 have hrm:=Tc hr
 have hrx:r.xs∈x.rq.2:=TD.2 ⟨r,hrm,rfl⟩
 have hst:=YiW x.rq j
 have hrj:rtAt x.rq.2 j=r.xs:=ZF hr
 rw[hrj]at hst
 have h9:=hxd.l _ hrx
 have l2:=λ{H':List HP}{w:World}(hr:Rd B w0 H' r.A (r.xs.flatMap numF)) (hw:St B w0 H' w)=>X7 wordR r.xs (hxd.r _ hrx) (by omega) (by decide) (cap:=r.cap) hr hw
 have hl2:=XR (w:=wordR) (hxd.r _ hrx)
 have e5:wordR.length=5:=rfl
 obtain⟨s2,hs2⟩:∃s,Y0 wordR r.xs=s:=⟨_,rfl⟩
 rw[hs2]at l2 hl2 hst
 repeat'(first|refine zgd ?_|(refine zge ?_ ?_<;>intro _<;>try exact zo)|fail)
 apply Yb en85
 exact za
 exact rfl
 exactλ_ hw=>(l2 ((hxi.rw_ r hrm).mono zk) hw)
 repeat'(first|(apply XY (plnT q0 k++rqT x.rq j) s2;(iterate 3 exact rfl);(rw[Tt];omega))|refine zgc ?_|fail)
 apply hK2 (j+1)
 ·show j+1<=x.rows.length
  omega
 ·omega
 ·rw[hst,<-TV]
  exact zu
 ·exactλw hw=>hw
variable {B:Nat}{w0 w:World}{H:List HP}
theorem Yj8(hw:St B w0 H w):
 CX B w0 35 [] w λv K=>∃(n:NetM) (A:Option Addr),v=.tuple #[n.val,.slice A 1 1]/\n.net=exN5/\n.In B w0 K/\Rd B w0 K A ([exF5].flatMap flwF)/\∀w,St B w0 K w->St B w0 H w:=by
 refine Ya Tryz.func35 Tryz.ntmps35 rfl rfl hw ?_
 repeat'(first|refine zgd ?_|(refine zgh ?_;intro _)|fail)
 rename_i g0 r1 r2 gp gl gm g2 gf
 apply Yy T;(iterate 3 exact rfl);exact zm;exact rfl;exact rfl;exactλw hw=>hw
 refine⟨⟨2,(some ⟨gp,0,none⟩),2,[⟨(some ⟨r1,0,none⟩),2,[0,9]⟩,⟨(some ⟨r2,0,none⟩),2,[9,0]⟩],1,1000,(some ⟨gl,0,none⟩),2,[(0,1,0),(1,0,0)],(some ⟨gm,0,none⟩),2,[9,9]⟩,(some ⟨gf,0,none⟩),rfl,rfl,?_,?_,?_⟩
 ·refine⟨Rd.blk (cs:=#[.slice (some ⟨r1,0,none⟩) 2 2,.slice (some ⟨r2,0,none⟩) 2 2]) (t:=24) (fr:=(0,0)) zm,λr hr=>?_,Rd.blk (cs:=#[.int .i64 0,.int .i64 1,.int .i64 0,.int .i64 1,.int .i64 0,.int .i64 0]) (t:=164) (fr:=(0,0)) zm,Rd.blk (cs:=#[.int .i64 9,.int .i64 9]) (t:=3) (fr:=(0,0)) zm,by show 2<=_;omega,λr hr=>?_,by show 2<=_;omega,by show 2<=_;omega⟩
  ·simp only[RA,SJ,or_false]at hr
   rcases hr with rfl|rfl
   ·exact Rd.blk (cs:=#[.int .i64 0,.int .i64 9]) (t:=3) (fr:=(0,0)) zm
   ·exact Rd.blk (cs:=#[.int .i64 9,.int .i64 0]) (t:=3) (fr:=(0,0)) zm
  ·simp only[RA,SJ,or_false]at hr
   rcases hr with rfl|rfl<;>(show 2<=_;omega)
 ·exact Rd.blk (cs:=#[.int .i64 1,.int .i64 0,.int .i64 1,.int .i64 2,.int .i64 0,.int .i64 2]) (t:=45) (fr:=(0,0)) zm
 ·exact zk
theorem Yjl(ht:TabsB B w0)(hw:St B w0 H w):
 CX B w0 8 [] w λv K=>v=.bool true/\K=H:=by
 refine Ya Tryz.func8 Tryz.ntmps8 rfl rfl hw ?_
 repeat'(first|refine zga ?_|fail)
 apply Yg _ en35
 exact za
 exact rfl
 exactλ_ hw=>(Yj8 (hw))
 rintro _ K0 ⟨n,A,rfl,hn,hin,hr,hback⟩
 have p1:∀{H':List HP}{w:World},n.In B w0 H'->Rd B w0 H' A ([exF5].flatMap flwF)->St B w0 H' w->CX B w0 10 [n.val,.slice A 1 1,.int .i64 2,.int .i64 1] w (Yli B w0 H' (some exP5,0)):=λhin hr hw=>by
  have h:=Yiq n [exF5] 2 1 (by omega) (by decide) (λf hf=>by rw[Ru.1 hf];exact YkI n exF5 (by rw[hn];exact Yc2) (by rw[hn];exact YhS) (by rw[hn];decide)) (cap:=1) ht hin hr hw
  rw[hn,Ypy]at h
  exact h
 unfold NetM.val
 unfold NetM.val at p1
 repeat'(first|refine zgc ?_|(refine zgh ?_;intro _)|fail)
 apply Yg _ en10
 exact za
 exact rfl
 exactλ_ hw=>(p1 (hin.mono zk) (hr.mono zk) (hw))
 rintro _ K1 (⟨h,-⟩|⟨p,X,hp,rfl,hpin,rfl⟩)
 ·cases h
 have hp:exP5=p.pln:=TJ hp
 have p2:∀{H':List HP}{w:World},p.In B w0 H'->St B w0 H' w->CX B w0 18 [p.val] w λv K=>v=.tuple #[strV exT5,.int .i64 0]/\K=H':=λhpin hw=>by
  have h:=Oj p ht hpin hw
  rw[<-hp,Ypz]at h
  exact h
 have p3:∀{H':List HP}{w:World},p.In B w0 H'->St B w0 H' w->CX B w0 22 [p.val] w λv K=>v=.int .i64 0/\K=H':=λhpin hw=>by
  have h:=Vv p ht hpin hw
  rw[<-hp,YlT]at h
  exact h
 obtain⟨pw,hwd,hq0,hc0⟩:=YrC
 have p4:∀{H':List HP}{w:World},p.In B w0 H'->St B w0 H' w->CX B w0 16 [p.val,.int .i64 1] w (Yli B w0 H' (some pw,0)):=λhpin hw=>by
  have h:=YbW p 1 ht hpin hw
  rw[<-hp,hwd]at h
  exact h
 have hf:p.f=[0,1]:=by have:=TF Pln.f hp;exact this.symm
 have p5:∀{A2:Option Addr}{cap2:Nat}{H':List HP}{w:World},Rd B w0 H' p.fA (p.f.flatMap numF)->Rd B w0 H' A2 ([0,1].flatMap numF)->St B w0 H' w->CX B w0 36 [.slice p.fA p.f.length p.fcap,.slice A2 2 cap2] w λu K=>u=.bool true/\K=H':=λ{A2 cap2 H' w} h1 h2 hw=>by
  have h:=Yc1 p.f [0,1] (by rw[hf];decide) (cap:=p.fcap) (cap2:=cap2) h1 h2 hw
  rw[hf,Tf rfl]at h
  rw[hf]
  exact h
 unfold PnM.val
 unfold PnM.val at p2 p3 p4
 repeat'(first|refine zgc ?_|(refine zgh ?_;intro _)|fail)
 apply Yb en18
 exact za
 exact rfl
 exactλ_ hw=>(p2 (hpin.inX zm) hw)
 repeat'(first|refine zgc ?_|fail)
 apply Yg _ en16
 exact za
 exact rfl
 exactλ_ hw=>(p4 (hpin.inX zm) (hw))
 rintro _ K2 (⟨h,-⟩|⟨p',X',hp',rfl,hpin',rfl⟩)
 ·cases h
 have hp':pw=p'.pln:=TJ hp'
 have hq0':p'.q.length=0:=by
  have h1:(p'.q.map RqM.rq)=[]:=by rw[<-hq0,hp'];rfl
  rw[<-To (f:=RqM.rq),h1];rfl
 have hc0':p'.s.cells.length=0:=by
  have h1:p'.s.cells=[]:=by rw[<-hc0,hp'];rfl
  rw[h1];rfl
 unfold PnM.val
 rw[hq0',hc0']
 repeat'(first|((apply Yb en36);exact za;exact rfl;exactλ_ hw=>(p5 ((hpin.inX zm).f) (Rd.blk (cs:=#[.int .i64 0,.int .i64 1]) (t:=3) (fr:=(0,0)) zm) hw))|((apply Yb en22);exact za;exact rfl;exactλ_ hw=>(p3 (hpin.inX zm) hw))|(apply Ylp;(iterate 3 exact rfl);all_goals(intro hE;try(exact absurd rfl hE)))|refine zgc ?_|(refine zgf ?_ ?_<;>intro _<;>try exact zo)|(refine zgh ?_;intro _)|fail)
 apply Yf H
 ·intro w hw
  refine hback w ?_
  revert w
  exact zk
 apply Yd;exact rfl;exact rfl
 exact⟨rfl,rfl⟩
theorem YdL(p:Pln):(ZI p).1.length<=100000:=by
 unfold ZI
 by_cases h:chkP p=0
 ·rw[Tj (λe=>e h)]
  have h1:=Yca (QP (QQ h))
  have h2:=Yag h1.2 p.q.length (TK _)
  have h3:=Qs p.s
  have h4:=Qr p.c
  dsimp only
  rw[Tt,Tt]
  omega
 ·rw[Tn h]
  exact Td _
def idP(p:Pln):ByteArray×Int:=if(ZI p).2=0 then(digS ⟨(ZI p).1.toArray⟩,0)else(⟨#[]⟩,(ZI p).2)
theorem Ykl(p:PnM){B:Nat}{w0:World}{H:List HP}{w:World}(ht:TabsB B w0)(hp:p.In B w0 H)(hw:St B w0 H w):
 CX B w0 20 [p.val] w λv K=>v=.tuple #[.string (idP p.pln).1,.int .i64 (idP p.pln).2]/\K=H:=by
 refine Ya Tryz.func20 Tryz.ntmps20 rfl rfl hw ?_
 have p1:=λ{H':List HP}{w:World}(hp:p.In B w0 H') (hw:St B w0 H' w)=>Oj p ht hp hw
 have hpM:∀{H':List HP},many H∈H'->p.In B w0 H':=λhm=>hp.mono λw hw=>hw.inM hm
 have hl:=YdL p.pln
 unfold idP
 obtain⟨⟨tx,e⟩,hE⟩:∃R,ZI p.pln=R:=⟨_,rfl⟩
 rw[hE]at p1 hl⊢
 dsimp only at p1 hl⊢
 unfold PnM.val at p1⊢
 refine Y6 [many H] (λw hw=>hw.perm (.closeT H)) ?_
 have hsz:(⟨tx.toArray⟩:ByteArray).size<=1000000000:=by show tx.toArray.size<=_;simp;omega
 by_cases he:e=0
 rotate_left
 ·rw[Tj he]
  repeat'(first|((apply Yb en18);exact za;exact rfl;exactλ_ hw=>(p1 (hpM zm) hw))|refine zgc ?_|(refine zge ?_ ?_<;>intro _<;>try exact zo)|(refine zgh ?_;intro _)|fail)
  apply Yf H
  ·intro w hw
   have h5:St B w0 [many H] w:=by
    revert w
    exact zk
   exact h5.perm (.openT H)
  apply YH;(iterate 3 exact rfl);exact⟨rfl,rfl⟩
 subst he
 rw[Tn rfl]
 repeat'(first|((apply Yb en18);exact za;exact rfl;exactλ_ hw=>(p1 (hpM zm) hw))|refine zgc ?_|(refine zge ?_ ?_<;>intro _<;>try exact zo)|(refine zgh ?_;intro _)|fail)
 apply Yb en88
 exact za
 exact rfl
 exactλ_ hw=>(Ygf _ hsz hw)
 repeat'(first|refine zga ?_|fail)
 apply Yf H
 ·intro w hw
  have h5:St B w0 [many H] w:=by
   revert w
   exact zk
  exact h5.perm (.openT H)
 apply YH;(iterate 3 exact rfl);exact⟨rfl,rfl⟩
theorem YkQ(p:PnM){B:Nat}{w0:World}{H:List HP}{w:World}(hp:p.In B w0 H)(hw:St B w0 H w):
 CX B w0 21 [p.val] w λv K=>v=.tuple #[.string (idP p.pln).1,.int .i64 (idP p.pln).2]/\K=H:=by
 refine Ya Tryz.func21 Tryz.ntmps21 rfl rfl hw ?_
 have p1:=λ{H':List HP}{w:World}(hp:p.In B w0 H') (hw:St B w0 H' w)=>Qa p hp hw
 have hpM:∀{H':List HP},many H∈H'->p.In B w0 H':=λhm=>hp.mono λw hw=>hw.inM hm
 have hl:=YdL p.pln
 unfold idP
 obtain⟨⟨tx,e⟩,hE⟩:∃R,ZI p.pln=R:=⟨_,rfl⟩
 rw[hE]at p1 hl⊢
 dsimp only at p1 hl⊢
 unfold PnM.val at p1⊢
 refine Y6 [many H] (λw hw=>hw.perm (.closeT H)) ?_
 have hsz:(⟨tx.toArray⟩:ByteArray).size<=1000000000:=by show tx.toArray.size<=_;simp;omega
 by_cases he:e=0
 rotate_left
 ·rw[Tj he]
  repeat'(first|((apply Yb en19);exact za;exact rfl;exactλ_ hw=>(p1 (hpM zm) hw))|refine zgc ?_|(refine zge ?_ ?_<;>intro _<;>try exact zo)|(refine zgh ?_;intro _)|fail)
  apply Yf H
  ·intro w hw
   have h5:St B w0 [many H] w:=by
    revert w
    exact zk
   exact h5.perm (.openT H)
  apply YH;(iterate 3 exact rfl);exact⟨rfl,rfl⟩
 subst he
 rw[Tn rfl]
 repeat'(first|((apply Yb en19);exact za;exact rfl;exactλ_ hw=>(p1 (hpM zm) hw))|refine zgc ?_|(refine zge ?_ ?_<;>intro _<;>try exact zo)|(refine zgh ?_;intro _)|fail)
 apply Yb en89
 exact za
 exact rfl
 exactλ_ hw=>(YiZ _ hsz hw)
 repeat'(first|refine zga ?_|fail)
 apply Yf H
 ·intro w hw
  have h5:St B w0 [many H] w:=by
   revert w
   exact zk
  exact h5.perm (.openT H)
 apply YH;(iterate 3 exact rfl);exact⟨rfl,rfl⟩
theorem cmpI_zero{a b:Int}:cmpI a b=0↔a=b:=by
 unfold cmpI
 omega
theorem PnM.Bg.mono{B:Nat}{w0:World}{H H':List HP}{p:PnM}(h:p.Bg B w0 H)(hH:∀w,St B w0 H' w->St B w0 H w):p.Bg B w0 H':=⟨h.n.mono hH,h.q.mono hH,h.s.mono hH,h.sl,h.c.mono5 hH,h.f.mono hH,h.fl⟩
theorem YrP(p:PnM){B:Nat}{w0:World}{H:List HP}{w:World}(ht:TabsB B w0)(hp:p.Bg B w0 H)(hw:St B w0 H w):
 CX B w0 5 [p.val] w λv K=>v=.bool true/\K=H:=by
 refine Ya Tryz.func5 Tryz.ntmps5 rfl rfl hw ?_
 have p0:=λ{H':List HP}{w:World}(hp:p.Bg B w0 H') (hw:St B w0 H' w)=>Ykb p hp hw
 have hop:∀w,St B w0 [many H] w->St B w0 H w:=λw hw=>hw.perm (.openT H)
 have hbM:∀{H':List HP},many H∈H'->p.Bg B w0 H':=λhm=>hp.mono λw hw=>hw.inM hm
 unfold PnM.val at p0⊢
 refine Y6 [many H] (λw hw=>hw.perm (.closeT H)) ?_
 repeat'(first|refine zga ?_|(refine zgh ?_;intro _)|fail)
 apply Yb en8
 exact za
 exact rfl
 exactλ_ hw=>(Yjl ht hw)
 repeat'(first|refine zgc ?_|fail)
 apply Yg _ en13
 exact za
 exact rfl
 exactλ_ hw=>(p0 (hbM zm) (hw))
 rintro _ _ ⟨⟨b,rfl,hfew⟩,hK0⟩
 rw[hK0]
 cases b with
 |false=>
  repeat'(first|refine zgd ?_|fail)
  apply Yf H
  ·intro w hw
   have h5:St B w0 [many H] w:=by
    revert w
    exact zk
   exact hop w h5
  apply Yd;exact rfl;exact rfl;exact⟨rfl,rfl⟩
 |true=>
 have hfew:=hfew rfl
 have hpM:∀{H':List HP},many H∈H'->p.In B w0 H':=λhm=>(hbM hm).small hfew
 clear p0 hK0
 have p1:=λ{H':List HP}{w:World}(hp:p.In B w0 H') (hw:St B w0 H' w)=>Oj p ht hp hw
 have p2:=λ{H':List HP}{w:World}(hp:p.In B w0 H') (hw:St B w0 H' w)=>Qa p hp hw
 have p3:=λ{H':List HP}{w:World}(hp:p.In B w0 H') (hw:St B w0 H' w)=>Ykl p ht hp hw
 have p4:=λ{H':List HP}{w:World}(hp:p.In B w0 H') (hw:St B w0 H' w)=>YkQ p hp hw
 have p5:=λ{H':List HP}{w:World}(hp:p.In B w0 H') (hw:St B w0 H' w)=>Vv p ht hp hw
 have p6:=λ{H':List HP}{w:World}(hp:p.In B w0 H') (hw:St B w0 H' w)=>O6 p hp hw
 generalize ZI p.pln=RP at p1 p2
 generalize idP p.pln=RI at p3 p4
 generalize chkP p.pln=ck at p5 p6
 obtain⟨tx,e⟩:=RP
 obtain⟨ti,f⟩:=RI
 unfold PnM.val at p1 p2 p3 p4 p5 p6
 dsimp only at p1 p2 p3 p4
 repeat'(first|refine zgc ?_|fail)
 apply Yb en18
 exact za
 exact rfl
 exactλ_ hw=>(p1 (hpM zm) hw)
 repeat'(first|refine zgc ?_|fail)
 apply Yb en19
 exact za
 exact rfl
 exactλ_ hw=>(p2 (hpM zm) hw)
 repeat'(first|refine zgc ?_|fail)
 apply Yb en20
 exact za
 exact rfl
 exactλ_ hw=>(p3 (hpM zm) hw)
 repeat'(first|refine zgc ?_|fail)
 apply Yb en21
 exact za
 exact rfl
 exactλ_ hw=>(p4 (hpM zm) hw)
 repeat'(first|refine zgc ?_|fail)
 apply YA [0,2,1,3,4,5,6,7,8,9,10,11,12,13,14,15,16,17,18,19,20,21,22,23,24,25] [] [true,true]
 kernel_rfl
 kernel_rfl
 exact zy
 (simp only[Yc,nthO];rfl)
 exact rfl
 repeat'(first|((apply Yb en22);exact za;exact rfl;exactλ_ hw=>(p5 (hpM zm) hw))|((apply Yb en23);exact za;exact rfl;exactλ_ hw=>(p6 (hpM zm) hw))|(apply zg7;first|(refine zs15 ?_ ?_<;>intro _<;>try exact zo)|(refine zs23 ?_ ?_<;>intro _))|(apply Yh;try exact zl)|refine zgd ?_|fail)
 all_goals(first|contradiction|skip)
 apply Yf H
 ·intro w hw
  have h5:St B w0 [many H] w:=by
   revert w
   exact zk
  exact hop w h5
 apply Yd;exact rfl;exact rfl;exact⟨rfl,rfl⟩
end Go.Proofs.YtjommdkgfbhbdaaGreatDoor
