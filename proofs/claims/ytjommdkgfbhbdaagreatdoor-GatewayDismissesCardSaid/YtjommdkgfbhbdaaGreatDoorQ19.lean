/- Lemmas. -/
import Derived.Test.YtjommdkgfbhbdaaGreatDoorQ17
set_option maxRecDepth 100000
set_option maxHeartbeats 8000000
set_option linter.all false
namespace Go.Proofs.YtjommdkgfbhbdaaGreatDoor
open Go.RowKit Go.Eng Go.Nw Go.Rt
variable {B:Nat}{w0 w:World}{H:List HP}
theorem YjS(l m:List Int)(hlen:l.length<=9223372036854775807){A A2:Option Addr}{cap cap2:Nat}(hr:Rd B w0 H A (l.flatMap numF))(hr2:Rd B w0 H A2 (m.flatMap numF))(hw:St B w0 H w):
 CX B w0 36 [.slice A l.length cap,.slice A2 m.length cap2] w λu K=>u=.bool (decide (l=m))/\K=H:=by
 refine Ya Tryz.func36 Tryz.ntmps36 rfl rfl hw ?_
 by_cases hll:l.length=m.length
 rotate_left
 ·exact zc6
 refine zX0 ?_<;>intros
 refine Ye (λ(k:Nat)=>[(13,.int .i64 k),(12,.int .i64 l.length),(0,.slice A l.length cap),(1,.slice A2 m.length cap2)]) (λ_=>H) (λk=>k<=l.length/\l.take k=m.take k) (λk=>l.length-k) 0 ⟨Td _,by simp⟩ ?_ (λw hw=>hw) ?_
 ·exact zc1
 rintro k ⟨hk,hi⟩ K hK
 by_cases hlt:k<l.length
 ·obtain⟨a,ha⟩:∃a,l[k]? =some a:=⟨_,Ta hlt⟩
  obtain⟨b,hb⟩:∃b,m[k]? =some b:=⟨_,Ta (by omega)⟩
  repeat'(first|refine zgd ?_|(refine zge ?_ ?_<;>intro _<;>try exact zo)|fail)
  ·exact zc39
  ·rename_i h
   apply hK (k+1)
   ·exact⟨by omega,by exact zc78⟩
   ·omega
   ·exact zc1
   exact zc18
 exact zc8
theorem UN(p:PnM)(ht:TabsB B w0)(hp:p.In B w0 H)(hw:St B w0 H w):
 CX B w0 22 [p.val] w λv K=>v=.int .i64 (chkP p.pln)/\K=H:=by
 refine Ya Tryz.func22 Tryz.ntmps22 rfl rfl hw ?_
 obtain⟨n,qA,qcap,q,s,cA,ccap,c,fA,fcap,f⟩:=p
 obtain⟨hin,hq,hrs,hsl,hc,hf,hfl⟩:=hp
 dsimp only at hin hq hrs hsl hc hf hfl
 have p1:=λ{H':List HP}{w:World}(hin:n.In B w0 H') (hw:St B w0 H' w)=>Ju n hin hw
 have p2:=λ{H':List HP}{w:World}(hin:n.In B w0 H') (hq:QIn B w0 H' qA q) (hrs:Rd B w0 H' s.A (s.cells.flatMap celF)) (hw:St B w0 H' w)=>Us n q s (cap:=qcap) ht hin hq hrs hsl hw
 have p3:=λ{H':List HP}{w:World}(hin:n.In B w0 H') (hq:QIn B w0 H' qA q) (hrs:Rd B w0 H' s.A (s.cells.flatMap celF)) (hc:CIn B w0 H' cA c) (hw:St B w0 H' w)=>YfT n q s c (cap:=qcap) (cap1:=ccap) ht hin hq hrs hsl hc hw
 have p4:=λ{H':List HP}{w:World}(hrs:Rd B w0 H' s.A (s.cells.flatMap celF)) (hw:St B w0 H' w)=>Yet s ht hrs hsl hw
 unfold PnM.val
 show VC _ _ B w0 _ (bodyPost _ _ (Post B w0 λv K=>v=.int .i64 (chkP ⟨n.net,q.map RqM.rq,s.sch,c.map ClM.clm,f⟩)/\K=H)) _ _
 unfold chkP
 dsimp only
 unfold OutC at p2
 obtain⟨⟨RC,ri,re⟩,hR⟩:∃R,YD n.net (q.map RqM.rq) s.sch=R:=⟨_,rfl⟩
 obtain⟨⟨RF,fe⟩,hRF⟩:∃R,Y9 s.sch=R:=⟨_,rfl⟩
 obtain⟨⟨ki,ke⟩,hRK⟩:∃R,chkE n.net (q.map RqM.rq) s.sch (c.map ClM.clm)=R:=⟨_,rfl⟩
 rw[hR]at p2⊢
 rw[hRF]at p4⊢
 rw[hRK]at p3⊢
 dsimp only at p2 p3 p4⊢
 have hFn:RF.length<=9223372036854775807:=by
  have h2:=TA (λz=>z.1.length) hRF
  dsimp only at h2
  unfold Y9 at h2
  split at h2
  ·exact YqY
  ·rename_i h0
   unfold XT at h2
   rw[Zd,TR]at h2
   have h3:=(Xm.1 (by simpa using h0)).sized
   exact YuX
 unfold NetM.val at p1
 unfold NetM.val SchM.val at p2 p3
 unfold SchM.val at p4
 clear hR hRF hRK
 by_cases hck:Yo n.net=0
 rotate_left
 ·rw[To hck]
  rw[Tn hck]at p1
  refine YlX ?_<;>intros
  apply Yb en38
  exact za
  exact rfl
  exactλ_ hw=>(p1 (hin.mono zc0) hw)
  refine Z0 ?_
  apply Yf H
  ·exact zc0
  exact zc3
 rw[Tf (λe=>e hck)]
 rw[Ti hck]at p1
 refine YlX ?_<;>intros
 apply Yb en38
 exact za
 exact rfl
 exactλ_ hw=>(p1 (hin.mono zc0) hw)
 refine Z0 ?_
 apply Yg _ en90
 exact za
 exact rfl
 exactλ_ hw=>(p2 (hin.mono zc0) (hq.mono zc0) (hrs.mono zc0) (hw))
 rintro _ _ ⟨A2,c2,C,rfl,hC,hCl,rfl⟩
 by_cases h18:re=15\/re=1/\ri<0
 ·rw[To h18]
  repeat'(first|refine Yi T ?_|refine zgd ?_|(refine zge ?_ ?_<;>intro _<;>try exact zo)|fail)
  all_goals try exact zo
  all_goals(
   apply Yf H
   ·exact zk
   apply Yc;exact rfl;exact rfl;exact⟨rfl,rfl⟩)
 rw[Tf h18]
 by_cases h0:re=0
 rotate_left
 ·rw[To h0]
  repeat'(first|refine Yi T ?_|refine zgd ?_|(refine zge ?_ ?_<;>intro _<;>try exact zo)|fail)
  all_goals try exact zo
  all_goals(
   apply Yf H
   ·exact zk
   apply Yc;exact rfl;exact rfl;exact⟨rfl,rfl⟩)
 rw[Tf (λe=>e h0)]
 subst h0
 refine QX ?_<;>intros
 all_goals try exact zo
 apply Yb en91
 exact za
 exact rfl
 exactλ_ hw=>(p3 (hin.mono zc0) (hq.mono zc0) (hrs.mono zc0) (hc.mono zc0) hw)
 by_cases hk0:ke=0
 rotate_left
 ·rw[To hk0]
  refine QX ?_<;>intros
  apply Yf H
  ·exact zc0
  exact zc3
 rw[Tf (λe=>e hk0)]
 refine QX ?_<;>intros
 apply Yg _ en92
 exact za
 exact rfl
 exactλ_ hw=>(p4 (hrs.mono zc0) (hw))
 rintro _ _ ⟨A3,rfl,rfl⟩
 have p5:=λ{cap1 cap2:Nat}{H':List HP}{w:World}(h1:Rd B w0 H' A3 (RF.flatMap numF)) (h2:Rd B w0 H' fA (f.flatMap numF)) (hw:St B w0 H' w)=>YjS RF f hFn (cap:=cap1) (cap2:=cap2) h1 h2 hw
 by_cases hf0:fe=0
 rotate_left
 ·rw[To (.inl hf0)]
  refine QX ?_<;>intros
  all_goals try exact zo
  all_goals(
   apply Yf H
   ·exact zc0
   exact zc3)
 by_cases hff:RF=f
 ·rw[Tf (by rintro(h|h);exact h hf0;exact h hff)]
  rw[Ti hff]at p5
  refine YtO ?_<;>intros
  all_goals try exact zo
  all_goals(
   apply Yf H
   ·exact zc0
   exact zc3)
 ·rw[To (.inr hff)]
  rw[Tn hff]at p5
  refine YtO ?_<;>intros
  all_goals try exact zo
  all_goals(
   apply Yf H
   ·exact zc0
   exact zc3)
def Ytz(f:Flw):List Int:=[f.1,f.2.1,f.2.2.1,f.2.2.2.1,f.2.2.2.2.1,f.2.2.2.2.2]
structure RqD(x:Rqs):Prop where
 f:∀n∈Ytz x.1,0<=n/\n<10000
 n:x.2.length<=2
 l:∀r∈x.2,r.length<=9
 r:∀r∈x.2,∀n∈r,0<=n/\n<10000
theorem Qi{p:Pln}(h:chkP p=0):(YD p.n p.q p.s).2.2=0:=by
 unfold chkP at h
 omega
variable {n:Net}{q:List Rqs}
theorem Qh{s:Sch}(h:(YD n q s).2.2=0):(rqsE n q).2=0:=TQ.1 λh1=>by
 simp_all [YD]
theorem YbI(h:(rqsE n q).2=0):q.length<=16/\∀x∈q,RqD x:=by
 obtain⟨hck,hfl,hrt⟩:=V4 h
 have hok:=YP hck
 have h32:=hok.n1
 refine⟨?_,λx hx=>?_⟩
 ·grind [Yt,YG]
 have hfx:Xl n.nodes x.1=0:=Ul hfl (TG.2 ⟨x,hx,rfl⟩)
 obtain⟨h1,h2,h3,-,h5⟩:=X4 hfx
 have h6:(0<=x.1.2.1/\x.1.2.1<n.nodes)/\0<=x.1.2.2.1/\x.1.2.2.1<n.nodes:=by
  grind [Xl,insE]
 have hrx:=hrt x hx
 refine⟨λz hz=>?_,?_,λr hr=>?_,λr hr z hz=>?_⟩
 ·unfold Ytz at hz
  grind
 ·grind [YbJ]
 ·exact(JC (U9 hrx r hr)).2.1.2
 ·have hc:=U9 hrx r hr
  unfold Xw at hc
  split at hc
  ·exact absurd hc (by assumption)
  have ho:=(Qn hc).2.1
  rw[RG]at ho
  have h8:=ho z hz
  unfold offE at h8
  simp only[Tm]at h8
  omega
variable {B:Nat}{w0 w:World}{H:List HP}
theorem NetM.In.here{n:NetM}(h:n.In B w0 H)(hw:St B w0 H w):n.In w.heap.size w []:=⟨h.pw.here hw,λr hr=>(h.rw_ r hr).here hw,h.lk.here hw,h.mg.here hw,h.s1,h.s2,h.s3,h.s4⟩
theorem QIn.here{q:List RqM}{A:Option Addr}(h:QIn B w0 H A q)(hw:St B w0 H w):QIn w.heap.size w [] A q:=⟨h.rd.here hw,λx hx=>⟨(h.x x hx).rt.here hw,λr hr=>((h.x x hx).rw_ r hr).here hw,(h.x x hx).ln,(h.x x hx).rl⟩,h.ln⟩
theorem PnM.In.here{p:PnM}(h:p.In B w0 H)(hw:St B w0 H w):p.In w.heap.size w []:=⟨h.n.here hw,h.q.here hw,h.s.here hw,h.sl,h.c.here hw,h.f.here hw,h.fl⟩
end Go.Proofs.YtjommdkgfbhbdaaGreatDoor
namespace Go.Eng
open Go.RowKit
section
variable {P:Program}{m:Mode}{n:Shp}{B:Nat}{w0:World}{ops:Array Oper}{Q:Exit->Act->World->Prop}{rest:List Oper}{env:Env}{H:List HP}{d:Nat}{ty:TypeId}{pos:String}{after:Array Edge}{x y:Operand}
variable {k:Nat}
theorem YgM(T:Tab P){t tn e size bytes:Nat}(hx:evo env x=some (.slice none 0 0))(hy:evo env y=some (.int .i64 (k:Int)))(ht:look T.sl t=some (e,size,bytes))(htn:Yf5 P tn=true)(hn:Nat.ble (d+1) n.k=true)(hb:Nat.ble bytes 1000=true)(hk:0<k/\k<=1000000)
 (h:∀g c,k<=c->VL P none n B w0 ops Q rest ((d,.slice (some ⟨g,0,none⟩) k c)::env) (sl e size (some ⟨g,0,none⟩) 0 c []::H)):VL P none n B w0 ops Q (⟨some d,.call ⟨.builtin .append,#[x,y],#[t,tn]⟩,ty,pos,after,none⟩::rest) env H:=by
 obtain⟨hu,i,z,hi,hz,hzs,hsi,hbi,_,_⟩:=YN (T.slic ht)
 obtain⟨kn,hkn⟩:=YaS htn
 have hb':=TV hb
 refine XG (λv K=>∃g c,v=.slice (some ⟨g,0,none⟩) k c/\K=sl e size (some ⟨g,0,none⟩) 0 c []::H/\k<=c) rfl rfl hn (λa w ha hw=>?_) (by rintro _ _ ⟨g,c,rfl,rfl,hc⟩;exact h g c hc)
 have hbytes:k*i.bytes<=281474976710656:=by
  have:k*i.bytes<=k*1000:=Nat.mul_le_mul_left _ (by omega)
  omega
 have hrun:=Lib.run_append_nil_zeros (P:=P) w t tn ty e i z .i64 kn hu hkn hi hz k hk.1 (by omega) (by omega) hbytes
 have hge:=grownCap_ge w k 0 e
 have hcm:grownCap w k 0 e<=maxLen:=grownCap_le_maxLen w k 0 e (by grind [maxLen])
 refine⟨_,_,_,by exact zc92,?_,w.heap.size,grownCap w k 0 e,rfl,rfl,hge⟩
 have h2:=hw.drew.alloc (.cells (Builtin.zeroCells z.cells k++Builtin.zeroCells z.cells (grownCap w k 0 e-k)) e)
 refine h2.upd (Upd.here _) rfl rfl rfl (TS _) λS1 ⟨h3,h4⟩=>⟨⟨⟨by simp,.inr ⟨w.heap.size,grownCap w k 0 e,_,rfl,Td _,h4,Td _,hcm,?_,by simp⟩⟩,λa ha=>by cases ha;exact h3⟩,λ_ _ _=>rfl⟩
 grind [size_zeroCells,Nat.add_sub_cancel']
end
end Go.Eng
namespace Go.Proofs.YtjommdkgfbhbdaaGreatDoor
open Go.RowKit Go.Eng Go.Nw Go.Rt
def slF{α:Type}(r:SlM α):List Value:=[.slice r.A r.xs.length r.cap]
def catS{α:Type}(rs:List (SlM α)):List α:=rs.flatMap λr=>r.xs
variable {α:Type}{k B cap:Nat}
theorem W8{rs:List (SlM α)}{r:SlM α}(h:rs[k]? =some r):catS (rs.take (k+1))=catS (rs.take k)++r.xs:=by
 grind [catS,TD]
theorem Ybz(rs:List (SlM α))(k:Nat):(catS (rs.take k)).length<=(catS rs).length:=by
 grind [catS,Rw]
variable {w0 w:World}{H:List HP}
theorem YhU(k:Nat)(hk:k<=1000000)(hw:St B w0 H w):
 CX B w0 273 [.slice none 0 0,.int .i64 k] w λv K=>∃A c,v=.slice A 0 c/\K=sl 58 7 A 0 c []::H:=by
 refine Ya Tryz.func273 Tryz.ntmps273 rfl rfl hw ?_
 by_cases h0:k=0
 ·subst h0
  refine zX4 ?_<;>intros
  apply Xx 58 7
  exact zc38
 exact zc12
variable {A:Option Addr}
theorem Oz(rs:List (SlM Lop))(hrs:rs.length<=1000)(hct:(catS rs).length<=1000000)(hr:Rd B w0 H A (rs.flatMap slF))(hrr:∀r∈rs,Rd B w0 H r.A (r.xs.flatMap lopF))(hw:St B w0 H w):
 CX B w0 194 [.slice A rs.length cap] w λv K=>∃A' c,v=.slice A' (catS rs).length c/\(catS rs).length<=c/\K=sl 58 7 A' (catS rs).length c ((catS rs).flatMap lopF)::H:=by
 refine Ya Tryz.func194 Tryz.ntmps194 rfl rfl hw ?_
 refine zX9 ?_
 refine Ye (λ(k:Nat)=>[(11,.int .i64 k),(10,.int .i64 rs.length),(9,.slice A rs.length cap),(3,.int .i64 (catS (rs.take k)).length),(0,.slice A rs.length cap)]) (λ_=>H) (λk=>k<=rs.length) (λk=>rs.length-k) 0 (Td _) ?_ (λw hw=>hw) ?_
 ·exact zc1
 intro k hk K hK
 by_cases hlt:k<rs.length
 ·obtain⟨r,hx⟩:∃x,rs[k]? =some x:=⟨_,Ta hlt⟩
  have hst:=W8 hx
  have h1:=Ybz rs (k+1)
  rw[hst,Tt]at h1
  refine zX50 ?_<;>intros
  apply hK (k+1)
  ·omega
  ·omega
  ·rw[hst,Tt,Int.natCast_add];exact zc1
  exact zc18
 ·obtain rfl:k=rs.length:=by omega
  clear hK
  rw[TC]
  refine zX1 ?_<;>intros
  apply Yg _ Yw0
  exact za
  exact rfl
  exactλ_ hw=>(YhU (catS rs).length (by omega) (hw))
  rintro _ _ ⟨A0,c0,rfl,rfl⟩
  refine zX9 ?_
  refine Ye (λ(z:LsM)=>[(27,.int .i64 z.i),(26,.int .i64 rs.length),(25,.slice A rs.length cap),(6,.slice z.A (catS (rs.take z.i)).length z.cap)]) (λz=>sl 58 7 z.A (catS (rs.take z.i)).length z.cap ((catS (rs.take z.i)).flatMap lopF)::H) (λz=>z.i<=rs.length) (λz=>rs.length-z.i) ⟨0,A0,c0⟩ (Td _) ?_ (λw hw=>hw) ?_
  ·exact zc1
  rintro⟨k,A1,c1⟩ hk K hK
  simp only at hk⊢
  by_cases hlt:k<rs.length
  ·obtain⟨r,hx⟩:∃x,rs[k]? =some x:=⟨_,Ta hlt⟩
   have hst:=W8 hx
   have h1:=Ybz rs (k+1)
   rw[hst,Tt]at h1
   have hrx:=hrr r (Tc hx)
   obtain⟨C,hC⟩:∃C,catS (rs.take k)=C:=⟨_,rfl⟩
   rw[hC]at hst h1⊢
   refine zX50 ?_<;>intros
   apply YI T (f:=lopF) (l2:=r.xs) (e:=58) (size:=7) (xs:=C.flatMap lopF);(iterate 3 exact rfl);exact hrx.cons;exact(λ_=>rfl);exact(λ_=>rfl);exact rfl;(intro _ _;exact zd);omega;intro A' cap'
   refine zX11 ?_
   apply hK ⟨k+1,A',cap'⟩
   ·grind
   ·grind
   ·dsimp only
    rw[hst,Tt];exact zc1
   exact Yuw
  ·obtain rfl:k=rs.length:=by omega
   clear hK
   rw[TC]
   refine UF (k:=(catS rs).length) (cap:=c1) (by(focus exact zc2)) λhcap=>?_
   exact zc44
theorem Yja(l:List Lop)(k:Nat)(x:Lop)(hk:k<=l.length)(hl:l.length<=1000)(hc:l.length<=cap)(hr:Rd B w0 H A (l.flatMap lopF))(hw:St B w0 H w):
 CX B w0 100 [.slice A l.length cap,.int .i64 k,lopV x] w λv K=>∃A' c,v=.slice A' (XY l k x).length c/\(XY l k x).length<=c/\K=sl 58 7 A' (XY l k x).length c ((XY l k x).flatMap lopF)::H:=by
 refine Ya Tryz.func100 Tryz.ntmps100 rfl rfl hw ?_
 have hop:∀w,St B w0 [many H] w->St B w0 H w:=λw hw=>hw.perm (.openT H)
 have hM:∀{H':List HP},many H∈H'->Rd B w0 H' A (l.flatMap lopF):=λhm=>hr.mono λw hw=>hw.inM hm
 have hq:∀c:Lop,(lopF c).length=7:=λ_=>rfl
 have p1:=λ(g gs:Nat) {H':List HP}{w:World}(hm:many H∈H') (h1:blk g (.cells #[.int .i64 x.1,.int .i64 x.2.1,.int .i64 x.2.2.1,.int .i64 x.2.2.2.1,.int .i64 x.2.2.2.2.1,.int .i64 x.2.2.2.2.2.1,.int .i64 x.2.2.2.2.2.2] 58 (0,0))∈H') (h2:blk gs (.cells #[.slice A k cap,.slice (some ⟨g,0,none⟩) 1 1,.slice (subA A k cap 7) (l.length-k) (cap-k)] 53 (0,0))∈H') (hw:St B w0 H' w)=>by
  have h0:=Oz [⟨A,cap,l.take k⟩,⟨some ⟨g,0,none⟩,1,[x]⟩,⟨subA A k cap 7,cap-k,l.drop k⟩] (by simp) zc34 (A:=some ⟨gs,0,none⟩) (cap:=3) (H:=H') (by
   exact zc86) (λr hr=>by
   exact zc52) hw
  rw[show catS [⟨A,cap,l.take k⟩,⟨some ⟨g,0,none⟩,1,[x]⟩,⟨subA A k cap 7,cap-k,l.drop k⟩]=XY l k x by simp[catS,XY]]at h0
  exact h0
 unfold lopV
 refine YX [many H] (λw hw=>hw.perm (.closeT H)) ?_
 refine zX15 ?_<;>intros
 apply YC [0,1,2,3,5,6,7,4,8,9,10] [] [true,true]
 kernel_rfl
 kernel_rfl
 exact zy
 (simp only[Yd,nthO];rfl)
 exact rfl
 refine YtM ?_<;>intros
 rename_i g0 g gs
 apply Yg _ YsV
 exact za
 exact rfl
 exactλ_ hw=>(p1 g gs (by simp_all) (by simp_all) (by simp_all) (hw))
 rintro _ _ ⟨A',c,rfl,hcap,rfl⟩
 refine zX17 ?_
 apply Yf (sl 58 7 A' (XY l k x).length c ((XY l k x).flatMap lopF)::H)
 ·intro w hw
  have h5:St B w0 (sl 58 7 A' (XY l k x).length c ((XY l k x).flatMap lopF)::[many H]) w:=by
   revert w
   exact zc0
  exact zc43
 exact zc38
theorem Yh9(l:List Lop)(k:Nat)(hk:k<l.length)(hl:l.length<=1000)(hc:l.length<=cap)(hr:Rd B w0 H A (l.flatMap lopF))(hw:St B w0 H w):
 CX B w0 112 [.slice A l.length cap,.int .i64 k] w λv K=>∃A' c,v=.slice A' (YW l k).length c/\(YW l k).length<=c/\K=sl 58 7 A' (YW l k).length c ((YW l k).flatMap lopF)::H:=by
 refine Ya Tryz.func112 Tryz.ntmps112 rfl rfl hw ?_
 have hop:∀w,St B w0 [many H] w->St B w0 H w:=λw hw=>hw.perm (.openT H)
 have hM:∀{H':List HP},many H∈H'->Rd B w0 H' A (l.flatMap lopF):=λhm=>hr.mono λw hw=>hw.inM hm
 have hq:∀c:Lop,(lopF c).length=7:=λ_=>rfl
 have p1:=λ(gs:Nat) {H':List HP}{w:World}(hm:many H∈H') (h2:blk gs (.cells #[.slice A k cap,.slice (subA A (k+1) cap 7) (l.length-(k+1)) (cap-(k+1))] 53 (0,0))∈H') (hw:St B w0 H' w)=>by
  have h0:=Oz [⟨A,cap,l.take k⟩,⟨subA A (k+1) cap 7,cap-(k+1),l.drop (k+1)⟩] (by simp) zc34 (A:=some ⟨gs,0,none⟩) (cap:=2) (H:=H') (by
   exact zc77) (λr hr=>by
   exact zc60) hw
  rw[show catS [⟨A,cap,l.take k⟩,⟨subA A (k+1) cap 7,cap-(k+1),l.drop (k+1)⟩]=YW l k by simp[catS,YW]]at h0
  exact h0
 refine YX [many H] (λw hw=>hw.perm (.closeT H)) ?_
 refine zX2 ?_
 apply YC [0,1,2,3,4,5,6,7,8,9] [] [true]
 kernel_rfl
 kernel_rfl
 exact zy
 (simp only[Yd,nthO];rfl)
 exact rfl
 refine YtN ?_<;>intros
 rename_i gs
 apply Yg _ YsV
 exact za
 exact rfl
 exactλ_ hw=>(p1 gs (by simp_all) (by simp_all) (hw))
 rintro _ _ ⟨A',c,rfl,hcap,rfl⟩
 refine zX17 ?_
 apply Yf (sl 58 7 A' (YW l k).length c ((YW l k).flatMap lopF)::H)
 ·intro w hw
  have h5:St B w0 (sl 58 7 A' (YW l k).length c ((YW l k).flatMap lopF)::[many H]) w:=by
   revert w
   exact zc0
  exact zc43
 exact zc38
theorem YhV(k:Nat)(hk:k<=1000000)(hw:St B w0 H w):
 CX B w0 276 [.slice none 0 0,.int .i64 k] w λv K=>∃A c,v=.slice A 0 c/\K=sl 142 2 A 0 c []::H:=by
 refine Ya Tryz.func276 Tryz.ntmps276 rfl rfl hw ?_
 by_cases h0:k=0
 ·subst h0
  refine zX4 ?_<;>intros
  apply Xx 142 2
  exact zc38
 exact zc12
theorem OA(rs:List (SlM Spl))(hrs:rs.length<=1000)(hct:(catS rs).length<=1000000)(hr:Rd B w0 H A (rs.flatMap slF))(hrr:∀r∈rs,Rd B w0 H r.A (r.xs.flatMap splF))(hw:St B w0 H w):
 CX B w0 198 [.slice A rs.length cap] w λv K=>∃A' c,v=.slice A' (catS rs).length c/\(catS rs).length<=c/\K=sl 142 2 A' (catS rs).length c ((catS rs).flatMap splF)::H:=by
 refine Ya Tryz.func198 Tryz.ntmps198 rfl rfl hw ?_
 refine zX9 ?_
 refine Ye (λ(k:Nat)=>[(11,.int .i64 k),(10,.int .i64 rs.length),(9,.slice A rs.length cap),(3,.int .i64 (catS (rs.take k)).length),(0,.slice A rs.length cap)]) (λ_=>H) (λk=>k<=rs.length) (λk=>rs.length-k) 0 (Td _) ?_ (λw hw=>hw) ?_
 ·exact zc1
 intro k hk K hK
 by_cases hlt:k<rs.length
 ·obtain⟨r,hx⟩:∃x,rs[k]? =some x:=⟨_,Ta hlt⟩
  have hst:=W8 hx
  have h1:=Ybz rs (k+1)
  rw[hst,Tt]at h1
  refine zX50 ?_<;>intros
  apply hK (k+1)
  ·omega
  ·omega
  ·rw[hst,Tt,Int.natCast_add];exact zc1
  exact zc18
 ·obtain rfl:k=rs.length:=by omega
  clear hK
  rw[TC]
  refine zX1 ?_<;>intros
  apply Yg _ Yw3
  exact za
  exact rfl
  exactλ_ hw=>(YhV (catS rs).length (by omega) (hw))
  rintro _ _ ⟨A0,c0,rfl,rfl⟩
  refine zX9 ?_
  refine Ye (λ(z:LsM)=>[(27,.int .i64 z.i),(26,.int .i64 rs.length),(25,.slice A rs.length cap),(6,.slice z.A (catS (rs.take z.i)).length z.cap)]) (λz=>sl 142 2 z.A (catS (rs.take z.i)).length z.cap ((catS (rs.take z.i)).flatMap splF)::H) (λz=>z.i<=rs.length) (λz=>rs.length-z.i) ⟨0,A0,c0⟩ (Td _) ?_ (λw hw=>hw) ?_
  ·exact zc1
  rintro⟨k,A1,c1⟩ hk K hK
  simp only at hk⊢
  by_cases hlt:k<rs.length
  ·obtain⟨r,hx⟩:∃x,rs[k]? =some x:=⟨_,Ta hlt⟩
   have hst:=W8 hx
   have h1:=Ybz rs (k+1)
   rw[hst,Tt]at h1
   have hrx:=hrr r (Tc hx)
   obtain⟨C,hC⟩:∃C,catS (rs.take k)=C:=⟨_,rfl⟩
   rw[hC]at hst h1⊢
   refine zX50 ?_<;>intros
   apply YI T (f:=splF) (l2:=r.xs) (e:=142) (size:=2) (xs:=C.flatMap splF);(iterate 3 exact rfl);exact hrx.cons;exact(λ_=>rfl);exact(λ_=>rfl);exact rfl;(intro _ _;exact zd);omega;intro A' cap'
   refine zX11 ?_
   apply hK ⟨k+1,A',cap'⟩
   ·grind
   ·grind
   ·dsimp only
    rw[hst,Tt];exact zc1
   exact Yuw
  ·obtain rfl:k=rs.length:=by omega
   clear hK
   rw[TC]
   refine UF (k:=(catS rs).length) (cap:=c1) (by(focus exact zc2)) λhcap=>?_
   exact zc44
theorem Yjb(l:List Spl)(k:Nat)(x:Spl)(hk:k<=l.length)(hl:l.length<=1000)(hc:l.length<=cap)(hr:Rd B w0 H A (l.flatMap splF))(hw:St B w0 H w):
 CX B w0 106 [.slice A l.length cap,.int .i64 k,splV x] w λv K=>∃A' c,v=.slice A' (XY l k x).length c/\(XY l k x).length<=c/\K=sl 142 2 A' (XY l k x).length c ((XY l k x).flatMap splF)::H:=by
 refine Ya Tryz.func106 Tryz.ntmps106 rfl rfl hw ?_
 have hop:∀w,St B w0 [many H] w->St B w0 H w:=λw hw=>hw.perm (.openT H)
 have hM:∀{H':List HP},many H∈H'->Rd B w0 H' A (l.flatMap splF):=λhm=>hr.mono λw hw=>hw.inM hm
 have hq:∀c:Spl,(splF c).length=2:=λ_=>rfl
 have p1:=λ(g gs:Nat) {H':List HP}{w:World}(hm:many H∈H') (h1:blk g (.cells #[.int .i64 x.1,.int .i64 x.2] 142 (0,0))∈H') (h2:blk gs (.cells #[.slice A k cap,.slice (some ⟨g,0,none⟩) 1 1,.slice (subA A k cap 2) (l.length-k) (cap-k)] 54 (0,0))∈H') (hw:St B w0 H' w)=>by
  have h0:=OA [⟨A,cap,l.take k⟩,⟨some ⟨g,0,none⟩,1,[x]⟩,⟨subA A k cap 2,cap-k,l.drop k⟩] (by simp) zc34 (A:=some ⟨gs,0,none⟩) (cap:=3) (H:=H') (by
   exact zc86) (λr hr=>by
   exact zc52) hw
  rw[show catS [⟨A,cap,l.take k⟩,⟨some ⟨g,0,none⟩,1,[x]⟩,⟨subA A k cap 2,cap-k,l.drop k⟩]=XY l k x by simp[catS,XY]]at h0
  exact h0
 unfold splV
 refine YX [many H] (λw hw=>hw.perm (.closeT H)) ?_
 refine zX15 ?_<;>intros
 apply YC [0,1,2,3,5,6,7,4,8,9,10] [] [true,true]
 kernel_rfl
 kernel_rfl
 exact zy
 (simp only[Yd,nthO];rfl)
 exact rfl
 refine YtM ?_<;>intros
 rename_i g0 g gs
 apply Yg _ YsX
 exact za
 exact rfl
 exactλ_ hw=>(p1 g gs (by simp_all) (by simp_all) (by simp_all) (hw))
 rintro _ _ ⟨A',c,rfl,hcap,rfl⟩
 refine zX17 ?_
 apply Yf (sl 142 2 A' (XY l k x).length c ((XY l k x).flatMap splF)::H)
 ·intro w hw
  have h5:St B w0 (sl 142 2 A' (XY l k x).length c ((XY l k x).flatMap splF)::[many H]) w:=by
   revert w
   exact zc0
  exact zc43
 exact zc38
theorem Yia(l:List Spl)(k:Nat)(hk:k<l.length)(hl:l.length<=1000)(hc:l.length<=cap)(hr:Rd B w0 H A (l.flatMap splF))(hw:St B w0 H w):
 CX B w0 113 [.slice A l.length cap,.int .i64 k] w λv K=>∃A' c,v=.slice A' (YW l k).length c/\(YW l k).length<=c/\K=sl 142 2 A' (YW l k).length c ((YW l k).flatMap splF)::H:=by
 refine Ya Tryz.func113 Tryz.ntmps113 rfl rfl hw ?_
 have hop:∀w,St B w0 [many H] w->St B w0 H w:=λw hw=>hw.perm (.openT H)
 have hM:∀{H':List HP},many H∈H'->Rd B w0 H' A (l.flatMap splF):=λhm=>hr.mono λw hw=>hw.inM hm
 have hq:∀c:Spl,(splF c).length=2:=λ_=>rfl
 have p1:=λ(gs:Nat) {H':List HP}{w:World}(hm:many H∈H') (h2:blk gs (.cells #[.slice A k cap,.slice (subA A (k+1) cap 2) (l.length-(k+1)) (cap-(k+1))] 54 (0,0))∈H') (hw:St B w0 H' w)=>by
  have h0:=OA [⟨A,cap,l.take k⟩,⟨subA A (k+1) cap 2,cap-(k+1),l.drop (k+1)⟩] (by simp) zc34 (A:=some ⟨gs,0,none⟩) (cap:=2) (H:=H') (by
   exact zc77) (λr hr=>by
   exact zc60) hw
  rw[show catS [⟨A,cap,l.take k⟩,⟨subA A (k+1) cap 2,cap-(k+1),l.drop (k+1)⟩]=YW l k by simp[catS,YW]]at h0
  exact h0
 refine YX [many H] (λw hw=>hw.perm (.closeT H)) ?_
 refine zX2 ?_
 apply YC [0,1,2,3,4,5,6,7,8,9] [] [true]
 kernel_rfl
 kernel_rfl
 exact zy
 (simp only[Yd,nthO];rfl)
 exact rfl
 refine YtN ?_<;>intros
 rename_i gs
 apply Yg _ YsX
 exact za
 exact rfl
 exactλ_ hw=>(p1 gs (by simp_all) (by simp_all) (hw))
 rintro _ _ ⟨A',c,rfl,hcap,rfl⟩
 refine zX17 ?_
 apply Yf (sl 142 2 A' (YW l k).length c ((YW l k).flatMap splF)::H)
 ·intro w hw
  have h5:St B w0 (sl 142 2 A' (YW l k).length c ((YW l k).flatMap splF)::[many H]) w:=by
   revert w
   exact zc0
  exact zc43
 exact zc38
theorem YkY{α:Type}{k:α->Int}{id:Int}:∀{l:List α}{n:Nat},n<=l.length->(∀i x,i<n->l[i]? =some x->k x<id)->(∀x,l[n]? =some x->¬k x<id)->(l.takeWhile λy=>decide (k y<id)).length=n
 |[],n,hn,_,_=>by
  simp_all
 |y::l,0,_,_,h2=>by simp_all
 |y::l,n+1,hn,h1,h2=>by
  rw[List.takeWhile_cons_of_pos (by simpa using h1 0 y (by omega) rfl),Rf,YkY (l:=l) (by simp_all) (λi x hi hx=>h1 (i+1) x (by omega) hx) (λx hx=>h2 x hx)]
theorem YaM(a:Lop)(id:Int)(hw:St B w0 H w):
 CX B w0 193 [lopV a,.int .i64 id] w λv K=>v=.int .i64 (cmpI a.1 id)/\K=H:=by
 refine Ya Tryz.func193 Tryz.ntmps193 rfl rfl hw ?_
 unfold lopV
 repeat'(first|((apply Yb Yht);exact za;exact rfl;exactλ_ hw=>(JT _ _ hw))|refine zgb ?_|(refine zgh ?_;intro _)|fail)
 apply Yf H
 ·exact zk
 apply Yc;exact rfl;exact rfl
 exact⟨rfl,rfl⟩
theorem Ygv(l:List Lop)(id:Int)(ho:l.Pairwise λa b=>a.1<b.1)(hlen:l.length<=1000000000)(hr:Rd B w0 H A (l.flatMap lopF))(hw:St B w0 H w):
 CX B w0 192 [.slice A l.length cap,.int .i64 id,.func (.func 193) #[] #[]] w λv K=>
  v=.tuple #[.int .i64 (posL l id:Nat),.bool (hasL l id)]/\K=H:=by
 refine Ya Tryz.func192 Tryz.ntmps192 rfl rfl hw ?_
 have ho:∀(i j:Nat) (x y:Lop),i<j->l[i]? =some x->l[j]? =some y->x.1<y.1:=λi j x y hij hi hj=>by
  exact YqZ
 refine zX9 ?_
 refine Wt (λ(lo hi:Nat)=>[(9,.int .i64 lo),(10,.int .i64 hi),(8,.int .i64 l.length),(0,.slice A l.length cap),(1,.int .i64 id),(2,.func (.func 193) #[] #[])]) (λ_ _=>H)
  (λlo hi=>lo<=hi/\hi<=l.length/\(∀i x,i<lo->l[i]? =some x->x.1<id)/\(∀i x,hi<=i->l[i]? =some x->¬x.1<id)) (λlo hi=>hi-lo) 0 l.length ⟨by omega,by omega,λj x hj=>by omega,λj x h1 h2=>by simp_all⟩ ?_ (λw hw=>hw) ?_
 ·exact zc1
 rintro lo hi ⟨h1,h2,h3,h4⟩ K hK
 by_cases hlt:lo<hi
 ·obtain⟨b,hb⟩:∃b,l[(((lo:Int)+hi)/2).toNat]? =some b:=⟨_,Ta (by omega)⟩
  have hm:(((lo:Int)+hi)/2).toNat=(lo+hi)/2:=by omega
  have hb2:l[(lo+hi)/2]? =some b:=by grind
  repeat'(first|((apply Xr (cs:=[]));exact rfl;exact YsU;exact za;exact rfl;exactλ_ hw=>(YaM b id hw))|refine zgd ?_|(refine zge ?_ ?_<;>intro _<;>try exact zo)|fail)
  ·rename_i hc
   rw[Ob]at hc
   apply hK ((lo+hi)/2+1) hi
   ·refine⟨by omega,by omega,λj x hj hx=>?_,h4⟩
    by_cases e:j=(lo+hi)/2
    ·grind
    ·exact Int.lt_trans (ho j _ x b (by omega) hx hb2) hc
   ·omega
   ·exact zc1
   exact zc18
  ·rename_i hc
   have hc:¬b.1<id:=λh=>by have:=Ob.2 h;omega
   apply hK lo ((lo+hi)/2)
   ·exact zc35
   ·omega
   ·exact zc1
   exact zc18
 ·obtain rfl:lo=hi:=by omega
  have hpe:posL l id=lo:=YkY h2 h3 λx hx=>h4 lo x (TS _) hx
  rw[hpe]
  have hfd:hasL l id=true↔∃b,l[lo]? =some b/\b.1=id:=by
   unfold hasL
   rw[TM]
   constructor
   ·rintro⟨b,hb,he⟩
    have he:b.1=id:=TI he
    exact zc47
   ·rintro⟨b,hb,he⟩
    exact⟨b,Tc hb,Ti he⟩
  by_cases hl:lo<l.length
  ·obtain⟨b,hb⟩:∃b,l[lo]? =some b:=⟨_,Ta hl⟩
   repeat'(first|((apply Xr (cs:=[]));exact rfl;exact YsU;exact za;exact rfl;exactλ_ hw=>(YaM b id hw))|refine zgd ?_|(refine zge ?_ ?_<;>intro _<;>try exact zo)|fail)
   ·rename_i h
    apply YJ;(iterate 3 exact rfl)
    exact YuY
   ·rename_i h
    apply YJ;(iterate 3 exact rfl)
    have hf0:hasL l id=false:=RE.2 λe=>by
     exact Yul
    exact Yl8
  ·refine zX1 ?_<;>intros
   apply YJ;(iterate 3 exact rfl)
   have hf0:hasL l id=false:=RE.2 λe=>by
    exact YuC
   exact Yl8
theorem US(l:List Lop)(id:Int)(ho:l.Pairwise λa b=>a.1<b.1)(hlen:l.length<=1000000000)(hr:Rd B w0 H A (l.flatMap lopF))(hw:St B w0 H w):
 CX B w0 99 [.slice A l.length cap,.int .i64 id] w λv K=>v=.tuple #[.int .i64 (posL l id:Nat),.bool (hasL l id)]/\K=H:=by
 refine Ya Tryz.func99 Tryz.ntmps99 rfl rfl hw ?_
 repeat'(first|((apply Yb YwA);exact za;exact rfl;exactλ_ hw=>(Ygv l id ho hlen hr hw))|refine zgc ?_|fail)
 exact YqN
variable {B:Nat}{w0 w:World}{H:List HP}
theorem PnM.In.inX{X:List HP}{p:PnM}(h:p.In B w0 [many X])(hm:many X∈H):p.In B w0 H:=h.mono λ_ hw=>(hw.inM hm).perm (.closeT X)
theorem YvC:∀l:List RqM,∀v∈l.flatMap rqF,v.oneCell'=true:=λl v hv=>by
 obtain⟨a,_,ha⟩:=SN.1 hv
 revert ha
 simp only[rqF,Rr,R9,NR]
 rintro h
 repeat'(rcases h with rfl|h)
 all_goals(try subst h)
 all_goals rfl
theorem YfV(l:List RqM)(i:Nat)(hi:i<l.length)(hlen:l.length<=1000){A:Option Addr}{cap:Nat}(hw:St B w0 (rqs A cap l::H) w):
 CX B w0 77 [.slice A l.length cap,.int .i64 i,.int .i64 ((i:Int)+1)] w λv K=>v=.slice A (l.eraseIdx i).length cap/\K=rqs A cap (l.eraseIdx i)::H:=by
 refine Ya Tryz.func77 Tryz.ntmps77 rfl rfl hw ?_
 unfold rqs
 refine UF (k:=l.length) (cap:=cap) zm λhcap=>?_
 have hel:(l.eraseIdx i).length=l.length-1:=List.length_eraseIdx_of_lt hi
 have hfl:=YaG (f:=rqF) (q:=7) (λ_=>rfl) l i hi
 have hone:=YvC l
 repeat'(first|(apply Yms T;(iterate 6 exact rfl);omega)|refine zgb ?_|(refine zge ?_ ?_<;>intro _<;>try exact zo)|fail)
 apply YC [0,1,2,3,4,5,6,7] [] [false]
 kernel_rfl
 kernel_rfl
 exact zy
 (simp only[Yd,nthO];rfl)
 exact rfl
 repeat'(first|refine zga ?_|fail)
 apply Xf T (l:=l) (n':=i);(iterate 4 exact rfl);omega;exact hcap;omega
 rw[Zm]
 repeat'(first|refine zga ?_|fail)
 apply JQ T (n':=l.length-(i+1));(iterate 4 exact rfl);omega;omega
 rw[show((i:Int)+1).toNat=i+1 by omega]
 repeat'(first|refine zgd ?_|fail)
 apply Yfz T (e:=93) (size:=7) (k:=l.length) (i:=i) (j:=i+1) (xs:=l.flatMap rqF);(iterate 4 exact rfl);exact zd;exact hone;omega
 rw[hfl,show i+(l.length-(i+1))=(l.eraseIdx i).length by omega]
 repeat'(first|(apply Yh;try exact zl)|refine zgd ?_|fail)
 apply Yg4 T (n':=1);(iterate 5 exact rfl);omega;omega
 rw[show(((l.eraseIdx i).length:Nat):Int).toNat=(l.eraseIdx i).length by omega]
 apply YgO T T2 (e:=93) (size:=7) (k:=(l.eraseIdx i).length) (xs:=(l.eraseIdx i).flatMap rqF);exact rfl;exact zm;(iterate 3 exact rfl);omega
 repeat'(first|refine zga ?_|fail)
 apply Yc;exact rfl;exact rfl;exact⟨rfl,rfl⟩
theorem YbB{α β:Type}(g:α->β)(p:β->Bool):∀(l:List α) (k:Int),Yp p (l.map g) k=Yp (λx=>p (g x)) l k
 |[],_=>rfl
 |a::l,k=>by
  rw[RI]
  unfold Yp
  rw[YbB g p l (k+1)]
theorem Ykd{α:Type}(p:α->Bool):∀(l:List α) (k:Int),0<=k->Yp p l k= -1\/(k<=Yp p l k/\Yp p l k<k+l.length)
 |[],k,_=>.inl rfl
 |a::l,k,h=>by
  have ih:=Ykd p l (k+1) (by omega)
  grind [Yp]
theorem Yqq(y:RqM)(id:Int)(g:Nat)(hm:intA g id∈H)(hw:St B w0 H w):
 CX B w0 76 [rqV y,.pointer (some ⟨g,0,none⟩)] w λv K=>v=.bool (decide (y.f.1=id))/\K=H:=by
 refine Ya Tryz.func76 Tryz.ntmps76 rfl rfl hw ?_
 unfold rqV
 by_cases h:y.f.1=id
 ·rw[Ti h]
  refine zX22 ?_<;>intros
  all_goals(apply Yf H;((intro w hw;refine hw.perm ?_;focus exact zc5));exact zc9)
 ·rw[Tn h]
  refine zX22 ?_<;>intros
  all_goals(apply Yf H;((intro w hw;refine hw.perm ?_;focus exact zc5));exact zc9)
theorem YjR(s:Sch)(id:Int):(Ui s id).1.cells.length<=s.cells.length:=by
 unfold Ui
 split
 ·exact Ybg
 ·exact Sj _ _
theorem Wq(p:PnM)(id:Int)(ht:TabsB B w0)(hp:p.In B w0 H)(hw:St B w0 H w):
 CX B w0 16 [p.val,.int .i64 id] w (Yav B w0 H (wdrP p.pln id)):=by
 refine Ya Tryz.func16 Tryz.ntmps16 rfl rfl hw ?_
 have p1:=λ{H':List HP}{w:World}(hp:p.In B w0 H') (hw:St B w0 H' w)=>UN p ht hp hw
 have hop:∀w,St B w0 [many H] w->St B w0 H w:=λw hw=>hw.perm (.openT H)
 have hpM:∀{H':List HP},many H∈H'->p.In B w0 H':=λhm=>hp.mono λw hw=>hw.inM hm
 obtain⟨n,qA,qcap,q,s,cA,ccap,c,fA,fcap,f⟩:=p
 have hinM:∀{H':List HP},many H∈H'->n.In B w0 H':=λhm=>(hpM hm).n
 have hqM:∀{H':List HP},many H∈H'->QIn B w0 H' qA q:=λhm=>(hpM hm).q
 have hrsM:∀{H':List HP},many H∈H'->Rd B w0 H' s.A (s.cells.flatMap celF):=λhm=>(hpM hm).s
 have hsl:s.cells.length<=1000000000000:=hp.sl
 have p2:=λ{H':List HP}{w:World}(hrs:Rd B w0 H' s.A (s.cells.flatMap celF)) (hw:St B w0 H' w)=>Ymg s id ht hrs hsl hw
 unfold PnM.val at p1⊢
 have hpl:(⟨n,qA,qcap,q,s,cA,ccap,c,fA,fcap,f⟩:PnM).pln=⟨n.net,q.map RqM.rq,s.sch,c.map ClM.clm,f⟩:=rfl
 rw[hpl]at p1⊢
 unfold wdrP
 dsimp only at p1⊢
 refine YX [many H] (λw hw=>hw.perm (.closeT H)) ?_
 by_cases hk:chkP ⟨n.net,q.map RqM.rq,s.sch,c.map ClM.clm,f⟩=0
 rotate_left
 ·rw[To hk]
  repeat'(first|(apply zg23;first|(refine zs52 ?_;intro _)|(refine zs53 ?_;intro _))|refine zgb ?_|(refine zgh ?_;intro _)|fail)
  apply Yb en22
  exact za
  exact rfl
  exactλ_ hw=>(p1 (hpM zm) hw)
  repeat'(first|refine zgd ?_|(refine zge ?_ ?_<;>intro _<;>try exact zo)|fail)
  apply Yn T (H2:=H);(iterate 3 exact rfl);exact zm;exact rfl;exact rfl
  ·intro w hw
   have h5:St B w0 [many H] w:=by
    revert w
    exact zk
   exact hop w h5
  exact .inl ⟨rfl,rfl,rfl⟩
 have hq16:q.length<=16:=by
  have:=(YbI (Qh (Qi hk))).1
  rwa [Tu]at this
 rw[hk]at p1
 rw[Tf (λe=>e hk)]
 have hidx:idQ (q.map RqM.rq) id=Yp (λy:RqM=>decide (y.f.1=id)) q 0:=YbB _ _ _ _
 rw[hidx]
 repeat'(first|(apply zg23;first|(refine zs52 ?_;intro _)|(refine zs53 ?_;intro _))|refine zgb ?_|(refine zgh ?_;intro _)|fail)
 rename_i g2 g3 g4
 apply Yb en22
 exact za
 exact rfl
 exactλ_ hw=>(p1 (hpM zm) hw)
 repeat'(first|(apply zg29;(apply Yu;exact za;exact rfl))|refine zgb ?_|(refine zge ?_ ?_<;>intro _<;>try exact zo)|fail)
 apply Yb en75
 exact za
 exact rfl
 exactλ_ hw=>(YcY (λy=>decide (y.f.1=id)) q 76 [.pointer (some ⟨g3,0,none⟩)] en76 (by omega) (hqM zm).rd (λa _ w hw=>Yqq a id g3 zm hw) hw)
 have hil:=Ykd (λy:RqM=>decide (y.f.1=id)) q 0 (by omega)
 generalize Yp (λy:RqM=>decide (y.f.1=id)) q 0=k at hil⊢
 by_cases hk0:k<0
 ·rw[To hk0]
  repeat'(first|refine zgd ?_|(refine zge ?_ ?_<;>intro _<;>try exact zo)|fail)
  apply Yn T (H2:=H);(iterate 3 exact rfl);exact zm;exact rfl;exact rfl
  ·intro w hw
   have h5:St B w0 [many H] w:=by
    revert w
    exact zk
   exact hop w h5
  exact .inl ⟨rfl,rfl,rfl⟩
 rw[Tf hk0]
 obtain⟨j,rfl⟩:∃j:Nat,k=j:=⟨k.toNat,by omega⟩
 have hj:j<q.length:=by omega
 rw[Rm]
 have hdel:delQ (q.map RqM.rq) j=(q.eraseIdx j).map RqM.rq:=by
  unfold delQ
  rw[S0,TY,NP,Ni]
 rw[hdel]
 have hdc:=YjR s.sch id
 unfold OutS SchM.val at p2
 generalize Ui s.sch id=R at p2 hdc⊢
 obtain⟨t,te⟩:=R
 dsimp only at p2 hdc⊢
 have htl:t.cells.length<=1000000000000:=TX hdc hsl
 repeat'(first|refine Yi T ?_|refine zga ?_|(refine zge ?_ ?_<;>intro _<;>try exact zo)|fail)
 apply YC [0,1,2,3,5,6,7,4,8,9,10,11,12] [] [true,true,true,true]
 kernel_rfl
 kernel_rfl
 exact zy
 (simp only[Yd,nthO];rfl)
 exact rfl
 repeat'(first|refine Yi T ?_|refine zgd ?_|fail)
 apply Yg _ en69
 exact za
 exact rfl
 exactλ_ hw=>(VG q (by omega) (hqM zm).rd (hw))
 rintro _ _ ⟨A1,c1,rfl,rfl⟩
 repeat'(first|refine Yi T ?_|(apply Yh;try exact zl)|refine zgd ?_|fail)
 apply XK [rqs A1 c1 q] _ en77
 exact za
 try exact zl
 exact zp
 exact rfl
 exactλ_ hw=>(YfV q j hj (by omega) hw)
 rintro _ _ ⟨rfl,rfl⟩
 repeat'(first|refine Yi T ?_|(apply Yh;try exact zl)|refine zgd ?_|(refine zgh ?_;intro _)|fail)
 rename_i g7
 apply Yg _ en78
 exact za
 exact rfl
 exactλ_ hw=>(p2 (hrsM zm) (hw))
 rintro _ _ ⟨A4,c4,rfl,rfl⟩
 repeat'(first|refine Yi T ?_|refine zgd ?_|fail)
 apply ZV (bldA g7 ⟨n,A1,c1,q.eraseIdx j,⟨t.len,t.off,A4,c4,t.cells⟩,none,0,[],none,0,[],te⟩::rqs A1 c1 (q.eraseIdx j)::cels A4 c4 t.cells::blk g4 (.cells zeroPnV.cells 38 (0,0))::[many H])
 ·intro w hw
  have h5:St B w0 (blk g7 (.cells #[.int .i64 n.nodes,.slice n.pA n.rows.length n.pcap,.int .i64 n.noise,.int .i64 n.thr,.slice n.lA n.links.length n.lcap,.slice n.mA n.margin.length n.mcap,.slice A1 (q.eraseIdx j).length c1,.int .i64 t.len,.int .i64 t.off,.slice A4 t.cells.length c4,.slice none 0 0,.slice none 0 0,.int .i64 te] 80 (0,0))::rqs A1 c1 (q.eraseIdx j)::cels A4 c4 t.cells::blk g4 (.cells (Value.agg #[.int .i64 0,.slice none 0 0,.int .i64 0,.int .i64 0,.slice none 0 0,.slice none 0 0,.slice none 0 0,.int .i64 0,.int .i64 0,.slice none 0 0,.slice none 0 0,.slice none 0 0]).cells 38 (0,0))::[many H]) w:=by
   revert w
   exact zk
  exact h5
 have hqe:∀{H':List HP},many H∈H'->rqs A1 c1 (q.eraseIdx j)∈H'->QIn B w0 H' A1 (q.eraseIdx j):=λh1 h2=>⟨Ygl h2,λx hx=>(hqM h1).x x (List.mem_of_mem_eraseIdx hx),by have:=List.length_eraseIdx_le q j;omega⟩
 apply XK [bldA g7 ⟨n,A1,c1,q.eraseIdx j,⟨t.len,t.off,A4,c4,t.cells⟩,none,0,[],none,0,[],te⟩] _ en47
 exact za
 try exact zl
 exact zp
 exact rfl
 exactλ_ hw=>(VZ ⟨n,A1,c1,q.eraseIdx j,⟨t.len,t.off,A4,c4,t.cells⟩,none,0,[],none,0,[],te⟩ g7 ht (hinM zm) (hqe zm zm) (Om (cap:=c4) zm) htl hw)
 rintro _ _ hO
 dsimp only at hO
 rcases hO with⟨h1,rfl,rfl⟩|⟨p,X,h1,rfl,hp,rfl⟩
 ·unfold zeroPnV
  repeat'(first|refine zgc ?_|fail)
  apply Yn T (H2:=H);(iterate 3 exact rfl);exact zm;exact rfl;exact rfl
  ·intro w hw
   have h5:St B w0 [many H] w:=by
    revert w
    exact zk
   exact hop w h5
  exact .inl ⟨h1,rfl,rfl⟩
 ·unfold PnM.val
  repeat'(first|refine zgc ?_|fail)
  apply Yn T (H2:=many [many X,cels A4 c4 t.cells]::H);(iterate 3 exact rfl);exact zm;exact rfl;exact rfl
  ·intro w hw
   have h5:St B w0 (many X::cels A4 c4 t.cells::[many H]) w:=by
    revert w
    exact zk
   exact(h5.perm (.cons _ (.cons _ (.openT H)))).perm (.close [_,_] H)
  exact .inr ⟨p,_,h1,rfl,(hp _ (Om (cap:=c4) (.head _))).mono λw hw=>(hw.perm (.open_ [_,_] [])),rfl⟩
abbrev plnA(g:Nat)(n:NetM)(qA:Option Addr)(qcap:Nat)(q:List RqM)(s:SchM)(cA:Option Addr)(ccap:Nat)(c:List ClM)(fA:Option Addr)(fcap:Nat)(fm:List Int):HP:=blk g (.cells #[.int .i64 n.nodes,.slice n.pA n.rows.length n.pcap,.int .i64 n.noise,.int .i64 n.thr,.slice n.lA n.links.length n.lcap,.slice n.mA n.margin.length n.mcap,.slice qA q.length qcap,.int .i64 s.len,.int .i64 s.off,.slice s.A s.cells.length s.cap,.slice cA c.length ccap,.slice fA fm.length fcap] 38 (0,0))
abbrev zerA(g:Nat):HP:=blk g (.cells (Value.agg #[.int .i64 0,.slice none 0 0,.int .i64 0,.int .i64 0,.slice none 0 0,.slice none 0 0,.slice none 0 0,.int .i64 0,.int .i64 0,.slice none 0 0,.slice none 0 0,.slice none 0 0]).cells 38 (0,0))
abbrev schD(g:Nat)(t:Sch)(A:Option Addr)(cap:Nat):HP:=blk g (.cells #[.int .i64 t.len,.int .i64 t.off,.slice A t.cells.length cap] 33 (0,0))
structure ExM where
 y:RqM
 t:Sch
 A:Option Addr
 cap:Nat
 e:Int
 X:HP
structure ExOk(B:Nat)(w0:World)(n:Net)(q:List Rqs)(f:Flw)(RR:Option Pln×Int)(z:ExM):Prop where
 yin:∀{H':List HP},z.X∈H'->z.y.In B w0 H'
 id:z.y.f.1=f.1
 tl:z.t.cells.length<=1000000000000
 res:(if z.e=0 then finE n (insQ q z.y.rq) z.t 0 else(none,18))=RR
theorem Qb(n:Net)(q:List Rqs)(s:Sch)(x:Rqs):(JB n q s x).1.cells.length<=512:=by
 unfold JB
 split
 ·exact Ybg
 split
 ·exact Ybg
 split
 ·exact Ybg
 split
 ·exact Ybg
 split
 ·exact Ybg
 split
 ·exact Ybg
 simp_all
theorem YcB(p:PnM)(f:Flw)(hrun:YgG p.n f)(h24:p.s.len<=24\/chkP p.pln≠0){B:Nat}{w0:World}{H:List HP}{w:World}(ht:TabsB B w0)(hp:p.In B w0 H)(hw:St B w0 H w):
 CX B w0 14 [p.val,flwV f] w (Yav B w0 H (extP p.pln f)):=by
 refine Ya Tryz.func14 Tryz.ntmps14 rfl rfl hw ?_
 have p1:=λ{H':List HP}{w:World}(hp:p.In B w0 H') (hw:St B w0 H' w)=>UN p ht hp hw
 have hop:∀w,St B w0 [many H] w->St B w0 H w:=λw hw=>hw.perm (.openT H)
 have hpM:∀{H':List HP},many H∈H'->p.In B w0 H':=λhm=>hp.mono λw hw=>hw.inM hm
 obtain⟨n,qA,qcap,q,s,cA,ccap,c,fA,fcap,fm⟩:=p
 have hinM:∀{H':List HP},many H∈H'->n.In B w0 H':=λhm=>(hpM hm).n
 have hqM:∀{H':List HP},many H∈H'->QIn B w0 H' qA q:=λhm=>(hpM hm).q
 have hrsM:∀{H':List HP},many H∈H'->Rd B w0 H' s.A (s.cells.flatMap celF):=λhm=>(hpM hm).s
 have hsl:s.cells.length<=1000000000000:=hp.sl
 dsimp only at h24
 unfold PnM.val at p1⊢
 have hpl:(⟨n,qA,qcap,q,s,cA,ccap,c,fA,fcap,fm⟩:PnM).pln=⟨n.net,q.map RqM.rq,s.sch,c.map ClM.clm,fm⟩:=rfl
 rw[hpl]at p1 h24⊢
 unfold extP
 dsimp only at p1⊢
 unfold flwV
 refine YX [many H] (λw hw=>hw.perm (.closeT H)) ?_
 by_cases hk:chkP ⟨n.net,q.map RqM.rq,s.sch,c.map ClM.clm,fm⟩=0
 rotate_left
 ·rw[To hk]
  repeat'(first|refine zgb ?_|(refine zgh ?_;intro _)|fail)
  apply Yb en22
  exact za
  exact rfl
  exactλ_ hw=>(p1 (hpM zm) hw)
  repeat'(first|refine zgd ?_|(refine zge ?_ ?_<;>intro _<;>try exact zo)|fail)
  apply Yn T (H2:=H);(iterate 3 exact rfl);exact zm;exact rfl;exact rfl
  ·intro w hw
   have h5:St B w0 [many H] w:=by
    revert w
    exact zk
   exact hop w h5
  exact .inl ⟨rfl,rfl,rfl⟩
 have hs24:s.len<=24:=by
  rcases h24 with h|h
  ·exact h
  ·exact absurd hk h
 have hce:=Qi hk
 have hrq:=Qh hce
 have hq16:q.length<=16:=by
  have:=(YbI hrq).1
  rwa [Tu]at this
 have hord:=Ypp hrq
 rw[hk]at p1
 rw[Tf (λe=>e hk)]
 have hpos:posQ (q.map RqM.rq) f.1<=q.length:=by
  have:=(List.takeWhile_prefix (p:=λy:Rqs=>decide (y.1.1<f.1)) (l:=q.map RqM.rq)).length_le
  rw[Tu]at this
  exact this
 obtain⟨k,hkp⟩:∃k,posQ (q.map RqM.rq) f.1=k:=⟨_,rfl⟩
 have p2:=λ{H':List HP}{w:World}(hq:QIn B w0 H' qA q) (hw:St B w0 H' w)=>Ygw q f hord (by omega) (cap:=qcap) hq.rd hw
 rw[hkp]at p2 hpos
 obtain⟨hs,hhs⟩:∃hs,hasQ (q.map RqM.rq) f.1=hs:=⟨_,rfl⟩
 rw[hhs]at p2⊢
 unfold flwV at p2
 repeat'(first|refine zgb ?_|(refine zgh ?_;intro _)|fail)
 rename_i g2 g3 g4
 apply Yb en22
 exact za
 exact rfl
 exactλ_ hw=>(p1 (hpM zm) hw)
 repeat'(first|refine zgb ?_|(refine zge ?_ ?_<;>intro _<;>try exact zo)|fail)
 apply Yb en62
 exact za
 exact rfl
 exactλ_ hw=>(p2 (hqM zm) hw)
 cases hs with
 |true=>
  repeat'(first|refine zgd ?_|fail)
  apply Yn T (H2:=H);(iterate 3 exact rfl);exact zm;exact rfl;exact rfl
  ·intro w hw
   have h5:St B w0 [many H] w:=by
    revert w
    exact zk
   exact hop w h5
  exact .inl ⟨rfl,rfl,rfl⟩
 |false=>
 rw[Tf (by decide)]
 have hfl:YG (insQ (q.map RqM.rq) (f,[]))=(RqM.fl q).take k++f::(RqM.fl q).drop k:=by
  unfold insQ YG
  rw[show((f,[]):Rqs).1.1=f.1 from rfl,hkp,TY,RI,NP,Ni,Ny]
  rfl
 rw[hfl]
 have hfll:(RqM.fl q).length=q.length:=by unfold RqM.fl;rw[Tu]
 have hil:=YeV (RqM.fl q) f k (by omega)
 have p3:=λ{H':List HP}{w:World}(hq:QIn B w0 H' qA q) (hw:St B w0 H' w)=>Yiz q (cap:=qcap) (by omega) hq.rd hw
 have p4:=λ{A2:Option Addr}{cap2 gv:Nat}{H':List HP}{w:World}(hw:St B w0 (flws A2 cap2 (RqM.fl q)::flwB gv f::H') w)=>Yf4 (RqM.fl q) k f (by omega) (by omega) hw
 obtain⟨L,hL⟩:∃L,(RqM.fl q).take k++f::(RqM.fl q).drop k=L:=⟨_,rfl⟩
 rw[hL]at p4 hil⊢
 have p5:=λ{A2:Option Addr}{cap2:Nat}{H':List HP}{w:World}(hr:Rd B w0 H' A2 (L.flatMap flwF)) (hw:St B w0 H' w)=>Y3 n.nodes L (by omega) (cap:=cap2) hr hw
 obtain⟨fe,hfe⟩:∃fe,(Yt n.net.nodes L).2=fe:=⟨_,rfl⟩
 obtain⟨fi,hfi⟩:∃fi,(Yt n.net.nodes L).1=fi:=⟨_,rfl⟩
 rw[show n.nodes=n.net.nodes from rfl,hfe,hfi]at p5
 rw[hfe]
 repeat'(first|refine zgc ?_|fail)
 refine Z1 (λ_:Unit=>[(2,.pointer (some ⟨g2,0,none⟩)),(3,.pointer (some ⟨g3,0,none⟩)),(4,.pointer (some ⟨g4,0,none⟩)),(6,.int .i64 (k:Nat)),(9,.int .i64 fe)]) (λ_=>[plnA g2 n qA qcap q s cA ccap c fA fcap fm,flwB g3 f,zerA g4,many H]) ?_ ?_
 ·intro K hK
  repeat'(first|refine Yi T ?_|fail)
  apply J7 (.n1 0 (.n1 1 (.n1 2 (.n1 3 (.n1 4 (.n1 6 (.n1 7 (.n2 5 (.n1 8 (.n1 9 (.n1 10 (.n1 11 (.n1 12 (.n1 13 (.n1 14 (.n1 15 .done)))))))) 8 (.n1 5 (.n1 9 (.n1 10 (.n1 11 (.n1 12 (.n1 13 (.n1 14 (.n1 15 .done)))))))))))))))) [] [true,true,true,true]
  kernel_rfl
  kernel_rfl
  exact zy
  exact rfl
  repeat'(first|refine Yi T ?_|(apply Yh;try exact zl)|apply(zs91 ?_ ?_)|(apply Xo;try exact zl)|refine zgd ?_|(refine zgh ?_;intro _)|fail)
  ·skip
   apply Yg _ en65
   exact za
   exact rfl
   exactλ_ hw=>(p3 (hqM zm) (hw))
   rintro _ _ ⟨A2,cap2,rfl,rfl⟩
   repeat'(first|refine Yi T ?_|(apply Yh;try exact zl)|(apply Xo;try exact zl)|refine zgd ?_|(refine zgh ?_;intro _)|fail)
   rename_i gv
   apply XK [flws A2 cap2 (RqM.fl q),flwB gv f] _ en64
   exact za
   try exact zl
   exact zp
   exact rfl
   exactλ_ hw=>(p4 hw)
   rintro _ _ ⟨A3,cap3,rfl,rfl⟩
   repeat'(first|((apply Yb en39);exact za;exact rfl;exactλ_ hw=>(p5 (Rd.sl zm) hw))|(apply Yh;try exact zl)|(apply Xo;try exact zl)|refine zgd ?_|fail)
   apply hK ()
   ·exact zu
   ·exact zk
  ·rename_i gv
   apply Yg _ en65
   exact za
   exact rfl
   exactλ_ hw=>(p3 (hqM zm) (hw))
   rintro _ _ ⟨A2,cap2,rfl,rfl⟩
   repeat'(first|refine Yi T ?_|(apply Yh;try exact zl)|(apply Xo;try exact zl)|refine zgd ?_|fail)
   apply XK [flws A2 cap2 (RqM.fl q),flwB gv f] _ en64
   exact za
   try exact zl
   exact zp
   exact rfl
   exactλ_ hw=>(p4 hw)
   rintro _ _ ⟨A3,cap3,rfl,rfl⟩
   repeat'(first|((apply Yb en39);exact za;exact rfl;exactλ_ hw=>(p5 (Rd.sl zm) hw))|(apply Yh;try exact zl)|(apply Xo;try exact zl)|refine zgd ?_|fail)
   apply hK ()
   ·exact zu
   ·exact zk
 rintro⟨⟩
 by_cases hfe0:fe=0
 rotate_left
 ·rw[To hfe0]
  repeat'(first|refine zgd ?_|(refine zge ?_ ?_<;>intro _<;>try exact zo)|fail)
  apply Yn T (H2:=H);(iterate 3 exact rfl);exact zm;exact rfl;exact rfl
  ·intro w hw
   have h5:St B w0 [many H] w:=by
    revert w
    exact zk
   exact hop w h5
  exact .inl ⟨rfl,rfl,rfl⟩
 rw[Tf (λe=>e hfe0)]
 subst hfe0
 clear p1 p2 p3 p4 p5
 have hflw:=(Um.1 hfe).2.2.1 f (by rw[<-hL];exact RX _ TN)
 obtain⟨-,hper,-,-,-⟩:=X4 hflw
 have hsz:=(J1 (Z5.1 (ZD.1 hce).1).whole).2.2.1
 have hl1:1<=s.len:=by
  exact(TI hsz).1
 rw[show s.sch.len=s.len from rfl,Rb (by omega)]
 by_cases hmod:s.len%f.2.2.2.1=0
 rotate_left
 ·rw[To hmod]
  repeat'(first|refine zgd ?_|(refine zge ?_ ?_<;>intro _<;>try exact zo)|fail)
  apply Yn T (H2:=H);(iterate 3 exact rfl);exact zm;exact rfl;exact rfl
  ·intro w hw
   have h5:St B w0 [many H] w:=by
    revert w
    exact zk
   exact hop w h5
  exact .inl ⟨rfl,rfl,rfl⟩
 rw[Tf (λe=>e hmod)]
 have p6:=λ{A2:Option Addr}{cap2:Nat}{H':List HP}{w:World}(hin:n.In B w0 H') (hr:Rd B w0 H' A2 ([f].flatMap flwF)) (hw:St B w0 H' w)=>Yek n [f] (by simp) (λf' hf'=>by rw[Ry.1 hf'];exact hrun) (cap:=cap2) hin hr hw
 obtain⟨⟨RQ,ri,re⟩,hR⟩:∃R,J3 n.net [f]=R:=⟨_,rfl⟩
 rw[hR]at p6⊢
 dsimp only at p6⊢
 unfold YnX NetM.val at p6
 dsimp only at p6
 repeat'(first|refine Yi T ?_|refine zgd ?_|(refine zge ?_ ?_<;>intro _<;>try exact zo)|(refine zgh ?_;intro _)|fail)
 apply Yg _ en42
 exact za
 exact rfl
 exactλ_ hw=>(p6 (hinM zm) (Rd.blk (cs:=#[.int .i64 f.1,.int .i64 f.2.1,.int .i64 f.2.2.1,.int .i64 f.2.2.2.1,.int .i64 f.2.2.2.2.1,.int .i64 f.2.2.2.2.2]) (t:=45) (fr:=(0,0)) zm) (hw))
 rintro _ _ ⟨A4,cap4,qr,rfl,hqr,hqs,rfl⟩
 by_cases hre:re=0
 rotate_left
 ·rw[To hre]
  repeat'(first|refine zgd ?_|(refine zge ?_ ?_<;>intro _<;>try exact zo)|fail)
  apply Yn T (H2:=H);(iterate 3 exact rfl);exact zm;exact rfl;exact rfl
  ·intro w hw
   have h5:St B w0 [many H] w:=by
    revert w
    exact zk
   exact hop w h5
  exact .inl ⟨rfl,rfl,rfl⟩
 rw[Tf (λe=>e hre)]
 subst hre
 have hRQ:RQ=[(reqE n.net f).1]:=by
  have h1:=hR
  unfold J3 at h1
  split at h1
  ·cases h1
  split at h1
  ·rename_i h2;injection h1 with _ h3;rw[h3]at h2;exact absurd rfl h2
  split at h1
  ·rename_i h2;injection h1 with _ h3;rw[h3]at h2;exact absurd rfl h2
  ·injection h1 with h2 h3
   rw[<-h2];rfl
 obtain⟨x,rfl,hxr⟩:∃x,qr=[x]/\x.rq=(reqE n.net f).1:=by
  rw[hRQ]at hqr
  match qr,hqr with
  |[],h=>cases h
  |[x],h=>injection h with h1 _;exact⟨x,rfl,h1⟩
  |_::_::_,h=>injection h with _ h1;cases h1
 have hxl:=hqs x TN
 have hx0:[x][(0:Int).toNat]? =some x:=rfl
 have hx1:[x].length=1:=rfl
 rw[<-hxr]
 have p7:=λ(y:RqM) {H':List HP}{w:World}(hin:n.In B w0 H') (hq:QIn B w0 H' qA q) (hrs:Rd B w0 H' s.A (s.cells.flatMap celF)) (hy:y.In B w0 H') (hw:St B w0 H' w)=>Yjo n q s y hs24 (cap:=qcap) ht hin hq hrs hsl hy hw
 unfold OutS NetM.val SchM.val rqV at p7
 have p8:=λ{H':List HP}{w:World}(hin:n.In B w0 H') (hw:St B w0 H' w)=>OL n f hin hw
 unfold OutQ NetM.val flwV at p8
 unfold rqs
 repeat'(first|refine Yi T ?_|refine zgd ?_|(refine zge ?_ ?_<;>intro _<;>try exact zo)|(refine zgh ?_;intro _)|fail)
 rename_i g13
 have hxin:∀{H':List HP},many ([x].map rqQ)∈H'->x.In B w0 H':=λhm=>YlG hm TN hxl
 obtain⟨⟨t,te⟩,hA⟩:∃R,JB n.net (q.map RqM.rq) s.sch x.rq=R:=⟨_,rfl⟩
 have p9:=λ{H':List HP}{w:World}(hin:n.In B w0 H') (hq:QIn B w0 H' qA q) (hrs:Rd B w0 H' s.A (s.cells.flatMap celF)) (hy:x.In B w0 H') (hw:St B w0 H' w)=>p7 x hin hq hrs hy hw
 rw[hA]at p9
 rw[hA]
 dsimp only at p9⊢
 apply Yg _ en66
 exact za
 exact rfl
 exactλ_ hw=>(p9 (hinM zm) (hqM zm) (hrsM zm) (hxin zm) (hw))
 rintro _ _ ⟨A5,cap5,rfl,rfl⟩
 iterate 9 (first|refine Yi T ?_|refine zgc ?_|(refine zgh ?_;intro _)|fail)
 rename_i g14
 have htl:=Qb n.net (q.map RqM.rq) s.sch x.rq
 rw[hA]at htl
 dsimp only at htl
 obtain⟨RR,hRR⟩:∃RR,(if te=0 then finE n.net (insQ (q.map RqM.rq) x.rq) t 0 else if(J6 n.net f).2≠0 then(none,18)else ext1 ⟨n.net,q.map RqM.rq,s.sch,c.map ClM.clm,fm⟩ (J6 n.net f).1 (JB n.net (q.map RqM.rq) s.sch (J6 n.net f).1))=RR:=⟨_,rfl⟩
 rw[hRR]
 have hxf:x.f.1=f.1:=by
  have h1:x.rq.1=f:=by rw[hxr];exact Yp4 (Yp8 (by rw[hR]))
  exact TA Prod.fst h1
 refine Z1 (λz:{z:ExM//ExOk B w0 n.net (q.map RqM.rq) f RR z}=>[(2,.pointer (some ⟨g2,0,none⟩)),(4,.pointer (some ⟨g4,0,none⟩)),(6,.int .i64 (k:Nat)),(12,.int .i64 z.1.e),(13,.pointer (some ⟨g13,0,none⟩)),(14,.pointer (some ⟨g14,0,none⟩))])
  (λz=>[rqA g13 z.1.y,schD g14 z.1.t z.1.A z.1.cap,cels z.1.A z.1.cap z.1.t.cells,z.1.X,plnA g2 n qA qcap q s cA ccap c fA fcap fm,zerA g4,many H]) ?_ ?_
 ·intro K hK
  by_cases hte:te=0
  ·rw[To hte]at hRR
   repeat'(first|refine zga ?_|(refine zge ?_ ?_<;>intro _<;>try exact zo)|fail)
   apply hK ⟨⟨x,t,A5,cap5,te,many ([x].map rqQ)⟩,⟨hxin,hxf,by show t.cells.length<=_;omega,by rw[<-hRR];exact To hte⟩⟩
   ·exact zu
   ·exact zk
  rw[Tf hte]at hRR
  obtain⟨⟨sy,se⟩,hS⟩:∃R,J6 n.net f=R:=⟨_,rfl⟩
  have hsf:se=0->sy.1=f:=λh=>by have:=@Yfl n.net f (by rw[hS];exact h);rwa [hS]at this
  rw[hS]at p8 hRR
  dsimp only at p8 hRR
  repeat'(first|refine Yi T ?_|refine zgb ?_|(refine zge ?_ ?_<;>intro _<;>try exact zo)|fail)
  apply Yg _ en67
  exact za
  exact rfl
  exactλ_ hw=>(p8 (hinM zm) (hw))
  rintro _ _ ⟨y,rfl,hy,hyl,rfl⟩
  unfold rqV
  by_cases hse:se=0
  rotate_left
  ·rw[To hse]at hRR
   repeat'(first|refine Yi T ?_|refine zgd ?_|(refine zge ?_ ?_<;>intro _<;>try exact zo)|(refine zgh ?_;intro _)|fail)
   apply Yn T (H2:=H);(iterate 3 exact rfl);exact zm;exact rfl;exact rfl
   ·intro w hw
    have h5:St B w0 [many H] w:=by
     revert w
     exact zk
    exact hop w h5
   exact .inl ⟨by rw[<-hRR],by rw[<-hRR];rfl,rfl⟩
  rw[Tf (λe=>e hse)]at hRR
  subst hy
  have hyin:∀{H':List HP},rqQ y∈H'->y.In B w0 H':=λhm=>Yp9 hm hyl
  unfold ext1 at hRR
  dsimp only at hRR
  obtain⟨⟨t2,te2⟩,hA2⟩:∃R,JB n.net (q.map RqM.rq) s.sch y.rq=R:=⟨_,rfl⟩
  have p10:=λ{H':List HP}{w:World}(hin:n.In B w0 H') (hq:QIn B w0 H' qA q) (hrs:Rd B w0 H' s.A (s.cells.flatMap celF)) (hy:y.In B w0 H') (hw:St B w0 H' w)=>p7 y hin hq hrs hy hw
  have htl2:=Qb n.net (q.map RqM.rq) s.sch y.rq
  rw[hA2]at p10 hRR htl2
  dsimp only at p10 hRR htl2
  repeat'(first|refine Yi T ?_|refine zgc ?_|(refine zge ?_ ?_<;>intro _<;>try exact zo)|(refine zgh ?_;intro _)|fail)
  apply Yg _ en66
  exact za
  exact rfl
  exactλ_ hw=>(p10 (hinM zm) (hqM zm) (hrsM zm) (hyin zm) (hw))
  rintro _ _ ⟨A6,cap6,rfl,rfl⟩
  repeat'(first|refine Yi T ?_|refine zgc ?_|fail)
  apply hK ⟨⟨y,t2,A6,cap6,te2,rqQ y⟩,⟨hyin,TA Prod.fst (hsf hse),by show t2.cells.length<=_;omega,?_⟩⟩
  ·exact zu
  ·exact zk
  ·rw[<-hRR]
   show(if te2=0 then _ else _)=if te2≠0 then _ else _
   by_cases h:te2=0
   ·rw[To h,Tf (λe=>e h)]
   ·rw[Tf h,To h]
 rintro⟨⟨y,t3,A7,cap7,e3,X⟩,hz⟩
 obtain⟨hyin,hyf,ht3,hres⟩:=hz
 dsimp only at hyin hyf ht3 hres⊢
 clear hRR p7 p8 p9 hA htl hxin
 by_cases he3:e3=0
 rotate_left
 ·rw[Tf he3]at hres
  repeat'(first|refine zgd ?_|(refine zge ?_ ?_<;>intro _<;>try exact zo)|fail)
  apply Yn T (H2:=H);(iterate 3 exact rfl);exact zm;exact rfl;exact rfl
  ·intro w hw
   have h5:St B w0 [many H] w:=by
    revert w
    exact zk
   exact hop w h5
  exact .inl ⟨by rw[<-hres],by rw[<-hres];rfl,rfl⟩
 rw[To he3]at hres
 subst he3
 obtain⟨Q,hQ⟩:∃Q,q.take k++y::q.drop k=Q:=⟨_,rfl⟩
 have hQl:=Oh q y k hpos
 rw[hQ]at hQl
 have hQm:Q.map RqM.rq=insQ (q.map RqM.rq) y.rq:=by
  unfold insQ
  rw[show y.rq.1.1=f.1 from hyf,hkp,<-hQ,TY,RI,NP,Ni]
 rw[<-hQm]at hres
 have p11:=λ{H':List HP}{w:World}(hq:QIn B w0 H' qA q) (hw:St B w0 H' w)=>VG q (by omega) (cap:=qcap) hq.rd hw
 have p12:=λ{A':Option Addr}{cap' gv:Nat}{H':List HP}{w:World}(hw:St B w0 (rqs A' cap' q::rqA gv y::H') w)=>Qz q k y hpos (by omega) hw
 rw[hQ]at p12
 repeat'(first|refine zga ?_|(refine zge ?_ ?_<;>intro _<;>try exact zo)|fail)
 refine Z1 (λz:Option Addr×Nat×Nat=>[(17,.pointer (some ⟨z.2.2,0,none⟩)),(4,.pointer (some ⟨g4,0,none⟩))])
  (λz=>[bldA z.2.2 ⟨n,z.1,z.2.1,Q,⟨t3.len,t3.off,A7,cap7,t3.cells⟩,none,0,[],none,0,[],0⟩,rqs z.1 z.2.1 Q,cels A7 cap7 t3.cells,X,zerA g4,many H]) ?_ ?_
 ·intro K hK
  repeat'(first|refine Yi T ?_|fail)
  apply J7 (.n1 0 (.n1 1 (.n1 2 (.n1 3 (.n1 5 (.n1 6 (.n1 9 (.n2 4 (.n1 7 (.n1 8 (.n1 10 (.n1 11 (.n1 12 (.n1 13 .done)))))) 7 (.n1 4 (.n1 8 (.n1 10 (.n1 11 (.n1 12 (.n1 13 .done)))))))))))))) [] [true,true,true,true,true,true,true]
  kernel_rfl
  kernel_rfl
  exact zy
  exact rfl
  repeat'(first|refine Yi T ?_|(apply Yh;try exact zl)|apply(zs91 ?_ ?_)|(apply Xo;try exact zl)|refine zgd ?_|(refine zgh ?_;intro _)|fail)
  ·skip
   apply Yg _ en69
   exact za
   exact rfl
   exactλ_ hw=>(p11 (hqM zm) (hw))
   rintro _ _ ⟨A1,c1,rfl,rfl⟩
   repeat'(first|refine Yi T ?_|(apply Yh;try exact zl)|(apply Xo;try exact zl)|refine zgd ?_|(refine zgh ?_;intro _)|fail)
   rename_i gv
   apply XK [rqs A1 c1 q,rqA gv y] _ en68
   exact za
   try exact zl
   exact zp
   exact rfl
   exactλ_ hw=>(p12 hw)
   rintro _ _ ⟨A8,cap8,rfl,rfl⟩
   repeat'(first|refine Yi T ?_|(apply Yh;try exact zl)|(apply Xo;try exact zl)|refine zgd ?_|(refine zgh ?_;intro _)|fail)
   rename_i g17
   apply hK ⟨A8,cap8,g17⟩
   ·exact zu
   ·intro w hw
    have h5:St B w0 (blk g17 (.cells #[.int .i64 n.nodes,.slice n.pA n.rows.length n.pcap,.int .i64 n.noise,.int .i64 n.thr,.slice n.lA n.links.length n.lcap,.slice n.mA n.margin.length n.mcap,.slice A8 Q.length cap8,.int .i64 t3.len,.int .i64 t3.off,.slice A7 t3.cells.length cap7,.slice none 0 0,.slice none 0 0,.int .i64 0] 80 (0,0))::rqs A8 cap8 Q::cels A7 cap7 t3.cells::X::zerA g4::[many H]) w:=by
     revert w
     exact zk
    exact h5
  ·rename_i gv
   apply Yg _ en69
   exact za
   exact rfl
   exactλ_ hw=>(p11 (hqM zm) (hw))
   rintro _ _ ⟨A1,c1,rfl,rfl⟩
   repeat'(first|refine Yi T ?_|(apply Yh;try exact zl)|(apply Xo;try exact zl)|refine zgd ?_|fail)
   apply XK [rqs A1 c1 q,rqA gv y] _ en68
   exact za
   try exact zl
   exact zp
   exact rfl
   exactλ_ hw=>(p12 hw)
   rintro _ _ ⟨A8,cap8,rfl,rfl⟩
   repeat'(first|refine Yi T ?_|(apply Yh;try exact zl)|(apply Xo;try exact zl)|refine zgd ?_|(refine zgh ?_;intro _)|fail)
   rename_i g17
   apply hK ⟨A8,cap8,g17⟩
   ·exact zu
   ·intro w hw
    have h5:St B w0 (blk g17 (.cells #[.int .i64 n.nodes,.slice n.pA n.rows.length n.pcap,.int .i64 n.noise,.int .i64 n.thr,.slice n.lA n.links.length n.lcap,.slice n.mA n.margin.length n.mcap,.slice A8 Q.length cap8,.int .i64 t3.len,.int .i64 t3.off,.slice A7 t3.cells.length cap7,.slice none 0 0,.slice none 0 0,.int .i64 0] 80 (0,0))::rqs A8 cap8 Q::cels A7 cap7 t3.cells::X::zerA g4::[many H]) w:=by
     revert w
     exact zk
    exact h5
 rintro⟨A8,cap8,g17⟩
 dsimp only
 have hqe:∀{H':List HP},many H∈H'->X∈H'->rqs A8 cap8 Q∈H'->QIn B w0 H' A8 Q:=λh1 h2 h3=>⟨Ygl h3,λz hz=>by
  rw[<-hQ]at hz
  rcases T9.1 hz with h|h
  ·exact(hqM h1).x z (SJ h)
  ·rcases Rr.1 h with rfl|h
   ·exact hyin h2
   ·exact(hqM h1).x z (List.mem_of_mem_drop h),by omega⟩
 repeat'(first|refine zga ?_|fail)
 apply XK [bldA g17 ⟨n,A8,cap8,Q,⟨t3.len,t3.off,A7,cap7,t3.cells⟩,none,0,[],none,0,[],0⟩] _ en47
 exact za
 try exact zl
 exact zp
 exact rfl
 exactλ_ hw=>(VZ ⟨n,A8,cap8,Q,⟨t3.len,t3.off,A7,cap7,t3.cells⟩,none,0,[],none,0,[],0⟩ g17 ht (hinM zm) (hqe zm zm zm) (Om (cap:=cap7) zm) ht3 hw)
 rintro _ _ hO
 dsimp only at hO
 rw[show(⟨t3.len,t3.off,A7,cap7,t3.cells⟩:SchM).sch=t3 from rfl,hres]at hO
 rcases hO with⟨h1,rfl,rfl⟩|⟨p,XX,h1,rfl,hp,rfl⟩
 ·unfold zeroPnV
  repeat'(first|refine zgc ?_|fail)
  apply Yn T (H2:=H);(iterate 3 exact rfl);exact zm;exact rfl;exact rfl
  ·intro w hw
   have h5:St B w0 [many H] w:=by
    revert w
    exact zk
   exact hop w h5
  exact .inl ⟨h1,rfl,rfl⟩
 ·unfold PnM.val
  repeat'(first|refine zgc ?_|fail)
  apply Yn T (H2:=many [many XX,cels A7 cap7 t3.cells]::H);(iterate 3 exact rfl);exact zm;exact rfl;exact rfl
  ·intro w hw
   have h5:St B w0 (many XX::cels A7 cap7 t3.cells::[many H]) w:=by
    revert w
    exact zk
   exact(h5.perm (.cons _ (.cons _ (.openT H)))).perm (.close [_,_] H)
  exact .inr ⟨p,_,h1,rfl,(hp _ (Om (cap:=cap7) (.head _))).mono λw hw=>(hw.perm (.open_ [_,_] [])),rfl⟩
theorem Yfn{α:Type}{k:α->Int}:∀{a b:List α},(a.Pairwise λx y=>k x<k y)->(b.Pairwise λx y=>k x<k y)->(∀x,x∈a↔x∈b)->a=b
 |[],[],_,_,_=>rfl
 |[],y::b,_,_,h=>by have:=(h y).2 (by simp);simp_all
 |x::a,[],_,_,h=>by have:=(h x).1 (by simp);simp_all
 |x::a,y::b,ha,hb,h=>by
  obtain⟨ha1,ha2⟩:=RS.1 ha
  obtain⟨hb1,hb2⟩:=RS.1 hb
  have hxy:x=y:=by
   grind
  subst hxy
  refine TA (x::·) (Yfn ha2 hb2 λz=>?_)
  grind
theorem UU:∀{a b:List Lop}{c d:List Spl},a.length=c.length->YU (a++b) (c++d)=YU a c++YU b d
 |[],_,[],_,_=>rfl
 |x::a,b,y::c,d,h=>by
  have:=UU (a:=a) (b:=b) (c:=c) (d:=d) (by simp_all)
  grind [YU]
 |[],_,_::_,_,h=>by cases h
 |_::_,_,[],_,h=>by cases h
theorem Ua:∀{a b:List Lop}{c d:List Spl},a.length=c.length->badS (a++b) (c++d)=(badS a c||badS b d)
 |[],_,[],_,_=>by simp[badS]
 |x::a,b,y::c,d,h=>by
  have:=Ua (a:=a) (b:=b) (c:=c) (d:=d) (by simp_all)
  grind [badS]
 |[],_,_::_,_,h=>by cases h
 |_::_,_,[],_,h=>by cases h
theorem Od:∀{a:List Lop}{c:List Spl}{f:Flw},f∈YU a c->∃l∈a,f.1=2*l.1\/f.1=2*l.1+1
 |x::a,y::c,f,h=>by
  simp only[YU,Rr]at h
  rcases h with rfl|rfl|h
  ·exact⟨x,by simp,.inl rfl⟩
  ·exact⟨x,by simp,.inr rfl⟩
  ·obtain⟨l,h1,h2⟩:=Od h
   grind
 |[],_,_,h=>by cases h
 |_::_,[],_,h=>by cases h
theorem YeR:∀{a:List Lop}{c:List Spl},(a.Pairwise λx y=>x.1<y.1)->(YU a c).Pairwise λf g=>f.1<g.1
 |x::a,y::c,h=>by
  obtain⟨h1,h2⟩:=RS.1 h
  have hm:∀f∈YU a c,2*x.1+1<f.1:=by grind [Od]
  refine RS.2 ⟨λf hf=>?_,RS.2 ⟨λf hf=>?_,YeR h2⟩⟩
  ·rcases Rr.1 hf with rfl|hf
   ·show 2*x.1<2*x.1+1;omega
   ·have:=hm f hf
    show 2*x.1<f.1;omega
  ·exact hm f hf
 |[],_,_=>by simp[YU]
 |_::_,[],_=>by simp[YU]
variable {l:Lop}
theorem YxY{nodes:Int}(h:lopE nodes l=0)(hn:nodes<=32):lopE 32 l=0:=by
 have hi:∀a:Int,¬(insE a nodes=false)->¬(insE a 32=false):=λa h=>by
  unfold insE at h⊢
  grind
 unfold lopE at h⊢
 grind
theorem YkT{s:Spl}(h:lopE 32 l=0)(hs:s∈ZJ l):Xc l s=0:=by
 obtain⟨i,hi,rfl⟩:=TG.1 hs
 unfold Xc
 rw[Tf (λe=>e h),Tf]
 unfold fitS YdO sumS
 unfold sumS at hi
 grind
theorem Ysf(l:List Lop)(id:Int):posL l id<=l.length:=(List.takeWhile_sublist _).length_le
theorem YoF{p:Pln}(h:chkP p=0):(YG p.q).Pairwise λa b=>a.1<b.1:=(Um.1 (Ykc (Yce h).cert)).2.2.2
theorem YbG:∀{l:List Lop}{x:Lop},(l.Pairwise λa b=>a.1<b.1)->x∈l->l[posL l x.1]? =some x
 |y::l,x,hp,hx=>by
  obtain⟨h1,h2⟩:=RS.1 hp
  unfold posL
  by_cases hy:y.1<x.1
  ·rw[List.takeWhile_cons_of_pos (by simp_all),Rf,List.getElem?_cons_succ]
   rcases Rr.1 hx with rfl|hx
   ·omega
   ·exact YbG h2 hx
  grind [List.takeWhile_cons_of_neg]
variable {α:Type}{k:Nat}
theorem JY{l:List α}{x:α}(h:l[k]? =some x):l=l.take k++x::l.drop (k+1):=by
 grind [T0,Rw]
variable {q:List Rqs}{x:Rqs}
theorem YoN{i:Nat}(hp:(YG q).Pairwise λa b=>a.1<b.1)(hi:q[i]? =some x)(y:Rqs):y∈delQ q i↔y∈q/\y.1.1≠x.1.1:=by
 have hs:=JY hi
 unfold YG at hp
 rw[Nq,hs]at hp
 obtain⟨-,h2,h3⟩:=SU.1 hp
 obtain⟨h4,-⟩:=RS.1 h2
 unfold delQ
 grind
variable {p:Pln}{id:Int}
theorem YdN{q:Pln}(h:chkP p=0)(hw:wdrP p id=(some q,0)):chkP q=0/\q.n=p.n/\q.s=ZY p.s id/\∀y,y∈q.q↔y∈p.q/\y.1.1≠id:=by
 rcases Yfs h id with⟨-,h1⟩|⟨i,x,q',h1,rfl,h2,h3,h4,-⟩
 ·simp_all
 ·obtain rfl:q'=q:=by simp_all
  refine⟨h3.chk,by rw[h4],by rw[h4],λy=>?_⟩
  grind [YoN,YoF]
theorem YlT(h:chkP p=0)(hx:x∈p.q):∃q,wdrP p x.1.1=(some q,0):=by
 rcases Yfs h x.1.1 with⟨h1,-⟩|⟨i,y,q,-,-,h2,-⟩
 all_goals grind
variable {f:Flw}
theorem Un:f∈YG q↔∃y∈q,y.1=f:=by grind [YG]
theorem Ysw{g:Flw}(h:chkP p=0)(hf:f∈YG p.q)(hg:g∈YG p.q)(h1:f.1=2*id)(h2:g.1=2*id+1):
 ∃q1 q2,wdrP p (2*id)=(some q1,0)/\wdrP q1 (2*id+1)=(some q2,0)/\chkP q2=0/\q2.n=p.n/\q2.s=ZY (ZY p.s (2*id)) (2*id+1)/\∀y,y∈q2.q↔y∈p.q/\y.1.1≠2*id/\y.1.1≠2*id+1:=by
 obtain⟨x,hx,rfl⟩:=Un.1 hf
 obtain⟨z,hz,rfl⟩:=Un.1 hg
 obtain⟨q1,w1⟩:=YlT h hx
 obtain⟨c1,n1,s1,m1⟩:=YdN h w1
 obtain⟨q2,w2⟩:=YlT (x:=z) c1 ((m1 z).2 ⟨hz,by omega⟩)
 obtain⟨c2,n2,s2,m2⟩:=YdN c1 w2
 grind
theorem YeQ{l:List Lop}{s:List Spl}(hl:s.length=l.length){x:Lop}(h:l[k]? =some x):∃y,s[k]? =some y/\Zz x y∈YU l s/\Zi x y∈YU l s/\YU l s=YU (l.take k) (s.take k)++Zz x y::Zi x y::YU (l.drop (k+1)) (s.drop (k+1)):=by
 have hk:=(Tj.1 h).1
 obtain⟨y,hy⟩:∃y,s[k]? =some y:=⟨_,Ta (by omega)⟩
 have hlen:(l.take k).length=(s.take k).length:=by simp_all
 have he:YU l s=YU (l.take k) (s.take k)++Zz x y::Zi x y::YU (l.drop (k+1)) (s.drop (k+1)):=by
  have h1:YU l s=YU (l.take k++x::l.drop (k+1)) (s.take k++y::s.drop (k+1)):=by grind [JY]
  rw[h1,UU hlen];rfl
 simp_all
theorem Uq{l:List α}(h:k<l.length):(YW l k).length+1=l.length:=by
 grind [YW]
theorem YoQ{g:Gwy}(hg:GwOk g)(hh:hasL g.l id=true):∃q1 q2,wdrP g.p (2*id)=(some q1,0)/\wdrP q1 (2*id+1)=(some q2,0)/\chkP q1=0/\GwOk ⟨q2,YW g.l (posL g.l id),YW g.s (posL g.l id)⟩/\(YW g.l (posL g.l id)).length+1=g.l.length/\
 disG g id=(some ⟨q2,YW g.l (posL g.l id),YW g.s (posL g.l id)⟩,0)/\q2.s=ZY (ZY g.p.s (2*id)) (2*id+1)/\q2.n=g.p.n/\∀y,y∈q2.q↔y∈g.p.q/\y.1.1≠2*id/\y.1.1≠2*id+1:=by
 obtain⟨hn,h8,hfit,hpw⟩:=Zc.1 hg.l
 unfold hasL at hh
 obtain⟨x,hx,he⟩:=TM.1 hh
 obtain rfl:=TI he
 have hat:=YbG hpw hx
 have hk:=(Tj.1 hat).1
 obtain⟨y,hy,f1,f2,hfl⟩:=YeQ hg.len hat
 rw[hg.fl]at f1 f2
 obtain⟨q1,q2,w1,w2,c2,n2,s2,m2⟩:=Ysw (id:=x.1) hg.p f1 f2 rfl rfl
 have hsp:=JY hat
 have hpw2:=hpw
 rw[hsp]at hpw2
 obtain⟨-,p2,p3⟩:=SU.1 hpw2
 obtain⟨p4,-⟩:=RS.1 p2
 have hlen:(g.l.take (posL g.l x.1)).length=(g.s.take (posL g.l x.1)).length:=by rw[TO,TO,hg.len]
 have hsub:(YW g.l (posL g.l x.1)).Sublist g.l:=by
  unfold YW
  have h1:(g.l.take (posL g.l x.1)++g.l.drop (posL g.l x.1+1)).Sublist (g.l.take (posL g.l x.1)++x::g.l.drop (posL g.l x.1+1)):=by grind
  rwa [<-hsp]at h1
 have hlk:=Uq hk
 have hls:=Uq (l:=g.s) (k:=posL g.l x.1) (by rw[hg.len];exact hk)
 have hgw:GwOk ⟨q2,YW g.l (posL g.l x.1),YW g.s (posL g.l x.1)⟩:=by
  refine⟨c2,?_,?_,?_,?_⟩
  ·show(XD q2.n.nodes _).2=0
   rw[n2]
   exact Zc.2 ⟨hn,by show(YW g.l _).length<=8;omega,λf hf=>hfit f (hsub.subset hf),hpw.sublist hsub⟩
  ·show(YW g.s _).length=(YW g.l _).length
   have:=hg.len
   omega
  ·show badS (YW g.l _) (YW g.s _)=false
   have h1:=hg.fit
   rw[hsp,JY hy,Ua hlen]at h1
   unfold YW
   rw[Ua hlen]
   simp only[badS,Bool.or_eq_false_iff]at h1
   rw[h1.1,h1.2.2];rfl
  ·refine Yfn (k:=λf:Flw=>f.1) (YeR (hpw.sublist hsub)) (YoF c2) λf=>?_
   show f∈YU (YW g.l _) (YW g.s _)↔_
   have hm:f∈YG q2.q↔f∈YG g.p.q/\f.1≠2*x.1/\f.1≠2*x.1+1:=by
    rw[Un,Un]
    constructor
    ·rintro⟨z,hz,rfl⟩
     obtain⟨z1,z2⟩:=(m2 z).1 hz
     exact⟨⟨z,z1,rfl⟩,z2⟩
    ·rintro⟨⟨z,hz,rfl⟩,h2⟩
     exact⟨z,(m2 z).2 ⟨hz,h2⟩,rfl⟩
   rw[hm,<-hg.fl,hfl]
   unfold YW
   rw[UU hlen]
   simp only[T9,Rr]
   have hA:f∈YU (g.l.take (posL g.l x.1)) (g.s.take (posL g.l x.1))->f.1≠2*x.1/\f.1≠2*x.1+1:=λh=>by
    obtain⟨z,hz,e⟩:=Od h
    have:=p3 z hz x (by simp)
    omega
   have hB:f∈YU (g.l.drop (posL g.l x.1+1)) (g.s.drop (posL g.l x.1+1))->f.1≠2*x.1/\f.1≠2*x.1+1:=λh=>by
    obtain⟨z,hz,e⟩:=Od h
    have:=p4 z hz
    omega
   constructor
   ·rintro(h|h)
    ·exact⟨.inl h,hA h⟩
    ·exact⟨.inr (.inr (.inr h)),hB h⟩
   ·rintro⟨h|rfl|rfl|h,h1,h2⟩
    ·exact .inl h
    ·exact absurd rfl h1
    ·exact absurd rfl h2
    ·exact .inr h
 refine⟨q1,q2,w1,w2,(YdN hg.p w1).1,hgw,hlk,?_,s2,n2,m2⟩
 unfold disG
 rw[Tf (λe=>e (JN.2 hg)),Tf (by unfold hasL;rw[hh];simp),w1]
 show(some (Gwy.mk (YkA (wdrP q1 (2*x.1+1)) Yq1) _ _),(0:Int))=_
 rw[w2];rfl
structure GwM where
 p:PnM
 lA:Option Addr
 lcap:Nat
 l:List Lop
 sA:Option Addr
 scap:Nat
 s:List Spl
def GwM.val(g:GwM):Value:=.agg #[.int .i64 g.p.n.nodes,.slice g.p.n.pA g.p.n.rows.length g.p.n.pcap,.int .i64 g.p.n.noise,.int .i64 g.p.n.thr,.slice g.p.n.lA g.p.n.links.length g.p.n.lcap,.slice g.p.n.mA g.p.n.margin.length g.p.n.mcap,.slice g.p.qA g.p.q.length g.p.qcap,.int .i64 g.p.s.len,.int .i64 g.p.s.off,.slice g.p.s.A g.p.s.cells.length g.p.s.cap,.slice g.p.cA g.p.c.length g.p.ccap,.slice g.p.fA g.p.f.length g.p.fcap,.slice g.lA g.l.length g.lcap,.slice g.sA g.s.length g.scap]
def GwM.gw(g:GwM):Gwy:=⟨g.p.pln,g.l,g.s⟩
structure GwM.In(B:Nat)(w0:World)(H:List HP)(g:GwM):Prop where
 p:g.p.In B w0 H
 l:Rd B w0 H g.lA (g.l.flatMap lopF)
 s:Rd B w0 H g.sA (g.s.flatMap splF)
 ll:g.l.length<=1000
 sl:g.s.length<=1000
 lc:g.l.length<=g.lcap
 sc:g.s.length<=g.scap
abbrev gwyA(g:Nat)(m:GwM):HP:=blk g (.cells #[.int .i64 m.p.n.nodes,.slice m.p.n.pA m.p.n.rows.length m.p.n.pcap,.int .i64 m.p.n.noise,.int .i64 m.p.n.thr,.slice m.p.n.lA m.p.n.links.length m.p.n.lcap,.slice m.p.n.mA m.p.n.margin.length m.p.n.mcap,.slice m.p.qA m.p.q.length m.p.qcap,.int .i64 m.p.s.len,.int .i64 m.p.s.off,.slice m.p.s.A m.p.s.cells.length m.p.s.cap,.slice m.p.cA m.p.c.length m.p.ccap,.slice m.p.fA m.p.f.length m.p.fcap,.slice m.lA m.l.length m.lcap,.slice m.sA m.s.length m.scap] 56 (0,0))
variable {B:Nat}{w0 w:World}{H:List HP}
theorem GwM.In.mono{H':List HP}{g:GwM}(h:g.In B w0 H)(hH:∀w,St B w0 H' w->St B w0 H w):g.In B w0 H':=⟨h.p.mono hH,h.l.mono hH,h.s.mono hH,h.ll,h.sl,h.lc,h.sc⟩
theorem YhQ{a b:Flw}(h:flwF a=flwF b):a=b:=by
 grind [flwF]
theorem YhC(l m:List Flw)(hlen:l.length<=1000000000000){A A2:Option Addr}{cap cap2:Nat}(hr:Rd B w0 H A (l.flatMap flwF))(hr2:Rd B w0 H A2 (m.flatMap flwF))(hw:St B w0 H w):
 CX B w0 191 [.slice A l.length cap,.slice A2 m.length cap2] w λu K=>u=.bool (decide (l=m))/\K=H:=by
 refine Ya Tryz.func191 Tryz.ntmps191 rfl rfl hw ?_
 by_cases hll:l.length=m.length
 rotate_left
 ·exact zc6
 refine zX0 ?_<;>intros
 refine Ye (λ(k:Nat)=>[(13,.int .i64 k),(12,.int .i64 l.length),(0,.slice A l.length cap),(1,.slice A2 m.length cap2)]) (λ_=>H) (λk=>k<=l.length/\l.take k=m.take k) (λk=>l.length-k) 0 ⟨Td _,by simp⟩ ?_ (λw hw=>hw) ?_
 ·exact zc1
 rintro k ⟨hk,hi⟩ K hK
 by_cases hlt:k<l.length
 ·obtain⟨a,ha⟩:∃a,l[k]? =some a:=⟨_,Ta hlt⟩
  obtain⟨b,hb⟩:∃b,m[k]? =some b:=⟨_,Ta (by omega)⟩
  repeat'(first|(apply UG (xs:=flwF a) (ys:=flwF b);(iterate 3 exact rfl);kernel_rfl;kernel_rfl;all_goals intro _)|refine zgd ?_|(refine zge ?_ ?_<;>intro _<;>try exact zo)|fail)
  ·exact zc39
  ·rename_i h
   apply hK (k+1)
   ·exact⟨by omega,by grind [TD,YhQ]⟩
   ·omega
   ·exact zc1
   exact zc18
 ·refine zX1 ?_<;>intros
  exact zc38
theorem UV:∀(l:List Lop) (s:List Spl),(YU l s).length<=2*l.length
 |_::l,_::s=>by
  have:=UV l s
  grind [YU]
 |[],_=>by simp[YU]
 |_::_,[]=>by simp[YU]
theorem Yby{l:List Lop}{s:List Spl}{k:Nat}{a:Lop}{b:Spl}(hl:s.length=l.length)(ha:l[k]? =some a)(hb:s[k]? =some b):
 YU (l.take (k+1)) (s.take (k+1))=YU (l.take k) (s.take k)++[Zz a b,Zi a b]/\(Xc a b≠0->badS l s=true)/\(badS (l.take k) (s.take k)=false->Xc a b=0->badS (l.take (k+1)) (s.take (k+1))=false):=by
 have hlen:(l.take k).length=(s.take k).length:=by simp_all
 rw[TD,TD,ha,hb,Rx,Rx]
 refine⟨by rw[UU hlen];rfl,λh=>?_,λh1 h2=>?_⟩
 ·rw[JY ha,JY hb,Ua hlen]
  simp[badS,h]
 grind [Ua,badS]
theorem Jj(g:GwM)(ht:TabsB B w0)(hg:g.In B w0 H)(hw:St B w0 H w):
 CX B w0 98 [g.val] w λv K=>v=.int .i64 (chkG g.gw)/\K=H:=by
 refine Ya Tryz.func98 Tryz.ntmps98 rfl rfl hw ?_
 have hop:∀w,St B w0 [many H] w->St B w0 H w:=λw hw=>hw.perm (.openT H)
 have hgM:∀{H':List HP},many H∈H'->g.In B w0 H':=λhm=>hg.mono λw hw=>hw.inM hm
 have p1:=λ{H':List HP}{w:World}(hg:g.In B w0 H') (hw:St B w0 H' w)=>UN g.p ht hg.p hw
 have p2:=λ{H':List HP}{w:World}(hg:g.In B w0 H') (hw:St B w0 H' w)=>WL g.p.n.nodes g.l (TX hg.ll (by decide)) (cap:=g.lcap) hg.l hw
 have p3:=λ(a:Lop) (b:Spl) {H':List HP}{w:World}(hw:St B w0 H' w)=>YaT a b hw
 have hll:=hg.ll
 have hsl:=hg.sl
 unfold GwM.val
 unfold PnM.val at p1
 unfold chkG
 rw[show g.gw.p=g.p.pln from rfl,show g.gw.l=g.l from rfl,show g.gw.s=g.s from rfl,show g.p.pln.n.nodes=g.p.n.nodes from rfl]
 refine YX [many H] (λw hw=>hw.perm (.closeT H)) ?_
 by_cases hk:chkP g.p.pln=0
 rotate_left
 ·rw[To hk]
  refine YlX ?_<;>intros
  apply Yb en22
  exact za
  exact rfl
  exactλ_ hw=>(p1 (hgM (by(focus exact zc2))) hw)
  refine zX0 ?_<;>intros
  apply Yf H
  ·intro w hw
   have h5:St B w0 [many H] w:=by
    revert w
    exact zc0
   exact hop w h5
  exact zc3
 rw[Tf (λe=>e hk)]
 rw[hk]at p1
 obtain⟨⟨li,le⟩,hL⟩:∃R,XD g.p.n.nodes g.l=R:=⟨_,rfl⟩
 rw[hL]at p2⊢
 dsimp only at p2⊢
 by_cases hle:le=0
 rotate_left
 ·rw[To hle]
  refine Yqz ?_<;>intros
  apply Yf H
  ·intro w hw
   have h5:St B w0 [many H] w:=by
    revert w
    exact zc0
   exact hop w h5
  exact zc3
 rw[Tf (λe=>e hle)]
 subst hle
 by_cases hlen:g.s.length=g.l.length
 rotate_left
 ·rw[To hlen]
  refine Yqz ?_<;>intros
  apply Yf H
  ·intro w hw
   have h5:St B w0 [many H] w:=by
    revert w
    exact zc0
   exact hop w h5
  exact zc3
 rw[Tf (λe=>e hlen)]
 have hq16:g.p.q.length<=16:=by
  have h1:(g.p.q.map RqM.rq).length<=16:=(YbI (Qh (Qi hk))).1
  rwa [Tu]at h1
 refine Yqz ?_<;>intros
 rename Nat=>g1
 clear p1 p2
 refine XI 45 6 ?_
 refine Ye (λz:FlM=>[(42,.int .i64 (z.i:Nat)),(41,.int .i64 g.l.length),(40,.slice g.lA g.l.length g.lcap),(6,.slice z.A (YU (g.l.take z.i) (g.s.take z.i)).length z.cap),(7,.slice none 0 0),(1,.pointer (some ⟨g1,0,none⟩))])
  (λz=>flws z.A z.cap (YU (g.l.take z.i) (g.s.take z.i))::gwyA g1 g::[many H]) (λz=>z.i<=g.l.length/\badS (g.l.take z.i) (g.s.take z.i)=false) (λz=>g.l.length-z.i) ⟨0,none,0⟩ ⟨Td _,by rw[Ns];rfl⟩ ?_ ?_ ?_
 ·exact zc1
 ·intro w hw
  have h5:St B w0 (sl 45 6 none 0 0 []::gwyA g1 g::[many H]) w:=by
   revert w
   exact zc0
  exact h5
 rintro⟨i,A1,c1⟩ ⟨hi,hb⟩ K hK
 dsimp only at hi hb⊢
 have hfl:=UV (g.l.take i) (g.s.take i)
 rw[TO]at hfl
 by_cases hlt:i<g.l.length
 ·obtain⟨a,ha⟩:∃a,g.l[i]? =some a:=⟨_,Ta hlt⟩
  obtain⟨b,hb2⟩:∃b,g.s[i]? =some b:=⟨_,Ta (by omega)⟩
  obtain⟨hst,hbad,hnext⟩:=Yby hlen ha hb2
  have p4:=λ{H':List HP}{w:World}(hw:St B w0 H' w)=>p3 a b hw
  unfold lopV splV at p4
  have hra:=(hgM (H':=flws A1 c1 (YU (g.l.take i) (g.s.take i))::gwyA g1 g::[many H]) (.tail _ (.tail _ (.head _)))).l
  have hrb:=(hgM (H':=flws A1 c1 (YU (g.l.take i) (g.s.take i))::gwyA g1 g::[many H]) (.tail _ (.tail _ (.head _)))).s
  by_cases hr:Xc a b=0
  rotate_left
  ·rw[To (hbad hr)]
   refine YdS ?_<;>intros
   apply YC [0,1,2,3,4,5,6,7,8,9,10,11] [] [true,true,true,true]
   kernel_rfl
   kernel_rfl
   exact zy
   (simp only[Yd,nthO];rfl)
   exact rfl
   refine Z0 ?_
   apply Yg _ YoV
   exact za
   exact rfl
   exactλ_ hw=>(p4 (hw))
   rintro _ _ ⟨A3,rfl,rfl⟩
   refine zX95 ?_<;>intros
   apply Yf H
   ·intro w hw
    have h5:St B w0 [many H] w:=by
     revert w
     exact zc0
    exact hop w h5
   exact zc3
  obtain⟨m,hm⟩:∃m,[Zz a b,Zi a b]=m:=⟨_,rfl⟩
  have hml:m.length=2:=by rw[<-hm];rfl
  rw[show flsS a b=m from by unfold flsS;rw[Tf (λe=>e hr)];exact hm,hr]at p4
  rw[hm]at hst
  have hnb:=hnext hb hr
  generalize YU (g.l.take i) (g.s.take i)=L at hst hfl hra hrb⊢
  refine YdS ?_<;>intros
  apply YC [0,1,2,3,4,5,6,7,8,9,10,11] [] [true,true,true,true]
  kernel_rfl
  kernel_rfl
  exact zy
  (simp only[Yd,nthO];rfl)
  exact rfl
  refine Z0 ?_
  apply Yg _ YoV
  exact za
  exact rfl
  exactλ_ hw=>(p4 (hw))
  rintro _ _ ⟨A3,rfl,rfl⟩
  unfold flws
  repeat'(first|(apply YI T (f:=flwF) (l2:=m) (e:=45) (size:=6) (xs:=L.flatMap flwF);(iterate 3 exact rfl);exact Rd.sl zm;exact(λ_=>rfl);exact(λ_=>rfl);exact rfl;(intro _ _;exact zd);omega;intro A4 c4)|(apply Yh;try exact zl)|refine zgd ?_|(refine zge ?_ ?_<;>intro _<;>try exact zo)|fail)
  rename_i A4 c4
  apply hK ⟨i+1,A4,c4⟩
  ·exact⟨by exact Ybf,hnb⟩
  ·exact zc73
  ·dsimp only
   rw[hst,Tt]
   exact zc1
  ·intro w hw
   dsimp only
   unfold flws
   rw[hst,Tt,Rj]
   revert w
   exact zc0
 obtain rfl:i=g.l.length:=by omega
 rw[TC,TE (by omega)]at hb hfl
 rw[TC,TE (l:=g.s) (by omega)]
 rw[Tf (show¬badS g.l g.s=true by rw[hb];decide)]
 have hfq:YG g.p.pln.q=RqM.fl g.p.q:=YuM
 rw[hfq]
 clear hK
 generalize YU g.l g.s=L at hfl⊢
 have hrq:∀{H':List HP},many H∈H'->Rd B w0 H' g.p.qA (g.p.q.flatMap rqF):=λhm=>(hgM hm).p.q.rd
 refine QX ?_<;>intros
 refine XI 45 6 ?_
 refine Ye (λz:FlM=>[(67,.int .i64 (z.i:Nat)),(66,.int .i64 g.p.q.length),(65,.slice g.p.qA g.p.q.length g.p.qcap),(7,.slice z.A (RqM.fl (g.p.q.take z.i)).length z.cap),(6,.slice A1 L.length c1)])
  (λz=>flws z.A z.cap (RqM.fl (g.p.q.take z.i))::flws A1 c1 L::[many H]) (λz=>z.i<=g.p.q.length) (λz=>g.p.q.length-z.i) ⟨0,none,0⟩ (Td _) ?_ ?_ ?_
 ·exact zc1
 ·intro w hw
  have h5:St B w0 (sl 45 6 none 0 0 []::flws A1 c1 L::[many H]) w:=by
   revert w
   exact zc0
  exact h5
 rintro⟨i,A2,c2⟩ hi K hK
 dsimp only at hi⊢
 have hrd:=hrq (H':=flws A2 c2 (RqM.fl (g.p.q.take i))::flws A1 c1 L::[many H]) (.tail _ (.tail _ (.head _)))
 have hlen:(RqM.fl (g.p.q.take i)).length=i:=by unfold RqM.fl;rw[Tu,TO];omega
 by_cases hlt:i<g.p.q.length
 ·obtain⟨x,hx⟩:∃x,g.p.q[i]? =some x:=⟨_,Ta hlt⟩
  have hst:RqM.fl (g.p.q.take (i+1))=RqM.fl (g.p.q.take i)++[x.f]:=by unfold RqM.fl;rw[TD,hx,Rx,TY];rfl
  repeat'(first|refine Yi T ?_|refine zgd ?_|(refine zge ?_ ?_<;>intro _<;>try exact zo)|(refine zgh ?_;intro _)|(refine zgi ?_;intro _ _)|fail)
  rename_i A' cap'
  rw[Uo,<-hst,show(RqM.fl (g.p.q.take i)).length+1=(RqM.fl (g.p.q.take (i+1))).length from by rw[hst];simp]
  apply hK ⟨i+1,A',cap'⟩
  ·show i+1<=_
   omega
  ·exact zc73
  ·exact zc1
  ·exact zc0
 obtain rfl:i=g.p.q.length:=by omega
 rw[TC]
 clear hK hrd
 have p5:=λ{H':List HP}{w:World}(h1:Rd B w0 H' A1 (L.flatMap flwF)) (h2:Rd B w0 H' A2 ((RqM.fl g.p.q).flatMap flwF)) (hw:St B w0 H' w)=>YhC L (RqM.fl g.p.q) (by omega) (cap:=c1) (cap2:=c2) h1 h2 hw
 by_cases heq:L=RqM.fl g.p.q
 ·rw[Ti heq]at p5
  rw[Tf (λe=>e heq)]
  refine YtP ?_<;>intros
  apply Yf H
  ·intro w hw
   have h5:St B w0 [many H] w:=by
    revert w
    exact zc0
   exact hop w h5
  exact zc3
 ·rw[Tn heq]at p5
  rw[To heq]
  refine YtP ?_<;>intros
  apply Yf H
  ·intro w hw
   have h5:St B w0 [many H] w:=by
    revert w
    exact zc0
   exact hop w h5
  exact zc3
noncomputable def YcC(p:Pln):List Flw->Option Pln
 |[]=>some p
 |f::fs=>match extP p f with
  |(some q,0)=>YcC q fs
  |_=>none
theorem YmW(p:Pln)(f:Flw)(fs:List Flw):YcC p (f::fs)=match extP p f with
 |(some q,0)=>YcC q fs
 |_=>none:=rfl
theorem Yqm(p:Pln)(l:Lop)(s:Spl)(ss:List Spl):tryG p l (s::ss)=match Wh p l s with
 |some q=>some (s,q)
 |none=>tryG p l ss:=rfl
theorem YmI(p:Pln)(l:Lop)(s:Spl):Wh p l s=YcC p [Zz l s,Zi l s]:=by
 grind [Wh,YcC]
def Vg:Value:=.agg #[.int .i64 0,.slice none 0 0,.int .i64 0,.int .i64 0,.slice none 0 0,.slice none 0 0,.slice none 0 0,.int .i64 0,.int .i64 0,.slice none 0 0,.slice none 0 0,.slice none 0 0,.slice none 0 0,.slice none 0 0]
def O7(B:Nat)(w0:World)(H:List HP)(R:Option Gwy×Int)(v:Value)(K:List HP):Prop:=
 (R.1=none/\v=.tuple #[Vg,.int .i64 R.2]/\K=H)\/∃(g:GwM) (X:List HP),R.1=some g.gw/\v=.tuple #[g.val,.int .i64 R.2]/\g.In B w0 [many X]/\K=many X::H
abbrev plnB(g:Nat)(p:PnM):HP:=plnA g p.n p.qA p.qcap p.q p.s p.cA p.ccap p.c p.fA p.fcap p.f
abbrev zerB(g:Nat):HP:=blk g (.cells #[.int .i64 0,.slice none 0 0,.int .i64 0,.int .i64 0,.slice none 0 0,.slice none 0 0,.slice none 0 0,.int .i64 0,.int .i64 0,.slice none 0 0,.slice none 0 0,.slice none 0 0] 38 (0,0))
abbrev lopA(g:Nat)(l:Lop):HP:=blk g (.cells #[.int .i64 l.1,.int .i64 l.2.1,.int .i64 l.2.2.1,.int .i64 l.2.2.2.1,.int .i64 l.2.2.2.2.1,.int .i64 l.2.2.2.2.2.1,.int .i64 l.2.2.2.2.2.2] 58 (0,0))
structure TrM where
 i:Nat
 q:PnM
 X:List HP
structure ExtG(S:Spl->Prop)(G:Nat->Pln->Prop)(l:Lop):Prop where
 le:∀i q,G i q->q.s.len<=24
 st:∀i q s f,G i q->S s->Xc l s=0->[Zz l s,Zi l s][i]? =some f->((extP q f).1=none/\(extP q f).2≠0)\/∃r,extP q f=(some r,0)/\G (i+1) r
 rn:∀i q s f,G i q->S s->Xc l s=0->[Zz l s,Zi l s][i]? =some f->∀n:NetM,n.net=q.n->YgG n f
structure TrOk(G:Nat->Pln->Prop)(B:Nat)(w0:World)(H:List HP)(p:Pln)(fs:List Flw)(z:TrM):Prop where
 i:z.i<=fs.length
 yin:∀{H':List HP},many z.X∈H'->many H∈H'->z.q.In B w0 H'
 new:z.i≠0->z.q.In B w0 [many z.X]
 g:G z.i z.q.pln
 ex:YcC p fs=YcC z.q.pln (fs.drop z.i)
variable {S:Spl->Prop}{G:Nat->Pln->Prop}{B:Nat}{w0 w:World}{H:List HP}
theorem Yi6(g:GwM)(l:Lop)(s:Spl)(gl gg gp:Nat)(hG:ExtG S G l)(hS:S s)(h0:G 0 g.p.pln)(hr:Xc l s=0)(ht:TabsB B w0)(hg:g.p.In B w0 H)(hw:St B w0 (zerB gp::lopA gl l::gwyA gg g::H) w):
 CX B w0 103 [splV s,.pointer (some ⟨gl,0,none⟩),.pointer (some ⟨gg,0,none⟩),.pointer (some ⟨gp,0,none⟩)] w λv K=>
  (Wh g.p.pln l s=none/\v=.bool false/\K=zerB gp::lopA gl l::gwyA gg g::H)\/∃q X,Wh g.p.pln l s=some (PnM.pln q)/\v=.bool true/\q.In B w0 [many X]/\K=plnB gp q::many X::lopA gl l::gwyA gg g::H:=by
 refine Ya Tryz.func103 Tryz.ntmps103 rfl rfl hw ?_
 have hop:∀w,St B w0 [many H] w->St B w0 H w:=λw hw=>hw.perm (.openT H)
 have hgM:∀{H':List HP},many H∈H'->g.p.In B w0 H':=λhm=>hg.mono λw hw=>hw.inM hm
 have p1:=λ{H':List HP}{w:World}(hw:St B w0 H' w)=>YaT l s hw
 have hfs:flsS l s=[Zz l s,Zi l s]:=by unfold flsS;rw[Tf (λe=>e hr)]
 rw[hfs,hr,show [Zz l s,Zi l s].length=2 from rfl]at p1
 rw[YmI]
 obtain⟨fs,hfe⟩:∃fs,[Zz l s,Zi l s]=fs:=⟨_,rfl⟩
 have hfl:fs.length=2:=by rw[<-hfe];rfl
 rw[hfe]at p1⊢
 rw[<-hfl]at p1
 unfold lopV splV at p1
 unfold splV
 refine YX (zerB gp::lopA gl l::gwyA gg g::[many H]) (λw hw=>hw.perm (.cons _ (.cons _ (.cons _ (.closeT H))))) ?_
 repeat'(first|refine zgb ?_|(refine zgh ?_;intro _)|fail)
 apply Yg _ YoV
 exact za
 exact rfl
 exactλ_ hw=>(p1 (hw))
 rintro _ _ ⟨A3,rfl,rfl⟩
 repeat'(first|refine Yi T ?_|refine zgc ?_|fail)
 refine Ye (λz:TrM=>[(21,.int .i64 (z.i:Nat)),(20,.int .i64 fs.length),(19,.slice A3 fs.length fs.length),(3,.pointer (some ⟨gp,0,none⟩))])
  (λz=>plnB gp z.q::many z.X::flws A3 fs.length fs::lopA gl l::gwyA gg g::[many H]) (TrOk G B w0 H g.p.pln fs) (λz=>fs.length-z.i) ⟨0,g.p,[]⟩ ⟨Td _,λ_ h=>hgM h,λh=>absurd rfl h,h0,rfl⟩ ?_ ?_ ?_
 ·exact zu
 ·intro w hw
  have h5:St B w0 (plnB gp g.p::flws A3 fs.length fs::lopA gl l::gwyA gg g::[many H]) w:=by
   revert w
   exact zk
  exact h5.perm (.cons _ (.close [] _))
 rintro⟨i,q,X⟩ ⟨hi,hin,hnew,hck,hex⟩ K hK
 dsimp only at hi hin hnew hck hex⊢
 by_cases hlt:i<fs.length
 ·obtain⟨f,hf⟩:∃f,fs[i]? =some f:=⟨_,Ta hlt⟩
  have hdr:fs.drop i=f::fs.drop (i+1):=by
   obtain⟨h1,rfl⟩:=Tj.1 hf
   exact T0 h1
  rw[hdr,YmW]at hex
  have hfm:[Zz l s,Zi l s][i]? =some f:=by rw[hfe];exact hf
  have p2:=λ{H':List HP}{w:World}(hq:q.In B w0 H') (hw:St B w0 H' w)=>YcB q f (hG.rn i q.pln s f hck hS hr hfm _ rfl) (.inl (hG.le _ _ hck)) ht hq hw
  have hst:=hG.st i q.pln s f hck hS hr hfm
  obtain⟨⟨R,e⟩,hR⟩:∃R,extP q.pln f=R:=⟨_,rfl⟩
  rw[hR]at p2 hex hst
  unfold Yav PnM.val flwV at p2
  dsimp only at p2
  repeat'(first|refine zgd ?_|(refine zge ?_ ?_<;>intro _<;>try exact zo)|(refine zgh ?_;intro _)|fail)
  apply Yg _ en14
  exact za
  exact rfl
  exactλ_ hw=>(p2 (hin zm zm) (hw))
  rintro _ K1 (⟨h,rfl,rfl⟩|⟨q2,X2,hq2,rfl,hq2in,rfl⟩)
  ·obtain⟨-,he⟩:R=none/\e≠0:=by
    rcases hst with h1|⟨r,h1,-⟩
    ·exact h1
    ·have h2:=(Prod.mk.inj h1).1
     rw[show R=none from h]at h2;cases h2
   subst h
   unfold zeroPnV
   repeat'(first|refine zgd ?_|(refine zge ?_ ?_<;>intro _<;>try exact zo)|fail)
   apply Yf (zerB gp::lopA gl l::gwyA gg g::H)
   ·intro w hw
    have h5:St B w0 (zerB gp::lopA gl l::gwyA gg g::[many H]) w:=by
     revert w
     exact zk
    exact h5.perm (.cons _ (.cons _ (.cons _ (.openT H))))
   apply Yc;exact rfl;exact rfl
   exact .inl ⟨hex,rfl,rfl⟩
  ·obtain⟨r,h1,hGr⟩:∃r,(R,e)=(some r,0)/\G (i+1) r:=by
    rcases hst with⟨h1,-⟩|h
    ·rw[show R=some q2.pln from hq2]at h1;cases h1
    ·exact h
   obtain⟨h2,rfl⟩:=Prod.mk.inj h1
   have hc2:G (i+1) q2.pln:=by
    rw[show R=some q2.pln from hq2]at h2
    rw[Tz h2];exact hGr
   subst hq2
   repeat'(first|refine zgc ?_|(refine zge ?_ ?_<;>intro _<;>try exact zo)|fail)
   apply hK ⟨i+1,q2,X2⟩
   ·exact⟨by show i+1<=_;omega,λh _=>hq2in.inX h,λ_=>hq2in,hc2,hex⟩
   ·dsimp only;omega
   ·exact zu
   ·exact zk
 ·obtain rfl:i=fs.length:=by omega
  rw[Ss]at hex
  have hnew:=hnew (by omega)
  repeat'(first|refine zgc ?_|(refine zge ?_ ?_<;>intro _<;>try exact zo)|fail)
  apply Yf (plnB gp q::many X::lopA gl l::gwyA gg g::H)
  ·intro w hw
   have h5:St B w0 (plnB gp q::many X::lopA gl l::gwyA gg g::[many H]) w:=by
    revert w
    exact zk
   exact h5.perm (.cons _ (.cons _ (.cons _ (.cons _ (.openT H)))))
  apply Yc;exact rfl;exact rfl
  exact .inr ⟨q,X,hex,rfl,hnew,rfl⟩
theorem Yh0(g:GwM)(l:Lop)(L:List Spl)(gl gg gp:Nat)(hG:ExtG S G l)(h0:G 0 g.p.pln)(hS:∀(k:Nat) s,L[k]? =some s->(∀(j:Nat) t,j<k->L[j]? =some t->Wh g.p.pln l t=none)->S s)(hL:∀s∈L,Xc l s=0)(hlen:L.length<=1000000){A:Option Addr}{cap:Nat}(ht:TabsB B w0)(hg:g.p.In B w0 H)(hr:Rd B w0 H A (L.flatMap splF))(hw:St B w0 (zerB gp::lopA gl l::gwyA gg g::H) w):
 CX B w0 105 [.slice A L.length cap,.func (.func 103) #[] #[.pointer (some ⟨gl,0,none⟩),.pointer (some ⟨gg,0,none⟩),.pointer (some ⟨gp,0,none⟩)]] w λv K=>
  (tryG g.p.pln l L=none/\v=.int .i64 (-1)/\K=zerB gp::lopA gl l::gwyA gg g::H)\/∃k s q X,L[k]? =some s/\tryG g.p.pln l L=some (s,PnM.pln q)/\v=.int .i64 ((k:Nat):Int)/\q.In B w0 [many X]/\K=plnB gp q::many X::lopA gl l::gwyA gg g::H:=by
 refine Ya Tryz.func105 Tryz.ntmps105 rfl rfl hw ?_
 have hr:=((hr.cons (X:=gwyA gg g)).cons (X:=lopA gl l)).cons (X:=zerB gp)
 have p1:=λ(s:Spl) (hSs:S s) (hs:Xc l s=0) {w:World}(hw:St B w0 (zerB gp::lopA gl l::gwyA gg g::H) w)=>Yi6 g l s gl gg gp hG hSs h0 hs ht hg hw
 refine zX9 ?_
 refine Ye (λ(k:Nat)=>[(8,.int .i64 k),(7,.int .i64 L.length),(0,.slice A L.length cap),(1,.func (.func 103) #[] #[.pointer (some ⟨gl,0,none⟩),.pointer (some ⟨gg,0,none⟩),.pointer (some ⟨gp,0,none⟩)])]) (λ_=>zerB gp::lopA gl l::gwyA gg g::H) (λk=>k<=L.length/\tryG g.p.pln l L=tryG g.p.pln l (L.drop k)/\∀(j:Nat) t,j<k->L[j]? =some t->Wh g.p.pln l t=none) (λk=>L.length-k) 0 ⟨Td _,by simp,λj t hj=>absurd hj (Re _)⟩ ?_ (λw hw=>hw) ?_
 ·exact zc1
 rintro k ⟨hk1,hi,hfa⟩ K hK
 by_cases hlt:k<L.length
 ·obtain⟨a,ha⟩:∃a,L[k]? =some a:=⟨_,Ta hlt⟩
  have hdr:L.drop k=a::L.drop (k+1):=by
   grind [T0]
  rw[hdr,Yqm]at hi
  have p2:=λ{w:World}(hw:St B w0 (zerB gp::lopA gl l::gwyA gg g::H) w)=>p1 a (hS k a ha hfa) (hL a (Tc ha)) hw
  unfold splV at p2
  refine zX50 ?_<;>intros
  apply YgN _ (cs:=[.pointer (some ⟨gl,0,none⟩),.pointer (some ⟨gg,0,none⟩),.pointer (some ⟨gp,0,none⟩)])
  exact rfl
  exact Yv2
  exact za
  exact rfl
  exactλ_ hw=>p2 hw
  rintro _ _ (⟨hb,rfl,rfl⟩|⟨q,X,hb,rfl,hq,rfl⟩)
  ·rw[hb]at hi
   refine zX11 ?_
   apply hK (k+1)
   ·refine⟨by omega,hi,λj t hj ht=>?_⟩
    by_cases hjk:j=k
    ·subst hjk;rw[ha]at ht;rw[<-Tz ht];exact hb
    ·exact hfa j t (by omega) ht
   ·omega
   ·exact zc1
   exact zc18
  ·rw[hb]at hi
   refine zX3 ?_
   apply Yc;exact rfl;exact rfl
   exact .inr ⟨k,a,q,X,ha,hi,rfl,hq,rfl⟩
 ·refine zX1 ?_<;>intros
  apply Yc;exact rfl;exact rfl
  rw[hi,Rn (by omega)]
  exact zc68
end Go.Proofs.YtjommdkgfbhbdaaGreatDoor
