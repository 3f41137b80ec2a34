/- Lemmas. -/
import Derived.Test.YtjommdkgfbhbdaaGreatDoorQ16
set_option maxRecDepth 100000
set_option maxHeartbeats 8000000
set_option linter.all false
namespace Go.Proofs.YtjommdkgfbhbdaaGreatDoor
open Go.RowKit Go.Eng Go.Nw Go.Rt
variable {A A2:Option Addr}{cap cap2 B:Nat}{w0 w:World}{H:List HP}
theorem YeN(l m:List Int)(hlen:l.length<=1000000000000)(hr:Rd B w0 H A (l.flatMap numF))(hr2:Rd B w0 H A2 (m.flatMap numF))(hw:St B w0 H w):
 CX B w0 59 [.slice A l.length cap,.slice A2 m.length cap2] w λu K=>u=.bool (decide (l=m))/\K=H:=by
 refine Ya Tryz.func59 Tryz.ntmps59 rfl rfl hw ?_
 by_cases hll:l.length=m.length
 rotate_left
 ·exact zc8
 refine zX1 ?_<;>intros
 refine Ye (λ(k:Nat)=>[(5,.int .i64 k),(0,.slice A l.length cap),(1,.slice A2 m.length cap2)]) (λ_=>H) (λk=>k<=l.length/\l.take k=m.take k) (λk=>l.length-k) 0 ⟨Td _,by simp⟩ ?_ (λw hw=>hw) ?_
 ·exact zc1
 rintro k ⟨hk,hi⟩ K hK
 by_cases hlt:k<l.length
 ·obtain⟨a,ha⟩:∃a,l[k]? =some a:=⟨_,Ta hlt⟩
  obtain⟨b,hb⟩:∃b,m[k]? =some b:=⟨_,Ta (by omega)⟩
  repeat'(first|refine zgd ?_|(refine zge ?_ ?_<;>intro _<;>try exact zo)|fail)
  ·exact zc44
  ·rename_i h
   apply hK (k+1)
   ·exact⟨by omega,by exact zc76⟩
   ·omega
   ·exact zc1
   exact zc21
 ·refine zX0 ?_<;>intros
  exact zc84
structure FrM where
 i:Nat
 A:Option Addr
 cap:Nat
theorem YiN(len off:Int)(h:(1<=len/\len<=512)/\(1<=off/\off<=16))(hw:St B w0 H w):
 CX B w0 190 [.int .i64 len,.int .i64 off] w λv K=>∃A cap,v=.slice A (List.replicate len.toNat (pow1 off-1)).length cap/\K=nrs A cap (List.replicate len.toNat (pow1 off-1))::H:=by
 refine Ya Tryz.func190 Tryz.ntmps190 rfl rfl hw ?_
 have hp:=Ymb (o:=off) ⟨by omega,h.2.2⟩
 have hp2:1<=IntKind.i64.wrap (1*2^off.toNat)/\IntKind.i64.wrap (1*2^off.toNat)<=65536:=hp
 obtain⟨n,rfl⟩:∃n:Nat,len=n:=⟨len.toNat,by omega⟩
 rw[Ry,show pow1 off-1=IntKind.i64.wrap (1*2^off.toNat)-1 from rfl]
 have hrl:∀i:Nat,(List.replicate i (IntKind.i64.wrap (1*2^off.toNat)-1)).length=i:=λi=>TS ..
 repeat'(first|(apply YK T;exact rfl;exact rfl;intro g2)|refine zgb ?_|fail)
 rename Nat=>g2
 refine Ye (λz:FrM=>[(6,.int .i64 (z.i:Nat)),(0,.int .i64 (n:Nat)),(1,.int .i64 off),(5,.slice z.A (List.replicate z.i (IntKind.i64.wrap (1*2^off.toNat)-1)).length z.cap)]) (λz=>nrs z.A z.cap (List.replicate z.i (IntKind.i64.wrap (1*2^off.toNat)-1))::H) (λz=>z.i<=n) (λz=>n-z.i) ⟨0,some ⟨g2,0,none⟩,0⟩ (Td _) ?_ (λw hw=>hw) ?_
 ·exact zc1
 rintro⟨i,A1,c1⟩ hi K hK
 dsimp only at hi⊢
 have hil:=hrl i
 by_cases hlt:i<n
 ·have hst:List.replicate (i+1) (IntKind.i64.wrap (1*2^off.toNat)-1)=List.replicate i (IntKind.i64.wrap (1*2^off.toNat)-1)++[IntKind.i64.wrap (1*2^off.toNat)-1]:=List.replicate_succ'
  generalize List.replicate i (IntKind.i64.wrap (1*2^off.toNat)-1)=L at hst hil⊢
  unfold nrs
  refine YtE ?_<;>intros
  rename_i A' cap'
  rw[Vl,<-hst,show L.length+1=(List.replicate (i+1) (IntKind.i64.wrap (1*2^off.toNat)-1)).length by simp_all]
  apply hK ⟨i+1,A',cap'⟩
  ·grind
  ·grind
  ·exact zc1
  ·exact zc0
 obtain rfl:i=n:=by omega
 refine zX0 ?_<;>intros
 exact zc84
theorem YbU(f:List Int)(cs:List Cel)(hf:f.length<=512)(hcl:cs.length<=512)(hc:∀c∈cs,(0<=c.1/\c.1<f.length)/\(0<=c.2.1/\c.2.1<16))(hr:Rd B w0 H A (f.flatMap numF))(hr2:Rd B w0 H A2 (cs.flatMap celF))(hw:St B w0 H w):
 CX B w0 189 [.slice A f.length cap,.slice A2 cs.length cap2] w λv K=>∃A' cap',v=.slice A' (cs.foldl ZT f).length cap'/\K=nrs A' cap' (cs.foldl ZT f)::H:=by
 refine Ya Tryz.func189 Tryz.ntmps189 rfl rfl hw ?_
 have hop:∀w,St B w0 [many H] w->St B w0 H w:=λw hw=>hw.perm (.openT H)
 have hr:=hr.mono hop
 have hr2:=hr2.mono hop
 refine Y6 [many H] (λw hw=>hw.perm (.closeT H)) ?_
 repeat'(first|(apply YK T;exact rfl;exact rfl;intro g2)|refine zga ?_|fail)
 apply Xt T (f:=numF) (l2:=f) (e:=3) (size:=1) (xs:=[]);(iterate 3 exact rfl);exact hr.cons;exact(λ_=>rfl);exact(λ_=>rfl);exact rfl;(intro _ _;exact zd);omega;intro A' cap'
 refine zX7 ?_
 rw[Ri,TC]
 refine Ye (λj:Nat=>[(6,.int .i64 (j:Nat)),(1,.slice A2 cs.length cap2),(5,.slice A' f.length cap')]) (λj=>[sl 3 1 A' f.length cap' (((cs.take j).foldl ZT f).flatMap numF),many H]) (λj=>j<=cs.length) (λj=>cs.length-j) 0 (Td _) ?_ (λw hw=>hw) ?_
 ·exact zc1
 rintro j hj K hK
 by_cases hlt2:j<cs.length
 rotate_left
 ·obtain rfl:j=cs.length:=by omega
  rw[TI]
  clear hK
  have hml:(cs.foldl ZT f).length=f.length:=Jx _ _
  refine zX0 ?_<;>intros
  apply Yf (nrs A' cap' (cs.foldl ZT f)::H)
  ·intro w hw
   have h5:St B w0 (sl 3 1 A' f.length cap' ((cs.foldl ZT f).flatMap numF)::[many H]) w:=by
    revert w
    exact zc0
   unfold nrs
   rw[hml]
   exact zc69
  exact zc84
 obtain⟨c,hc0⟩:∃c,cs[j]? =some c:=⟨_,Ta hlt2⟩
 obtain⟨m,hm⟩:∃m,(cs.take j).foldl ZT f=m:=⟨_,rfl⟩
 have hmn:m.length=f.length:=by grind [Jx]
 have hnext:(cs.take (j+1)).foldl ZT f=ZT m c:=zc76
 rw[hm]
 obtain⟨hc1,hc2⟩:=hc c (Tc hc0)
 obtain⟨v,hv⟩:∃v,m[c.1.toNat]? =some v:=⟨_,Ta (by omega)⟩
 have hmc:ZT m c=m.set c.1.toNat (bits .andNot .i64 v (IntKind.i64.wrap (1*2^c.2.1.toNat))):=by
  unfold ZT;rw[Tz,hv];rfl
 rw[<-hmn]
 have hrc:=hr2.cons (X:=sl 3 1 A' m.length cap' (m.flatMap numF))
 refine zX1 ?_<;>intros
 apply YV [0,1,2,3,4,5,6,7,8,9,10,11,12,13,14,15,16,17,18,19,20,21] [22]
 kernel_rfl
 kernel_rfl
 (simp only[Yc,nthO];rfl)
 (simp only[Yc,nthO];rfl)
 refine YtD ?_
 rw[<-hmc,<-hnext]
 apply hK (j+1)
 ·exact Yjy
 ·omega
 ·rw[<-hmn]
  exact zc1
 ·rw[<-hmn]
  exact zc0
theorem YgH(s:SchM)(hr:Rd B w0 H s.A (s.cells.flatMap celF))(hl:s.cells.length<=1000000000000)(hw:St B w0 H w):
 CX B w0 95 [s.val] w λv K=>∃A cap,v=.tuple #[.slice A (XP s.sch).1.length cap,.int .i64 (XP s.sch).2]/\K=nrs A cap (XP s.sch).1::H:=by
 refine Ya Tryz.func95 Tryz.ntmps95 rfl rfl hw ?_
 have hop:∀w,St B w0 [many H] w->St B w0 H w:=λw hw=>hw.perm (.openT H)
 have hr:=hr.mono hop
 have p1:=λ{H':List HP}{w:World}(hr:Rd B w0 H' s.A (s.cells.flatMap celF)) (hw:St B w0 H' w)=>VB s hr hl hw
 unfold SchM.val at p1⊢
 refine Y6 [many H] (λw hw=>hw.perm (.closeT H)) ?_
 refine zX73 ?_<;>intros
 apply Yb YcY
 exact za
 exact rfl
 exactλ_ hw=>(p1 (hr.mono zc0) hw)
 cases hf:Xd s.sch with
 |false=>
  rw[show XP s.sch=([],1) by simp_all [XP]]
  refine zX3 ?_
  apply Yf (nrs none 0 []::H)
  ·intro w hw
   have h5:St B w0 [many H] w:=by
    revert w
    exact zc0
   exact(hop w h5).nilSlice _ _
  apply YH;(iterate 3 exact rfl);grind
 |true=>
  rw[show XP s.sch=(JP s.sch,0) by simp_all [XP]]
  have hfr:=XF.1 hf
  have hsz:1<=s.len/\s.len<=512/\1<=s.off/\s.off<=16:=TT hfr.sized
  have hcl:s.cells.length<=512:=hfr.few
  have hcs:∀c∈s.cells,(0<=c.1/\c.1<(List.replicate s.len.toNat (pow1 s.off-1)).length)/\(0<=c.2.1/\c.2.1<16):=λc hc=>by
   have hform:=hfr.formed c hc
   unfold XJ XK insE at hform
   simp only[Tq,Tm]at hform
   have h1:=hform.1.1.1.1
   have h2:=hform.1.1.1.2
   have e1:s.sch.len=s.len:=rfl
   have e2:s.sch.off=s.off:=rfl
   grind
  have p2:=λ{H':List HP}{w:World}(hw:St B w0 H' w)=>YiN s.len s.off (by omega) hw
  have hfl:(List.replicate s.len.toNat (pow1 s.off-1)).length<=512:=by simp_all
  have hms:JP s.sch=s.cells.foldl ZT (List.replicate s.len.toNat (pow1 s.off-1)):=rfl
  rw[hms]
  generalize List.replicate s.len.toNat (pow1 s.off-1)=f at p2 hcs hfl⊢
  have p3:=λ{A2:Option Addr}{cap2:Nat}{H':List HP}{w:World}(h1:Rd B w0 H' A2 (f.flatMap numF)) (hr:Rd B w0 H' s.A (s.cells.flatMap celF)) (hw:St B w0 H' w)=>YbU f s.cells hfl hcl hcs (cap:=cap2) (cap2:=s.cap) h1 hr hw
  refine zX10 ?_
  apply YA [0,1,2,3,5,6,4,7,8,9] [] [true,true]
  kernel_rfl
  kernel_rfl
  exact zy
  (simp only[Yc,nthO];rfl)
  exact rfl
  refine zX3 ?_
  apply Yg _ Yv8
  exact za
  exact rfl
  exactλ_ hw=>(p2 (hw))
  rintro _ _ ⟨A1,c1,rfl,rfl⟩
  refine zX16 ?_
  apply Yg _ Yv7
  exact za
  exact rfl
  exactλ_ hw=>(p3 (Rd.sl (by(focus exact zc2))) (hr.mono zc0) (hw))
  rintro _ _ ⟨A2,c2,rfl,rfl⟩
  refine zX16 ?_
  apply Yf (nrs A2 c2 (s.cells.foldl ZT f)::H)
  ·intro w hw
   have h5:St B w0 (nrs A2 c2 (s.cells.foldl ZT f)::[many H]) w:=by
    revert w
    exact zc0
   exact zc69
  apply YH;(iterate 3 exact rfl);grind
end Go.Proofs.YtjommdkgfbhbdaaGreatDoor
