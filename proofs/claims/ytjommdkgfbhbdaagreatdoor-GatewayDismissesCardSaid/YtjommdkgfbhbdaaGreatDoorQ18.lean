/- Lemmas. -/
import Derived.Test.YtjommdkgfbhbdaaGreatDoorQ15
set_option maxRecDepth 100000
set_option maxHeartbeats 8000000
set_option linter.all false
namespace Go.Proofs.YtjommdkgfbhbdaaGreatDoor
open Go.RowKit Go.Eng Go.Nw Go.Rt
variable {A A2:Option Addr}{cap cap2 B:Nat}{w0 w:World}{H:List HP}
theorem Yem(l m:List Int)(hlen:l.length<=1000000000000)(hr:Rd B w0 H A (l.flatMap numF))(hr2:Rd B w0 H A2 (m.flatMap numF))(hw:St B w0 H w):
 CX B w0 59 [.slice A l.length cap,.slice A2 m.length cap2] w λu K=>u=.bool (decide (l=m))/\K=H:=by
 refine Ya Tryz.func59 Tryz.ntmps59 rfl rfl hw ?_
 by_cases hll:l.length=m.length
 rotate_left
 ·exact zc6
 refine zX0 ?_<;>intros
 refine Ye (λ(k:Nat)=>[(5,.int .i64 k),(0,.slice A l.length cap),(1,.slice A2 m.length cap2)]) (λ_=>H) (λk=>k<=l.length/\l.take k=m.take k) (λk=>l.length-k) 0 ⟨Td _,by simp⟩ ?_ (λw hw=>hw) ?_
 ·exact zc1
 rintro k ⟨hk,hi⟩ K hK
 by_cases hlt:k<l.length
 ·obtain⟨a,ha⟩:∃a,l[k]? =some a:=⟨_,Ta hlt⟩
  obtain⟨b,hb⟩:∃b,m[k]? =some b:=⟨_,Ta (by omega)⟩
  repeat'(first|refine zgd ?_|(refine zge ?_ ?_<;>intro _<;>try exact zo)|fail)
  ·exact zc39
  ·rename_i h
   apply hK (k+1)
   ·exact⟨by omega,by exact zc78⟩
   ·omega
   ·exact zc1
   exact zc18
 ·refine zX1 ?_<;>intros
  exact zc38
structure FrM where
 i:Nat
 A:Option Addr
 cap:Nat
theorem YiF(len off:Int)(h:(1<=len/\len<=512)/\(1<=off/\off<=16))(hw:St B w0 H w):
 CX B w0 190 [.int .i64 len,.int .i64 off] w λv K=>∃A cap,v=.slice A (List.replicate len.toNat (pow1 off-1)).length cap/\K=nrs A cap (List.replicate len.toNat (pow1 off-1))::H:=by
 refine Ya Tryz.func190 Tryz.ntmps190 rfl rfl hw ?_
 have hp:=YlJ (o:=off) ⟨by omega,h.2.2⟩
 have hp2:1<=IntKind.i64.wrap (1*2^off.toNat)/\IntKind.i64.wrap (1*2^off.toNat)<=65536:=hp
 obtain⟨n,rfl⟩:∃n:Nat,len=n:=⟨len.toNat,by omega⟩
 rw[Rm,show pow1 off-1=IntKind.i64.wrap (1*2^off.toNat)-1 from rfl]
 have hrl:∀i:Nat,(List.replicate i (IntKind.i64.wrap (1*2^off.toNat)-1)).length=i:=λi=>TR ..
 repeat'(first|(apply Yw T;exact rfl;exact rfl;intro g2)|refine zgb ?_|fail)
 rename Nat=>g2
 refine Ye (λz:FrM=>[(6,.int .i64 (z.i:Nat)),(0,.int .i64 (n:Nat)),(1,.int .i64 off),(5,.slice z.A (List.replicate z.i (IntKind.i64.wrap (1*2^off.toNat)-1)).length z.cap)]) (λz=>nrs z.A z.cap (List.replicate z.i (IntKind.i64.wrap (1*2^off.toNat)-1))::H) (λz=>z.i<=n) (λz=>n-z.i) ⟨0,some ⟨g2,0,none⟩,0⟩ (Td _) ?_ (λw hw=>hw) ?_
 ·exact zc1
 rintro⟨i,A1,c1⟩ hi K hK
 dsimp only at hi⊢
 have hil:=hrl i
 by_cases hlt:i<n
 ·have hst:List.replicate (i+1) (IntKind.i64.wrap (1*2^off.toNat)-1)=List.replicate i (IntKind.i64.wrap (1*2^off.toNat)-1)++[IntKind.i64.wrap (1*2^off.toNat)-1]:=List.replicate_succ'
  generalize List.replicate i (IntKind.i64.wrap (1*2^off.toNat)-1)=L at hst hil⊢
  unfold nrs
  refine Yft ?_<;>intros
  rename_i A' cap'
  rw[JW,<-hst,show L.length+1=(List.replicate (i+1) (IntKind.i64.wrap (1*2^off.toNat)-1)).length by simp_all]
  apply hK ⟨i+1,A',cap'⟩
  ·grind
  ·grind
  ·exact zc1
  ·exact zc0
 obtain rfl:i=n:=by omega
 refine zX1 ?_<;>intros
 exact zc38
theorem Ybp(f:List Int)(cs:List Cel)(hf:f.length<=512)(hcl:cs.length<=512)(hc:∀c∈cs,(0<=c.1/\c.1<f.length)/\(0<=c.2.1/\c.2.1<16))(hr:Rd B w0 H A (f.flatMap numF))(hr2:Rd B w0 H A2 (cs.flatMap celF))(hw:St B w0 H w):
 CX B w0 189 [.slice A f.length cap,.slice A2 cs.length cap2] w λv K=>∃A' cap',v=.slice A' (cs.foldl Zj f).length cap'/\K=nrs A' cap' (cs.foldl Zj f)::H:=by
 refine Ya Tryz.func189 Tryz.ntmps189 rfl rfl hw ?_
 have hop:∀w,St B w0 [many H] w->St B w0 H w:=λw hw=>hw.perm (.openT H)
 have hr:=hr.mono hop
 have hr2:=hr2.mono hop
 refine YX [many H] (λw hw=>hw.perm (.closeT H)) ?_
 repeat'(first|(apply Yw T;exact rfl;exact rfl;intro g2)|refine zga ?_|fail)
 apply YI T (f:=numF) (l2:=f) (e:=3) (size:=1) (xs:=[]);(iterate 3 exact rfl);exact hr.cons;exact(λ_=>rfl);exact(λ_=>rfl);exact rfl;(intro _ _;exact zd);omega;intro A' cap'
 refine zX9 ?_
 rw[Rl,TF]
 refine Ye (λj:Nat=>[(6,.int .i64 (j:Nat)),(1,.slice A2 cs.length cap2),(5,.slice A' f.length cap')]) (λj=>[sl 3 1 A' f.length cap' (((cs.take j).foldl Zj f).flatMap numF),many H]) (λj=>j<=cs.length) (λj=>cs.length-j) 0 (Td _) ?_ (λw hw=>hw) ?_
 ·exact zc1
 rintro j hj K hK
 by_cases hlt2:j<cs.length
 rotate_left
 ·obtain rfl:j=cs.length:=by omega
  rw[TC]
  clear hK
  have hml:(cs.foldl Zj f).length=f.length:=Zd _ _
  refine zX1 ?_<;>intros
  apply Yf (nrs A' cap' (cs.foldl Zj f)::H)
  ·intro w hw
   have h5:St B w0 (sl 3 1 A' f.length cap' ((cs.foldl Zj f).flatMap numF)::[many H]) w:=by
    revert w
    exact zc0
   unfold nrs
   rw[hml]
   exact zc43
  exact zc38
 obtain⟨c,hc0⟩:∃c,cs[j]? =some c:=⟨_,Ta hlt2⟩
 obtain⟨m,hm⟩:∃m,(cs.take j).foldl Zj f=m:=⟨_,rfl⟩
 have hmn:m.length=f.length:=by grind [Zd]
 have hnext:(cs.take (j+1)).foldl Zj f=Zj m c:=zc78
 rw[hm]
 obtain⟨hc1,hc2⟩:=hc c (Tc hc0)
 obtain⟨v,hv⟩:∃v,m[c.1.toNat]? =some v:=⟨_,Ta (by omega)⟩
 have hmc:Zj m c=m.set c.1.toNat (bits .andNot .i64 v (IntKind.i64.wrap (1*2^c.2.1.toNat))):=by
  unfold Zj;rw[TB,hv];rfl
 rw[<-hmn]
 have hrc:=hr2.cons (X:=sl 3 1 A' m.length cap' (m.flatMap numF))
 refine zX0 ?_<;>intros
 apply Y8 [0,1,2,3,4,5,6,7,8,9,10,11,12,13,14,15,16,17,18,19,20,21] [22]
 kernel_rfl
 kernel_rfl
 (simp only[Yd,nthO];rfl)
 (simp only[Yd,nthO];rfl)
 refine YtJ ?_
 rw[<-hmc,<-hnext]
 apply hK (j+1)
 ·exact Yjm
 ·omega
 ·rw[<-hmn]
  exact zc1
 ·rw[<-hmn]
  exact zc0
theorem QI(s:SchM)(hr:Rd B w0 H s.A (s.cells.flatMap celF))(hl:s.cells.length<=1000000000000)(hw:St B w0 H w):
 CX B w0 95 [s.val] w λv K=>∃A cap,v=.tuple #[.slice A (Y9 s.sch).1.length cap,.int .i64 (Y9 s.sch).2]/\K=nrs A cap (Y9 s.sch).1::H:=by
 refine Ya Tryz.func95 Tryz.ntmps95 rfl rfl hw ?_
 have hop:∀w,St B w0 [many H] w->St B w0 H w:=λw hw=>hw.perm (.openT H)
 have hr:=hr.mono hop
 have p1:=λ{H':List HP}{w:World}(hr:Rd B w0 H' s.A (s.cells.flatMap celF)) (hw:St B w0 H' w)=>U7 s hr hl hw
 unfold SchM.val at p1⊢
 refine YX [many H] (λw hw=>hw.perm (.closeT H)) ?_
 refine zX72 ?_<;>intros
 apply Yb YeG
 exact za
 exact rfl
 exactλ_ hw=>(p1 (hr.mono zc0) hw)
 cases hf:Xh s.sch with
 |false=>
  rw[show Y9 s.sch=([],1) by simp_all [Y9]]
  refine zX3 ?_
  apply Yf (nrs none 0 []::H)
  ·intro w hw
   have h5:St B w0 [many H] w:=by
    revert w
    exact zc0
   exact(hop w h5).nilSlice _ _
  apply YJ;(iterate 3 exact rfl);grind
 |true=>
  rw[show Y9 s.sch=(XT s.sch,0) by simp_all [Y9]]
  have hfr:=Xm.1 hf
  have hsz:1<=s.len/\s.len<=512/\1<=s.off/\s.off<=16:=TI hfr.sized
  have hcl:s.cells.length<=512:=hfr.few
  have hcs:∀c∈s.cells,(0<=c.1/\c.1<(List.replicate s.len.toNat (pow1 s.off-1)).length)/\(0<=c.2.1/\c.2.1<16):=λc hc=>by
   have hform:=hfr.formed c hc
   unfold XA XB insE at hform
   simp only[Tq,Tm]at hform
   have h1:=hform.1.1.1.1
   have h2:=hform.1.1.1.2
   have e1:s.sch.len=s.len:=rfl
   have e2:s.sch.off=s.off:=rfl
   grind
  have p2:=λ{H':List HP}{w:World}(hw:St B w0 H' w)=>YiF s.len s.off (by omega) hw
  have hfl:(List.replicate s.len.toNat (pow1 s.off-1)).length<=512:=by simp_all
  have hms:XT s.sch=s.cells.foldl Zj (List.replicate s.len.toNat (pow1 s.off-1)):=rfl
  rw[hms]
  generalize List.replicate s.len.toNat (pow1 s.off-1)=f at p2 hcs hfl⊢
  have p3:=λ{A2:Option Addr}{cap2:Nat}{H':List HP}{w:World}(h1:Rd B w0 H' A2 (f.flatMap numF)) (hr:Rd B w0 H' s.A (s.cells.flatMap celF)) (hw:St B w0 H' w)=>Ybp f s.cells hfl hcl hcs (cap:=cap2) (cap2:=s.cap) h1 hr hw
  refine zX3 ?_
  apply YC [0,1,2,3,5,6,4,7,8,9] [] [true,true]
  kernel_rfl
  kernel_rfl
  exact zy
  (simp only[Yd,nthO];rfl)
  exact rfl
  refine zX3 ?_
  apply Yg _ Ywy
  exact za
  exact rfl
  exactλ_ hw=>(p2 (hw))
  rintro _ _ ⟨A1,c1,rfl,rfl⟩
  refine zX17 ?_
  apply Yg _ Ywx
  exact za
  exact rfl
  exactλ_ hw=>(p3 (Rd.sl (by(focus exact zc2))) (hr.mono zc0) (hw))
  rintro _ _ ⟨A2,c2,rfl,rfl⟩
  refine zX17 ?_
  apply Yf (nrs A2 c2 (s.cells.foldl Zj f)::H)
  ·intro w hw
   have h5:St B w0 (nrs A2 c2 (s.cells.foldl Zj f)::[many H]) w:=by
    revert w
    exact zc0
   exact zc43
  apply YJ;(iterate 3 exact rfl);grind
end Go.Proofs.YtjommdkgfbhbdaaGreatDoor
