/- Lemmas. -/
import Derived.Test.YtjlgijpmnfabcaaGreatDoorQ15
set_option maxRecDepth 100000
set_option maxHeartbeats 8000000
set_option linter.all false
namespace Go.Proofs.YtjlgijpmnfabcaaGreatDoor
open Go.RowKit Go.Eng Go.Nw Go.Rt
variable {A A2:Option Addr}{cap cap2 B:Nat}{w0 w:World}{H:List HP}
theorem Yd5(l m:List Int)(hlen:l.length<=1000000000000)(hr:Rd B w0 H A (l.flatMap numF))(hr2:Rd B w0 H A2 (m.flatMap numF))(hw:St B w0 H w):
 CX B w0 129 [.slice A l.length cap,.slice A2 m.length cap2] w λu K=>u=.bool (decide (l=m))/\K=H:=by
 refine Yc Tryz.func129 Tryz.ntmps129 rfl rfl hw ?_
 by_cases hll:l.length=m.length
 rotate_left
 ·repeat'(first|refine zgb ?_|(refine zge ?_ ?_<;>intro _<;>try exact zo)|fail)
  apply Yd;exact rfl;exact rfl
  exact⟨by rw[Tj λe=>hll (by rw[e])],rfl⟩
 repeat'(first|refine zgb ?_|(refine zge ?_ ?_<;>intro _<;>try exact zo)|fail)
 refine Yf (λ(k:Nat)=>[(5,.int .i64 k),(0,.slice A l.length cap),(1,.slice A2 m.length cap2)]) (λ_=>H) (λk=>k<=l.length/\l.take k=m.take k) (λk=>l.length-k) 0 ⟨Tc _,by simp⟩ ?_ (λw hw=>hw) ?_
 ·exact zu
 rintro k ⟨hk,hi⟩ K hK
 by_cases hlt:k<l.length
 ·obtain⟨a,ha⟩:∃a,l[k]? =some a:=⟨_,Ta hlt⟩
  obtain⟨b,hb⟩:∃b,m[k]? =some b:=⟨_,Ta (by omega)⟩
  repeat'(first|refine zgd ?_|(refine zge ?_ ?_<;>intro _<;>try exact zo)|fail)
  ·rename_i h
   apply Yd;exact rfl;exact rfl
   exact⟨by rw[Tj λe=>by rw[e,hb]at ha;exact h (Tz ha).symm],rfl⟩
  ·rename_i h
   apply hK (k+1)
   ·exact⟨by omega,by rw[TB,TB,ha,hb,hi,h]⟩
   ·omega
   ·exact zu
   ·exactλw hw=>hw
 ·repeat'(first|refine zgc ?_|(refine zge ?_ ?_<;>intro _<;>try exact zo)|fail)
  apply Yd;exact rfl;exact rfl
  rw[TE (by omega),TE (by omega)]at hi
  exact⟨by rw[Ti hi],rfl⟩
structure FrM where
 i:Nat
 A:Option Addr
 cap:Nat
theorem Yih(len off:Int)(h:(1<=len/\len<=512)/\(1<=off/\off<=16))(hw:St B w0 H w):
 CX B w0 231 [.int .i64 len,.int .i64 off] w λv K=>∃A cap,v=.slice A (List.replicate len.toNat (pow1 off-1)).length cap/\K=nrs A cap (List.replicate len.toNat (pow1 off-1))::H:=by
 refine Yc Tryz.func231 Tryz.ntmps231 rfl rfl hw ?_
 have hp:=Ylq (o:=off) ⟨by omega,h.2.2⟩
 have hp2:1<=IntKind.i64.wrap (1*2^off.toNat)/\IntKind.i64.wrap (1*2^off.toNat)<=65536:=hp
 obtain⟨n,rfl⟩:∃n:Nat,len=n:=⟨len.toNat,by omega⟩
 rw[RD,show pow1 off-1=IntKind.i64.wrap (1*2^off.toNat)-1 from rfl]
 have hrl:∀i:Nat,(List.replicate i (IntKind.i64.wrap (1*2^off.toNat)-1)).length=i:=λi=>TN ..
 repeat'(first|(apply Yr T;exact rfl;exact rfl;intro g2)|refine zgb ?_|fail)
 rename Nat=>g2
 refine Yf (λz:FrM=>[(6,.int .i64 (z.i:Nat)),(0,.int .i64 (n:Nat)),(1,.int .i64 off),(5,.slice z.A (List.replicate z.i (IntKind.i64.wrap (1*2^off.toNat)-1)).length z.cap)]) (λz=>nrs z.A z.cap (List.replicate z.i (IntKind.i64.wrap (1*2^off.toNat)-1))::H) (λz=>z.i<=n) (λz=>n-z.i) ⟨0,some ⟨g2,0,none⟩,0⟩ (Tc _) ?_ (λw hw=>hw) ?_
 ·exact zu
 rintro⟨i,A1,c1⟩ hi K hK
 dsimp only at hi⊢
 have hil:=hrl i
 by_cases hlt:i<n
 ·have hst:List.replicate (i+1) (IntKind.i64.wrap (1*2^off.toNat)-1)=List.replicate i (IntKind.i64.wrap (1*2^off.toNat)-1)++[IntKind.i64.wrap (1*2^off.toNat)-1]:=List.replicate_succ'
  generalize List.replicate i (IntKind.i64.wrap (1*2^off.toNat)-1)=L at hst hil⊢
  unfold nrs
  repeat'(first|refine zgd ?_|(refine zge ?_ ?_<;>intro _<;>try exact zo)|(refine zgh ?_;intro _)|(refine zgi ?_;intro _ _)|fail)
  rename_i A' cap'
  rw[J0,<-hst,show L.length+1=(List.replicate (i+1) (IntKind.i64.wrap (1*2^off.toNat)-1)).length by rw[hst];simp]
  apply hK ⟨i+1,A',cap'⟩
  ·show i+1<=n;omega
  ·dsimp only;omega
  ·exact zu
  ·exact zk
 obtain rfl:i=n:=by omega
 repeat'(first|refine zgc ?_|(refine zge ?_ ?_<;>intro _<;>try exact zo)|fail)
 apply Yd;exact rfl;exact rfl
 exact⟨A1,c1,rfl,rfl⟩
theorem Ybo(f:List Int)(cs:List Cel)(hf:f.length<=512)(hcl:cs.length<=512)(hc:∀c∈cs,(0<=c.1/\c.1<f.length)/\(0<=c.2.1/\c.2.1<16))(hr:Rd B w0 H A (f.flatMap numF))(hr2:Rd B w0 H A2 (cs.flatMap celF))(hw:St B w0 H w):
 CX B w0 230 [.slice A f.length cap,.slice A2 cs.length cap2] w λv K=>∃A' cap',v=.slice A' (cs.foldl ZD f).length cap'/\K=nrs A' cap' (cs.foldl ZD f)::H:=by
 refine Yc Tryz.func230 Tryz.ntmps230 rfl rfl hw ?_
 have hop:∀w,St B w0 [many H] w->St B w0 H w:=λw hw=>hw.perm (.openT H)
 have hr:=hr.mono hop
 have hr2:=hr2.mono hop
 refine YW [many H] (λw hw=>hw.perm (.closeT H)) ?_
 repeat'(first|(apply Yr T;exact rfl;exact rfl;intro g2)|refine zga ?_|fail)
 apply YU T (f:=numF) (l2:=f) (e:=3) (size:=1) (xs:=[]);(iterate 3 exact rfl);exact hr.cons;exact(λ_=>rfl);exact(λ_=>rfl);exact rfl;(intro _ _;exact zd);omega;intro A' cap'
 repeat'(first|refine zgb ?_|fail)
 rw[Ry,TG]
 refine Yf (λj:Nat=>[(6,.int .i64 (j:Nat)),(1,.slice A2 cs.length cap2),(5,.slice A' f.length cap')]) (λj=>[sl 3 1 A' f.length cap' (((cs.take j).foldl ZD f).flatMap numF),many H]) (λj=>j<=cs.length) (λj=>cs.length-j) 0 (Tc _) ?_ (λw hw=>hw) ?_
 ·exact zu
 rintro j hj K hK
 by_cases hlt2:j<cs.length
 rotate_left
 ·obtain rfl:j=cs.length:=by omega
  rw[TC]
  clear hK
  have hml:(cs.foldl ZD f).length=f.length:=Zp _ _
  repeat'(first|refine zgc ?_|(refine zge ?_ ?_<;>intro _<;>try exact zo)|fail)
  apply Yg (nrs A' cap' (cs.foldl ZD f)::H)
  ·intro w hw
   have h5:St B w0 (sl 3 1 A' f.length cap' ((cs.foldl ZD f).flatMap numF)::[many H]) w:=by
    revert w
    exact zk
   unfold nrs
   rw[hml]
   exact h5.perm (.cons _ (.openT H))
  apply Yd;exact rfl;exact rfl
  exact⟨A',cap',by rw[hml],rfl⟩
 obtain⟨c,hc0⟩:∃c,cs[j]? =some c:=⟨_,Ta hlt2⟩
 obtain⟨m,hm⟩:∃m,(cs.take j).foldl ZD f=m:=⟨_,rfl⟩
 have hmn:m.length=f.length:=by rw[<-hm,Zp]
 have hnext:(cs.take (j+1)).foldl ZD f=ZD m c:=by
  rw[TB,hc0,List.foldl_append,hm];rfl
 rw[hm]
 obtain⟨hc1,hc2⟩:=hc c (Td hc0)
 obtain⟨v,hv⟩:∃v,m[c.1.toNat]? =some v:=⟨_,Ta (by omega)⟩
 have hmc:ZD m c=m.set c.1.toNat (bits .andNot .i64 v (IntKind.i64.wrap (1*2^c.2.1.toNat))):=by
  unfold ZD;rw[TA,hv];rfl
 rw[<-hmn]
 have hrc:=hr2.cons (X:=sl 3 1 A' m.length cap' (m.flatMap numF))
 repeat'(first|refine zgb ?_|(refine zge ?_ ?_<;>intro _<;>try exact zo)|fail)
 apply Y7 [0,1,2,3,4,5,6,7,8,9,10,11,12,13,14,15,16,17,18,19,20,21] [22]
 kernel_rfl
 kernel_rfl
 (simp only[Yh,nthO];rfl)
 (simp only[Yh,nthO];rfl)
 repeat'(first|(apply Xt T (f:=numF) (l:=m) (i:=c.1.toNat) (a:=bits .andNot .i64 v (IntKind.i64.wrap (1*2^c.2.1.toNat)));(iterate 3 exact rfl);exact zd;exact rfl;exactλ_=>rfl;exact rfl;omega)|(apply Yef;(iterate 3 exact rfl))|refine zgd ?_|fail)
 rw[<-hmc,<-hnext]
 apply hK (j+1)
 ·show j+1<=_;omega
 ·omega
 ·rw[<-hmn]
  exact zu
 ·rw[<-hmn]
  exact zk
theorem QQ(s:SchM)(hr:Rd B w0 H s.A (s.cells.flatMap celF))(hl:s.cells.length<=1000000000000)(hw:St B w0 H w):
 CX B w0 135 [s.val] w λv K=>∃A cap,v=.tuple #[.slice A (Xg s.sch).1.length cap,.int .i64 (Xg s.sch).2]/\K=nrs A cap (Xg s.sch).1::H:=by
 refine Yc Tryz.func135 Tryz.ntmps135 rfl rfl hw ?_
 have hop:∀w,St B w0 [many H] w->St B w0 H w:=λw hw=>hw.perm (.openT H)
 have hr:=hr.mono hop
 have p1:=λ{H':List HP}{w:World}(hr:Rd B w0 H' s.A (s.cells.flatMap celF)) (hw:St B w0 H' w)=>QS s hr hl hw
 unfold SchM.val at p1⊢
 refine YW [many H] (λw hw=>hw.perm (.closeT H)) ?_
 repeat'(first|refine zgb ?_|(refine zgh ?_;intro _)|fail)
 first|apply Ya OE|apply Yb OE
 exact za
 exact rfl
 exactλ_ hw=>(p1 (hr.mono zk) hw)
 cases hf:Xw s.sch with
 |false=>
  rw[show Xg s.sch=([],1) by unfold Xg;rw[hf,Tm rfl]]
  repeat'(first|refine zgd ?_|fail)
  apply Yg (nrs none 0 []::H)
  ·intro w hw
   have h5:St B w0 [many H] w:=by
    revert w
    exact zk
   exact(hop w h5).nilSlice _ _
  apply Yo;(iterate 3 exact rfl);exact⟨none,0,rfl,rfl⟩
 |true=>
  rw[show Xg s.sch=(XY s.sch,0) by unfold Xg;rw[hf,Tf (by decide)]]
  have hfr:=Za.1 hf
  have hsz:1<=s.len/\s.len<=512/\1<=s.off/\s.off<=16:=TR hfr.sized
  have hcl:s.cells.length<=512:=hfr.few
  have hcs:∀c∈s.cells,(0<=c.1/\c.1<(List.replicate s.len.toNat (pow1 s.off-1)).length)/\(0<=c.2.1/\c.2.1<16):=λc hc=>by
   have hform:=hfr.formed c hc
   unfold XC XE insE at hform
   simp only[Tt,To]at hform
   have h1:=hform.1.1.1.1
   have h2:=hform.1.1.1.2
   have e1:s.sch.len=s.len:=rfl
   have e2:s.sch.off=s.off:=rfl
   rw[TN]
   omega
  have p2:=λ{H':List HP}{w:World}(hw:St B w0 H' w)=>Yih s.len s.off (by omega) hw
  have hfl:(List.replicate s.len.toNat (pow1 s.off-1)).length<=512:=by rw[TN];omega
  have hms:XY s.sch=s.cells.foldl ZD (List.replicate s.len.toNat (pow1 s.off-1)):=rfl
  rw[hms]
  generalize List.replicate s.len.toNat (pow1 s.off-1)=f at p2 hcs hfl⊢
  have p3:=λ{A2:Option Addr}{cap2:Nat}{H':List HP}{w:World}(h1:Rd B w0 H' A2 (f.flatMap numF)) (hr:Rd B w0 H' s.A (s.cells.flatMap celF)) (hw:St B w0 H' w)=>Ybo f s.cells hfl hcl hcs (cap:=cap2) (cap2:=s.cap) h1 hr hw
  repeat'(first|refine zgd ?_|fail)
  apply YG [0,1,2,3,5,6,4,7,8,9] [] [true,true]
  kernel_rfl
  kernel_rfl
  exact zy
  (simp only[Yh,nthO];rfl)
  exact rfl
  repeat'(first|refine zgd ?_|fail)
  apply Yi _ Yu4
  exact za
  exact rfl
  exactλ_ hw=>(p2 (hw))
  rintro _ _ ⟨A1,c1,rfl,rfl⟩
  repeat'(first|(apply Yj;try exact zl)|refine zgd ?_|fail)
  apply Yi _ Yu3
  exact za
  exact rfl
  exactλ_ hw=>(p3 (Rd.sl zm) (hr.mono zk) (hw))
  rintro _ _ ⟨A2,c2,rfl,rfl⟩
  repeat'(first|(apply Yj;try exact zl)|refine zgd ?_|fail)
  apply Yg (nrs A2 c2 (s.cells.foldl ZD f)::H)
  ·intro w hw
   have h5:St B w0 (nrs A2 c2 (s.cells.foldl ZD f)::[many H]) w:=by
    revert w
    exact zk
   exact h5.perm (.cons _ (.openT H))
  apply Yo;(iterate 3 exact rfl);exact⟨A2,c2,rfl,rfl⟩
end Go.Proofs.YtjlgijpmnfabcaaGreatDoor
