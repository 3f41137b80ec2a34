/- Lemmas. -/
import Derived.Test.YtjlgijpmnfabcaaGreatDoorQ12
import Derived.Test.YtjlgijpmnfabcaaGreatDoorQ13
set_option maxRecDepth 100000
set_option maxHeartbeats 8000000
set_option linter.all false
namespace Go.Proofs.YtjlgijpmnfabcaaGreatDoor
open Go.RowKit Go.Eng Go.Nw
variable {B cap:Nat}{w0 w:World}{H:List HP}
theorem NetM.In.inM{K:List HP}{n:NetM}(h:n.In B w0 H)(hm:Eng.many H∈K):n.In B w0 K:=
 ⟨h.pw.inM hm,λr hr=>(h.rw_ r hr).inM hm,h.lk.inM hm,h.mg.inM hm,h.s1,h.s2,h.s3,h.s4⟩
theorem Ygv(a b:Cel)(hw:St B w0 H w):
 CX B w0 460 [celV a,celV b] w λv K=>v=.bool (YC a b)/\K=H:=by
 refine Ya Tryz.func460 Tryz.ntmps460 rfl rfl hw ?_
 have htc:YC a b=true↔(a.2.2.1=b.2.2.1\/a.2.2.1=b.2.2.2.1\/a.2.2.2.1=b.2.2.1\/a.2.2.2.1=b.2.2.2.1):=by unfold YC YB toC;simp_all
 obtain⟨z,hz⟩:∃z,YC a b=z:=⟨_,rfl⟩
 rw[hz]at htc⊢
 repeat'(first|apply(zs1 ?_)|apply(zs2 ?_)|(apply zg1;first|refine zs3 ?_|refine zs4 ?_)|(apply zg2;refine zs6 ?_)|(apply zg3;refine zs7 ?_)|(apply zg6;first|refine zs11 ?_|refine zs12 ?_)|(apply zg7;(refine zs15 ?_ ?_<;>intro _<;>try exact zo))|(apply zg23;(refine zs52 ?_;intro _))|apply(zs65 ?_)|apply(zs68 ?_)|apply(zs69 ?_)|apply(zs70 ?_)|apply(zs74 ?_)|fail)
 all_goals(
  apply Yh H
  ·exact zk
  apply Ye;exact rfl;exact rfl
  cases z<;>simp at htc<;>first|exact⟨rfl,rfl⟩|(exfalso;omega))
def V3(_:Net)(l:List Cel)(i:Nat)(c:Cel)(k:Nat):Bool:=(List.range k).any λj=>decide (j≠i)&&YC c (celL l j)
theorem Ya0(n:NetM)(l:List Cel)(i:Nat)(gn gl gi:Nat)(A:Option Addr)(cap:Nat)(lk node:Int)(hok:Ok n.net)(hnode:0<=node/\node<n.nodes)(hlk:0<=lk/\lk.toNat<n.net.links.length)(hlen:l.length<=1000)(hin:n.In B w0 H)(hr:Rd B w0 H A (l.flatMap celF))
 (h1:netN gn n∈H) (h2:blk gl (.cells #[.slice A l.length cap] 28 (0,0))∈H) (h3:blk gi (.cells #[.int .i64 i] 3 (0,0))∈H) (hw:St B w0 H w):
 CX B w0 461 [.int .i64 lk,.int .i64 node,.pointer (some ⟨gn,0,none⟩),.pointer (some ⟨gl,0,none⟩),.pointer (some ⟨gi,0,none⟩)] w λv K=>v=.bool (X7 n.net (mar n.net lk.toNat) (Yz n.net l i node l.length))/\K=H:=by
 refine Ya Tryz.func461 Tryz.ntmps461 rfl rfl hw ?_
 have hmg:=hin.mg
 have hs4:=hin.s4
 have hml:n.margin.length=n.net.links.length:=hok.k1
 have hm1:n.margin[lk.toNat]? =some (mar n.net lk.toNat):=zc45
 have p1:=λ{w:World}(hw:St B w0 H w)=>Yco n l i node hok hnode hlen (cap:=cap) hin hr hw
 obtain⟨d,hd⟩:∃d,Yz n.net l i node l.length=d:=⟨_,rfl⟩
 rw[hd]at p1⊢
 have p2:=λ{w:World}(hw:St B w0 H w)=>O0 n (mar n.net lk.toNat) d hin hw
 unfold netN at h1
 repeat'(first|apply(zs2 ?_)|apply(zs65 ?_)|apply(zs68 ?_)|apply(zs69 ?_)|apply(zs70 ?_)|fail)
 apply Xc [0,1,2,3,4,5,6,7,8,9,10,11,12] []
 kernel_rfl
 kernel_rfl
 (simp only[Yd,nthO];rfl)
 exact rfl
 repeat'(first|apply(zs1 ?_)|(apply zg2;refine zs6 ?_)|(apply zg3;first|refine zs7 ?_|refine zs8 ?_|refine zs60 ?_)|(apply zg5;refine zs57 ?_)|apply(zs87 ?_)|fail)
 first|apply Yb Yli|apply Yc Yli
 exact za
 exact rfl
 exactλ_ hw=>(p1 hw)
 repeat'(first|apply(zs65 ?_)|apply(zs87 ?_)|(apply Yj;(repeat(first|with_reducible exact YM|(with_reducible apply YF;(repeat(first|with_reducible exact Yq|with_reducible apply Yu))))))|fail)
 ·show Perm H (H++[])
  exact zc25
 repeat'(first|fail)
 first|apply Yb Wt|apply Yc Wt
 exact za
 exact rfl
 exactλ_ hw=>(p2 hw)
 repeat'(first|apply(zs2 ?_)|apply(zs65 ?_)|(apply ZI;exact zp)|apply(zs68 ?_)|apply(zs74 ?_)|(apply Yj;(repeat(first|with_reducible exact YM|(with_reducible apply YF;(repeat(first|with_reducible exact Yq|with_reducible apply Yu))))))|apply(zs93 ?_)|apply(zs94 ?_)|fail)
 ·show Perm H (H++[])
  exact zc25
 repeat'(first|fail)
 exact zc13
variable {A:Option Addr}
theorem Yhu(n:NetM)(l:List Cel)(i:Nat)(hck:Yo n.net=0)(hi:i<l.length)(hlen:l.length<=1000)(hin:n.In B w0 H)(hr:Rd B w0 H A (l.flatMap celF))(hw:St B w0 H w):
 CX B w0 458 [n.val,.slice A l.length cap,.int .i64 i] w λv K=>v=.bool (Zh n.net l i)/\K=H:=by
 refine Ya Tryz.func458 Tryz.ntmps458 rfl rfl hw ?_
 have hok:=YK hck
 have hget:l[i]? =some (celL l i):=by unfold celL;rw[Tz,Ta hi];rfl
 obtain⟨c,hc⟩:∃c,celL l i=c:=⟨_,rfl⟩
 rw[hc]at hget
 have p1:=λ{H':List HP}{w:World}(hin:n.In B w0 H') (hw:St B w0 H' w)=>X8 n c.2.2.1 c.2.2.2.1 hin hw
 have p2:=λ{H':List HP}{w:World}(hin:n.In B w0 H') (hw:St B w0 H' w)=>X8 n c.2.2.2.1 c.2.2.1 hin hw
 have hix:∀u v:Int,XS n.net u v=Yy n.net u v:=λu v=>by unfold XS;rw[Tf (by omega)]
 have hus:=YiK hck c.2.2.1 c.2.2.2.1
 have p3:=λ{H':List HP}{w:World}(hin:n.In B w0 H') (hw:St B w0 H' w)=>VW n (XS n.net c.2.2.1 c.2.2.2.1) hin hw
 rw[hus]at p3
 have hP:Zh n.net l i=(!(YZ n.net c.2.2.1 c.2.2.2.1)||V3 n.net l i c l.length||(!(X7 n.net (mar n.net (Yy n.net c.2.2.1 c.2.2.2.1).toNat) (Yz n.net l i c.2.2.2.1 l.length))||!(X7 n.net (mar n.net (Yy n.net c.2.2.2.1 c.2.2.1).toNat) (Yz n.net l i c.2.2.1 l.length)))):=by
  unfold Zh V3
  rw[hc,show JG n.net (XS n.net (YB c) (toC c))=YZ n.net c.2.2.1 c.2.2.2.1 from hus]
  rfl
 rw[hP]
 by_cases hg:YZ n.net c.2.2.1 c.2.2.2.1=true
 rotate_left
 ·have hg:YZ n.net c.2.2.1 c.2.2.2.1=false:=by simpa using hg
  rw[hg]at p3⊢
  repeat'(first|apply(zs2 ?_)|(apply zg3;first|refine zs7 ?_|refine zs61 ?_)|(apply zg5;refine zs57 ?_)|(apply zg22;refine zs51 ?_)|(apply zg23;first|(refine zs52 ?_;intro _)|(refine zs53 ?_;intro _))|(apply zg24;(refine zs54 ?_;intro _))|apply(zs65 ?_)|apply(zs68 ?_)|apply(zs69 ?_)|apply(zs70 ?_)|fail)
  rename_i gn gl gi gc
  apply YI [0,1,2,3,4,6,7,8,9,10,5,11,12,13] [] [true,false,false,true]
  kernel_rfl
  kernel_rfl
  exact zy
  (simp only[Yd,nthO];rfl)
  exact rfl
  repeat'(first|(apply zg2;refine zs6 ?_)|(apply zg3;first|refine zs7 ?_|refine zs8 ?_)|apply(zs87 ?_)|fail)
  first|apply Yb en69|apply Yc en69
  exact za
  exact rfl
  exactλ_ hw=>(p1 zc49 hw)
  repeat'(first|apply(zs65 ?_)|apply(zs87 ?_)|(apply Yj;(repeat(first|with_reducible exact YM|(with_reducible apply YF;(repeat(first|with_reducible exact Yq|with_reducible apply Yu))))))|fail)
  first|apply Yb en69|apply Yc en69
  exact za
  exact rfl
  exactλ_ hw=>(p2 zc49 hw)
  repeat'(first|apply(zs1 ?_)|apply(zs2 ?_)|(apply zg3;refine zs8 ?_)|apply(zs65 ?_)|(apply ZI;exact zp)|apply(zs68 ?_)|apply(zs69 ?_)|apply(zs70 ?_)|(apply Yj;(repeat(first|with_reducible exact YM|(with_reducible apply YF;(repeat(first|with_reducible exact Yq|with_reducible apply Yu))))))|apply(zs93 ?_)|apply(zs94 ?_)|fail)
  first|apply Yb J3|apply Yc J3
  exact za
  exact rfl
  exactλ_ hw=>(p3 zc49 hw)
  repeat'(first|apply(zs2 ?_)|(apply zg20;refine zs48 ?_)|apply(zs65 ?_)|apply(zs68 ?_)|apply(zs69 ?_)|apply(zs70 ?_)|(apply zg27;refine zs71 ?_)|apply(zs74 ?_)|apply(zs77 ?_)|fail)
  apply Yh H
  ·exact zc0
  exact zc4
 rw[hg]at p3⊢
 obtain⟨⟨f0,f1⟩,⟨t0,t1⟩,_,k1,k2⟩:(0<=c.2.2.1/\c.2.2.1<n.net.nodes)/\(0<=c.2.2.2.1/\c.2.2.2.1<n.net.nodes)/\c.2.2.1≠c.2.2.2.1/\0<=Yy n.net c.2.2.1 c.2.2.2.1/\0<=Yy n.net c.2.2.2.1 c.2.2.1:=Xk hok hg
 have x1:=Zs k1
 have x2:=Zs k2
 rw[hix]at p1 p2 p3
 obtain⟨i1,hi1⟩:∃z,Yy n.net c.2.2.1 c.2.2.2.1=z:=⟨_,rfl⟩
 obtain⟨i2,hi2⟩:∃z,Yy n.net c.2.2.2.1 c.2.2.1=z:=⟨_,rfl⟩
 rw[hi1]at p1 p3 k1 x1⊢
 rw[hi2]at p2 k2 x2⊢
 have q1:=λ{H':List HP}{w:World}(gn gl gi:Nat) (hin:n.In B w0 H') (hr:Rd B w0 H' A (l.flatMap celF)) (h1:netN gn n∈H') (h2:blk gl (.cells #[.slice A l.length cap] 28 (0,0))∈H') (h3:blk gi (.cells #[.int .i64 i] 3 (0,0))∈H') (hw:St B w0 H' w)=>Ya0 n l i gn gl gi A cap i1 c.2.2.2.1 hok ⟨t0,t1⟩ ⟨k1,x1⟩ hlen hin hr h1 h2 h3 hw
 have q2:=λ{H':List HP}{w:World}(gn gl gi:Nat) (hin:n.In B w0 H') (hr:Rd B w0 H' A (l.flatMap celF)) (h1:netN gn n∈H') (h2:blk gl (.cells #[.slice A l.length cap] 28 (0,0))∈H') (h3:blk gi (.cells #[.int .i64 i] 3 (0,0))∈H') (hw:St B w0 H' w)=>Ya0 n l i gn gl gi A cap i2 c.2.2.1 hok ⟨f0,f1⟩ ⟨k2,x2⟩ hlen hin hr h1 h2 h3 hw
 obtain⟨b1,hb1⟩:∃b,X7 n.net (mar n.net i1.toNat) (Yz n.net l i c.2.2.2.1 l.length)=b:=⟨_,rfl⟩
 obtain⟨b2,hb2⟩:∃b,X7 n.net (mar n.net i2.toNat) (Yz n.net l i c.2.2.1 l.length)=b:=⟨_,rfl⟩
 rw[hb1]at q1⊢
 rw[hb2]at q2⊢
 repeat'(first|apply(zs2 ?_)|(apply zg3;first|refine zs7 ?_|refine zs61 ?_)|(apply zg5;refine zs57 ?_)|(apply zg22;refine zs51 ?_)|(apply zg23;first|(refine zs52 ?_;intro _)|(refine zs53 ?_;intro _))|(apply zg24;(refine zs54 ?_;intro _))|apply(zs65 ?_)|apply(zs68 ?_)|apply(zs69 ?_)|apply(zs70 ?_)|fail)
 rename_i gn gl gi gc
 apply YI [0,1,2,3,4,6,7,8,9,10,5,11,12,13] [] [true,false,false,true]
 kernel_rfl
 kernel_rfl
 exact zy
 (simp only[Yd,nthO];rfl)
 exact rfl
 repeat'(first|(apply zg2;refine zs6 ?_)|(apply zg3;first|refine zs7 ?_|refine zs8 ?_)|apply(zs87 ?_)|fail)
 first|apply Yb en69|apply Yc en69
 exact za
 exact rfl
 exactλ_ hw=>(p1 zc49 hw)
 repeat'(first|apply(zs65 ?_)|apply(zs87 ?_)|(apply Yj;(repeat(first|with_reducible exact YM|(with_reducible apply YF;(repeat(first|with_reducible exact Yq|with_reducible apply Yu))))))|fail)
 first|apply Yb en69|apply Yc en69
 exact za
 exact rfl
 exactλ_ hw=>(p2 zc49 hw)
 repeat'(first|apply(zs1 ?_)|apply(zs2 ?_)|(apply zg3;refine zs8 ?_)|apply(zs65 ?_)|(apply ZI;exact zp)|apply(zs68 ?_)|apply(zs69 ?_)|apply(zs70 ?_)|(apply Yj;(repeat(first|with_reducible exact YM|(with_reducible apply YF;(repeat(first|with_reducible exact Yq|with_reducible apply Yu))))))|apply(zs93 ?_)|apply(zs94 ?_)|fail)
 first|apply Yb J3|apply Yc J3
 exact za
 exact rfl
 exactλ_ hw=>(p3 zc49 hw)
 repeat'(first|apply(zs1 ?_)|(apply zg3;refine zs7 ?_)|(apply zg4;refine zs9 ?_)|(apply zg20;refine zs47 ?_)|apply(zs65 ?_)|apply(zs68 ?_)|apply(zs69 ?_)|apply(zs70 ?_)|(apply zg27;refine zs72 ?_)|apply(zs73 ?_)|apply(zs76 ?_)|fail)
 refine Yg (λ(k:Nat)=>[(35,.int .i64 k),(34,.int .i64 l.length),(33,.slice A l.length cap),(3,.pointer (some ⟨gn,0,none⟩)),(4,.pointer (some ⟨gl,0,none⟩)),(5,.pointer (some ⟨gi,0,none⟩)),(7,.pointer (some ⟨gc,0,none⟩)),(8,.int .i64 i1),(9,.int .i64 i2)])
  (λ_=>blk gc (.cells #[.int .i64 c.1,.int .i64 c.2.1,.int .i64 c.2.2.1,.int .i64 c.2.2.2.1,.int .i64 c.2.2.2.2] 48 (0,0))::blk gi (.cells #[.int .i64 i] 3 (0,0))::blk gl (.cells #[.slice A l.length cap] 28 (0,0))::netN gn n::H) (λk=>k<=l.length/\V3 n.net l i c k=false) (λk=>l.length-k) 0 ⟨Ti _,rfl⟩ ?_ ?_ ?_
 ·exact zc1
 ·unfold netN
  exact zc0
 rintro k ⟨hk,hno⟩ K hK
 have hrc:Rd B w0 (blk gc (.cells #[.int .i64 c.1,.int .i64 c.2.1,.int .i64 c.2.2.1,.int .i64 c.2.2.2.1,.int .i64 c.2.2.2.2] 48 (0,0))::blk gi (.cells #[.int .i64 i] 3 (0,0))::blk gl (.cells #[.slice A l.length cap] 28 (0,0))::netN gn n::H) A (l.flatMap celF):=hr.cons.cons.cons.cons
 by_cases hlt:k<l.length
 ·have hgk:l[k]? =some (celL l k):=YtA
  have hst:V3 n.net l i c (k+1)=(V3 n.net l i c k||(decide (k≠i)&&YC c (celL l k))):=by
   unfold V3
   rw[Rq,SR]
   simp
  obtain⟨d,hd⟩:∃d,celL l k=d:=⟨_,rfl⟩
  rw[hd]at hgk hst
  have p4:=λ{H':List HP}{w:World}(hw:St B w0 H' w)=>Ygv c d hw
  unfold netN at hrc⊢
  obtain⟨t,ht⟩:∃t,YC c d=t:=⟨_,rfl⟩
  rw[ht]at p4 hst
  rw[hno,NG]at hst
  by_cases hki:k=i
  ·rw[Tj (λh=>h hki),S9]at hst
   repeat'(first|apply(zs1 ?_)|apply(zs2 ?_)|(apply zg1;refine zs3 ?_)|(apply zg3;first|refine zs7 ?_|refine zs61 ?_)|(apply zg5;refine zs57 ?_)|(apply zg6;refine zs12 ?_)|(apply zg8;(refine zs16 ?_ ?_<;>intro _<;>try exact zo))|(apply(zs17 ?_ ?_)<;>intro _<;>try exact zo)|(apply zg13;refine zs30 ?_)|(apply zg22;refine zs51 ?_)|(apply zg24;(refine zs54 ?_;intro _))|apply(zs65 ?_)|apply(zs68 ?_)|apply(zs69 ?_)|apply(zs70 ?_)|(apply zg27;first|refine zs71 ?_|refine zs72 ?_)|apply(zs73 ?_)|apply(zs76 ?_)|apply(zs79 ?_)|fail)
   apply hK (k+1)
   ·exact⟨by omega,hst⟩
   ·omega
   ·exact zc1
   ·unfold netN
    exact zc0
  rw[Td hki,RV]at hst
  cases t with
  |false=>
   repeat'(first|((first|apply Yb Ylo|apply Yc Ylo);exact za;exact rfl;exactλ_ hw=>(p4 hw))|apply(zs1 ?_)|apply(zs2 ?_)|(apply zg1;refine zs4 ?_)|(apply zg3;first|refine zs7 ?_|refine zs8 ?_|refine zs61 ?_)|(apply zg5;refine zs57 ?_)|(apply zg6;refine zs11 ?_)|(apply zg8;(refine zs16 ?_ ?_<;>intro _<;>try exact zo))|(apply(zs17 ?_ ?_)<;>intro _<;>try exact zo)|(apply zg13;refine zs30 ?_)|(apply zg22;refine zs51 ?_)|(apply zg24;(refine zs54 ?_;intro _))|apply(zs65 ?_)|apply(zs68 ?_)|apply(zs69 ?_)|apply(zs70 ?_)|(apply zg27;first|refine zs71 ?_|refine zs72 ?_)|apply(zs73 ?_)|apply(zs76 ?_)|apply(zs79 ?_)|fail)
   apply hK (k+1)
   ·exact⟨by omega,hst⟩
   ·omega
   ·exact zc1
   ·unfold netN
    exact zc0
  |true=>
   have hfa:V3 n.net l i c l.length=true:=by
    unfold V3
    rw[Ri]
    exact⟨k,T8.2 hlt,by rw[hd,ht,Td hki];rfl⟩
   rw[hfa]
   repeat'(first|((first|apply Yb Ylo|apply Yc Ylo);exact za;exact rfl;exactλ_ hw=>(p4 hw))|apply(zs1 ?_)|apply(zs2 ?_)|(apply zg1;refine zs4 ?_)|(apply zg3;first|refine zs7 ?_|refine zs8 ?_|refine zs61 ?_)|(apply zg5;refine zs57 ?_)|(apply zg6;refine zs11 ?_)|(apply zg8;(refine zs16 ?_ ?_<;>intro _<;>try exact zo))|(apply(zs17 ?_ ?_)<;>intro _<;>try exact zo)|(apply zg22;refine zs51 ?_)|(apply zg24;(refine zs54 ?_;intro _))|apply(zs65 ?_)|apply(zs68 ?_)|apply(zs69 ?_)|apply(zs70 ?_)|(apply zg27;refine zs71 ?_)|apply(zs73 ?_)|apply(zs74 ?_)|apply(zs76 ?_)|apply(zs77 ?_)|apply(zs78 ?_)|fail)
   apply Yh H
   ·exact zc0
   exact zc4
 ·obtain rfl:k=l.length:=by omega
  rw[hno]
  clear hK
  unfold netN at hrc q1 q2⊢
  cases b1 with
  |false=>
   repeat'(first|apply(zs1 ?_)|apply(zs2 ?_)|(apply zg2;refine zs6 ?_)|(apply zg3;refine zs7 ?_)|(apply(zs17 ?_ ?_)<;>intro _<;>try exact zo)|apply(zs65 ?_)|apply(zs68 ?_)|apply(zs69 ?_)|apply(zs70 ?_)|(apply zg27;refine zs72 ?_)|apply(zs75 ?_)|apply(zs80 ?_)|apply(zs81 ?_)|(apply zg29;(apply Yr;exact za;exact rfl))|fail)
   first|apply YY (cs:=[.pointer (some ⟨gn,0,none⟩),.pointer (some ⟨gl,0,none⟩),.pointer (some ⟨gi,0,none⟩)])|apply Xh (cs:=[.pointer (some ⟨gn,0,none⟩),.pointer (some ⟨gl,0,none⟩),.pointer (some ⟨gi,0,none⟩)])
   exact rfl
   exact Yo5
   exact za
   exact rfl
   exactλ_ hw=>q1 gn gl gi zc49 hrc (by(focus exact zc2)) (by(focus exact zc2)) (by(focus exact zc2)) hw
   repeat'(first|apply(zs1 ?_)|apply(zs2 ?_)|(apply zg1;refine zs3 ?_)|(apply zg6;refine zs11 ?_)|(apply zg20;refine zs48 ?_)|apply(zs65 ?_)|apply(zs68 ?_)|apply(zs74 ?_)|fail)
   apply Yh H
   ·exact zc0
   exact zc4
  |true=>
   cases b2<;>(
    repeat'(first|apply(zs1 ?_)|apply(zs2 ?_)|(apply zg2;refine zs6 ?_)|(apply zg3;refine zs7 ?_)|(apply(zs17 ?_ ?_)<;>intro _<;>try exact zo)|apply(zs65 ?_)|apply(zs68 ?_)|apply(zs69 ?_)|apply(zs70 ?_)|(apply zg27;refine zs72 ?_)|apply(zs75 ?_)|apply(zs80 ?_)|apply(zs81 ?_)|(apply zg29;(apply Yr;exact za;exact rfl))|fail)
    first|apply YY (cs:=[.pointer (some ⟨gn,0,none⟩),.pointer (some ⟨gl,0,none⟩),.pointer (some ⟨gi,0,none⟩)])|apply Xh (cs:=[.pointer (some ⟨gn,0,none⟩),.pointer (some ⟨gl,0,none⟩),.pointer (some ⟨gi,0,none⟩)])
    exact rfl
    exact Yo5
    exact za
    exact rfl
    exactλ_ hw=>q1 gn gl gi (by repeat(first|exact hin|apply NetM.In.cons)) hrc zm zm zm hw
    repeat'(first|apply(zs1 ?_)|(apply zg1;refine zs4 ?_)|(apply zg2;refine zs6 ?_)|(apply zg3;refine zs7 ?_)|(apply zg20;refine zs47 ?_)|fail)
    first|apply YY (cs:=[.pointer (some ⟨gn,0,none⟩),.pointer (some ⟨gl,0,none⟩),.pointer (some ⟨gi,0,none⟩)])|apply Xh (cs:=[.pointer (some ⟨gn,0,none⟩),.pointer (some ⟨gl,0,none⟩),.pointer (some ⟨gi,0,none⟩)])
    exact rfl
    exact Yo5
    exact za
    exact rfl
    exactλ_ hw=>q2 gn gl gi (by repeat(first|exact hin|apply NetM.In.cons)) hrc zm zm zm hw
    repeat'(first|apply(zs2 ?_)|(apply zg1;refine zs4 ?_)|(apply zg6;refine zs12 ?_)|(apply zg20;first|refine zs47 ?_|refine zs48 ?_)|apply(zs65 ?_)|apply(zs68 ?_)|apply(zs74 ?_)|fail)
    apply Yh H
    ·exact zk
    apply Ye;exact rfl;exact rfl;exact⟨rfl,rfl⟩)
def JK(n:Net)(l:List Cel)(k:Nat):Bool:=(List.range k).any (Zh n l)
theorem Yhx(n:NetM)(l:List Cel)(hck:Yo n.net=0)(hlen:l.length<=1000)(hin:n.In B w0 H)(hr:Rd B w0 H A (l.flatMap celF))(hw:St B w0 H w):
 CX B w0 455 [n.val,.slice A l.length cap] w λv K=>∃i:Int,v=.tuple #[.int .i64 i,.bool (JK n.net l l.length)]/\K=H:=by
 refine Ya Tryz.func455 Tryz.ntmps455 rfl rfl hw ?_
 have p1:=λ{H':List HP}{w:World}(hin:n.In B w0 H') (hw:St B w0 H' w)=>YV n hin hw
 rw[hck]at p1
 (apply Xs;apply YX;apply YT;exact rfl;exact rfl;intro g)
 repeat'(first|((first|apply Yb en68|apply Yc en68);exact za;exact rfl;exactλ_ hw=>(p1 hin.cons hw))|apply(zs1 ?_)|apply(zs2 ?_)|(apply zg3;refine zs8 ?_)|(apply zg4;refine zs9 ?_)|(apply zg8;(refine zs16 ?_ ?_<;>intro _<;>try exact zo))|apply(zs65 ?_)|apply(zs68 ?_)|apply(zs69 ?_)|apply(zs70 ?_)|(apply zg27;refine zs72 ?_)|apply(zs73 ?_)|apply(zs76 ?_)|fail)
 refine Yg (λ(k:Nat)=>[(12,.int .i64 k),(11,.int .i64 l.length),(1,.slice A l.length cap),(2,.pointer (some ⟨g,0,none⟩))]) (λ_=>netN g n::H) (λk=>k<=l.length/\JK n.net l k=false) (λk=>l.length-k) 0 ⟨Ti _,rfl⟩ ?_ (λw hw=>hw) ?_
 ·exact zc1
 rintro k ⟨hk,hno⟩ K hK
 unfold netN
 by_cases hlt:k<l.length
 ·have p2:=λ{H':List HP}{w:World}(hin:n.In B w0 H') (hr:Rd B w0 H' A (l.flatMap celF)) (hw:St B w0 H' w)=>Yhu n l k hck hlt hlen (cap:=cap) hin hr hw
  have hst:JK n.net l (k+1)=(JK n.net l k||Zh n.net l k):=by
   grind [JK]
  rw[hno,NG]at hst
  cases hp:Zh n.net l k with
  |false=>
   rw[hp]at p2 hst
   repeat'(first|((first|apply Yb Yln|apply Yc Yln);exact za;exact rfl;exactλ_ hw=>(p2 hin.cons hr.cons hw))|apply(zs1 ?_)|apply(zs2 ?_)|(apply zg3;refine zs8 ?_)|(apply(zs17 ?_ ?_)<;>intro _<;>try exact zo)|(apply zg13;refine zs30 ?_)|apply(zs65 ?_)|apply(zs68 ?_)|apply(zs69 ?_)|apply(zs70 ?_)|(apply zg27;first|refine zs71 ?_|refine zs72 ?_)|apply(zs73 ?_)|apply(zs76 ?_)|apply(zs79 ?_)|fail)
   apply hK (k+1)
   ·exact⟨by omega,hst⟩
   ·omega
   ·exact zc1
   ·unfold netN
    exact zc0
  |true=>
   rw[hp]at p2
   have hfa:JK n.net l l.length=true:=by
    unfold JK
    rw[Ri]
    exact⟨k,T8.2 hlt,hp⟩
   rw[hfa]
   repeat'(first|((first|apply Yb Yln|apply Yc Yln);exact za;exact rfl;exactλ_ hw=>(p2 hin.cons hr.cons hw))|apply(zs1 ?_)|apply(zs2 ?_)|(apply zg3;refine zs8 ?_)|(apply(zs17 ?_ ?_)<;>intro _<;>try exact zo)|apply(zs65 ?_)|apply(zs68 ?_)|apply(zs69 ?_)|apply(zs70 ?_)|(apply zg27;refine zs71 ?_)|apply(zs73 ?_)|apply(zs74 ?_)|apply(zs76 ?_)|apply(zs77 ?_)|apply(zs78 ?_)|fail)
   apply Yh H
   ·exact zc0
   exact zc95
 ·obtain rfl:k=l.length:=by omega
  rw[hno]
  repeat'(first|apply(zs2 ?_)|(apply(zs17 ?_ ?_)<;>intro _<;>try exact zo)|apply(zs65 ?_)|apply(zs68 ?_)|apply(zs69 ?_)|apply(zs70 ?_)|(apply zg27;refine zs72 ?_)|apply(zs74 ?_)|apply(zs75 ?_)|apply(zs80 ?_)|apply(zs81 ?_)|fail)
  apply Yh H
  ·exact zc0
  exact zc95
theorem YhG{n:Net}{l:List Cel}(hck:Yo n=0):Jh n l=!(JK n l l.length):=by
 simp_all [Jh,JK,List.not_any_eq_all_not]
theorem YjD(n:NetM)(l:List Cel)(hck:Yo n.net=0)(hlen:l.length<=1000)(hin:n.In B w0 H)(hr:Rd B w0 H A (l.flatMap celF))(hw:St B w0 H w):
 CX B w0 449 [n.val,.slice A l.length cap] w λv K=>v=.bool (Jh n.net l)/\K=H:=by
 refine Ya Tryz.func449 Tryz.ntmps449 rfl rfl hw ?_
 have p1:=λ{H':List HP}{w:World}(hin:n.In B w0 H') (hw:St B w0 H' w)=>YV n hin hw
 rw[hck]at p1
 rw[YhG hck]
 repeat'(first|apply(zs1 ?_)|apply(zs2 ?_)|(apply zg3;refine zs8 ?_)|(apply zg23;(refine zs52 ?_;intro _))|apply(zs65 ?_)|apply(zs68 ?_)|apply(zs69 ?_)|apply(zs70 ?_)|fail)
 apply Yf _ YvQ
 exact za
 exact rfl
 exactλ_ hw=>(Yhx n l hck hlen hin.cons hr.cons (hw))
 rintro _ _ ⟨i,rfl,rfl⟩
 cases JK n.net l l.length<;>(
  repeat'(first|((first|apply Yb en68|apply Yc en68);exact za;exact rfl;exactλ_ hw=>(p1 hin.cons hw))|apply(zs1 ?_)|apply(zs2 ?_)|(apply zg1;refine zs4 ?_)|(apply zg3;refine zs8 ?_)|(apply zg6;refine zs11 ?_)|apply(zs13 ?_)|(apply zg7;(refine zs15 ?_ ?_<;>intro _<;>try exact zo))|(apply zg20;first|refine zs47 ?_|refine zs48 ?_)|apply(zs65 ?_)|apply(zs68 ?_)|apply(zs69 ?_)|apply(zs70 ?_)|apply(zs74 ?_)|fail)
  apply Yh H
  ·exact zk
  apply Ye;exact rfl;exact rfl;exact⟨rfl,rfl⟩)
end Go.Proofs.YtjlgijpmnfabcaaGreatDoor
namespace Go.Eng
open Go.RowKit
variable {B cap:Nat}{w0:World}{H:List HP}{A:Option Addr}
theorem YqO{P:Program}{n:Shp}{Q:Exit->Act->World->Prop}{env:Env}{c:Code}{e size k:Nat}{xs:List Value}(hm:sl e size A k cap xs∈H)(h:k<=cap->VC P n B w0 c Q env H):VC P n B w0 c Q env H:=by
 refine⟨λa w ha hw=>?_⟩
 have hown:=hw.sl hm
 have hkc:k<=cap:=zc46
 exact(h hkc).run a w ha hw
end Go.Eng
namespace Go.Proofs.YtjlgijpmnfabcaaGreatDoor
open Go.RowKit Go.Eng Go.Nw Go.Rt
theorem Yqi(A:Option Addr)(cap size:Nat):subA A 0 cap size=A:=by
 simp_all [subA,Go.Addr.add]
variable {A:Option Addr}{cap B:Nat}{w0 w:World}{H:List HP}
theorem XP(l:List Lk)(hlen:l.length<=1000)(hr:Rd B w0 H A (l.flatMap lkF))(hw:St B w0 H w):
 CX B w0 395 [.slice A l.length cap] w λv K=>∃A' cap',v=.slice A' l.length cap'/\K=sl 383 3 A' l.length cap' (l.flatMap lkF)::H:=by
 cases A with
 |none=>
  have hl:l=[]:=by
   cases l with
   |nil=>rfl
   |cons x l=>
    exact zc36
  subst hl
  refine Ya Tryz.func395 Tryz.ntmps395 rfl rfl hw ?_
  refine zX7 ?_
  apply XW 383 3;exact zc39
 |some a=>
  refine Ya Tryz.func395 Tryz.ntmps395 rfl rfl hw ?_
  repeat'(first|(apply Zq;(iterate 3 exact rfl))|(apply Xt T;exact rfl;exact rfl;intro g2)|refine zgb ?_|fail)
  apply XE T (f:=lkF) (l2:=l) (e:=383) (size:=3) (xs:=[]);(iterate 3 exact rfl);exact hr.cons;exact(λ_=>rfl);exact(λ_=>rfl);exact rfl;(intro _ _;exact zd);omega;intro A' cap'
  exact zc26
def arcV(a:Lk):Value:=.agg #[.int .i64 a.1,.int .i64 a.2.1,.int .i64 a.2.2]
theorem YeM{α:Type}(p:α->Bool):∀(l:List α) (k:Int),(l.filter (λa=>!p a)=l/\Yl p l k= -1)\/∃j,j<l.length/\Yl p l k=k+j/\(l.take j).filter (λa=>!p a)=l.take j/\∃a,l[j]? =some a/\p a=true
 |[],_=>.inl ⟨rfl,rfl⟩
 |a::l,k=>by
  unfold Yl
  cases h:p a with
  |true=>exact .inr ⟨0,by simp,by simp,rfl,a,rfl,h⟩
  |false=>
   rw[Tf (by decide)]
   rcases YeM p l (k+1)with⟨h1,h2⟩|⟨j,h1,h2,h3,b,h4,h5⟩
   ·simp_all
   exact YtG
theorem YdW(p:Lk->Bool)(l:List Lk)(f:Nat)(cs:List Value)(hen:∀xs w,(callFunc f xs).run Tryz.prog w=.ok (.enter f xs) w)(hlen:l.length<=1000)(hr:Rd B w0 H A (l.flatMap lkF))
 (hp:∀a∈l,∀w,St B w0 H w->Calls Tryz.prog f ([arcV a]++cs).toArray w (Post B w0 λv K=>v=.bool (p a)/\K=H)) (hw:St B w0 H w):
 CX B w0 425 [.slice A l.length cap,.func (.func f) #[] cs.toArray] w λv K=>v=.int .i64 (Yl p l 0)/\K=H:=by
 refine Ya Tryz.func425 Tryz.ntmps425 rfl rfl hw ?_
 refine zX8 ?_
 refine Yg (λ(k:Nat)=>[(8,.int .i64 k),(7,.int .i64 l.length),(0,.slice A l.length cap),(1,.func (.func f) #[] cs.toArray)]) (λ_=>H) (λk=>k<=l.length/\Yl p l 0=Yl p (l.drop k) k) (λk=>l.length-k) 0 ⟨Ti _,by simp⟩ ?_ (λw hw=>hw) ?_
 ·exact zc1
 rintro k ⟨hk,hi⟩ K hK
 by_cases hlt:k<l.length
 ·obtain⟨a,ha⟩:∃a,l[k]? =some a:=⟨_,Ta hlt⟩
  have hpa:=hp a (Tc ha)
  rw[Ji p l ha]at hi
  refine zX10 ?_<;>intros
  cases hpv:p a
  ·rw[hpv]at hi
   refine zX11 ?_
   apply hK (k+1)
   ·grind
   ·omega
   ·exact zc1
   exact zc20
  exact zc9
 exact zc7
structure Kz where
 i:Nat
 j:Nat
 M:List Lk
theorem XQ(p:Lk->Bool)(l:List Lk)(f:Nat)(cs:List Value)(hen:∀xs w,(callFunc f xs).run Tryz.prog w=.ok (.enter f xs) w)(hlen:l.length<=1000)
 (hp:∀a∈l,∀(X:List HP) w,St B w0 (X++H) w->Calls Tryz.prog f ([arcV a]++cs).toArray w (Post B w0 λv K=>v=.bool (p a)/\K=X++H)) (hw:St B w0 (Jc A cap l::H) w):
 CX B w0 394 [.slice A l.length cap,.func (.func f) #[] cs.toArray] w λv K=>v=.slice A (l.filter λa=>!p a).length cap/\K=Jc A cap (l.filter λa=>!p a)::H:=by
 refine Ya Tryz.func394 Tryz.ntmps394 rfl rfl hw ?_
 refine YqO (k:=l.length) (cap:=cap) (by(focus exact zc2)) λhcap=>?_
 have hif:=λ{w:World}(hw:St B w0 (Jc A cap l::H) w)=>YdW p l f cs hen hlen (cap:=cap) (.sl TB) (λa ha w hw=>hp a ha [Jc A cap l] w hw) hw
 rcases YeM p l 0 with⟨h1,h2⟩|⟨i0,h1,h2,h3,a0,h4,h5⟩
 ·rw[h2]at hif
  rw[h1]
  repeat'(first|((first|apply Yb Ylk|apply Yc Ylk);exact za;exact rfl;exactλ_ hw=>(hif hw))|refine zgb ?_|(refine zgf ?_ ?_<;>intro _<;>try exact zo)|fail)
  exact zc4
 rw[h2,Int.zero_add]at hif
 repeat'(first|((first|apply Yb Ylk|apply Yc Ylk);exact za;exact rfl;exactλ_ hw=>(hif hw))|refine zgc ?_|(refine zgf ?_ ?_<;>intro _<;>try exact zo)|fail)
 refine Yg (λ(z:Kz)=>[(6,.int .i64 z.j),(5,.int .i64 z.i),(0,.slice A z.M.length cap),(1,.func (.func f) #[] cs.toArray)]) (λz=>Jc A cap z.M::H) (λz=>z.M.length=l.length/\z.i<z.j/\z.j<=l.length/\z.M.take z.i=(l.take z.j).filter (λa=>!p a)/\z.M.drop z.j=l.drop z.j) (λz=>l.length-z.j) ⟨i0,i0+1,l⟩ ⟨rfl,by exact zc34,by exact zc34,?_,rfl⟩ ?_ (λw hw=>hw) ?_
 ·exact YtM
 ·exact zc1
 rintro⟨i,j,M⟩ ⟨hM,hij,hj,ht,hd⟩ K hK
 simp only at hM hij hj ht hd⊢
 by_cases hlt:j<l.length
 ·obtain⟨a,ha⟩:∃a,l[j]? =some a:=⟨_,Ta hlt⟩
  have hMa:M[j]? =some a:=zc94
  have hpa:=λ{X1 X2:HP}{w:World}(hw:St B w0 (X1::X2::H) w)=>hp a (Tc ha) [X1,X2] w hw
  have hft:(l.take (j+1)).filter (λa=>!p a)=M.take i++(if p a=true then []else [a]):=Ytx
  obtain⟨b,hb⟩:∃b,p a=b:=⟨_,rfl⟩
  rw[hb]at hft hpa
  have hd1:∀x:Lk,(M.set i x).drop (j+1)=l.drop (j+1):=λx=>by
   exact YtB
  cases b with
  |true=>
   rw[Tn rfl,Rr]at hft
   refine zX35 ?_<;>intros
   apply hK ⟨i,j+1,M⟩
   ·exact⟨hM,by exact zc34,by exact zc34,hft.symm,by exact YtV⟩
   ·exact zc34
   ·exact zc1
   ·exact zc57
  |false=>
   rw[Tf (by decide)]at hft
   have hMl:(M.set i a).length=M.length:=TQ
   repeat'(first|((first|apply YY (cs:=cs));exact rfl;exact hen;exact za;exact rfl;exactλ_ hw=>hpa hw)|(apply XJ T (f:=lkF) (l:=M) (i:=i) (a:=a);(iterate 3 exact rfl);exact zd;exactλ_=>rfl;(iterate 3 exact rfl);omega)|refine zgd ?_|(refine zge ?_ ?_<;>intro _<;>try exact zo)|(refine zgh ?_;intro _)|fail)
   apply hK ⟨i+1,j+1,M.set i a⟩
   ·refine⟨by exact zc34,by exact zc34,by exact zc34,?_,hd1 a⟩
    exact Yti
   ·exact zc34
   ·dsimp only
    rw[hMl]
    exact zc1
   ·unfold Jc
    dsimp only
    rw[hMl]
    exact zc57
 ·obtain rfl:j=l.length:=by omega
  clear hK
  rw[TM]at ht
  have hil:(l.filter λa=>!p a).length=i:=by rw[<-ht,TT];omega
  have hfl:(M.flatMap lkF).take (i*3)=(l.filter λa=>!p a).flatMap lkF:=by rw[<-Xr (q:=3) (λ_=>rfl),ht]
  refine zX37 ?_<;>intros
  rw[Rx]
  apply Xy (sl 383 3 A i cap ((l.filter λa=>!p a).flatMap lkF)::H)
  ·intro w hw
   refine hw.shrink (e:=383) (size:=3) (cap:=cap) (A:=A) (xs:=M.flatMap lkF) (k:=M.length) (k':=i) (by omega) ?_
   rw[hfl]
   exact Upd.here _
  apply Ql T T2 (e:=383) (size:=3) (k:=i) (xs:=(l.filter λa=>!p a).flatMap lkF);exact rfl;exact TB;(iterate 3 exact rfl);omega
  refine zX38 ?_
  rw[Yqi]
  refine zX9 ?_
  apply Ye;exact rfl;exact rfl
  exact⟨by rw[hil],by unfold Jc;rw[hil]⟩
theorem Yd9(s t:Int)(gs gt:Nat)(a:Lk)(hs:blk gs (.cells #[.int .i64 s] 3 (0,0))∈H)(ht:blk gt (.cells #[.int .i64 t] 3 (0,0))∈H)(hw:St B w0 H w):
 CX B w0 424 [arcV a,.pointer (some ⟨gs,0,none⟩),.pointer (some ⟨gt,0,none⟩)] w λv K=>v=.bool (decide (a.1=s/\a.2.1=t))/\K=H:=by
 refine Ya Tryz.func424 Tryz.ntmps424 rfl rfl hw ?_
 unfold arcV
 by_cases h:a.1=s/\a.2.1=t
 ·rw[Td h]
  refine zX98 ?_<;>intros
  all_goals(apply Ym;exact zc13)
 ·rw[Tj h]
  repeat'(first|refine zgc ?_|(refine zgf ?_ ?_<;>intro _<;>try exact zo)|(refine zgh ?_;intro _)|fail)
  all_goals(apply Ym;apply Ye;exact rfl;exact rfl;exact⟨rfl,rfl⟩)
def WW(s t:Int)(l:List Lk):List Lk:=l.filter λa=>!decide (a.1=s/\a.2.1=t)
theorem Yaa(l:List Lk)(s t:Int)(hlen:l.length<=1000)(hr:Rd B w0 H A (l.flatMap lkF))(hw:St B w0 H w):
 CX B w0 393 [.slice A l.length cap,.int .i64 s,.int .i64 t] w λv K=>∃A' cap',v=.slice A' (WW s t l).length cap'/\K=Jc A' cap' (WW s t l)::H:=by
 refine Ya Tryz.func393 Tryz.ntmps393 rfl rfl hw ?_
 repeat'(first|refine zga ?_|(refine zgh ?_;intro _)|fail)
 rename_i g1 g2
 apply Yf _ YeE
 exact za
 exact rfl
 exactλ_ hw=>(XP l hlen (hr.cons.cons) (hw))
 rintro _ _ ⟨A',cap',rfl,rfl⟩
 repeat'(first|(apply zg29;(apply Yr;exact za;exact rfl))|fail)
 apply Yf _ YeD
 exact za
 exact rfl
 exactλ_ hw=>(XQ (λa=>decide (a.1=s/\a.2.1=t)) l 424 [.pointer (some ⟨g1,0,none⟩),.pointer (some ⟨g2,0,none⟩)] YvF hlen (λa _ X w hw=>Yd9 s t g1 g2 a (TS _ zm) (TS _ zm) hw) (hw))
 rintro _ _ ⟨rfl,rfl⟩
 repeat'(first|refine zga ?_|fail)
 apply Yh (Jc A' cap' (WW s t l)::H)
 ·exactλw hw=>hw.perm (.cons _ (.dropK (.drop _ _)))
 apply Ye;exact rfl;exact rfl
 exact⟨A',cap',rfl,rfl⟩
end Go.Proofs.YtjlgijpmnfabcaaGreatDoor
namespace Go.Eng
open Go.RowKit
variable {B:Nat}{w0:World}{H:List HP}
theorem Rd.manyT{K:List HP}{A:Option Addr}{xs:List Value}(h:Rd B w0 H A xs)(hm:Eng.many H∈K):Rd B w0 K A xs:=h.mono λw hw=>by
 obtain⟨S1,h1,h2⟩:=Ygq hm hw.sep
 exact⟨hw.below,hw.le,Vm h2 h1⟩
end Go.Eng
namespace Go.Proofs.YtjlgijpmnfabcaaGreatDoor
open Go.RowKit Go.Eng Go.Nw Go.Rt
def W5(pre:List Int)(v:Int):Bool:=decide (v∈pre.drop 1)
def OW(pre:List Int)(to v:Int):Bool:=!decide (v=to)&&W5 pre v
def YaZ(pre:List Int):Int:=pre.getD 0 0
def YhT(pre:List Int):Int:=pre.getD (pre.length-1) 0
def QL(l:List Lk)(pre:List Int)(to:Int):List Lk:=(if pre.length=2 then WW (YaZ pre) to l else l).filter λa=>!(OW pre to a.1||OW pre to a.2.1)
def badB(pre:List Int)(a:Lk):Bool:=W5 pre a.2.1||(W5 pre a.1&&decide (a.1≠YhT pre))||decide (a.2.1=YaZ pre)
def YeS(l:List Lk)(pre:List Int):List Lk:=l.filter λa=>!badB pre a
noncomputable def YlL(fuel nodes:Nat)(l:List Lk)(pre:List Int)(to:Int):Option (Int×Bool):=
 if YhT pre=to then some (Yk (J2 nodes (QL l pre to) to) (YaZ pre),decide (Yk (J2 nodes (QL l pre to) to) (YaZ pre)<Y5))
 else match YaM fuel nodes (YeS l pre) (YhT pre) (YaZ pre) to (W5 pre)with
  |none=>none
  |some r=>some (r.1,r.2.1)
variable {l:List Lk}
theorem ArcsOk.sub{nodes:Nat}{m:List Lk}(h:ArcsOk nodes l)(hm:∀a∈m,a∈l):ArcsOk nodes m:=λa ha=>h a (hm a ha)
theorem Yne{pre:List Int}{to:Int}{a:Lk}(h:a∈QL l pre to):a∈l:=Ytr
theorem Ynd(l:List Lk)(pre:List Int)(to:Int):(QL l pre to).length<=l.length:=by
 unfold QL
 exact Ytq
theorem Ynf(l:List Lk)(pre:List Int):(YeS l pre).length<=l.length:=Ry _ _
variable {B:Nat}{w0 w:World}{H:List HP}
theorem Ydd(gm gc clock:Nat)(es:Ents)(f:Int->Bool)(a:Lk)(hf:MB es f)(hm:blk gm (mobj es clock)∈H)(hc:blk gc (.cells #[.map (some gm)] 452 (0,0))∈H)(hw:St B w0 H w):
 CX B w0 422 [arcV a,.pointer (some ⟨gc,0,none⟩)] w λv K=>v=.bool (f a.1||f a.2.1)/\K=H:=by
 refine Ya Tryz.func422 Tryz.ntmps422 rfl rfl hw ?_
 unfold arcV
 obtain⟨b1,h1⟩:∃b,f a.1=b:=⟨_,rfl⟩
 obtain⟨b2,h2⟩:∃b,f a.2.1=b:=⟨_,rfl⟩
 rw[h1,h2]
 cases b1
 ·skip
  refine Ys6 ?_<;>intros
  apply Ym;exact zc13
 ·skip
  refine Ys6 ?_<;>intros
  apply Ym;exact zc13
theorem Yka(gm gc ga gf clock:Nat)(es:Ents)(f:Int->Bool)(s t:Int)(a:Lk)(hf:MB es f)(hm:blk gm (mobj es clock)∈H)(hc:blk gc (.cells #[.map (some gm)] 452 (0,0))∈H)(ha:blk ga (.cells #[.int .i64 t] 3 (0,0))∈H)(hs:blk gf (.cells #[.int .i64 s] 3 (0,0))∈H)(hw:St B w0 H w):
 CX B w0 423 [arcV a,.pointer (some ⟨gc,0,none⟩),.pointer (some ⟨ga,0,none⟩),.pointer (some ⟨gf,0,none⟩)] w λv K=>v=.bool (f a.2.1||(f a.1&&decide (a.1≠t))||decide (a.2.1=s))/\K=H:=by
 refine Ya Tryz.func423 Tryz.ntmps423 rfl rfl hw ?_
 unfold arcV
 obtain⟨b1,h1⟩:∃b,f a.1=b:=⟨_,rfl⟩
 obtain⟨b2,h2⟩:∃b,f a.2.1=b:=⟨_,rfl⟩
 rw[h1,h2]
 by_cases e1:a.1=t<;>by_cases e2:a.2.1=s
 ·rw[Td e2,Tj (λh=>h e1)]
  exact zc6
 ·rw[Tj e2,Tj (λh=>h e1)]
  exact zc6
 ·rw[Td e2,Td (p:=a.1≠t) e1]
  exact zc6
 ·rw[Tj e2,Td (p:=a.1≠t) e1]
  exact zc6
structure Pz where
 ga:Nat
 gf:Nat
structure Qz where
 k:Nat
 es:Ents
 c:Nat
 f:Int->Bool
def WV(l:List Lk)(pre:List Int)(to:Int):List Lk:=if pre.length=2 then WW (YaZ pre) to l else l
theorem Yny(nodes:Nat)(l:List Lk)(pre:List Int)(to:Int)(fuel:Nat)(s:Int×Bool)(hn:1<=nodes/\nodes<=40)(hl:l.length<=900)(hok:ArcsOk nodes l)(hpl:2<=pre.length/\pre.length<=1000)(hpi:∀v∈pre,0<=v/\v<nodes)(hto:0<=to/\to<nodes)(hfu:fuel<=100000)(hrun:YlL fuel nodes l pre to=some s)
 {AL AP:Option Addr}{capL capP B:Nat}{w0:World}{H:List HP}{w:World}(hr:Rd B w0 H AL (l.flatMap lkF)) (hp:Rd B w0 H AP (pre.flatMap numF)) (hcap:pre.length<=capP) (hw:St B w0 H w):
 CX B w0 392 [.int .i64 nodes,.slice AL l.length capL,.slice AP pre.length capP,.int .i64 to] w λv K=>v=.tuple #[.int .i64 s.1,.bool s.2]/\(-600000000000000<=s.1/\s.1<=3000000000)/\K=H:=by
 refine Ya Tryz.func392 Tryz.ntmps392 rfl rfl hw ?_
 have hg0:pre[0]? =some (YaZ pre):=XR (by omega)
 have hg1:pre[((pre.length:Int)-1).toNat]? =some (YhT pre):=by
  rw[show((pre.length:Int)-1).toNat=pre.length-1 by omega];exact XR (by omega)
 have hfr:=hpi _ (Tc hg0)
 have har:=hpi _ (Tc hg1)
 obtain⟨fr,hfe⟩:∃x,YaZ pre=x:=⟨_,rfl⟩
 obtain⟨at_,hae⟩:∃x,YhT pre=x:=⟨_,rfl⟩
 rw[hfe]at hg0 hfr
 rw[hae]at hg1 har
 iterate 7 (first|refine zga ?_|fail)
 refine XD (many H::[]) (λw hw=>hw.perm (.closeT _)) ?_
 have hpT:Rd B w0 [many H] AP (pre.flatMap numF):=hp.manyT TB
 refine ZH (λ(z:Pz)=>[(11,.pointer (some ⟨z.ga,0,none⟩)),(10,.pointer (some ⟨z.gf,0,none⟩)),(0,.int .i64 nodes),(1,.slice AL l.length capL),(2,.slice AP pre.length capP),(3,.int .i64 to)]) (λz=>blk z.gf (.cells #[.int .i64 fr] 3 (0,0))::blk z.ga (.cells #[.int .i64 at_] 3 (0,0))::H) ?_ ?_
 ·intro K hK
  apply JH (.n1 0 (.n1 1 (.n1 2 (.n1 3 (.n1 4 (.n1 5 (.n1 6 (.n1 7 (.n1 8 (.n2 9 (.n1 10 (.n1 11 .done)) 10 (.n1 9 (.n1 11 .done)))))))))))) [12] [true]
  kernel_rfl
  kernel_rfl
  exact zy
  (simp only[Yd,nthO];rfl)
  repeat'(first|(apply Yj;try exact zl)|apply(zs91 ?_ ?_)|(apply Y7;try exact zl)|refine zgd ?_|(refine zgh ?_;intro _)|fail)
  ·rename_i gf ga
   refine hK ⟨ga,gf⟩ _ _ ?_ ?_
   ·exact zc1
   ·dsimp only
    intro w hw
    have h5:St B w0 (blk gf (.cells #[.int .i64 fr] 3 (0,0))::blk ga (.cells #[.int .i64 at_] 3 (0,0))::[many H]) w:=by
     revert w
     exact zc0
    exact h5.perm (.cons _ (.cons _ (.openT _)))
  ·rename_i ga gf
   refine hK ⟨ga,gf⟩ _ _ ?_ ?_
   ·exact zc1
   ·dsimp only
    intro w hw
    have h5:St B w0 (blk gf (.cells #[.int .i64 fr] 3 (0,0))::blk ga (.cells #[.int .i64 at_] 3 (0,0))::[many H]) w:=by
     revert w
     exact zc0
    exact h5.perm (.cons _ (.cons _ (.openT _)))
 rintro⟨ga,gf⟩
 dsimp only
 have hdl:(pre.drop 1).length=pre.length-1:=TZ
 repeat'(first|(apply YbX;exact rfl;intro gm)|(apply XV T (n':=(pre.drop 1).length);(iterate 4 exact rfl);omega;(rw[hdl];rfl))|refine zgd ?_|(refine zgh ?_;intro _)|fail)
 rename_i gc
 refine Yg (λ(z:Qz)=>[(34,.int .i64 z.k),(33,.int .i64 (pre.drop 1).length),(32,.slice (subA AP 1 capP 1) (pre.drop 1).length (capP-1)),(12,.pointer (some ⟨gc,0,none⟩)),(11,.pointer (some ⟨ga,0,none⟩)),(10,.pointer (some ⟨gf,0,none⟩)),(0,.int .i64 nodes),(1,.slice AL l.length capL),(2,.slice AP pre.length capP),(3,.int .i64 to)]) (λz=>blk gc (.cells #[.map (some gm)] 452 (0,0))::blk gm (mobj z.es z.c)::blk gf (.cells #[.int .i64 fr] 3 (0,0))::blk ga (.cells #[.int .i64 at_] 3 (0,0))::H)
  (λz=>z.k<=(pre.drop 1).length/\MB z.es z.f/\MOk z.es z.c/\∀v,z.f v=decide (v∈(pre.drop 1).take z.k)) (λz=>(pre.drop 1).length-z.k) ⟨0,[],0,λ_=>false⟩ ⟨Ti _,MB.nil,MOk.nil,λv=>by simp⟩ ?_ zc0 ?_
 ·exact zc1
 rintro⟨k,es,c,f⟩ ⟨hk,hmb,hmk,hf⟩ K hK
 simp only at hk hmb hmk hf⊢
 have hp1:∀{X1 X2 X3 X4:HP},Rd B w0 (X1::X2::X3::X4::H) (subA AP 1 capP 1) ((pre.drop 1).flatMap numF):=Ys1 1 (hp.cons.cons.cons.cons) hcap
 by_cases hlt:k<(pre.drop 1).length
 ·obtain⟨v,hv⟩:∃v,(pre.drop 1)[k]? =some v:=⟨_,Ta hlt⟩
  have hp1':=@hp1
  repeat'(first|(apply Zi T (f:=numF) (l:=pre.drop 1);exact rfl;exact rfl;exact hp1;exact rfl;exactλ_=>rfl;exact rfl;exact rfl;omega)|(apply ZW T (f:=numF) (l:=pre.drop 1);exact rfl;exact hp1;exact hv;exactλ_=>rfl;(iterate 4 exact rfl))|(apply YkH (kt:=3) (et:=4);(iterate 3 exact rfl);kernel_rfl;(intro _ _;exact zd);exact hmb;exact hmk;intro es2 c2 m2 o2 _ _)|refine zgc ?_|(refine zge ?_ ?_<;>intro _<;>try exact zo)|fail)
  apply hK ⟨k+1,es2,c2,λu=>decide (u=v)||f u⟩
  ·refine⟨by exact zc34,m2,o2,λu=>?_⟩
   simp only
   rw[hf u,TF,hv]
   by_cases h1:u=v<;>by_cases h2:u∈(pre.drop 1).take k<;>simp[h1]
  ·exact zc34
  ·exact zc1
  exact zc20
 obtain rfl:k=(pre.drop 1).length:=by omega
 clear hK
 rw[TM]at hf
 have hmb2:MB es (W5 pre):=hmb.ext hf
 clear hmb hf hp1
 unfold YlL at hrun
 rw[hfe,hae]at hrun
 by_cases hat:at_=to
 ·rw[Tn hat]at hrun
  have hin:to∈pre.drop 1:=by
   have h1:(pre.drop 1)[pre.length-2]? =some to:=by
    rw[RL,show 1+(pre.length-2)=((pre.length:Int)-1).toNat by omega,<-hat];exact hg1
   exact Tc h1
  have hsto:W5 pre to=true:=Td hin
  have hll:(WV l pre to).length<=l.length:=by
   unfold WV
   split
   ·exact YlX
   ·exact TI _
  have hla:QL l pre to=(WV l pre to).filter λa=>!(OW pre to a.1||OW pre to a.2.1):=rfl
  have hAl:=Ynd l pre to
  have hAok:ArcsOk nodes (QL l pre to):=ArcsOk.sub hok λa h=>Yne h
  have hnn:Y5=1073741824:=rfl
  by_cases h2:pre.length=2
  ·skip
   repeat'(first|(apply YkF (kt:=3) (et:=4);exact rfl;exact rfl;kernel_rfl;(intro _;exact zd);exact hmb2;exact hmk;exact hsto;intro es3 mb3 mk3)|refine zgc ?_|(refine zgf ?_ ?_<;>intro _<;>try exact zo)|fail)
   have hrl:Rd B w0 (blk gc (.cells #[.map (some gm)] 452 (0,0))::blk gm (mobj es3 c)::blk gf (.cells #[.int .i64 fr] 3 (0,0))::blk ga (.cells #[.int .i64 at_] 3 (0,0))::H) AL (l.flatMap lkF):=hr.cons.cons.cons.cons
   have hlst:WV l pre to=WW fr to l:=by unfold WV;rw[Tn h2,hfe]
   apply Yf _ YsN
   exact za
   exact rfl
   exactλ_ hw=>(Yaa l fr to (by omega) hrl (hw))
   rintro _ _ ⟨A1,cap1,rfl,rfl⟩
   rw[<-hlst]
   refine zX4 ?_
   apply Yf _ YeE
   exact za
   exact rfl
   exactλ_ hw=>(XP (WV l pre to) (by omega) (.sl (by(focus exact zc2))) (hw))
   rintro _ _ ⟨A2,cap2,rfl,rfl⟩
   refine YdJ ?_
   apply Yf _ YeD
   exact za
   exact rfl
   exactλ_ hw=>(XQ (λa=>OW pre to a.1||OW pre to a.2.1) (WV l pre to) 422 [.pointer (some ⟨gc,0,none⟩)] YsR (by omega) (λa _ X w hw=>Ydd gm gc c es3 (OW pre to) a mb3 (TS _ (by(focus exact zc2))) (TS _ (by(focus exact zc2))) hw) (hw))
   rintro _ _ ⟨rfl,rfl⟩
   rw[<-hla]
   refine zX4 ?_
   apply Yf _ Yo3
   exact za
   exact rfl
   exactλ_ hw=>(Vw nodes (QL l pre to) to hn.2 (by omega) hAok hto (.sl (by(focus exact zc2))) (hw))
   rintro _ _ ⟨gF,far,rfl,hd,rfl⟩
   rw[Qy hAok hd]at hrun
   obtain rfl:=Tv hrun
   have hflen:=hd.len
   have hgf:=XB (far:=far) (i:=fr) (by omega)
   have hrf:=hd.range fr hfr.1 hfr.2
   rw[hnn]at hrf
   rw[hnn]
   apply Xy (ints (some ⟨gF,0,none⟩) nodes far::blk gf (.cells #[.int .i64 fr] 3 (0,0))::H)
   ·exact zc0
   iterate 4 (first|refine zga ?_|fail)
   by_cases hlt:Yk far fr<1073741824
   ·rw[Td hlt]
    exact zc5
   ·rw[Tj hlt]
    exact zc5
  ·skip
   repeat'(first|(apply YkF (kt:=3) (et:=4);exact rfl;exact rfl;kernel_rfl;(intro _;exact zd);exact hmb2;exact hmk;exact hsto;intro es3 mb3 mk3)|refine zgc ?_|(refine zgf ?_ ?_<;>intro _<;>try exact zo)|fail)
   have hrl:Rd B w0 (blk gc (.cells #[.map (some gm)] 452 (0,0))::blk gm (mobj es3 c)::blk gf (.cells #[.int .i64 fr] 3 (0,0))::blk ga (.cells #[.int .i64 at_] 3 (0,0))::H) AL (l.flatMap lkF):=hr.cons.cons.cons.cons
   have hlst:WV l pre to=l:=by unfold WV;rw[Tf h2]
   rw[<-hlst]at hrl⊢
   apply Yf _ YeE
   exact za
   exact rfl
   exactλ_ hw=>(XP (WV l pre to) (by omega) hrl (hw))
   rintro _ _ ⟨A2,cap2,rfl,rfl⟩
   refine YdJ ?_
   apply Yf _ YeD
   exact za
   exact rfl
   exactλ_ hw=>(XQ (λa=>OW pre to a.1||OW pre to a.2.1) (WV l pre to) 422 [.pointer (some ⟨gc,0,none⟩)] YsR (by omega) (λa _ X w hw=>Ydd gm gc c es3 (OW pre to) a mb3 (TS _ (by(focus exact zc2))) (TS _ (by(focus exact zc2))) hw) (hw))
   rintro _ _ ⟨rfl,rfl⟩
   rw[<-hla]
   refine zX4 ?_
   apply Yf _ Yo3
   exact za
   exact rfl
   exactλ_ hw=>(Vw nodes (QL l pre to) to hn.2 (by omega) hAok hto (.sl (by(focus exact zc2))) (hw))
   rintro _ _ ⟨gF,far,rfl,hd,rfl⟩
   rw[Qy hAok hd]at hrun
   obtain rfl:=Tv hrun
   have hflen:=hd.len
   have hgf:=XB (far:=far) (i:=fr) (by omega)
   have hrf:=hd.range fr hfr.1 hfr.2
   rw[hnn]at hrf
   rw[hnn]
   apply Xy (ints (some ⟨gF,0,none⟩) nodes far::blk gf (.cells #[.int .i64 fr] 3 (0,0))::H)
   ·exact zc0
   iterate 4 (first|refine zga ?_|fail)
   by_cases hlt:Yk far fr<1073741824
   ·rw[Td hlt]
    exact zc5
   ·rw[Tj hlt]
    exact zc5
 ·rw[Tf hat]at hrun
  have hbad:∀a,badB pre a=(W5 pre a.2.1||(W5 pre a.1&&decide (a.1≠at_))||decide (a.2.1=fr)):=λa=>by unfold badB;rw[hae,hfe]
  have hBl:=Ynf l pre
  have hBok:ArcsOk nodes (YeS l pre):=ArcsOk.sub hok λa h=>(RA.1 h).1
  have hlb:YeS l pre=l.filter λa=>!badB pre a:=rfl
  cases hbo:YaM fuel nodes (YeS l pre) at_ fr to (W5 pre)with
  |none=>rw[hbo]at hrun;cases hrun
  |some r=>
   rw[hbo]at hrun
   obtain rfl:=Tv hrun
   have hrl:Rd B w0 (blk gc (.cells #[.map (some gm)] 452 (0,0))::blk gm (mobj es c)::blk gf (.cells #[.int .i64 fr] 3 (0,0))::blk ga (.cells #[.int .i64 at_] 3 (0,0))::H) AL (l.flatMap lkF):=hr.cons.cons.cons.cons
   refine Yab ?_<;>intros
   apply Yf _ YeE
   exact za
   exact rfl
   exactλ_ hw=>(XP l (by omega) hrl (hw))
   rintro _ _ ⟨A2,cap2,rfl,rfl⟩
   refine YdJ ?_
   apply Yf _ YeD
   exact za
   exact rfl
   exactλ_ hw=>(XQ (badB pre) l 423 [.pointer (some ⟨gc,0,none⟩),.pointer (some ⟨ga,0,none⟩),.pointer (some ⟨gf,0,none⟩)] YvE (by omega) (λa _ X w hw=>by rw[hbad a];exact Yka gm gc ga gf c es (W5 pre) fr at_ a hmb2 (TS _ (by(focus exact zc2))) (TS _ (by(focus exact zc2))) (TS _ (by(focus exact zc2))) (TS _ (by(focus exact zc2))) hw) (hw))
   rintro _ _ ⟨rfl,rfl⟩
   rw[<-hlb]
   refine zX4 ?_
   apply Yf _ YsM
   exact za
   exact rfl
   exactλ_ hw=>(Yen nodes (YeS l pre) at_ fr to (some gm) (W5 pre) fuel r (by omega) (by omega) hBok har hfr hto hfu hbo ⟨es,c,by(focus exact zc2),hmb2,hmk⟩ (.sl (by(focus exact zc2))) (hw))
   rintro _ _ ⟨g,A,cap,rfl,⟨_,_,b3,b4⟩,rfl⟩
   refine zX11 ?_
   apply Yh H
   ·unfold gpcs
    exactλw hw=>hw.tail.tail.tail.tail.tail.tail.tail
   apply YN;(iterate 3 exact rfl)
   exact⟨rfl,⟨b3,b4⟩,rfl⟩
end Go.Proofs.YtjlgijpmnfabcaaGreatDoor
namespace Go.Eng
open Go.RowKit
variable {B cap:Nat}{w0:World}{H:List HP}{A:Option Addr}
theorem UT{P:Program}{n:Shp}{ops:Array Oper}{Q:Exit->Act->World->Prop}{env:Env}{l:List Oper}{e size k:Nat}{xs:List Value}(hm:sl e size A k cap xs∈H)(h:k<=cap->VL P none n B w0 ops Q l env H):VL P none n B w0 ops Q l env H:=by
 refine⟨λa ha w hw=>?_⟩
 have hown:=hw.sl hm
 have hkc:k<=cap:=zc46
 exact(h hkc).run a ha w hw
end Go.Eng
namespace Go.Proofs.YtjlgijpmnfabcaaGreatDoor
open Go.RowKit Go.Eng Go.Nw Go.Rt
section
variable (fuel nodes:Nat) (L:List Lk) (to total:Int)
noncomputable def Yie(r:List Int)(spent at_:Int)(st:Int×Int)(a:Lk):Option (Int×Int):=
 if a.1≠at_\/a.2.1∈r\/(0<=st.1/\st.1<a.2.1)then some st else
  match YlL fuel nodes L (r++[a.2.1]) to with
  |none=>none
  |some s=>if s.2=true/\spent+a.2.2+s.1=total then some (a.2.1,a.2.2)else some st
noncomputable def WY(r:List Int)(spent at_:Int):List Lk->Int×Int->Option (Int×Int)
 |[],st=>some st
 |a::m,st=>match Yie fuel nodes L to total r spent at_ st a with
  |none=>none
  |some st2=>WY r spent at_ m st2
noncomputable def WX:Nat->List Int->Int->Int->Option (List Int)
 |0,_,_,_=>none
 |k+1,r,spent,at_=>if at_=to then some r else
  match WY fuel nodes L to total r spent at_ L (-1,0)with
  |none=>none
  |some st=>if st.1<0 then none else WX k (r++[st.1]) (spent+st.2) st.1
end
def midP(r:List Int):List Int:=(r.drop 1).take (r.length-2)
def UE(l:List Lk)(s to:Int)(r:List Int):List Lk:=(if r.length=2 then WW s to l else l).filter λa=>!(decide (a.1∈midP r)||decide (a.2.1∈midP r))
noncomputable def Jk(nodes:Nat)(l:List Lk)(s to:Int)(r:List Int):List Int:=wayF (UE l s to r) (J2 nodes (UE l s to r) to) s to
noncomputable def Ye3(fuel nodes:Nat)(L:List Lk)(s to:Int):Option (Option (List Int×List Int)):=
 match YaM fuel nodes L s s to (λ_=>false)with
 |none=>none
 |some r=>if r.2.1=false then some none else
  match WX fuel nodes L to r.1 400 [s] 0 s with
  |none=>none
  |some p=>some (some (p,Jk nodes L s to p))
theorem Ynh{l:List Lk}{s to:Int}{r:List Int}{a:Lk}(h:a∈UE l s to r):a∈l:=Ytr
theorem Yng(l:List Lk)(s to:Int)(r:List Int):(UE l s to r).length<=l.length:=by
 unfold UE
 exact Ytq
variable {A:Option Addr}{cap B:Nat}{w0:World}{H:List HP}
theorem Yc5(gi:Nat)(m:List Int)(a:Lk)(hlen:m.length<=1000){w:World}(hi:blk gi (.cells #[.slice A m.length cap] 104 (0,0))∈H)(hr:Rd B w0 H A (m.flatMap numF))(hw:St B w0 H w):
 CX B w0 396 [arcV a,.pointer (some ⟨gi,0,none⟩)] w λv K=>v=.bool (decide (a.1∈m)||decide (a.2.1∈m))/\K=H:=by
 refine Ya Tryz.func396 Tryz.ntmps396 rfl rfl hw ?_
 unfold arcV
 have h1:=λ{X:HP}{w:World}(hw:St B w0 (X::H) w)=>Je m a.1 (by omega) (cap:=cap) (hr.cons (X:=X)) hw
 have h2:=λ{X:HP}{w:World}(hw:St B w0 (X::H) w)=>Je m a.2.1 (by omega) (cap:=cap) (hr.cons (X:=X)) hw
 obtain⟨b1,hb1⟩:∃b,decide (a.1∈m)=b:=⟨_,rfl⟩
 obtain⟨b2,hb2⟩:∃b,decide (a.2.1∈m)=b:=⟨_,rfl⟩
 rw[hb1]at h1
 rw[hb2]at h2
 rw[hb1,hb2]
 cases b1
 ·skip
  refine zX70 ?_<;>intros
  first|apply Yb V1|apply Yc V1
  exact za
  exact rfl
  exactλ_ hw=>(h1 hw)
  refine zX11 ?_
  first|apply Yb V1|apply Yc V1
  exact za
  exact rfl
  exactλ_ hw=>(h2 hw)
  refine zX11 ?_
  apply Ym;exact zc13
 ·skip
  refine zX70 ?_<;>intros
  first|apply Yb V1|apply Yc V1
  exact za
  exact rfl
  exactλ_ hw=>(h1 hw)
  refine zX11 ?_
  apply Ym;exact zc13
structure Oz where
 k:Nat
 r:List Int
 A:Option Addr
 cap:Nat
 spent:Int
 at_:Int
structure OzOk(fuel nodes:Nat)(L:List Lk)(s to total:Int)(p:List Int)(z:Oz):Prop where
 run:WX fuel nodes L to total z.k z.r z.spent z.at_=some p
 len:1<=z.r.length/\z.r.length+z.k<=401
 mem:∀v∈z.r,0<=v/\v<nodes
 sp:0<=z.spent/\z.spent<=1000000*(z.r.length:Int)
 one:z.r.length=1->z.at_=s
structure Iz where
 j:Nat
 best:Int
 price:Int
theorem Ypo(A:Option Addr)(cap:Nat)(r:List Int)(x:Int):sl 3 1 A (r.length+1) cap (r.flatMap numF++#[Value.int .i64 x].toList)=ints A cap (r++[x]):=by simp_all [ints,numF]
theorem Yns(n:NetM)(s to:Int)(nodes fuel:Nat)(res:Option (List Int×List Int))(hck:Yo n.net=0)(hnn:n.nodes=nodes)(hs:0<=s/\s<nodes)(ht:0<=to/\to<nodes)(hst:s≠to)(hfu:fuel<=100000)(hrun:Ye3 fuel nodes (JP n.net) s to=some res)
 {B:Nat}{w0:World}{H:List HP}{w:World}(hin:n.In B w0 H) (hw:St B w0 H w):
 CX B w0 340 [n.val,.int .i64 s,.int .i64 to] w λv K=>match res with
  |none=>v=.slice none 0 0/\K=H
  |some pq=>∃g A1 c1 A2 c2,v=.slice (some ⟨g,0,none⟩) 2 2/\(2<=pq.1.length/\pq.1.length<=401/\pq.2.length<=1073741824)/\WayV A2 pq.2/\K=sl 104 1 (some ⟨g,0,none⟩) 2 2 ([⟨A1,c1,pq.1⟩,⟨A2,c2,pq.2⟩].flatMap rowF)::ints A1 c1 pq.1::ints A2 c2 pq.2::H:=by
 have hok:=YK hck
 have hn0:=hok.n0
 have hn1:=hok.n1
 have hnn2:n.net.nodes=n.nodes:=rfl
 have hal:(JP n.net).length<=128:=TY (UY _ _) hok.k0
 have hLo:=YkM hok (nodes:=nodes) hnn
 obtain⟨L,hL⟩:∃L,JP n.net=L:=⟨_,rfl⟩
 have hspecA:=λ{H:List HP}{w:World}(hin:n.In B w0 H) (hw:St B w0 H w)=>Yei n hin hck hw
 rw[hL]at hal hLo hrun hspecA
 have hno:Y5=1073741824:=rfl
 refine Ya Tryz.func340 Tryz.ntmps340 rfl rfl hw ?_
 (apply Xs;apply YX;apply YT;exact rfl;exact rfl;intro g)
 refine zX8 ?_
 apply Yf _ YsE
 exact za
 exact rfl
 exactλ_ hw=>(hspecA hin.cons (hw))
 rintro _ _ ⟨A,cap,rfl,rfl⟩
 unfold Ye3 at hrun
 cases hbo:YaM fuel nodes L s s to (λ_=>false)with
 |none=>rw[hbo]at hrun;cases hrun
 |some r0=>
  rw[hbo]at hrun
  obtain⟨total,ok,es0⟩:=r0
  dsimp only at hrun
  have hboth:=λ{H:List HP}{w:World}(hr:Rd B w0 H A (L.flatMap lkF)) (hw:St B w0 H w)=>Yen nodes L s s to none (λ_=>false) fuel (total,ok,es0) (capL:=cap) (by omega) (by omega) hLo hs hs ht hfu hbo (λ_=>rfl) hr hw
  rw[<-hnn]at hboth
  refine zX8 ?_
  apply Yf _ YsM
  exact za
  exact rfl
  exactλ_ hw=>(hboth (.sl (by(focus exact zc2))) (hw))
  rintro _ _ ⟨g0,A0,cap0,rfl,⟨_,_,b3,b4⟩,rfl⟩
  dsimp only at b3 b4⊢
  apply Xy (Jc A cap L::netB g n::H)
  ·unfold gpcs
   exactλw hw=>hw.tail.tail
  cases ok with
  |false=>
   rw[Tn rfl]at hrun
   obtain rfl:=Tv hrun
   refine zX2 ?_
   apply Yh H
   ·exactλw hw=>hw.tail.tail
   apply Ye;exact rfl;exact rfl
   exact Ybp
  |true=>
   rw[Tf (by decide)]at hrun
   cases hlo:WX fuel nodes L to total 400 [s] 0 s with
   |none=>rw[hlo]at hrun;cases hrun
   |some p=>
    rw[hlo]at hrun
    obtain rfl:=Tv hrun
    dsimp only
    refine zX25 ?_<;>intros
    rename_i g1
    refine Yg (λ(z:Oz)=>[(13,.int .i64 z.at_),(12,.int .i64 z.spent),(11,.slice z.A z.r.length z.cap),(8,.int .i64 total),(7,.slice A L.length cap),(3,.pointer (some ⟨g,0,none⟩)),(1,.int .i64 s),(2,.int .i64 to)]) (λz=>ints z.A z.cap z.r::Jc A cap L::netB g n::H) (λz=>OzOk fuel nodes L s to total p z) (λz=>z.k) ⟨400,[s],some ⟨g1,0,none⟩,1,0,s⟩ ⟨hlo,by simp,λv hv=>by obtain rfl:=TX.1 hv;exact hs,by simp,λ_=>rfl⟩ ?_ (λw hw=>hw.blk_sl (cs:=numF s) (len:=1) (size:=1) rfl (by omega)) ?_
    ·exact zc1
    rintro⟨k,r,Ar,capr,spent,at_⟩ ⟨hrun2,⟨hl1,hl2⟩,hmem,⟨hsp0,hsp1⟩,hone⟩ K hK
    simp only at hrun2 hl1 hl2 hmem hsp0 hsp1 hone⊢
    cases k with
    |zero=>cases hrun2
    |succ k=>
     unfold WX at hrun2
     by_cases hat:at_=to
     ·rw[Tn hat]at hrun2
      obtain rfl:=Tv hrun2
      have hr2:2<=r.length:=by
       rcases SU 1 r.length with h|h
       ·exact h
       ·have:=hone (by omega)
        exact absurd (this.symm.trans hat) hst
      clear hK
      have hml:(midP r).length=r.length-2:=by unfold midP;rw[TT,TZ];omega
      have hPl:=Yng L s to r
      have hPok:ArcsOk nodes (UE L s to r):=ArcsOk.sub hLo λa h=>Ynh h
      obtain⟨LL,hLL⟩:∃LL,(if r.length=2 then WW s to L else L)=LL:=⟨_,rfl⟩
      have hLLl:LL.length<=L.length:=by
       rw[<-hLL]
       split
       ·exact YlX
       ·exact TI _
      have hlp:UE L s to r=LL.filter λa=>!(decide (a.1∈midP r)||decide (a.2.1∈midP r)):=by rw[<-hLL];rfl
      have hfirst:=λ{A:Option Addr}{cap:Nat}{H:List HP}{w:World}(hr:Rd B w0 H A ((UE L s to r).flatMap lkF)) (hw:St B w0 H w)=>Ycy nodes (UE L s to r) s to (capL:=cap) (by omega) (by omega) hPok hs ht hr hw
      rw[<-hnn]at hfirst
      by_cases h2:r.length=2
      ·skip
       rw[Tn h2]at hLL
       refine Yab ?_<;>intros
       apply Yf _ YsN
       exact za
       exact rfl
       exactλ_ hw=>(Yaa L s to (by omega) (.sl (by(focus exact zc2))) (hw))
       rintro _ _ ⟨A1,cap1,rfl,rfl⟩
       rw[hLL]
       refine zX2 ?_
       refine UT (e:=3) (size:=1) (k:=r.length) (cap:=capr) (A:=Ar) (xs:=r.flatMap numF) (by(focus exact zc2)) λhcapr=>?_
       apply WD T (n':=(midP r).length);(iterate 5 exact rfl);omega;omega
       rw[Int.toNat_one]
       refine zX25 ?_<;>intros
       rename_i gi
       have hmid:∀{HH:List HP},Rd B w0 HH Ar (r.flatMap numF)->Rd B w0 HH (subA Ar 1 capr 1) ((midP r).flatMap numF):=λh=>Rd.sub (f:=numF) (q:=1) (o:=1) (k:=r.length-2) (λ_=>rfl) h hcapr
       apply Yf _ YeE
       exact za
       exact rfl
       exactλ_ hw=>(XP LL (by omega) (.sl (by(focus exact zc2))) (hw))
       rintro _ _ ⟨A2,cap2,rfl,rfl⟩
       refine YdJ ?_
       apply Yf _ YeD
       exact za
       exact rfl
       exactλ_ hw=>(XQ (λa=>decide (a.1∈midP r)||decide (a.2.1∈midP r)) LL 396 [.pointer (some ⟨gi,0,none⟩)] YsO (by omega) (λa _ X w hw=>Yc5 gi (midP r) a (by omega) (TS _ (by(focus exact zc2))) (hmid (.sl (TS _ (by(focus exact zc2))))) hw) (hw))
       rintro _ _ ⟨rfl,rfl⟩
       rw[<-hlp]
       refine zX8 ?_
       apply Yf _ Yo2
       exact za
       exact rfl
       exactλ_ hw=>(hfirst (.sl (by(focus exact zc2))) (hw))
       rintro _ _ ⟨A9,cap9,rfl,hway,hdl,hdd,rfl⟩
       have hop:wayF (UE L s to r) (J2 nodes (UE L s to r) to) s to=Jk nodes L s to r:=rfl
       rw[hop]at hway⊢
       have hq:(Jk nodes L s to r).length<=1073741824:=YbM _ _ _ _
       refine zX15 ?_<;>intros
       rename_i gL
       apply Yh (sl 104 1 (some ⟨gL,0,none⟩) 2 2 ([⟨Ar,capr,r⟩,⟨A9,cap9,Jk nodes L s to r⟩].flatMap rowF)::ints Ar capr r::ints A9 cap9 (Jk nodes L s to r)::H)
       ·intro w hw
        have h5:St B w0 (blk gL (.cells #[.slice Ar r.length capr,.slice A9 (Jk nodes L s to r).length cap9] 104 (0,0))::ints Ar capr r::ints A9 cap9 (Jk nodes L s to r)::H) w:=by
         revert w
         exact zc0
        exact zc88
       apply Ye;exact rfl;exact rfl
       exact YtF
      ·skip
       rw[Tf h2]at hLL
       rw[hLL]
       refine zX24 ?_<;>intros
       refine UT (e:=3) (size:=1) (k:=r.length) (cap:=capr) (A:=Ar) (xs:=r.flatMap numF) (by(focus exact zc2)) λhcapr=>?_
       apply WD T (n':=(midP r).length);(iterate 5 exact rfl);omega;omega
       rw[Int.toNat_one]
       refine zX25 ?_<;>intros
       rename_i gi
       have hmid:∀{HH:List HP},Rd B w0 HH Ar (r.flatMap numF)->Rd B w0 HH (subA Ar 1 capr 1) ((midP r).flatMap numF):=λh=>Rd.sub (f:=numF) (q:=1) (o:=1) (k:=r.length-2) (λ_=>rfl) h hcapr
       apply Yf _ YeE
       exact za
       exact rfl
       exactλ_ hw=>(XP LL (by omega) (.sl (by(focus exact zc2))) (hw))
       rintro _ _ ⟨A2,cap2,rfl,rfl⟩
       refine YdJ ?_
       apply Yf _ YeD
       exact za
       exact rfl
       exactλ_ hw=>(XQ (λa=>decide (a.1∈midP r)||decide (a.2.1∈midP r)) LL 396 [.pointer (some ⟨gi,0,none⟩)] YsO (by omega) (λa _ X w hw=>Yc5 gi (midP r) a (by omega) (TS _ (by(focus exact zc2))) (hmid (.sl (TS _ (by(focus exact zc2))))) hw) (hw))
       rintro _ _ ⟨rfl,rfl⟩
       rw[<-hlp]
       refine zX8 ?_
       apply Yf _ Yo2
       exact za
       exact rfl
       exactλ_ hw=>(hfirst (.sl (by(focus exact zc2))) (hw))
       rintro _ _ ⟨A9,cap9,rfl,hway,hdl,hdd,rfl⟩
       have hop:wayF (UE L s to r) (J2 nodes (UE L s to r) to) s to=Jk nodes L s to r:=rfl
       rw[hop]at hway⊢
       have hq:(Jk nodes L s to r).length<=1073741824:=YbM _ _ _ _
       refine zX15 ?_<;>intros
       rename_i gL
       apply Yh (sl 104 1 (some ⟨gL,0,none⟩) 2 2 ([⟨Ar,capr,r⟩,⟨A9,cap9,Jk nodes L s to r⟩].flatMap rowF)::ints Ar capr r::ints A9 cap9 (Jk nodes L s to r)::H)
       ·intro w hw
        have h5:St B w0 (blk gL (.cells #[.slice Ar r.length capr,.slice A9 (Jk nodes L s to r).length cap9] 104 (0,0))::ints Ar capr r::ints A9 cap9 (Jk nodes L s to r)::H) w:=by
         revert w
         exact zc0
        exact zc88
       apply Ye;exact rfl;exact rfl
       rw[<-hLL]
       exact YtF
     ·rw[Tf hat]at hrun2
      cases hsc:WY fuel nodes L to total r spent at_ L (-1,0)with
      |none=>rw[hsc]at hrun2;cases hrun2
      |some bp=>
       rw[hsc]at hrun2
       obtain⟨bf,pf⟩:=bp
       dsimp only at hrun2
       refine zX3 ?_<;>intros
       refine Yg (λ(z:Iz)=>[(45,.int .i64 z.j),(44,.int .i64 L.length),(43,.slice A L.length cap),(15,.int .i64 z.price),(14,.int .i64 z.best),(13,.int .i64 at_),(12,.int .i64 spent),(11,.slice Ar r.length capr),(8,.int .i64 total),(7,.slice A L.length cap),(3,.pointer (some ⟨g,0,none⟩)),(1,.int .i64 s),(2,.int .i64 to)]) (λ_=>ints Ar capr r::Jc A cap L::netB g n::H) (λz=>z.j<=L.length/\WY fuel nodes L to total r spent at_ (L.drop z.j) (z.best,z.price)=some (bf,pf)/\(z.best= -1\/(0<=z.best/\z.best<nodes))/\(0<=z.price/\z.price<=1000000)) (λz=>L.length-z.j) ⟨0,-1,0⟩ ⟨Ti _,hsc,.inl rfl,by exact zc34⟩ ?_ (λw hw=>hw) ?_
       ·exact zc1
       rintro⟨j,best,price⟩ ⟨hj,hsc2,hbest,⟨hpr0,hpr1⟩⟩ K2 hK2
       simp only at hj hsc2 hbest hpr0 hpr1⊢
       by_cases hlt:j<L.length
       ·obtain⟨a,ha⟩:∃a,L[j]? =some a:=⟨_,Ta hlt⟩
        obtain⟨⟨a1,a2⟩,⟨a3,a4⟩,⟨a5,a6⟩⟩:=hLo a (Tc ha)
        have hdrop:L.drop j=a::L.drop (j+1):=Ytn
        rw[hdrop]at hsc2
        unfold WY Yie at hsc2
        have hcon:=λ{X:HP}{w:World}(hw:St B w0 (X::ints Ar capr r::Jc A cap L::netB g n::H) w)=>Je r a.2.1 (by omega) (cap:=capr) (.sl (TD _ TB)) hw
        by_cases h1:a.1=at_
        rotate_left
        ·rw[Tn (.inl h1)]at hsc2
         refine zX44 ?_<;>intros
         apply hK2 ⟨j+1,best,price⟩
         ·exact⟨by exact zc34,hsc2,hbest,hpr0,hpr1⟩
         ·exact zc34
         ·exact zc1
         ·exact zc57
        by_cases h2:a.2.1∈r
        ·rw[Tn (.inr (.inl h2))]at hsc2
         rw[Td h2]at hcon
         repeat'(first|((first|apply Yb V1|apply Yc V1);exact za;exact rfl;exactλ_ hw=>(hcon hw))|refine zgd ?_|(refine zge ?_ ?_<;>intro _<;>try exact zo)|(refine zgh ?_;intro _)|fail)
         apply hK2 ⟨j+1,best,price⟩
         ·exact⟨by exact zc34,hsc2,hbest,hpr0,hpr1⟩
         ·exact zc34
         ·exact zc1
         ·exact zc57
        rw[Tj h2]at hcon
        by_cases h3:0<=best/\best<a.2.1
        ·rw[Tn (.inr (.inr h3))]at hsc2
         repeat'(first|((first|apply Yb V1|apply Yc V1);exact za;exact rfl;exactλ_ hw=>(hcon hw))|refine zgd ?_|(refine zgf ?_ ?_<;>intro _<;>try exact zo)|(refine zgh ?_;intro _)|fail)
         apply hK2 ⟨j+1,best,price⟩
         ·exact⟨by exact zc34,hsc2,hbest,hpr0,hpr1⟩
         ·exact zc34
         ·exact zc1
         ·exact zc57
        rw[Tf (by rintro(h|h|h);exact h h1;exact h2 h;exact h3 h)]at hsc2
        cases hrs:YlL fuel nodes L (r++[a.2.1]) to with
        |none=>rw[hrs]at hsc2;cases hsc2
        |some s2=>
         rw[hrs]at hsc2
         obtain⟨sum,fine⟩:=s2
         dsimp only at hsc2
         have hlen1:(r++[a.2.1]).length=r.length+1:=by simp
         have hfl1:(r++[a.2.1]).flatMap numF=r.flatMap numF++#[Value.int .i64 a.2.1].toList:=by simp[List.flatMap_append,numF]
         have hrest:=λ{AP:Option Addr}{capP:Nat}{H:List HP}{w:World}(hr:Rd B w0 H A (L.flatMap lkF)) (hp:Rd B w0 H AP ((r++[a.2.1]).flatMap numF)) (hcap:(r++[a.2.1]).length<=capP) (hw:St B w0 H w)=>Yny nodes L (r++[a.2.1]) to fuel (sum,fine) (capL:=cap) (by omega) (by omega) hLo ⟨by omega,by omega⟩ (λv hv=>by
          rcases TU.1 hv with hv|hv
          ·exact hmem v hv
          ·obtain rfl:=TX.1 hv
           exact⟨a3,a4⟩) ht hfu hrs hr hp hcap hw
         rw[hlen1,hfl1,<-hnn]at hrest
         dsimp only at hrest
         repeat'(first|((first|apply Yb V1|apply Yc V1);exact za;exact rfl;exactλ_ hw=>(hcon hw))|refine zgd ?_|(refine zgf ?_ ?_<;>intro _<;>try exact zo)|(refine zgh ?_;intro _)|fail)
         all_goals(
          apply JH (.n1 0 (.n1 1 (.n1 2 (.n1 3 (.n1 5 (.n1 6 (.n1 9 (.n2 4 (.n1 7 (.n1 8 (.n1 10 (.n1 11 (.n1 12 (.n1 13 (.n1 14 (.n1 15 .done)))))))) 7 (.n1 4 (.n1 8 (.n1 10 (.n1 11 (.n1 12 (.n1 13 (.n1 14 (.n1 15 .done)))))))))))))))) [] [true,true,true,true]
          kernel_rfl
          kernel_rfl
          exact zy
          exact rfl
          repeat'(first|(apply Yj;try exact zl)|apply(zs91 ?_ ?_)|(apply Y7;try exact zl)|refine zgd ?_|(refine zgh ?_;intro _)|fail)
          all_goals(
           apply Yf _ YoZ
           exact za
           exact rfl
           exactλ_ hw=>(JY r (by omega) (.sl zm) (hw))
           rintro _ _ ⟨A5,cap5,rfl,rfl⟩
           repeat'(first|(apply Yj;try exact zl)|(apply Y7;try exact zl)|refine zgd ?_|(refine zgh ?_;intro _)|(refine zgi ?_;intro _ _)|fail)
           rename_i A6 cap6
           refine UT (e:=3) (size:=1) (k:=r.length+1) (cap:=cap6) (A:=A6) (xs:=r.flatMap numF++#[Value.int .i64 a.2.1].toList) zm λhcap=>?_
           apply Yf _ YvA
           exact za
           exact rfl
           exactλ_ hw=>(hrest (.sl zm) (.sl zm) hcap (hw))
           rintro _ _ ⟨rfl,⟨q1,q2⟩,rfl⟩
           by_cases hgo:fine=true/\spent+a.2.2+sum=total
           ·rw[Tn hgo]at hsc2
            obtain⟨rfl,heq⟩:=hgo
            repeat'(first|(apply Yj;try exact zl)|(apply Y7;try exact zl)|refine zgd ?_|(refine zgf ?_ ?_<;>intro _<;>try exact zo)|fail)
            apply hK2 ⟨j+1,a.2.1,a.2.2⟩
            ·exact⟨by simp only;omega,hsc2,.inr ⟨a3,a4⟩,by simp only;omega⟩
            ·simp only;omega
            ·exact zu
            ·exact zk
           ·rw[Tf hgo]at hsc2
            cases fine with
            |false=>
             repeat'(first|(apply Yj;try exact zl)|(apply Y7;try exact zl)|refine zgd ?_|fail)
             apply hK2 ⟨j+1,best,price⟩
             ·exact⟨by simp only;omega,hsc2,hbest,hpr0,hpr1⟩
             ·simp only;omega
             ·exact zu
             ·exact zk
            |true=>
             have hne:¬spent+a.2.2+sum=total:=λh=>hgo ⟨rfl,h⟩
             repeat'(first|(apply Yj;try exact zl)|(apply Y7;try exact zl)|refine zgd ?_|(refine zgf ?_ ?_<;>intro _<;>try exact zo)|fail)
             apply hK2 ⟨j+1,best,price⟩
             ·exact⟨by simp only;omega,hsc2,hbest,hpr0,hpr1⟩
             ·simp only;omega
             ·exact zu
             ·exact zk))
       ·obtain rfl:j=L.length:=by omega
        rw[R9]at hsc2
        obtain⟨rfl,rfl⟩:=Prod.mk.inj (Tv hsc2)
        clear hK2
        by_cases hneg:best<0
        ·rw[Tn hneg]at hrun2;cases hrun2
        rw[Tf hneg]at hrun2
        refine Yqx ?_<;>intros
        rename_i A3 cap3
        apply hK ⟨k,r++[best],A3,cap3,spent+price,best⟩
        ·refine⟨hrun2,?_,λv hv=>?_,?_,λh=>?_⟩
         ·exact YtS
         ·rcases TU.1 hv with hv|hv
          ·exact hmem v hv
          ·obtain rfl:=TX.1 hv
           omega
         ·exact YtS
         ·simp only[Tq,TO]at h;omega
        ·exact zc34
        ·dsimp only
         rw[Tq,TO];exact zc1
        ·dsimp only
         rw[<-Ypo]
         exact zc0
noncomputable def WA(fuel:Nat)(n:Net)(s t:Int):Option (Option (List Int×List Int)×Int):=
 if Z2 n s t≠0 then some (none,Z2 n s t)else
  match Ye3 fuel n.nodes.toNat (JP n) s t with
  |none=>none
  |some none=>some (none,17)
  |some (some pq)=>if 9<pq.1.length\/9<pq.2.length then some (none,21)else some (some pq,0)
theorem Yl5(n:NetM)(s to:Int)(fuel:Nat)(res:Option (List Int×List Int)×Int)(hfu:fuel<=100000)(hrun:WA fuel n.net s to=some res){B:Nat}{w0:World}{H:List HP}{w:World}(hin:n.In B w0 H)(hw:St B w0 H w):
 CX B w0 262 [n.val,.int .i64 s,.int .i64 to] w λv K=>match res.1 with
  |none=>v=.tuple #[.slice none 0 0,.int .i64 res.2]/\K=H
  |some pq=>∃g A1 c1 A2 c2,v=.tuple #[.slice (some ⟨g,0,none⟩) 2 2,.int .i64 res.2]/\(2<=pq.1.length/\pq.1.length<=9/\pq.2.length<=9)/\WayV A2 pq.2/\K=sl 104 1 (some ⟨g,0,none⟩) 2 2 ([⟨A1,c1,pq.1⟩,⟨A2,c2,pq.2⟩].flatMap rowF)::ints A1 c1 pq.1::ints A2 c2 pq.2::H:=by
 refine Ya Tryz.func262 Tryz.ntmps262 rfl rfl hw ?_
 (apply Xs;apply YX;apply YT;exact rfl;exact rfl;intro g)
 unfold WA at hrun
 by_cases he:Z2 n.net s to=0
 rotate_left
 ·rw[Tn he]at hrun
  obtain rfl:=Tv hrun
  repeat'(first|((first|apply Yb OK|apply Yc OK);exact za;exact rfl;exactλ_ hw=>(Vh n s to hin.cons hw))|refine zgb ?_|(refine zge ?_ ?_<;>intro _<;>try exact zo)|fail)
  (repeat apply Ym)
  apply YN;(iterate 3 exact rfl)
  simp_all
 rw[Tf (λh=>h he)]at hrun
 obtain⟨hck,⟨s0,s1⟩,⟨t0,t1⟩,hst⟩:=Ylp he
 have hen:=λ{H:List HP}{w:World}(hin:n.In B w0 H) (hw:St B w0 H w)=>Vh n s to hin hw
 rw[he]at hen
 have hok:=YK hck
 have hn0:=hok.n0
 have hn1:=hok.n1
 have hnn:((n.net.nodes.toNat:Nat):Int)=n.net.nodes:=by omega
 have hnn2:n.nodes=((n.net.nodes.toNat:Nat):Int):=by rw[hnn];rfl
 cases hpf:Ye3 fuel n.net.nodes.toNat (JP n.net) s to with
 |none=>simp_all
 |some o=>
  rw[hpf]at hrun
  have hp:=λ{H:List HP}{w:World}(hin:n.In B w0 H) (hw:St B w0 H w)=>Yns n s to n.net.nodes.toNat fuel o hck hnn2 ⟨s0,by omega⟩ ⟨t0,by omega⟩ hst hfu hpf hin hw
  cases o with
  |none=>
   obtain rfl:=Tv hrun
   refine Yqy ?_<;>intros
   apply Yf _ YsD
   exact za
   exact rfl
   exactλ_ hw=>(hp hin.cons (hw))
   rintro _ _ ⟨rfl,rfl⟩
   refine zX7 ?_
   apply Ym
   apply YN;(iterate 3 exact rfl)
   exact Ybp
  |some pq=>
   obtain⟨p,q⟩:=pq
   dsimp only at hrun
   refine Yqy ?_<;>intros
   apply Yf _ YsD
   exact za
   exact rfl
   exactλ_ hw=>(hp hin.cons (hw))
   rintro _ _ ⟨gL,A1,c1,A2,c2,rfl,⟨k1,k2,k3⟩,hway,rfl⟩
   dsimp only at k1 k2 k3 hway⊢
   refine zX7 ?_
   have hs1:=λ{H:List HP}{w:World}(hw:St B w0 H w)=>Wh p.length (A:=A1) (cap:=c1) (by omega) hw
   have hs2:=λ{H:List HP}{w:World}(hw:St B w0 H w)=>Wh q.length (A:=A2) (cap:=c2) (by omega) hw
   refine Yg (λ(k:Nat)=>[(28,.int .i64 k),(27,.int .i64 2),(26,.slice (some ⟨gL,0,none⟩) 2 2),(9,.slice (some ⟨gL,0,none⟩) 2 2)]) (λ_=>sl 104 1 (some ⟨gL,0,none⟩) 2 2 ([(⟨A1,c1,p⟩:RowM),⟨A2,c2,q⟩].flatMap rowF)::ints A1 c1 p::ints A2 c2 q::netB g n::H) (λk=>k<=2/\(1<=k->p.length<=9)/\(2<=k->q.length<=9)) (λk=>2-k) 0 ⟨by omega,by omega,by omega⟩ ?_ (λw hw=>hw) ?_
   ·exact zc1
   rintro k ⟨hk,hk1,hk2⟩ K hK
   obtain rfl|rfl|rfl:k=0\/k=1\/k=2:=by omega
   ·have hx0:[(⟨A1,c1,p⟩:RowM),⟨A2,c2,q⟩][0]? =some ⟨A1,c1,p⟩:=rfl
    by_cases h9:9<p.length
    ·rw[Tn h9]at hs1
     rw[Tn (.inl h9)]at hrun
     obtain rfl:=Tv hrun
     clear hK
     repeat'(first|(apply Zi T (f:=rowF) (l:=[(⟨A1,c1,p⟩:RowM),⟨A2,c2,q⟩]);exact rfl;exact rfl;exact .sl zm;exact rfl;exactλ_=>rfl;exact rfl;exact rfl;(simp only[T0,RB];omega))|(apply ZW T (f:=rowF) (l:=[(⟨A1,c1,p⟩:RowM),⟨A2,c2,q⟩]);exact rfl;exact .sl zm;exact hx0;exactλ_=>rfl;(iterate 4 exact rfl))|((first|apply Yb OL|apply Yc OL);exact za;exact rfl;exactλ_ hw=>(hs1 hw))|refine zgd ?_|(refine zge ?_ ?_<;>intro _<;>try exact zo)|fail)
     exact zc99
    ·rw[Tf h9]at hs1
     repeat'(first|(apply Zi T (f:=rowF) (l:=[(⟨A1,c1,p⟩:RowM),⟨A2,c2,q⟩]);exact rfl;exact rfl;exact .sl zm;exact rfl;exactλ_=>rfl;exact rfl;exact rfl;(simp only[T0,RB];omega))|(apply ZW T (f:=rowF) (l:=[(⟨A1,c1,p⟩:RowM),⟨A2,c2,q⟩]);exact rfl;exact .sl zm;exact hx0;exactλ_=>rfl;(iterate 4 exact rfl))|((first|apply Yb OL|apply Yc OL);exact za;exact rfl;exactλ_ hw=>(hs1 hw))|refine zgc ?_|(refine zge ?_ ?_<;>intro _<;>try exact zo)|fail)
     apply hK 1
     ·exact⟨by omega,λ_=>by omega,by omega⟩
     ·omega
     ·exact zc1
     exact zc20
   ·have hx1:[(⟨A1,c1,p⟩:RowM),⟨A2,c2,q⟩][1]? =some ⟨A2,c2,q⟩:=rfl
    by_cases h9:9<q.length
    ·rw[Tn h9]at hs2
     rw[Tn (.inr h9)]at hrun
     obtain rfl:=Tv hrun
     clear hK
     repeat'(first|(apply Zi T (f:=rowF) (l:=[(⟨A1,c1,p⟩:RowM),⟨A2,c2,q⟩]);exact rfl;exact rfl;exact .sl zm;exact rfl;exactλ_=>rfl;exact rfl;exact rfl;(simp only[T0,RB];omega))|(apply ZW T (f:=rowF) (l:=[(⟨A1,c1,p⟩:RowM),⟨A2,c2,q⟩]);exact rfl;exact .sl zm;exact hx1;exactλ_=>rfl;(iterate 4 exact rfl))|((first|apply Yb OL|apply Yc OL);exact za;exact rfl;exactλ_ hw=>(hs2 hw))|refine zgd ?_|(refine zge ?_ ?_<;>intro _<;>try exact zo)|fail)
     exact zc99
    ·rw[Tf h9]at hs2
     repeat'(first|(apply Zi T (f:=rowF) (l:=[(⟨A1,c1,p⟩:RowM),⟨A2,c2,q⟩]);exact rfl;exact rfl;exact .sl zm;exact rfl;exactλ_=>rfl;exact rfl;exact rfl;(simp only[T0,RB];omega))|(apply ZW T (f:=rowF) (l:=[(⟨A1,c1,p⟩:RowM),⟨A2,c2,q⟩]);exact rfl;exact .sl zm;exact hx1;exactλ_=>rfl;(iterate 4 exact rfl))|((first|apply Yb OL|apply Yc OL);exact za;exact rfl;exactλ_ hw=>(hs2 hw))|refine zgc ?_|(refine zge ?_ ?_<;>intro _<;>try exact zo)|fail)
     apply hK 2
     ·exact⟨by omega,λ_=>hk1 (by omega),λ_=>by omega⟩
     ·omega
     ·exact zc1
     exact zc20
   ·have h1:=hk1 (by omega)
    have h2:=hk2 (by omega)
    rw[Tf (by omega)]at hrun
    obtain rfl:=Tv hrun
    clear hK
    refine zX1 ?_<;>intros
    apply Yh (sl 104 1 (some ⟨gL,0,none⟩) 2 2 ([(⟨A1,c1,p⟩:RowM),⟨A2,c2,q⟩].flatMap rowF)::ints A1 c1 p::ints A2 c2 q::H)
    ·exact zc0
    apply YN;(iterate 3 exact rfl)
    exact⟨gL,A1,c1,A2,c2,rfl,⟨k1,h1,h2⟩,hway,rfl⟩
def YuY(n:Net)(u v:Int):Int:=YeV n u v+1
def rt(s t:Int)(ms:List Int):List Int:=s::(ms++[t])
structure IsRt(n:Net)(s t:Int)(ms:List Int):Prop where
 path:YuT (YZ n) n.nodes.toNat t s ms
 nd:(rt s t ms).Nodup
structure Two(n:Net)(s t:Int)(mp mq:List Int):Prop where
 p:IsRt n s t mp
 q:IsRt n s t mq
 ne:mp≠mq
 dis:∀x∈mp,x∉mq
theorem Two.symm{n:Net}{s t:Int}{mp mq:List Int}(h:Two n s t mp mq):Two n s t mq mp:=⟨h.q,h.p,Nz h.ne,λx hx hy=>h.dis x hy hx⟩
def key(n:Net)(s t:Int)(ms:List Int):Int:=keyG (YuY n) (rt s t ms)
theorem getD_some{l:List (List Int)}{i:Nat}{x:List Int}(h:l[i]? =some x):l.getD i []=x:=by
 rw[Tz,h];rfl
end Go.Proofs.YtjlgijpmnfabcaaGreatDoor
namespace Go.Eng
open Go.RowKit
section
variable {P:Program}{m:Mode}{n:Shp}{B d:Nat}{w0:World}{ops:Array Oper}{Q:Exit->Act->World->Prop}{rest:List Oper}{env:Env}{H:List HP}{ty:TypeId}{pos:String}{after:Array Edge}{x y:Operand}{k:IntKind}{a b:Int}{xt yt:TypeId}
variable {yk:IntKind}
theorem YgX(hx:evo env x=some (.int k a))(hy:evo env y=some (.int yk b))(hn:Nat.ble (d+1) n.k=true)(hb:0<=b/\b<=k.bits)(h:∀z,VL P m n B w0 ops Q rest ((d,.int k z)::env) H):VL P m n B w0 ops Q (⟨some d,.binOp .shl xt x y yt,ty,pos,after,none⟩::rest) env H:=Yon hx hy hn hb (h _)
theorem YbY(hx:evo env x=some (.int k a))(hy:evo env y=some (.int yk b))(hn:Nat.ble (d+1) n.k=true)(hb:0<=b/\b<=k.bits)(h:∀z,VL P m n B w0 ops Q rest ((d,.int k z)::env) H):VL P m n B w0 ops Q (⟨some d,.binOp .shr xt x y yt,ty,pos,after,none⟩::rest) env H:=Yoo hx hy hn hb (h _)
theorem YkG(hx:evo env x=some (.int k a))(hy:evo env y=some (.int k b))(hn:Nat.ble (d+1) n.k=true)(h:∀z,VL P m n B w0 ops Q rest ((d,.int k z)::env) H):VL P m n B w0 ops Q (⟨some d,.binOp .or xt x y yt,ty,pos,after,none⟩::rest) env H:=YuU hx hy hn (h _)
theorem Vt(hx:evo env x=some (.int k a))(hy:evo env y=some (.int k b))(hn:Nat.ble (d+1) n.k=true)(h:∀z,VL P m n B w0 ops Q rest ((d,.int k z)::env) H):VL P m n B w0 ops Q (⟨some d,.binOp .xor xt x y yt,ty,pos,after,none⟩::rest) env H:=You hx hy hn (h _)
theorem Vo(hx:evo env x=some (.int k a))(hy:evo env y=some (.int k b))(hn:Nat.ble (d+1) n.k=true)(h:∀z,VL P m n B w0 ops Q rest ((d,.int k z)::env) H):VL P m n B w0 ops Q (⟨some d,.binOp .add xt x y yt,ty,pos,after,none⟩::rest) env H:=YgH hx hy hn (h _)
theorem Yoe(hx:evo env x=some (.int k a))(hy:evo env y=some (.int k b))(hn:Nat.ble (d+1) n.k=true)(h:∀z,VL P m n B w0 ops Q rest ((d,.int k z)::env) H):VL P m n B w0 ops Q (⟨some d,.binOp .mul xt x y yt,ty,pos,after,none⟩::rest) env H:=YgP hx hy hn (h _)
theorem Yos{a b:Int}{xt yt:TypeId}(hx:evo env x=some (.int .u8 a))(hy:evo env y=some (.int .u8 b))(hn:Nat.ble (d+1) n.k=true)(hb:0<=a-b/\a-b<=255)(h:VL P m n B w0 ops Q rest ((d,.int .u8 (a-b))::env) H):VL P m n B w0 ops Q (⟨some d,.binOp .sub xt x y yt,ty,pos,after,none⟩::rest) env H:=
 YbZ hx hy hn (by
  have e:IntKind.u8.wrap (a-b)=a-b:=IntWalk.u8_in _ hb
  rw[e];exact h)
theorem Od(T:Tab P){src dst:TypeId}{j kd:IntKind}(hx:evo env x=some (.int k a))(hs:look T.ik src=some j)(ht:look T.ik dst=some kd)(hn:Nat.ble (d+1) n.k=true)(h:∀z,VL P m n B w0 ops Q rest ((d,.int kd z)::env) H):VL P m n B w0 ops Q (⟨some d,.convert src dst x,ty,pos,after,none⟩::rest) env H:=Qm T hx hs ht hn (h _)
end
end Go.Eng
namespace Go.Proofs.YtjlgijpmnfabcaaGreatDoor
open Go.RowKit Go.Eng
variable {B:Nat}{w0 w:World}{H:List HP}
theorem Ou(x k:Int)(hk:k= -16\/k= -12\/k= -8\/k= -7)(hw:St B w0 H w):
 CX B w0 359 [.int .u32 x,.int .i64 k] w λv K=>(∃z,v=.int .u32 z)/\K=H:=by
 refine Ya Tryz.func359 Tryz.ntmps359 rfl rfl hw ?_
 rcases hk with rfl|rfl|rfl|rfl
 all_goals(
  repeat'(first|(apply YgX;(iterate 3 exact rfl);decide;intro _)|(apply YbZ;(iterate 3 exact rfl))|(apply YbY;(iterate 3 exact rfl);decide;intro _)|(apply YkG;(iterate 3 exact rfl);intro _)|refine zgd ?_|fail)
  apply Ye;exact rfl;exact rfl;exact⟨⟨_,rfl⟩,rfl⟩)
def Nums(k:IntKind)(n:Nat)(v:Value):Prop:=∃l:List Int,l.length=n/\v=.agg (numA k l)
theorem YpB(l:List Int)(hl:l.length=4)(x y:Int)(hw:St B w0 H w):
 CX B w0 275 [.agg (numA .u32 l),.int .u32 x,.int .u32 y] w λv K=>Nums .u32 4 v/\K=H:=by
 refine Ya Tryz.func275 Tryz.ntmps275 rfl rfl hw ?_
 repeat'(first|(apply XF T;(iterate 4 exact rfl);omega)|(apply Zj T;exact rfl;exact zm;(rw[hl];decide);exact rfl;exact rfl;intro _)|(apply Vo;(iterate 3 exact rfl);intro _)|(apply Vt;(iterate 3 exact rfl);intro _)|refine zgd ?_|(refine zgh ?_;intro _)|fail)
 apply Yf _ Ylf
 exact za
 exact rfl
 exactλ_ hw=>(Ou _ _ (by decide) (hw))
 rintro _ _ ⟨⟨z1,rfl⟩,hK⟩
 rw[hK]
 repeat'(first|(apply Vo;(iterate 3 exact rfl);intro _)|(apply Vt;(iterate 3 exact rfl);intro _)|refine zga ?_|fail)
 apply Yf _ Ylf
 exact za
 exact rfl
 exactλ_ hw=>(Ou _ _ (by decide) (hw))
 rintro _ _ ⟨⟨z2,rfl⟩,hK⟩
 rw[hK]
 repeat'(first|(apply Vo;(iterate 3 exact rfl);intro _)|(apply Vt;(iterate 3 exact rfl);intro _)|refine zga ?_|fail)
 apply Yf _ Ylf
 exact za
 exact rfl
 exactλ_ hw=>(Ou _ _ (by decide) (hw))
 rintro _ _ ⟨⟨z3,rfl⟩,hK⟩
 rw[hK]
 repeat'(first|(apply Vo;(iterate 3 exact rfl);intro _)|(apply Vt;(iterate 3 exact rfl);intro _)|refine zga ?_|fail)
 apply Yf _ Ylf
 exact za
 exact rfl
 exactλ_ hw=>(Ou _ _ (by decide) (hw))
 rintro _ _ ⟨⟨z4,rfl⟩,hK⟩
 rw[hK]
 repeat'(first|refine zgd ?_|fail)
 apply Vu T (H2:=H);exact rfl;exact rfl;exact zm;exact rfl;exact rfl
 ·exact zk
 exact⟨⟨[_,_,_,_],rfl,rfl⟩,rfl⟩
theorem QI(hw:St B w0 H w):
 CX B w0 181 [] w λv K=>Nums .u32 8 v/\K=H:=by
 refine Ya Tryz.func181 Tryz.ntmps181 rfl rfl hw ?_
 repeat'(first|refine zgd ?_|(refine zgh ?_;intro _)|fail)
 apply Vu T (H2:=H);exact rfl;exact rfl;exact zm;exact rfl;exact rfl
 ·exact zk
 exact⟨⟨[_,_,_,_,_,_,_,_],rfl,rfl⟩,rfl⟩
theorem Ync(i:Int)(hi:0<=i/\i<8)(hw:St B w0 H w):
 CX B w0 274 [.int .i64 i] w λv K=>(∃l:List Int,l.length=4/\v=.agg (numA .i64 l)/\∀z∈l,0<=z/\z<16)/\K=H:=by
 refine Ya Tryz.func274 Tryz.ntmps274 rfl rfl hw ?_
 obtain rfl|rfl|rfl|rfl|rfl|rfl|rfl|rfl:i=0\/i=1\/i=2\/i=3\/i=4\/i=5\/i=6\/i=7:=by omega
 all_goals(
  repeat'(first|(apply YgM T;(iterate 5 exact rfl);omega)|refine zgd ?_|(refine zgh ?_;intro _)|fail)
  apply Vu T (H2:=H);exact rfl;exact rfl;exact zm;exact rfl;exact rfl
  ·exact zk
  exact⟨⟨[_,_,_,_],rfl,rfl,by decide⟩,rfl⟩)
def hexS(s:ByteArray):Bool:=s.data.toList.all λc=>decide ((48<=c/\c<=57)\/(97<=c/\c<=102))
theorem Ypi{s:ByteArray}(h:hexS s=true){i:Nat}{c:UInt8}(hc:s[i]? =some c):(48<=(c.toNat:Int)/\(c.toNat:Int)<=57)\/(97<=(c.toNat:Int)/\(c.toNat:Int)<=102):=by
 have hm:c∈s.data.toList:=by
  have h1:s.data[i]? =some c:=hc
  rw[<-SN]at h1
  exact Tc h1
 have h2:=Rm (TK.1 h c hm)
 simp only[UInt8.le_iff_toNat_le]at h2
 have e1:(48:UInt8).toNat=48:=rfl
 have e2:(57:UInt8).toNat=57:=rfl
 have e3:(97:UInt8).toNat=97:=rfl
 have e4:(102:UInt8).toNat=102:=rfl
 omega
theorem Yd7(r:Int)(hr:0<=r/\r<10)(hw:St B w0 H w):
 CX B w0 273 [.int .i64 r] w λv K=>(∃s:ByteArray,v=.string s/\s.size=16/\hexS s=true)/\K=H:=by
 refine Ya Tryz.func273 Tryz.ntmps273 rfl rfl hw ?_
 obtain rfl|rfl|rfl|rfl|rfl|rfl|rfl|rfl|rfl|rfl:r=0\/r=1\/r=2\/r=3\/r=4\/r=5\/r=6\/r=7\/r=8\/r=9:=by omega
 all_goals(
  repeat'(first|(apply YaI T;(iterate 5 exact rfl);omega;exact rfl)|refine zgd ?_|fail)
  apply Ye;exact rfl;exact rfl
  exact⟨⟨_,rfl,rfl,by decide⟩,rfl⟩)
theorem Yjn(c:Int)(hc:(48<=c/\c<=57)\/(97<=c/\c<=102))(hw:St B w0 H w):
 CX B w0 276 [.int .u8 c] w λv K=>(∃z,v=.int .i64 z/\0<=z/\z<16)/\K=H:=by
 refine Ya Tryz.func276 Tryz.ntmps276 rfl rfl hw ?_
 repeat'(first|(apply Yos;(iterate 3 exact rfl);omega)|(apply YbT T;(iterate 4 exact rfl);omega)|refine zgc ?_|(refine zgf ?_ ?_<;>intro _<;>try exact zo)|fail)
 all_goals(apply Ye;exact rfl;exact rfl;exact⟨⟨_,rfl,by omega,by omega⟩,rfl⟩)
def bytF(z:Int):List Value:=[.int .u8 z]
abbrev numB(g:Nat)(k:IntKind)(l:List Int)(t:TypeId):HP:=blk g (.cells (numA k l) t (0,0))
variable {B:Nat}{w0 w:World}{H:List HP}
theorem YdG(bs:List Int)(hb:bs.length<=64){A:Option Addr}{cap:Nat}(hr:Rd B w0 H A (bs.flatMap bytF))(hw:St B w0 H w):
 CX B w0 183 [.slice A bs.length cap] w λv K=>Nums .u32 16 v/\K=H:=by
 refine Ya Tryz.func183 Tryz.ntmps183 rfl rfl hw ?_
 refine XD [many H] (λw hw=>hw.perm (.closeT H)) ?_
 have hrM:∀{H':List HP},many H∈H'->Rd B w0 H' A (bs.flatMap bytF):=λhm=>hr.mono λw hw=>hw.inM hm
 repeat'(first|refine zgb ?_|(refine zgh ?_;intro _)|fail)
 rename_i g2 g3
 refine Yg (λz:Nat×List Int=>[(8,.int .i64 (z.1:Nat)),(7,.int .i64 bs.length),(6,.slice A bs.length cap),(3,.pointer (some ⟨g3,0,none⟩)),(2,.pointer (some ⟨g2,0,none⟩))])
  (λz=>numB g3 .u32 z.2 261::numB g2 .u32 (List.replicate 16 0) 261::[many H]) (λz=>z.1<=bs.length/\z.2.length=16) (λz=>bs.length-z.1) (0,List.replicate 16 0) ⟨Ti _,rfl⟩ ?_ ?_ ?_
 ·exact zu
 ·intro w hw
  have h5:St B w0 (numB g3 .u32 (List.replicate 16 0) 261::numB g2 .u32 (List.replicate 16 0) 261::[many H]) w:=hw
  exact h5
 rintro⟨i,l⟩ ⟨hi,hl⟩ K hK
 dsimp only at hi hl⊢
 by_cases hlt:i<bs.length
 rotate_left
 ·clear hK
  repeat'(first|(apply JI T;exact rfl;exact zm;exact rfl;(rw[Vk];exact hl);exact rfl)|(apply ZD T;exact rfl;exact rfl;exact zd;(rw[hl];rfl);exact rfl;exact hl)|refine zgc ?_|(refine zge ?_ ?_<;>intro _<;>try exact zo)|fail)
  apply Vu T (H2:=H);exact rfl;exact rfl;exact zm;exact rfl;(rw[Vk];exact hl)
  ·intro w hw
   have h5:St B w0 [many H] w:=by
    revert w
    exact zk
   exact h5.perm (.openT H)
  exact⟨⟨l,hl,rfl⟩,rfl⟩
 obtain⟨x,hx⟩:∃x,bs[i]? =some x:=⟨_,Ta hlt⟩
 have hrr:=hrM (H':=numB g3 .u32 l 261::numB g2 .u32 (List.replicate 16 0) 261::[many H]) (.tail _ (.tail _ (.head _)))
 repeat'(first|refine zgd ?_|(refine zge ?_ ?_<;>intro _<;>try exact zo)|fail)
 apply YI [0,1,2,3,4,5,6,7,8,9,10,11] [12] [true,true,true]
 kernel_rfl
 kernel_rfl
 exact zy
 (simp only[Yd,nthO];rfl)
 (simp only[Yd,nthO];rfl)
 repeat'(first|(apply XF T;(iterate 4 exact rfl);omega)|(apply Zj T;exact rfl;exact zm;(rw[hl];omega);exact rfl;exact rfl;intro _)|(apply Od T;(iterate 4 exact rfl);intro _)|(apply YgX;(iterate 3 exact rfl);(exact⟨by omega,by show _<=(32:Int);omega⟩);intro _)|(apply YkG;(iterate 3 exact rfl);intro _)|(apply Ja T;exact rfl;exact rfl;(intro _;exact zd);(rw[hl];omega);exact rfl;intro l' hl')|refine zgd ?_|fail)
 apply hK (i+1,l')
 ·exact⟨by omega,by rw[hl',hl]⟩
 ·dsimp only;omega
 ·exact zu
 ·exact zk
abbrev nmB(g:Nat)(l:List Int):HP:=numB g .u32 l 261
abbrev chB(g:Nat)(l:List Int):HP:=numB g .u32 l 181
theorem OH(h m:List Int)(hh:h.length=8)(hm:m.length=16)(t:Int)(last:Bool)(hw:St B w0 H w):
 CX B w0 182 [.agg (numA .u32 h),.agg (numA .u32 m),.int .u64 t,.bool last] w λv K=>Nums .u32 8 v/\K=H:=by
 refine Ya Tryz.func182 Tryz.ntmps182 rfl rfl hw ?_
 refine XD [many H] (λw hw=>hw.perm (.closeT H)) ?_
 repeat'(first|refine zga ?_|(refine zgh ?_;intro _)|fail)
 rename_i g4 g5 g8 g9
 apply Yf _ Ysm
 exact za
 exact rfl
 exactλ_ hw=>(QI (hw))
 rintro _ _ ⟨⟨iv,hiv,rfl⟩,hK⟩
 rw[hK]
 repeat'(first|(apply ZD T;exact rfl;exact rfl;exact zd;(rw[hiv];rfl);exact rfl;exact hiv)|refine zga ?_|(refine zgh ?_;intro _)|fail)
 rename_i g10
 apply XD (chB g10 iv::nmB g9 (List.replicate 16 0)::chB g8 (List.replicate 8 0)::nmB g5 m::chB g4 h::[many H])
 ·exactλw hw=>hw
 apply YI [0,1] [2] [true,true,true,true,true,true]
 kernel_rfl
 kernel_rfl
 exact zy
 (simp only[Yd,nthO];rfl)
 (simp only[Yd,nthO];rfl)
 repeat'(first|(apply YfA T;(iterate 4 exact rfl);omega)|(apply J7 T;(iterate 3 exact rfl))|(apply YaH T (ys:=h);exact rfl;exact rfl;exact Rd.blk (cs:=numA .u32 h) (t:=181) (fr:=(0,0)) zm;(intro _;exact zd);exact rfl;exact rfl;(rw[hh];decide);intro v1 hv1)|refine zgd ?_|fail)
 have hv1:v1.length=16:=by rw[hv1];rfl
 apply YI [0,1] [2] [true,true,true,true,true,true]
 kernel_rfl
 kernel_rfl
 exact zy
 (simp only[Yd,nthO];rfl)
 (simp only[Yd,nthO];rfl)
 repeat'(first|(apply Ybq T;(iterate 4 exact rfl);omega)|(apply J7 T;(iterate 3 exact rfl))|(apply YaH T (ys:=iv);exact rfl;exact rfl;exact Rd.blk (cs:=numA .u32 iv) (t:=181) (fr:=(0,0)) zm;(intro _;exact zd);exact rfl;exact rfl;(rw[hiv,hv1];decide);intro v2 hv2)|refine zgd ?_|fail)
 rw[hv1]at hv2
 repeat'(first|(apply XF T;(iterate 4 exact rfl);omega)|(apply Zj T;exact rfl;exact zm;omega;exact rfl;exact rfl;intro _)|(apply Od T;(iterate 4 exact rfl);intro _)|(apply YbY;(iterate 3 exact rfl);decide;intro _)|(apply Vt;(iterate 3 exact rfl);intro _)|(apply Ja T;exact rfl;exact rfl;(intro _;exact zd);omega;exact rfl;intro _ _)|refine zga ?_|fail)
 rename_i v4 hv4
 refine ZH (λz:{l:List Int//l.length=16}=>[(9,.pointer (some ⟨g9,0,none⟩)),(5,.pointer (some ⟨g5,0,none⟩)),(4,.pointer (some ⟨g4,0,none⟩)),(8,.pointer (some ⟨g8,0,none⟩))]) (λz=>nmB g9 z.1::nmB g5 m::chB g4 h::chB g8 (List.replicate 8 0)::[many H]) ?_ ?_
 ·intro K hK
  cases last with
  |false=>
   repeat'(first|refine zgb ?_|fail)
   apply hK ⟨v4,by omega⟩
   ·exact zu
   ·exact zk
  |true=>
   repeat'(first|(apply XF T;(iterate 4 exact rfl);omega)|(apply Zj T;exact rfl;exact zm;omega;exact rfl;exact rfl;intro _)|(apply Yi2;exact rfl;exact rfl;intro _)|(apply Ja T;exact rfl;exact rfl;(intro _;exact zd);omega;exact rfl;intro v5 hv5)|refine zgb ?_|fail)
   apply hK ⟨v5,by omega⟩
   ·exact zu
   ·exact zk
 rintro⟨v6,hv6⟩
 dsimp only
 repeat'(first|refine zgb ?_|fail)
 refine Yg (λz:Nat×List Int=>[(44,.int .i64 (z.1:Nat)),(9,.pointer (some ⟨g9,0,none⟩)),(5,.pointer (some ⟨g5,0,none⟩)),(4,.pointer (some ⟨g4,0,none⟩)),(8,.pointer (some ⟨g8,0,none⟩))]) (λz=>nmB g9 z.2::nmB g5 m::chB g4 h::chB g8 (List.replicate 8 0)::[many H]) (λz=>z.1<=10/\z.2.length=16) (λz=>10-z.1) (0,v6) ⟨Ti _,hv6⟩ ?_ ?_ ?_
 ·exact zu
 ·exact zk
 rintro⟨i,v⟩ ⟨hi,hv⟩ K hK
 dsimp only at hi hv⊢
 by_cases hlt:i<10
 ·skip
  repeat'(first|(apply Z9 (λv=>∃s:ByteArray,v=.string s/\s.size=16/\hexS s=true) Yvm;exact za;exact rfl;exactλ_ hw=>Yd7 _ (by omega) hw;rintro _ ⟨s,rfl,hs,hx⟩)|refine zgb ?_|(refine zge ?_ ?_<;>intro _<;>try exact zo)|fail)
  refine Yg (λz:Nat×List Int=>[(49,.int .i64 (z.1:Nat)),(12,.string s),(44,.int .i64 (i:Nat)),(9,.pointer (some ⟨g9,0,none⟩)),(5,.pointer (some ⟨g5,0,none⟩)),(4,.pointer (some ⟨g4,0,none⟩)),(8,.pointer (some ⟨g8,0,none⟩))]) (λz=>nmB g9 z.2::nmB g5 m::chB g4 h::chB g8 (List.replicate 8 0)::[many H]) (λz=>z.1<=8/\z.2.length=16) (λz=>8-z.1) (0,v) ⟨Ti _,hv⟩ ?_ ?_ ?_
  ·exact zu
  ·exact zk
  rintro⟨j,v7⟩ ⟨hj,hv7⟩ K2 hK2
  dsimp only at hj hv7⊢
  by_cases hlt2:j<8
  rotate_left
  ·clear hK2
   repeat'(first|refine zgc ?_|(refine zge ?_ ?_<;>intro _<;>try exact zo)|fail)
   apply hK (i+1,v7)
   ·exact⟨by omega,hv7⟩
   ·dsimp only;omega
   ·exact zu
   ·exact zk
  repeat'(first|(apply Z9 (λv=>∃l:List Int,l.length=4/\v=.agg (numA .i64 l)/\∀z∈l,0<=z/\z<16) Yvn;exact za;exact rfl;exactλ_ hw=>Ync _ (by omega) hw;rintro _ ⟨ll,hll,rfl,hlz⟩)|(apply ZD T;exact rfl;exact rfl;exact zd;(rw[hll];rfl);exact rfl;exact hll)|refine zgb ?_|(refine zge ?_ ?_<;>intro _<;>try exact zo)|(refine zgh ?_;intro _)|fail)
  rename_i gl
  refine ZH (λz:{z:Nat×List Int//z.2.length=4}=>[(15,.pointer (some ⟨z.1.1,0,none⟩)),(14,.pointer (some ⟨gl,0,none⟩)),(49,.int .i64 (j:Nat)),(12,.string s),(44,.int .i64 (i:Nat)),(9,.pointer (some ⟨g9,0,none⟩)),(5,.pointer (some ⟨g5,0,none⟩)),(4,.pointer (some ⟨g4,0,none⟩)),(8,.pointer (some ⟨g8,0,none⟩))]) (λz=>numB z.1.1 .u32 z.1.2 340::numB gl .i64 ll 338::nmB g9 v7::nmB g5 m::chB g4 h::chB g8 (List.replicate 8 0)::[many H]) ?_ ?_
  ·intro K3 hK3
   apply JH (.n1 0 (.n1 1 (.n1 2 (.n1 3 (.n1 4 (.n1 5 (.n1 6 (.n1 7 (.n1 8 (.n1 9 (.n1 10 (.n1 11 (.n1 12 (.n1 13 (.n1 14 (.n1 15 (.n1 16 (.n1 17 (.n1 18 (.n1 19 (.n1 20 (.n1 24 (.n1 25 (.n1 26 (.n1 27 (.n1 28 (.n2 21 (.n1 22 (.n1 23 (.n2 29 (.n1 30 (.n1 31 (.n2 32 (.n1 33 .done) 33 (.n1 32 .done)))) 33 (.n1 29 (.n1 30 (.n1 31 (.n1 32 .done))))))) 33 (.n1 21 (.n1 22 (.n1 23 (.n1 29 (.n1 30 (.n1 31 (.n1 32 .done)))))))))))))))))))))))))))))))))) [34] [true,true,true,true,true,true]
   kernel_rfl
   kernel_rfl
   exact zy
   (simp only[Yd,nthO];rfl)
   repeat'(first|(apply XF T;(iterate 4 exact rfl);omega)|(apply Yfv T (k:=.i64);exact rfl;exact zm;omega;exact rfl;exact rfl;intro _ hz;replace hz:=hlz _ hz)|(apply Zj T (k:=.u32);exact rfl;exact zm;omega;exact rfl;exact rfl;intro _)|(apply Z9 (λv=>∃z,v=.int .i64 z/\0<=z/\z<16) Yvp;exact za;exact rfl;exactλ_ hw=>Yjn _ (Ypi hx (by assumption)) hw;rintro _ ⟨_,rfl,_,_⟩)|(apply Z9 (λv=>Nums .u32 4 v) Yvo;exact za;exact rfl;exactλ_ hw=>YpB [_,_,_,_] rfl _ _ hw;rintro _ ⟨_,_,rfl⟩)|(apply ZD T;exact rfl;exact rfl;exact zd;(apply Eq.symm;assumption);exact rfl;assumption)|(apply Yj;try exact zl)|apply(zs91 ?_ ?_)|(apply Y7;try exact zl)|refine zgd ?_|(refine zgh ?_;intro _)|(refine zgi ?_;intro _ _)|fail)
   all_goals(
    rename Nat=>gw
    rename List Int=>lw
    apply hK3 ⟨(gw,lw),by assumption⟩
    ·exact zu
    ·exact zk)
  rintro⟨⟨gw,lw⟩,hlw⟩
  dsimp only at hlw⊢
  repeat'(first|(apply JI T;exact rfl;exact zm;exact rfl;(rw[Vk];exact hll);exact rfl)|refine zgb ?_|fail)
  refine Yg (λz:Nat×List Int=>[(88,.int .i64 (z.1:Nat)),(87,.agg (numA .i64 ll)),(15,.pointer (some ⟨gw,0,none⟩)),(49,.int .i64 (j:Nat)),(12,.string s),(44,.int .i64 (i:Nat)),(9,.pointer (some ⟨g9,0,none⟩)),(5,.pointer (some ⟨g5,0,none⟩)),(4,.pointer (some ⟨g4,0,none⟩)),(8,.pointer (some ⟨g8,0,none⟩))]) (λz=>numB gw .u32 lw 340::nmB g9 z.2::nmB g5 m::chB g4 h::chB g8 (List.replicate 8 0)::[many H]) (λz=>z.1<=4/\z.2.length=16) (λz=>4-z.1) (0,v7) ⟨Ti _,hv7⟩ ?_ ?_ ?_
  ·exact zu
  ·exact zk
  rintro⟨q,v8⟩ ⟨hq,hv8⟩ K3 hK3
  dsimp only at hq hv8⊢
  by_cases hlt3:q<4
  rotate_left
  ·clear hK3
   repeat'(first|refine zgc ?_|(refine zge ?_ ?_<;>intro _<;>try exact zo)|fail)
   apply hK2 (j+1,v8)
   ·exact⟨by omega,hv8⟩
   ·dsimp only;omega
   ·exact zu
   ·exact zk
  repeat'(first|(apply OE T;(iterate 5 exact rfl);omega;exact hll;intro _ hz;replace hz:=hlz _ hz)|(apply XF T;(iterate 4 exact rfl);omega)|(apply Zj T (k:=.u32);exact rfl;exact zm;omega;exact rfl;exact rfl;intro _)|(apply Ja T;exact rfl;exact rfl;(intro _;exact zd);omega;exact rfl;intro _ _)|refine zgc ?_|(refine zge ?_ ?_<;>intro _<;>try exact zo)|fail)
  rename_i v9 hv9
  apply hK3 (q+1,v9)
  ·exact⟨by omega,by show v9.length=16;omega⟩
  ·dsimp only;omega
  ·exact zu
  ·exact zk
 obtain rfl:i=10:=by omega
 clear hK
 repeat'(first|refine zgc ?_|(refine zge ?_ ?_<;>intro _<;>try exact zo)|fail)
 refine Yg (λz:Nat×List Int=>[(100,.int .i64 (z.1:Nat)),(9,.pointer (some ⟨g9,0,none⟩)),(4,.pointer (some ⟨g4,0,none⟩)),(8,.pointer (some ⟨g8,0,none⟩))]) (λz=>chB g4 z.2::nmB g9 v::chB g8 (List.replicate 8 0)::[many H]) (λz=>z.1<=8/\z.2.length=8) (λz=>8-z.1) (0,h) ⟨Ti _,hh⟩ ?_ ?_ ?_
 ·exact zu
 ·exact zk
 rintro⟨k,l8⟩ ⟨hk,hl8⟩ K hK
 dsimp only at hk hl8⊢
 by_cases hlt:k<8
 ·repeat'(first|refine zgb ?_|(refine zge ?_ ?_<;>intro _<;>try exact zo)|fail)
  apply YI [0,1,2,3,4,5,6,7,8,9,10,11,12] [13] [true,true,true,true]
  kernel_rfl
  kernel_rfl
  exact zy
  (simp only[Yd,nthO];rfl)
  (simp only[Yd,nthO];rfl)
  repeat'(first|(apply XF T;(iterate 4 exact rfl);omega)|(apply Zj T (k:=.u32);exact rfl;exact zm;omega;exact rfl;exact rfl;intro _)|(apply Vt;(iterate 3 exact rfl);intro _)|(apply Ja T;exact rfl;exact rfl;(intro _;exact zd);omega;exact rfl;intro _ _)|refine zgd ?_|fail)
  rename_i l9 hl9
  apply hK (k+1,l9)
  ·exact⟨by omega,by show l9.length=8;omega⟩
  ·dsimp only;omega
  ·exact zu
  ·exact zk
 ·clear hK
  repeat'(first|(apply JI T;exact rfl;exact zm;exact rfl;(rw[Vk];exact hl8);exact rfl)|(apply ZD T;exact rfl;exact rfl;exact zd;(rw[Vk,hl8];rfl);exact rfl;exact hl8)|refine zgc ?_|(refine zge ?_ ?_<;>intro _<;>try exact zo)|fail)
  apply Vu T (H2:=H);exact rfl;exact rfl;exact zm;exact rfl;(rw[Vk];exact hl8)
  ·intro w hw
   have h5:St B w0 [many H] w:=by
    revert w
    exact zk
   exact h5.perm (.openT H)
  exact⟨⟨l8,hl8,rfl⟩,rfl⟩
end Go.Proofs.YtjlgijpmnfabcaaGreatDoor
