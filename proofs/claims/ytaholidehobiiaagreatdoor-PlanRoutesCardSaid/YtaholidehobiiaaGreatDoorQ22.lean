/- Lemmas for the claim, part 22. -/
import Derived.Test.YtaholidehobiiaaGreatDoorQ19
import Derived.Test.YtaholidehobiiaaGreatDoorQ20
set_option maxRecDepth 100000
set_option maxHeartbeats 8000000
set_option linter.all false
namespace Go.Proofs.YtaholidehobiiaaGreatDoor
open Go.RowKit Go.Eng Go.Nw
variable {B cap:Nat}{w0 w:World}{H:List HP}
theorem NetM.In.inM{K:List HP}{n:NetM}(h:n.In B w0 H)(hm:Eng.many H∈K):n.In B w0 K:=
 ⟨h.pw.inM hm,λr hr=>(h.rw_ r hr).inM hm,h.lk.inM hm,h.mg.inM hm,h.s1,h.s2,h.s3,h.s4⟩
theorem Yif(a b:Cel)(hw:St B w0 H w):
 CX B w0 444 [celV a,celV b] w λv K=>v=.bool (YH a b)/\K=H:=by
 refine Yc Tryz.func444 Tryz.ntmps444 rfl rfl hw ?_
 have htc:YH a b=true↔(a.2.2.1=b.2.2.1\/a.2.2.1=b.2.2.2.1\/a.2.2.2.1=b.2.2.1\/a.2.2.2.1=b.2.2.2.1):=by unfold YH YE toC;simp_all
 obtain⟨z,hz⟩:∃z,YH a b=z:=⟨_,rfl⟩
 rw[hz]at htc⊢
 repeat'(first|apply(zs1 ?_)|apply(zs2 ?_)|(apply zg1;first|refine zs3 ?_|refine zs4 ?_)|(apply zg2;refine zs6 ?_)|(apply zg3;refine zs7 ?_)|(apply zg6;first|refine zs11 ?_|refine zs12 ?_)|(apply zg7;(refine zs15 ?_ ?_<;>intro _<;>try exact zo))|(apply zg23;(refine zs52 ?_;intro _))|apply(zs65 ?_)|apply(zs68 ?_)|apply(zs69 ?_)|apply(zs70 ?_)|apply(zs74 ?_)|fail)
 all_goals(
  apply Yi H
  ·exact zk
  apply Yd;exact rfl;exact rfl
  cases z<;>simp at htc<;>first|exact⟨rfl,rfl⟩|(exfalso;omega))
def UL(_:Net)(l:List Cel)(i:Nat)(c:Cel)(k:Nat):Bool:=(List.range k).any λj=>decide (j≠i)&&YH c (celL l j)
theorem Yca(n:NetM)(l:List Cel)(i:Nat)(gn gl gi:Nat)(A:Option Addr)(cap:Nat)(lk node:Int)(hok:Ok n.net)(hnode:0<=node/\node<n.nodes)(hlk:0<=lk/\lk.toNat<n.net.links.length)(hlen:l.length<=1000)(hin:n.In B w0 H)(hr:Rd B w0 H A (l.flatMap celF))
 (h1:netN gn n∈H) (h2:blk gl (.cells #[.slice A l.length cap] 35 (0,0))∈H) (h3:blk gi (.cells #[.int .i64 i] 3 (0,0))∈H) (hw:St B w0 H w):
 CX B w0 445 [.int .i64 lk,.int .i64 node,.pointer (some ⟨gn,0,none⟩),.pointer (some ⟨gl,0,none⟩),.pointer (some ⟨gi,0,none⟩)] w λv K=>v=.bool (Zu n.net (mar n.net lk.toNat) (YB n.net l i node l.length))/\K=H:=by
 refine Yc Tryz.func445 Tryz.ntmps445 rfl rfl hw ?_
 have hmg:=hin.mg
 have hs4:=hin.s4
 have hml:n.margin.length=n.net.links.length:=hok.k1
 have hm1:n.margin[lk.toNat]? =some (mar n.net lk.toNat):=zc43
 have p1:=λ{w:World}(hw:St B w0 H w)=>YdB n l i node hok hnode hlen (cap:=cap) hin hr hw
 obtain⟨d,hd⟩:∃d,YB n.net l i node l.length=d:=⟨_,rfl⟩
 rw[hd]at p1⊢
 have p2:=λ{w:World}(hw:St B w0 H w)=>QP n (mar n.net lk.toNat) d hin hw
 unfold netN at h1
 repeat'(first|apply(zs2 ?_)|apply(zs65 ?_)|apply(zs68 ?_)|apply(zs69 ?_)|apply(zs70 ?_)|fail)
 apply XA [0,1,2,3,4,5,6,7,8,9,10,11,12] []
 kernel_rfl
 kernel_rfl
 (simp only[Yh,nthO];rfl)
 exact rfl
 repeat'(first|apply(zs1 ?_)|(apply zg2;refine zs6 ?_)|(apply zg3;first|refine zs7 ?_|refine zs8 ?_|refine zs60 ?_)|(apply zg5;refine zs57 ?_)|apply(zs87 ?_)|fail)
 first|apply Ya Ynj|apply Yb Ynj
 exact za
 exact rfl
 exactλ_ hw=>(p1 hw)
 repeat'(first|apply(zs65 ?_)|apply(zs87 ?_)|(apply Yl;(repeat(first|with_reducible exact YW|(with_reducible apply YL;(repeat(first|with_reducible exact Ys|with_reducible apply YA))))))|fail)
 ·show Perm H (H++[])
  exact zc29
 repeat'(first|fail)
 first|apply Ya Of|apply Yb Of
 exact za
 exact rfl
 exactλ_ hw=>(p2 hw)
 repeat'(first|apply(zs2 ?_)|apply(zs65 ?_)|(apply Js;exact zp)|apply(zs68 ?_)|apply(zs74 ?_)|(apply Yl;(repeat(first|with_reducible exact YW|(with_reducible apply YL;(repeat(first|with_reducible exact Ys|with_reducible apply YA))))))|apply(zs93 ?_)|apply(zs94 ?_)|fail)
 ·show Perm H (H++[])
  exact zc29
 repeat'(first|fail)
 exact zc11
variable {A:Option Addr}
theorem Yjj(n:NetM)(l:List Cel)(i:Nat)(hck:Yo n.net=0)(hi:i<l.length)(hlen:l.length<=1000)(hin:n.In B w0 H)(hr:Rd B w0 H A (l.flatMap celF))(hw:St B w0 H w):
 CX B w0 442 [n.val,.slice A l.length cap,.int .i64 i] w λv K=>v=.bool (ZS n.net l i)/\K=H:=by
 refine Yc Tryz.func442 Tryz.ntmps442 rfl rfl hw ?_
 have hok:=YC hck
 have hget:l[i]? =some (celL l i):=by unfold celL;rw[Tu,Ta hi];rfl
 obtain⟨c,hc⟩:∃c,celL l i=c:=⟨_,rfl⟩
 rw[hc]at hget
 have p1:=λ{H':List HP}{w:World}(hin:n.In B w0 H') (hw:St B w0 H' w)=>Zv n c.2.2.1 c.2.2.2.1 hin hw
 have p2:=λ{H':List HP}{w:World}(hin:n.In B w0 H') (hw:St B w0 H' w)=>Zv n c.2.2.2.1 c.2.2.1 hin hw
 have hix:∀u v:Int,Zn n.net u v=Yt n.net u v:=λu v=>by unfold Zn;rw[Tf (by omega)]
 have hus:=YkI hck c.2.2.1 c.2.2.2.1
 have p3:=λ{H':List HP}{w:World}(hin:n.In B w0 H') (hw:St B w0 H' w)=>UA n (Zn n.net c.2.2.1 c.2.2.2.1) hin hw
 rw[hus]at p3
 have hP:ZS n.net l i=(!(Yz n.net c.2.2.1 c.2.2.2.1)||UL n.net l i c l.length||(!(Zu n.net (mar n.net (Yt n.net c.2.2.1 c.2.2.2.1).toNat) (YB n.net l i c.2.2.2.1 l.length))||!(Zu n.net (mar n.net (Yt n.net c.2.2.2.1 c.2.2.1).toNat) (YB n.net l i c.2.2.1 l.length)))):=by
  unfold ZS UL
  rw[hc,show Vo n.net (Zn n.net (YE c) (toC c))=Yz n.net c.2.2.1 c.2.2.2.1 from hus]
  rfl
 rw[hP]
 by_cases hg:Yz n.net c.2.2.1 c.2.2.2.1=true
 rotate_left
 ·have hg:Yz n.net c.2.2.1 c.2.2.2.1=false:=by simpa using hg
  rw[hg]at p3⊢
  repeat'(first|apply(zs2 ?_)|(apply zg3;first|refine zs7 ?_|refine zs61 ?_)|(apply zg5;refine zs57 ?_)|(apply zg22;refine zs51 ?_)|(apply zg23;first|(refine zs52 ?_;intro _)|(refine zs53 ?_;intro _))|(apply zg24;(refine zs54 ?_;intro _))|apply(zs65 ?_)|apply(zs68 ?_)|apply(zs69 ?_)|apply(zs70 ?_)|fail)
  rename_i gn gl gi gc
  apply YX [0,1,2,3,4,6,7,8,9,10,5,11,12,13] [] [true,false,false,true]
  kernel_rfl
  kernel_rfl
  exact zy
  (simp only[Yh,nthO];rfl)
  exact rfl
  repeat'(first|(apply zg2;refine zs6 ?_)|(apply zg3;first|refine zs7 ?_|refine zs8 ?_)|apply(zs87 ?_)|fail)
  first|apply Ya Xw|apply Yb Xw
  exact za
  exact rfl
  exactλ_ hw=>(p1 zc45 hw)
  repeat'(first|apply(zs65 ?_)|apply(zs87 ?_)|(apply Yl;(repeat(first|with_reducible exact YW|(with_reducible apply YL;(repeat(first|with_reducible exact Ys|with_reducible apply YA))))))|fail)
  first|apply Ya Xw|apply Yb Xw
  exact za
  exact rfl
  exactλ_ hw=>(p2 zc45 hw)
  repeat'(first|apply(zs1 ?_)|apply(zs2 ?_)|(apply zg3;refine zs8 ?_)|apply(zs65 ?_)|(apply Js;exact zp)|apply(zs68 ?_)|apply(zs69 ?_)|apply(zs70 ?_)|(apply Yl;(repeat(first|with_reducible exact YW|(with_reducible apply YL;(repeat(first|with_reducible exact Ys|with_reducible apply YA))))))|apply(zs93 ?_)|apply(zs94 ?_)|fail)
  first|apply Ya J4|apply Yb J4
  exact za
  exact rfl
  exactλ_ hw=>(p3 zc45 hw)
  repeat'(first|apply(zs2 ?_)|(apply zg20;refine zs48 ?_)|apply(zs65 ?_)|apply(zs68 ?_)|apply(zs69 ?_)|apply(zs70 ?_)|(apply zg27;refine zs71 ?_)|apply(zs74 ?_)|apply(zs77 ?_)|fail)
  apply Yi H
  ·exact zc0
  exact zc4
 rw[hg]at p3⊢
 obtain⟨⟨f0,f1⟩,⟨t0,t1⟩,_,k1,k2⟩:(0<=c.2.2.1/\c.2.2.1<n.net.nodes)/\(0<=c.2.2.2.1/\c.2.2.2.1<n.net.nodes)/\c.2.2.1≠c.2.2.2.1/\0<=Yt n.net c.2.2.1 c.2.2.2.1/\0<=Yt n.net c.2.2.2.1 c.2.2.1:=XL hok hg
 have x1:=XR k1
 have x2:=XR k2
 rw[hix]at p1 p2 p3
 obtain⟨i1,hi1⟩:∃z,Yt n.net c.2.2.1 c.2.2.2.1=z:=⟨_,rfl⟩
 obtain⟨i2,hi2⟩:∃z,Yt n.net c.2.2.2.1 c.2.2.1=z:=⟨_,rfl⟩
 rw[hi1]at p1 p3 k1 x1⊢
 rw[hi2]at p2 k2 x2⊢
 have q1:=λ{H':List HP}{w:World}(gn gl gi:Nat) (hin:n.In B w0 H') (hr:Rd B w0 H' A (l.flatMap celF)) (h1:netN gn n∈H') (h2:blk gl (.cells #[.slice A l.length cap] 35 (0,0))∈H') (h3:blk gi (.cells #[.int .i64 i] 3 (0,0))∈H') (hw:St B w0 H' w)=>Yca n l i gn gl gi A cap i1 c.2.2.2.1 hok ⟨t0,t1⟩ ⟨k1,x1⟩ hlen hin hr h1 h2 h3 hw
 have q2:=λ{H':List HP}{w:World}(gn gl gi:Nat) (hin:n.In B w0 H') (hr:Rd B w0 H' A (l.flatMap celF)) (h1:netN gn n∈H') (h2:blk gl (.cells #[.slice A l.length cap] 35 (0,0))∈H') (h3:blk gi (.cells #[.int .i64 i] 3 (0,0))∈H') (hw:St B w0 H' w)=>Yca n l i gn gl gi A cap i2 c.2.2.1 hok ⟨f0,f1⟩ ⟨k2,x2⟩ hlen hin hr h1 h2 h3 hw
 obtain⟨b1,hb1⟩:∃b,Zu n.net (mar n.net i1.toNat) (YB n.net l i c.2.2.2.1 l.length)=b:=⟨_,rfl⟩
 obtain⟨b2,hb2⟩:∃b,Zu n.net (mar n.net i2.toNat) (YB n.net l i c.2.2.1 l.length)=b:=⟨_,rfl⟩
 rw[hb1]at q1⊢
 rw[hb2]at q2⊢
 repeat'(first|apply(zs2 ?_)|(apply zg3;first|refine zs7 ?_|refine zs61 ?_)|(apply zg5;refine zs57 ?_)|(apply zg22;refine zs51 ?_)|(apply zg23;first|(refine zs52 ?_;intro _)|(refine zs53 ?_;intro _))|(apply zg24;(refine zs54 ?_;intro _))|apply(zs65 ?_)|apply(zs68 ?_)|apply(zs69 ?_)|apply(zs70 ?_)|fail)
 rename_i gn gl gi gc
 apply YX [0,1,2,3,4,6,7,8,9,10,5,11,12,13] [] [true,false,false,true]
 kernel_rfl
 kernel_rfl
 exact zy
 (simp only[Yh,nthO];rfl)
 exact rfl
 repeat'(first|(apply zg2;refine zs6 ?_)|(apply zg3;first|refine zs7 ?_|refine zs8 ?_)|apply(zs87 ?_)|fail)
 first|apply Ya Xw|apply Yb Xw
 exact za
 exact rfl
 exactλ_ hw=>(p1 zc45 hw)
 repeat'(first|apply(zs65 ?_)|apply(zs87 ?_)|(apply Yl;(repeat(first|with_reducible exact YW|(with_reducible apply YL;(repeat(first|with_reducible exact Ys|with_reducible apply YA))))))|fail)
 first|apply Ya Xw|apply Yb Xw
 exact za
 exact rfl
 exactλ_ hw=>(p2 zc45 hw)
 repeat'(first|apply(zs1 ?_)|apply(zs2 ?_)|(apply zg3;refine zs8 ?_)|apply(zs65 ?_)|(apply Js;exact zp)|apply(zs68 ?_)|apply(zs69 ?_)|apply(zs70 ?_)|(apply Yl;(repeat(first|with_reducible exact YW|(with_reducible apply YL;(repeat(first|with_reducible exact Ys|with_reducible apply YA))))))|apply(zs93 ?_)|apply(zs94 ?_)|fail)
 first|apply Ya J4|apply Yb J4
 exact za
 exact rfl
 exactλ_ hw=>(p3 zc45 hw)
 repeat'(first|apply(zs1 ?_)|(apply zg3;refine zs7 ?_)|(apply zg4;refine zs9 ?_)|(apply zg20;refine zs47 ?_)|apply(zs65 ?_)|apply(zs68 ?_)|apply(zs69 ?_)|apply(zs70 ?_)|(apply zg27;refine zs72 ?_)|apply(zs73 ?_)|apply(zs76 ?_)|fail)
 refine Yg (λ(k:Nat)=>[(35,.int .i64 k),(34,.int .i64 l.length),(33,.slice A l.length cap),(3,.pointer (some ⟨gn,0,none⟩)),(4,.pointer (some ⟨gl,0,none⟩)),(5,.pointer (some ⟨gi,0,none⟩)),(7,.pointer (some ⟨gc,0,none⟩)),(8,.int .i64 i1),(9,.int .i64 i2)])
  (λ_=>blk gc (.cells #[.int .i64 c.1,.int .i64 c.2.1,.int .i64 c.2.2.1,.int .i64 c.2.2.2.1,.int .i64 c.2.2.2.2] 64 (0,0))::blk gi (.cells #[.int .i64 i] 3 (0,0))::blk gl (.cells #[.slice A l.length cap] 35 (0,0))::netN gn n::H) (λk=>k<=l.length/\UL n.net l i c k=false) (λk=>l.length-k) 0 ⟨Tm _,rfl⟩ ?_ ?_ ?_
 ·exact zc1
 ·unfold netN
  exact zc0
 rintro k ⟨hk,hno⟩ K hK
 have hrc:Rd B w0 (blk gc (.cells #[.int .i64 c.1,.int .i64 c.2.1,.int .i64 c.2.2.1,.int .i64 c.2.2.2.1,.int .i64 c.2.2.2.2] 64 (0,0))::blk gi (.cells #[.int .i64 i] 3 (0,0))::blk gl (.cells #[.slice A l.length cap] 35 (0,0))::netN gn n::H) A (l.flatMap celF):=hr.cons.cons.cons.cons
 by_cases hlt:k<l.length
 ·have hgk:l[k]? =some (celL l k):=by unfold celL;rw[Tu,Ta hlt];rfl
  have hst:UL n.net l i c (k+1)=(UL n.net l i c k||(decide (k≠i)&&YH c (celL l k))):=by
   unfold UL
   rw[Rx,Nu]
   simp
  obtain⟨d,hd⟩:∃d,celL l k=d:=⟨_,rfl⟩
  rw[hd]at hgk hst
  have p4:=λ{H':List HP}{w:World}(hw:St B w0 H' w)=>Yif c d hw
  unfold netN at hrc⊢
  obtain⟨t,ht⟩:∃t,YH c d=t:=⟨_,rfl⟩
  rw[ht]at p4 hst
  rw[hno,Ny]at hst
  by_cases hki:k=i
  ·rw[Ti (λh=>h hki),SX]at hst
   repeat'(first|apply(zs1 ?_)|apply(zs2 ?_)|(apply zg1;refine zs3 ?_)|(apply zg3;first|refine zs7 ?_|refine zs61 ?_)|(apply zg5;refine zs57 ?_)|(apply zg6;refine zs12 ?_)|(apply zg8;(refine zs16 ?_ ?_<;>intro _<;>try exact zo))|(apply(zs17 ?_ ?_)<;>intro _<;>try exact zo)|(apply zg13;refine zs30 ?_)|(apply zg22;refine zs51 ?_)|(apply zg24;(refine zs54 ?_;intro _))|apply(zs65 ?_)|apply(zs68 ?_)|apply(zs69 ?_)|apply(zs70 ?_)|(apply zg27;first|refine zs71 ?_|refine zs72 ?_)|apply(zs73 ?_)|apply(zs76 ?_)|apply(zs79 ?_)|fail)
   apply hK (k+1)
   ·exact⟨by omega,hst⟩
   ·omega
   ·exact zc1
   ·unfold netN
    exact zc0
  rw[Td hki,RO]at hst
  cases t with
  |false=>
   repeat'(first|((first|apply Ya Ynr|apply Yb Ynr);exact za;exact rfl;exactλ_ hw=>(p4 hw))|apply(zs1 ?_)|apply(zs2 ?_)|(apply zg1;refine zs4 ?_)|(apply zg3;first|refine zs7 ?_|refine zs8 ?_|refine zs61 ?_)|(apply zg5;refine zs57 ?_)|(apply zg6;refine zs11 ?_)|(apply zg8;(refine zs16 ?_ ?_<;>intro _<;>try exact zo))|(apply(zs17 ?_ ?_)<;>intro _<;>try exact zo)|(apply zg13;refine zs30 ?_)|(apply zg22;refine zs51 ?_)|(apply zg24;(refine zs54 ?_;intro _))|apply(zs65 ?_)|apply(zs68 ?_)|apply(zs69 ?_)|apply(zs70 ?_)|(apply zg27;first|refine zs71 ?_|refine zs72 ?_)|apply(zs73 ?_)|apply(zs76 ?_)|apply(zs79 ?_)|fail)
   apply hK (k+1)
   ·exact⟨by omega,hst⟩
   ·omega
   ·exact zc1
   ·unfold netN
    exact zc0
  |true=>
   have hfa:UL n.net l i c l.length=true:=by
    unfold UL
    rw[T8]
    exact⟨k,TQ.2 hlt,by rw[hd,ht,Td hki];rfl⟩
   rw[hfa]
   repeat'(first|((first|apply Ya Ynr|apply Yb Ynr);exact za;exact rfl;exactλ_ hw=>(p4 hw))|apply(zs1 ?_)|apply(zs2 ?_)|(apply zg1;refine zs4 ?_)|(apply zg3;first|refine zs7 ?_|refine zs8 ?_|refine zs61 ?_)|(apply zg5;refine zs57 ?_)|(apply zg6;refine zs11 ?_)|(apply zg8;(refine zs16 ?_ ?_<;>intro _<;>try exact zo))|(apply(zs17 ?_ ?_)<;>intro _<;>try exact zo)|(apply zg22;refine zs51 ?_)|(apply zg24;(refine zs54 ?_;intro _))|apply(zs65 ?_)|apply(zs68 ?_)|apply(zs69 ?_)|apply(zs70 ?_)|(apply zg27;refine zs71 ?_)|apply(zs73 ?_)|apply(zs74 ?_)|apply(zs76 ?_)|apply(zs77 ?_)|apply(zs78 ?_)|fail)
   apply Yi H
   ·exact zc0
   exact zc4
 ·obtain rfl:k=l.length:=by omega
  rw[hno]
  clear hK
  unfold netN at hrc q1 q2⊢
  cases b1 with
  |false=>
   repeat'(first|apply(zs1 ?_)|apply(zs2 ?_)|(apply zg2;refine zs6 ?_)|(apply zg3;refine zs7 ?_)|(apply(zs17 ?_ ?_)<;>intro _<;>try exact zo)|apply(zs65 ?_)|apply(zs68 ?_)|apply(zs69 ?_)|apply(zs70 ?_)|(apply zg27;refine zs72 ?_)|apply(zs75 ?_)|apply(zs80 ?_)|apply(zs81 ?_)|(apply zg29;(apply Yw;exact za;exact rfl))|fail)
   first|apply Y3 (cs:=[.pointer (some ⟨gn,0,none⟩),.pointer (some ⟨gl,0,none⟩),.pointer (some ⟨gi,0,none⟩)])|apply Xo (cs:=[.pointer (some ⟨gn,0,none⟩),.pointer (some ⟨gl,0,none⟩),.pointer (some ⟨gi,0,none⟩)])
   exact rfl
   exact Yq8
   exact za
   exact rfl
   exactλ_ hw=>q1 gn gl gi zc45 hrc (by(focus exact zc2)) (by(focus exact zc2)) (by(focus exact zc2)) hw
   repeat'(first|apply(zs1 ?_)|apply(zs2 ?_)|(apply zg1;refine zs3 ?_)|(apply zg6;refine zs11 ?_)|(apply zg20;refine zs48 ?_)|apply(zs65 ?_)|apply(zs68 ?_)|apply(zs74 ?_)|fail)
   apply Yi H
   ·exact zc0
   exact zc4
  |true=>
   cases b2<;>(
    repeat'(first|apply(zs1 ?_)|apply(zs2 ?_)|(apply zg2;refine zs6 ?_)|(apply zg3;refine zs7 ?_)|(apply(zs17 ?_ ?_)<;>intro _<;>try exact zo)|apply(zs65 ?_)|apply(zs68 ?_)|apply(zs69 ?_)|apply(zs70 ?_)|(apply zg27;refine zs72 ?_)|apply(zs75 ?_)|apply(zs80 ?_)|apply(zs81 ?_)|(apply zg29;(apply Yw;exact za;exact rfl))|fail)
    first|apply Y3 (cs:=[.pointer (some ⟨gn,0,none⟩),.pointer (some ⟨gl,0,none⟩),.pointer (some ⟨gi,0,none⟩)])|apply Xo (cs:=[.pointer (some ⟨gn,0,none⟩),.pointer (some ⟨gl,0,none⟩),.pointer (some ⟨gi,0,none⟩)])
    exact rfl
    exact Yq8
    exact za
    exact rfl
    exactλ_ hw=>q1 gn gl gi (by repeat(first|exact hin|apply NetM.In.cons)) hrc zm zm zm hw
    repeat'(first|apply(zs1 ?_)|(apply zg1;refine zs4 ?_)|(apply zg2;refine zs6 ?_)|(apply zg3;refine zs7 ?_)|(apply zg20;refine zs47 ?_)|fail)
    first|apply Y3 (cs:=[.pointer (some ⟨gn,0,none⟩),.pointer (some ⟨gl,0,none⟩),.pointer (some ⟨gi,0,none⟩)])|apply Xo (cs:=[.pointer (some ⟨gn,0,none⟩),.pointer (some ⟨gl,0,none⟩),.pointer (some ⟨gi,0,none⟩)])
    exact rfl
    exact Yq8
    exact za
    exact rfl
    exactλ_ hw=>q2 gn gl gi (by repeat(first|exact hin|apply NetM.In.cons)) hrc zm zm zm hw
    repeat'(first|apply(zs2 ?_)|(apply zg1;refine zs4 ?_)|(apply zg6;refine zs12 ?_)|(apply zg20;first|refine zs47 ?_|refine zs48 ?_)|apply(zs65 ?_)|apply(zs68 ?_)|apply(zs74 ?_)|fail)
    apply Yi H
    ·exact zk
    apply Yd;exact rfl;exact rfl;exact⟨rfl,rfl⟩)
def Vs(n:Net)(l:List Cel)(k:Nat):Bool:=(List.range k).any (ZS n l)
theorem Yjm(n:NetM)(l:List Cel)(hck:Yo n.net=0)(hlen:l.length<=1000)(hin:n.In B w0 H)(hr:Rd B w0 H A (l.flatMap celF))(hw:St B w0 H w):
 CX B w0 435 [n.val,.slice A l.length cap] w λv K=>∃i:Int,v=.tuple #[.int .i64 i,.bool (Vs n.net l l.length)]/\K=H:=by
 refine Yc Tryz.func435 Tryz.ntmps435 rfl rfl hw ?_
 have p1:=λ{H':List HP}{w:World}(hin:n.In B w0 H') (hw:St B w0 H' w)=>Xb n hin hw
 rw[hck]at p1
 (apply YY;apply Yx;apply Yr;exact rfl;exact rfl;intro g)
 repeat'(first|((first|apply Ya en82|apply Yb en82);exact za;exact rfl;exactλ_ hw=>(p1 hin.cons hw))|apply(zs1 ?_)|apply(zs2 ?_)|(apply zg3;refine zs8 ?_)|(apply zg4;refine zs9 ?_)|(apply zg8;(refine zs16 ?_ ?_<;>intro _<;>try exact zo))|apply(zs65 ?_)|apply(zs68 ?_)|apply(zs69 ?_)|apply(zs70 ?_)|(apply zg27;refine zs72 ?_)|apply(zs73 ?_)|apply(zs76 ?_)|fail)
 refine Yg (λ(k:Nat)=>[(12,.int .i64 k),(11,.int .i64 l.length),(1,.slice A l.length cap),(2,.pointer (some ⟨g,0,none⟩))]) (λ_=>netN g n::H) (λk=>k<=l.length/\Vs n.net l k=false) (λk=>l.length-k) 0 ⟨Tm _,rfl⟩ ?_ (λw hw=>hw) ?_
 ·exact zc1
 rintro k ⟨hk,hno⟩ K hK
 unfold netN
 by_cases hlt:k<l.length
 ·have p2:=λ{H':List HP}{w:World}(hin:n.In B w0 H') (hr:Rd B w0 H' A (l.flatMap celF)) (hw:St B w0 H' w)=>Yjj n l k hck hlt hlen (cap:=cap) hin hr hw
  have hst:Vs n.net l (k+1)=(Vs n.net l k||ZS n.net l k):=by
   grind [Vs]
  rw[hno,Ny]at hst
  cases hp:ZS n.net l k with
  |false=>
   rw[hp]at p2 hst
   repeat'(first|((first|apply Ya Ynq|apply Yb Ynq);exact za;exact rfl;exactλ_ hw=>(p2 hin.cons hr.cons hw))|apply(zs1 ?_)|apply(zs2 ?_)|(apply zg3;refine zs8 ?_)|(apply(zs17 ?_ ?_)<;>intro _<;>try exact zo)|(apply zg13;refine zs30 ?_)|apply(zs65 ?_)|apply(zs68 ?_)|apply(zs69 ?_)|apply(zs70 ?_)|(apply zg27;first|refine zs71 ?_|refine zs72 ?_)|apply(zs73 ?_)|apply(zs76 ?_)|apply(zs79 ?_)|fail)
   apply hK (k+1)
   ·exact⟨by omega,hst⟩
   ·omega
   ·exact zc1
   ·unfold netN
    exact zc0
  |true=>
   rw[hp]at p2
   have hfa:Vs n.net l l.length=true:=by
    unfold Vs
    rw[T8]
    exact⟨k,TQ.2 hlt,hp⟩
   rw[hfa]
   repeat'(first|((first|apply Ya Ynq|apply Yb Ynq);exact za;exact rfl;exactλ_ hw=>(p2 hin.cons hr.cons hw))|apply(zs1 ?_)|apply(zs2 ?_)|(apply zg3;refine zs8 ?_)|(apply(zs17 ?_ ?_)<;>intro _<;>try exact zo)|apply(zs65 ?_)|apply(zs68 ?_)|apply(zs69 ?_)|apply(zs70 ?_)|(apply zg27;refine zs71 ?_)|apply(zs73 ?_)|apply(zs74 ?_)|apply(zs76 ?_)|apply(zs77 ?_)|apply(zs78 ?_)|fail)
   apply Yi H
   ·exact zc0
   exact zc88
 ·obtain rfl:k=l.length:=by omega
  rw[hno]
  repeat'(first|apply(zs2 ?_)|(apply(zs17 ?_ ?_)<;>intro _<;>try exact zo)|apply(zs65 ?_)|apply(zs68 ?_)|apply(zs69 ?_)|apply(zs70 ?_)|(apply zg27;refine zs72 ?_)|apply(zs74 ?_)|apply(zs75 ?_)|apply(zs80 ?_)|apply(zs81 ?_)|fail)
  apply Yi H
  ·exact zc0
  exact zc88
theorem Yjw{n:Net}{l:List Cel}(hck:Yo n=0):JS n l=!(Vs n l l.length):=by
 simp_all [JS,Vs,List.not_any_eq_all_not]
theorem Ylu(n:NetM)(l:List Cel)(hck:Yo n.net=0)(hlen:l.length<=1000)(hin:n.In B w0 H)(hr:Rd B w0 H A (l.flatMap celF))(hw:St B w0 H w):
 CX B w0 422 [n.val,.slice A l.length cap] w λv K=>v=.bool (JS n.net l)/\K=H:=by
 refine Yc Tryz.func422 Tryz.ntmps422 rfl rfl hw ?_
 have p1:=λ{H':List HP}{w:World}(hin:n.In B w0 H') (hw:St B w0 H' w)=>Xb n hin hw
 rw[hck]at p1
 rw[Yjw hck]
 repeat'(first|apply(zs1 ?_)|apply(zs2 ?_)|(apply zg3;refine zs8 ?_)|(apply zg23;(refine zs52 ?_;intro _))|apply(zs65 ?_)|apply(zs68 ?_)|apply(zs69 ?_)|apply(zs70 ?_)|fail)
 apply Ye _ YxS
 exact za
 exact rfl
 exactλ_ hw=>(Yjm n l hck hlen hin.cons hr.cons (hw))
 rintro _ _ ⟨i,rfl,rfl⟩
 cases Vs n.net l l.length<;>(
  repeat'(first|((first|apply Ya en82|apply Yb en82);exact za;exact rfl;exactλ_ hw=>(p1 hin.cons hw))|apply(zs1 ?_)|apply(zs2 ?_)|(apply zg1;refine zs4 ?_)|(apply zg3;refine zs8 ?_)|(apply zg6;refine zs11 ?_)|apply(zs13 ?_)|(apply zg7;(refine zs15 ?_ ?_<;>intro _<;>try exact zo))|(apply zg20;first|refine zs47 ?_|refine zs48 ?_)|apply(zs65 ?_)|apply(zs68 ?_)|apply(zs69 ?_)|apply(zs70 ?_)|apply(zs74 ?_)|fail)
  apply Yi H
  ·exact zk
  apply Yd;exact rfl;exact rfl;exact⟨rfl,rfl⟩)
open Go.RowKit Go.Eng Go.Nw Go.Rt
theorem YqV(A:Option Addr)(cap:Nat)(es:List Ed)(f t c:Int):sl 438 4 A (es.length+2) cap (es.flatMap edF++[Value.int .i64 f,.int .i64 t,.int .i64 c,.int .i64 1,.int .i64 t,.int .i64 f,.int .i64 (-c),.int .i64 0])=sl 438 4 A (es++VS f t c).length cap ((es++VS f t c).flatMap edF):=by
 grind [VS,edF]
variable {B k:Nat}{w0 w:World}{H:List HP}
theorem YiM(g sides:Nat)(es:List Ed)(f t c:Int)(hel:es.length<=100000)(hc: -1000000<=c/\c<=1000000){A:Option Addr}{cap:Nat}(hw:St B w0 (gpcs g sides A cap es H) w):
 CX B w0 414 [.pointer (some ⟨g,0,none⟩),.int .i64 f,.int .i64 t,.int .i64 c] w λv K=>∃A' cap',v=.tuple #[]/\K=gpcs g sides A' cap' (es++VS f t c) H:=by
 refine Yc Tryz.func414 Tryz.ntmps414 rfl rfl hw ?_
 unfold gpcs
 repeat'(first|(apply Ywh;exact rfl;exact rfl;omega)|refine zgd ?_|(refine zgh ?_;intro _)|(refine zgi ?_;intro _ _)|fail)
 rename_i A' cap'
 apply Yi (gpcs g sides A' cap' (es++VS f t c) H)
 ·unfold gpcs
  have e1:(es++VS f t c).length=es.length+2:=by simp[VS]
  rw[<-YqV,e1]
  exact zc0
 apply Vq;exact rfl
 exact⟨A',cap',rfl,rfl⟩
variable {closed:Int->Bool}
theorem Yec(h:closed (k:Int)=false):Z6 closed (k+1)=Z6 closed k++VS (2*(k:Int)) (2*(k:Int)+1) 0:=by
 grind [Z6,Rx]
theorem Ygu(h:closed (k:Int)=true):Z6 closed (k+1)=Z6 closed k:=by
 grind [Z6,Rx]
theorem Q7(closed:Int->Bool):∀k,(Z6 closed k).length<=2*k
 |0=>by simp[Z6]
 |k+1=>by
  have:=Q7 closed k
  cases h:closed (k:Int)
  ·rw[Yec h,To];simp[VS];omega
  grind [Ygu]
theorem Yk1(l:List Lk)(a:Lk):UD (l++[a])=UD l++VS (2*a.1+1) (2*a.2.1) a.2.2:=by grind [UD]
theorem YfG(l:List Lk):(UD l).length=2*l.length:=by
 induction l with
 |nil=>rfl
 |cons a l ih=>
  grind [UD,VS]
structure Sz where
 k:Nat
 A:Option Addr
 cap:Nat
theorem Ymk(nodes:Nat)(l:List Lk)(closed:Int->Bool)(gm clock:Nat)(ents:Ents)(hn:nodes<=1000)(hl:l.length<=1000)(hok:ArcsOk nodes l)(hmb:MB ents closed){AL:Option Addr}{capL:Nat}(hm:blk gm (mobj ents clock)∈H)(hr:Rd B w0 H AL (l.flatMap lkF))(hw:St B w0 H w):
 CX B w0 377 [.int .i64 nodes,.slice AL l.length capL,.map (some gm)] w λv K=>∃g A cap,v=.pointer (some ⟨g,0,none⟩)/\K=gpcs g (2*nodes) A cap (W4 nodes l closed) H:=by
 refine Yc Tryz.func377 Tryz.ntmps377 rfl rfl hw ?_
 refine zX26 ?_<;>intros
 rename_i g
 refine Yg (λ(z:Sz)=>[(16,.int .i64 z.k),(15,.int .i64 nodes),(7,.pointer (some ⟨g,0,none⟩)),(1,.slice AL l.length capL),(2,.map (some gm))])
  (λz=>gpcs g (2*nodes) z.A z.cap (Z6 closed z.k) H) (λz=>z.k<=nodes) (λz=>nodes-z.k) ⟨0,none,0⟩ (Tm _) ?_ ?_ ?_
 ·exact zc1
 ·intro w hw
  have h5:=hw.nilSlice 438 4
  revert h5
  unfold gpcs
  exactλh5=>h5.perm (.swap _ _ _)
 rintro⟨k,A,cap⟩ hk K hK
 simp only at hk⊢
 have hnl:=Q7 closed k
 by_cases hlt:k<nodes
 ·obtain⟨b,hb⟩:∃b,closed (k:Int)=b:=⟨_,rfl⟩
  have hmk:blk gm (mobj ents clock)∈gpcs g (2*nodes) A cap (Z6 closed k) H:=TA _ (TA _ hm)
  cases b with
  |true=>
   have e2:=Ygu hb
   unfold gpcs at hmk⊢
   refine Yvk ?_<;>intros
   apply hK ⟨k+1,A,cap⟩
   ·exact zc28
   ·exact zc28
   ·exact zc1
   ·dsimp only
    rw[e2]
    exact YgV
  |false=>
   have e2:=Yec hb
   unfold gpcs at hmk
   refine Yvk ?_<;>intros
   apply Ye _ Yvc
   exact za
   exact rfl
   exactλ_ hw=>(YiM g (2*nodes) (Z6 closed k) (2*(k:Int)) (2*(k:Int)+1) 0 (by omega) (by omega) (hw))
   rintro _ _ ⟨A3,cap3,rfl,rfl⟩
   refine zX11 ?_
   apply hK ⟨k+1,A3,cap3⟩
   ·exact zc28
   ·exact zc28
   ·exact zc1
   ·dsimp only
    rw[e2]
    exact YgV
 ·obtain rfl:k=nodes:=by omega
  clear hK
  refine zX1 ?_<;>intros
  refine Yg (λ(z:Sz)=>[(33,.int .i64 z.k),(32,.int .i64 l.length),(31,.slice AL l.length capL),(7,.pointer (some ⟨g,0,none⟩))])
   (λz=>gpcs g (2*k) z.A z.cap (Z6 closed k++UD (l.take z.k)) H) (λz=>z.k<=l.length) (λz=>l.length-z.k) ⟨0,A,cap⟩ (Tm _) ?_ ?_ ?_
  ·exact zc1
  ·dsimp only
   rw[Nq,show UD []=[] from rfl,Ro]
   exact YgV
  rintro⟨j,A2,cap2⟩ hj K hK
  simp only at hj⊢
  have hal:=YfG (l.take j)
  rw[TT]at hal
  by_cases hlt:j<l.length
  ·obtain⟨a,ha⟩:∃a,l[j]? =some a:=⟨_,Ta hlt⟩
   obtain⟨⟨a1,a2⟩,⟨a3,a4⟩,⟨a5,a6⟩⟩:=hok a (Tc ha)
   have e2:UD (l.take (j+1))=UD (l.take j)++VS (2*a.1+1) (2*a.2.1) a.2.2:=by rw[TN,ha];exact Yk1 _ _
   have hrk:Rd B w0 (gpcs g (2*k) A2 cap2 (Z6 closed k++UD (l.take j)) H) AL (l.flatMap lkF):=(hr.cons).cons
   refine zX48 ?_<;>intros
   rename_i ga
   apply XU (gpcs g (2*k) A2 cap2 (Z6 closed k++UD (l.take j)) (blk ga (.cells #[.int .i64 a.1,.int .i64 a.2.1,.int .i64 a.2.2] 298 (0,0))::H))
   ·unfold gpcs
    exact zc0
   apply Ye _ Yvc
   exact za
   exact rfl
   exactλ_ hw=>(YiM g (2*k) (Z6 closed k++UD (l.take j)) (2*a.1+1) (2*a.2.1) a.2.2 (by rw[To];omega) (by omega) (hw))
   rintro _ _ ⟨A3,cap3,rfl,rfl⟩
   refine zX11 ?_
   apply hK ⟨j+1,A3,cap3⟩
   ·exact zc28
   ·exact zc28
   ·exact zc1
   ·dsimp only
    rw[e2,<-TY]
    unfold gpcs
    exact zc0
  ·obtain rfl:j=l.length:=by omega
   clear hK
   rw[TV]
   refine zX1 ?_<;>intros
   apply Yd;exact rfl;exact rfl
   exact⟨g,A2,cap2,rfl,rfl⟩
theorem YpL{nodes:Nat}{l:List Lk}{closed:Int->Bool}(h:ArcsOk nodes l):EdsIn (2*nodes) 1 (W4 nodes l closed):=by
 intro e he
 rcases TI.1 he with he|he
 ·obtain⟨v,hv,he⟩:=RJ.1 he
  have hv:=TQ.1 hv
  split at he
  ·cases he
  ·simp only[VS,TL,RV,N3]at he
   rcases he with rfl|rfl<;>simp only<;>omega
 ·obtain⟨a,ha,he⟩:=RJ.1 he
  obtain⟨h1,h2,h3⟩:=h a ha
  simp only[VS,TL,RV,N3]at he
  grind
theorem Ymj(nodes:Nat)(l:List Lk)(closed:Int->Bool):(W4 nodes l closed).length<=2*nodes+2*l.length:=by
 grind [W4,YfG,Q7]
variable {es:Ents}
theorem YpF{seen:Array Nat}{e:Int×Value×Nat}(he:e∈es)(hs:seen.contains e.2.2=false):(es.filter λx=>!(seen.push e.2.2).contains x.2.2).length<(es.filter λx=>!seen.contains x.2.2).length:=by
 have h1:(es.filter λx=>!(seen.push e.2.2).contains x.2.2)=(es.filter λx=>!seen.contains x.2.2).filter λx=>!(x.2.2==e.2.2):=by
  rw[SN]
  grind
 rw[h1]
 refine List.length_filter_lt_length_iff_exists.2 ⟨e,Re.2 ⟨he,by simp_all⟩,by simp⟩
theorem Yq9(hn:(es.map λe=>e.2.2).Nodup){x y:Int×Value×Nat}(hx:x∈es)(hy:y∈es)(e:x.2.2=y.2.2):x=y:=by
 induction es with
 |nil=>cases hx
 |cons a l ih=>
  grind
def Yv7(mo:Option Nat)(closed:Int->Bool)(H:List HP):Prop:=match mo with
 |none=>∀v,closed v=false
 |some gm=>∃ents clock,blk gm (mobj ents clock)∈H/\MB ents closed/\MOk ents clock
structure Mz(f:Int->Bool) where
 g:Nat
 es:Ents
 c:Nat
 mb:MB es f
 ok:MOk es c
structure Lz where
 es:Ents
 c:Nat
 seen:Array Nat
 f:Int->Bool
theorem YfK(nodes:Nat)(l:List Lk)(a b to:Int)(mo:Option Nat)(closed:Int->Bool)(fuel:Nat)(r:Int×Bool×List Ed)(hn:1<=nodes/\nodes<=50)(hl:l.length<=900)(hok:ArcsOk nodes l)(ha:0<=a/\a<nodes)(hb:0<=b/\b<nodes)(ht:0<=to/\to<nodes)(hfu:fuel<=100000)(hrun:Wi fuel nodes l a b to closed=some r)
 {AL:Option Addr}{capL B:Nat}{w0:World}{H:List HP}{w:World}(hmo:Yv7 mo closed H) (hr:Rd B w0 H AL (l.flatMap lkF)) (hw:St B w0 H w):
 CX B w0 313 [.int .i64 nodes,.slice AL l.length capL,.int .i64 a,.int .i64 b,.int .i64 to,.map mo] w λv K=>∃g A cap,v=.tuple #[.int .i64 r.1,.pointer (some ⟨g,0,none⟩),.bool r.2.1]/\(r.2.2.length<=2000/\EdsIn (2*nodes) 900000 r.2.2/\ -600000000000000<=r.1/\r.1<=3000000000)/\K=gpcs g (2*nodes) A cap r.2.2 H:=by
 refine Yc Tryz.func313 Tryz.ntmps313 rfl rfl hw ?_
 iterate 8 (first|refine zga ?_|fail)
 refine Zf (λ(z:Mz λv=>decide (v=a\/v=b\/v=to))=>[(15,.map (some z.g)),(0,.int .i64 nodes),(1,.slice AL l.length capL),(2,.int .i64 a),(3,.int .i64 b),(4,.int .i64 to),(5,.map mo)]) (λz=>blk z.g (mobj z.es z.c)::H) ?_ ?_
 ·intro K hK
  apply Yak (.n1 1 (.n1 3 (.n1 5 (.n1 0 (.n3 2 (.n2 4 (.n1 6 (.n1 7 (.n1 8 .done))) 6 (.n1 4 (.n1 7 (.n1 8 .done)))) 4 (.n2 2 (.n1 6 (.n1 7 (.n1 8 .done))) 6 (.n1 2 (.n1 7 (.n1 8 .done)))) 6 (.n2 2 (.n1 4 (.n1 7 (.n1 8 .done))) 4 (.n1 2 (.n1 7 (.n1 8 .done))))))))) [] []
  kernel_rfl
  kernel_rfl
  exact zy
  exact rfl
  repeat'(first|(apply Yc4;exact rfl;intro gs)|(apply Ys1 (kt:=3) (et:=4);(iterate 3 exact rfl);kernel_rfl;(intro _ _;exact zd);(first|assumption|exact MB.nil);(first|assumption|exact MOk.nil);intro _ _ _ _)|(apply Yup;(simp only[nthO];rfl);(simp only[nthO];rfl);(simp only[nthO];rfl))|(apply YmK;(simp only[nthO];rfl);(simp only[nthO];rfl))|(apply YmJ;(simp only[nthO];rfl))|(apply Yap;try exact zl)|(apply Yl;try exact zl)|refine zgd ?_|fail)
  all_goals(
   rename_i es3 c3 m3 o3
   refine hK ⟨gs,es3,c3,m3.ext λv=>?_,o3⟩ _ _ ?_ ?_
   ·by_cases h1:v=a<;>by_cases h2:v=b<;>by_cases h3:v=to<;>simp[h1,h2,h3]
   ·exact zu
   ·exactλw hw=>hw)
 rintro⟨gs,es0,c0,mb0,ok0⟩
 dsimp only
 apply YY
 refine Zf (λ(z:Mz (Y5 a b to closed))=>[(15,.map (some z.g)),(0,.int .i64 nodes),(1,.slice AL l.length capL),(2,.int .i64 a),(3,.int .i64 b),(4,.int .i64 to)]) (λz=>blk z.g (mobj z.es z.c)::H) ?_ ?_
 ·intro KK hKK
  cases mo with
  |none=>
   repeat'(first|(apply YiF (kt:=3) (et:=4);exact rfl;kernel_rfl;exact rfl;intro it)|refine zgb ?_|fail)
   refine Yg (λ(_:Unit)=>[(28,.pointer (some ⟨it,0,none⟩)),(15,.map (some gs)),(0,.int .i64 nodes),(1,.slice AL l.length capL),(2,.int .i64 a),(3,.int .i64 b),(4,.int .i64 to)]) (λ_=>blk it (.mapIter none 0 #[] 0)::blk gs (mobj es0 c0)::H) (λ_=>True) (λ_=>0) () trivial ?_ (λw hw=>hw) ?_
   ·exact zc1
   intro _ _ K hK
   clear hK
   repeat'(first|(apply YkX;exact rfl;exact zm;exact rfl)|refine zgc ?_|fail)
   refine hKK ⟨gs,es0,c0,mb0.ext λv=>?_,ok0⟩ _ _ ?_ ?_
   ·unfold Y5;rw[hmo v,Bool.or_false]
   ·exact zc1
   ·exact zc51
  |some gm=>
   obtain⟨ents,clock,hm,hmb,hmk⟩:=hmo
   repeat'(first|(apply Yqs (kt:=3) (et:=4) (g:=gm);exact rfl;exact TA _ hm;kernel_rfl;exact rfl;intro it)|refine zgb ?_|fail)
   refine Yg (λ(_:Lz)=>[(28,.pointer (some ⟨it,0,none⟩)),(15,.map (some gs)),(0,.int .i64 nodes),(1,.slice AL l.length capL),(2,.int .i64 a),(3,.int .i64 b),(4,.int .i64 to)]) (λz=>blk it (.mapIter (some gm) clock z.seen clock)::blk gs (mobj z.es z.c)::H)
    (λz=>MB z.es z.f/\MOk z.es z.c/\(∀v,z.f v=true->Y5 a b to closed v=true)/\(∀v,(v=a\/v=b\/v=to)->z.f v=true)/\∀e∈ents,z.seen.contains e.2.2=true->z.f e.1=true) (λz=>(ents.filter λx=>!z.seen.contains x.2.2).length) ⟨es0,c0,#[],λv=>decide (v=a\/v=b\/v=to)⟩ ⟨mb0,ok0,λv h=>by unfold Y5;simp only at h;rw[h];rfl,λv h=>Td h,λe _ h=>by simp at h⟩ ?_ (λw hw=>hw) ?_
   ·exact zc1
   rintro⟨es1,c1,seen,f⟩ ⟨i1,i2,i3,i4,i5⟩ K hK
   simp only at i1 i2 i3 i4 i5⊢
   repeat'(first|apply YY|apply Yim|apply Yx|fail)
   apply Ys6 (g:=gm)
   ·exact rfl
   ·exact TA _ (TA _ hm)
   ·exact rfl
   ·intro _;exact zd
   ·exact hmk.lt
   ·exact TJ _
   ·intro hall
    clear hK
    refine zX11 ?_
    refine hKK ⟨gs,es1,c1,i1.ext λv=>?_,i2⟩ _ _ ?_ ?_
    ·cases hs:Y5 a b to closed v with
     |true=>
      unfold Y5 at hs
      rcases R9 _ _▸hs with h|h
      ·exact i4 v (Rj h)
      ·obtain⟨e,he,rfl⟩:=hmb.at_ h
       exact i5 e he (hall e he)
     |false=>
      cases hf:f v with
      |false=>rfl
      |true=>rw[i3 v hf]at hs;cases hs
    ·exact zc1
    ·exact zc51
   ·rintro⟨ek,ev,eb⟩ he hseen
    simp only at hseen⊢
    have hec:=hmb.mem he
    repeat'(first|(apply Yql (g:=gm) (e:=(ek,ev,eb));exact rfl;exact TA _ (TA _ hm);exact zm;exact rfl;exact he;exact hmk.nd)|(apply YmG (kt:=3) (et:=4);(iterate 3 exact rfl);kernel_rfl;(intro _ _;exact zd);exact i1;exact i2;intro es2 c2 m2 o2 _ _)|refine zgc ?_|fail)
    apply hK ⟨es2,c2,seen.push eb,λv=>decide (v=ek)||f v⟩
    ·refine⟨m2,o2,λv h=>?_,λv h=>?_,λe he2 h=>?_⟩
     ·simp only at h
      rcases R9 _ _▸h with h|h
      ·obtain rfl:=Rj h
       unfold Y5
       rw[hec,Bool.or_true]
      ·exact i3 v h
     ·simp only;rw[i4 v h,Bool.or_true]
     ·simp only at h⊢
      rw[Array.contains_push]at h
      rcases R9 _ _▸h with h|h
      ·rw[i5 e he2 h,Bool.or_true]
      ·have:e=(ek,ev,eb):=Yq9 hmk.nd he2 he (by simpa using h)
       rw[this];simp
    ·exact YpF (e:=(ek,ev,eb)) he hseen
    ·exact zc1
    exact zc17
 rintro⟨gs2,es2,c2,mb2,ok2⟩
 dsimp only
 have hsl:=Ymj nodes l (Y5 a b to closed)
 have hsi:=YpL (closed:=Y5 a b to closed) hok
 unfold Wi at hrun
 cases h1:Ycj fuel (2*nodes) (W4 nodes l (Y5 a b to closed)) (2*a+1) (2*to)with
 |none=>rw[h1]at hrun;cases hrun
 |some r1=>
  rw[h1]at hrun
  obtain⟨x,ok,es1⟩:=r1
  dsimp only at hrun
  cases h2:Ycj fuel (2*nodes) es1 (2*b+1) (2*to)with
  |none=>rw[h2]at hrun;cases hrun
  |some r2=>
   rw[h2]at hrun
   obtain⟨y,is,es3⟩:=r2
   obtain rfl:=Tv hrun
   refine zX4 ?_
   apply Ye _ YxE
   exact za
   exact rfl
   exactλ_ hw=>(Ymk nodes l (Y5 a b to closed) gs2 c2 es2 (by omega) (by omega) hok mb2 Tz hr.cons (hw))
   rintro _ _ ⟨g,A,cap,rfl,rfl⟩
   refine zX2 ?_
   apply Ye _ Yu5
   exact za
   exact rfl
   exactλ_ hw=>(YgE g (2*nodes) (W4 nodes l (Y5 a b to closed)) (2*a+1) (2*to) fuel 1 (x,ok,es1) (by omega) hsi (by omega) (by omega) hfu (by omega) (by omega) h1 (hw))
   rintro _ _ ⟨rfl,⟨q1,q2,q3,q4⟩,rfl⟩
   dsimp only at q1 q2 q3 q4⊢
   refine zX2 ?_
   apply Ye _ Yu5
   exact za
   exact rfl
   exactλ_ hw=>(YgE g (2*nodes) es1 (2*b+1) (2*to) fuel (1+2*(fuel:Int)) (y,is,es3) (by omega) q2 (by omega) (by omega) hfu (by omega) (by omega) h2 (hw))
   rintro _ _ ⟨rfl,⟨p1,p2,p3,p4⟩,rfl⟩
   dsimp only at p1 p2 p3 p4⊢
   cases ok
   all_goals(
    repeat'(first|refine zgd ?_|fail)
    apply Yi (gpcs g (2*nodes) A cap es3 H)
    ·unfold gpcs
     exact zk
    apply VW;(iterate 4 exact rfl)
    exact⟨g,A,cap,rfl,⟨by omega,p2.mono (by omega),by omega,by omega⟩,rfl⟩)
end Go.Proofs.YtaholidehobiiaaGreatDoor
