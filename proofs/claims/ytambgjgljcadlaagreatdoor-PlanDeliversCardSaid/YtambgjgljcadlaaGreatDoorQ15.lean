/- Lemmas. -/
import Derived.Test.YtambgjgljcadlaaGreatDoorQ12
import Derived.Test.YtambgjgljcadlaaGreatDoorQ13
set_option maxRecDepth 100000
set_option maxHeartbeats 8000000
set_option linter.all false
namespace Go.Proofs.YtambgjgljcadlaaGreatDoor
open Go.RowKit Go.Eng Go.Nw
variable {B cap:Nat}{w0 w:World}{H:List HP}
theorem NetM.In.inM{K:List HP}{n:NetM}(h:n.In B w0 H)(hm:Eng.many H∈K):n.In B w0 K:=
 ⟨h.pw.inM hm,λr hr=>(h.rw_ r hr).inM hm,h.lk.inM hm,h.mg.inM hm,h.s1,h.s2,h.s3,h.s4⟩
theorem YgU(a b:Cel)(hw:St B w0 H w):
 CX B w0 363 [celV a,celV b] w λv K=>v=.bool (YE a b)/\K=H:=by
 refine Ya Tryz.func363 Tryz.ntmps363 rfl rfl hw ?_
 have htc:YE a b=true↔(a.2.2.1=b.2.2.1\/a.2.2.1=b.2.2.2.1\/a.2.2.2.1=b.2.2.1\/a.2.2.2.1=b.2.2.2.1):=by unfold YE Yr toC;simp_all
 obtain⟨z,hz⟩:∃z,YE a b=z:=⟨_,rfl⟩
 rw[hz]at htc⊢
 repeat'(first|apply(zs1 ?_)|apply(zs2 ?_)|(apply zg1;first|refine zs3 ?_|refine zs4 ?_)|(apply zg2;refine zs6 ?_)|(apply zg3;refine zs7 ?_)|(apply zg6;first|refine zs11 ?_|refine zs12 ?_)|(apply zg7;(refine zs15 ?_ ?_<;>intro _<;>try exact zo))|(apply zg23;(refine zs52 ?_;intro _))|apply(zs65 ?_)|apply(zs68 ?_)|apply(zs69 ?_)|apply(zs70 ?_)|apply(zs74 ?_)|fail)
 all_goals(
  apply Yg H
  ·exact zk
  apply Yf;exact rfl;exact rfl
  cases z<;>simp at htc<;>first|exact⟨rfl,rfl⟩|(exfalso;omega))
def Uc(_:Net)(l:List Cel)(i:Nat)(c:Cel)(k:Nat):Bool:=(List.range k).any λj=>decide (j≠i)&&YE c (celL l j)
theorem YaW(n:NetM)(l:List Cel)(i:Nat)(gn gl gi:Nat)(A:Option Addr)(cap:Nat)(lk node:Int)(hok:Ok n.net)(hnode:0<=node/\node<n.nodes)(hlk:0<=lk/\lk.toNat<n.net.links.length)(hlen:l.length<=1000)(hin:n.In B w0 H)(hr:Rd B w0 H A (l.flatMap celF))
 (h1:netN gn n∈H) (h2:blk gl (.cells #[.slice A l.length cap] 28 (0,0))∈H) (h3:blk gi (.cells #[.int .i64 i] 3 (0,0))∈H) (hw:St B w0 H w):
 CX B w0 364 [.int .i64 lk,.int .i64 node,.pointer (some ⟨gn,0,none⟩),.pointer (some ⟨gl,0,none⟩),.pointer (some ⟨gi,0,none⟩)] w λv K=>v=.bool (X8 n.net (mar n.net lk.toNat) (Yx n.net l i node l.length))/\K=H:=by
 refine Ya Tryz.func364 Tryz.ntmps364 rfl rfl hw ?_
 have hmg:=hin.mg
 have hs4:=hin.s4
 have hml:n.margin.length=n.net.links.length:=hok.k1
 have hm1:n.margin[lk.toNat]? =some (mar n.net lk.toNat):=zc46
 have p1:=λ{w:World}(hw:St B w0 H w)=>Ycp n l i node hok hnode hlen (cap:=cap) hin hr hw
 obtain⟨d,hd⟩:∃d,Yx n.net l i node l.length=d:=⟨_,rfl⟩
 rw[hd]at p1⊢
 have p2:=λ{w:World}(hw:St B w0 H w)=>OR n (mar n.net lk.toNat) d hin hw
 unfold netN at h1
 repeat'(first|apply(zs2 ?_)|apply(zs65 ?_)|apply(zs68 ?_)|apply(zs69 ?_)|apply(zs70 ?_)|fail)
 apply XT [0,1,2,3,4,5,6,7,8,9,10,11,12] []
 kernel_rfl
 kernel_rfl
 (simp only[Yd,nthO];rfl)
 exact rfl
 repeat'(first|apply(zs1 ?_)|(apply zg2;refine zs6 ?_)|(apply zg3;first|refine zs7 ?_|refine zs8 ?_|refine zs60 ?_)|(apply zg5;refine zs57 ?_)|apply(zs87 ?_)|fail)
 first|apply Yb YlJ|apply Yc YlJ
 exact za
 exact rfl
 exactλ_ hw=>(p1 hw)
 repeat'(first|apply(zs65 ?_)|apply(zs87 ?_)|(apply Yj;(repeat(first|with_reducible exact Y2|(with_reducible apply YP;(repeat(first|with_reducible exact Ys|with_reducible apply YB))))))|fail)
 ·show Perm H (H++[])
  exact zc28
 repeat'(first|fail)
 first|apply Yb Wu|apply Yc Wu
 exact za
 exact rfl
 exactλ_ hw=>(p2 hw)
 repeat'(first|apply(zs2 ?_)|apply(zs65 ?_)|(apply ZU;exact zp)|apply(zs68 ?_)|apply(zs74 ?_)|(apply Yj;(repeat(first|with_reducible exact Y2|(with_reducible apply YP;(repeat(first|with_reducible exact Ys|with_reducible apply YB))))))|apply(zs93 ?_)|apply(zs94 ?_)|fail)
 ·show Perm H (H++[])
  exact zc28
 repeat'(first|fail)
 exact zc13
variable {A:Option Addr}
theorem YhP(n:NetM)(l:List Cel)(i:Nat)(hck:Yp n.net=0)(hi:i<l.length)(hlen:l.length<=1000)(hin:n.In B w0 H)(hr:Rd B w0 H A (l.flatMap celF))(hw:St B w0 H w):
 CX B w0 361 [n.val,.slice A l.length cap,.int .i64 i] w λv K=>v=.bool (Zk n.net l i)/\K=H:=by
 refine Ya Tryz.func361 Tryz.ntmps361 rfl rfl hw ?_
 have hok:=YM hck
 have hget:l[i]? =some (celL l i):=by unfold celL;rw[Tu,Ta hi];rfl
 obtain⟨c,hc⟩:∃c,celL l i=c:=⟨_,rfl⟩
 rw[hc]at hget
 have p1:=λ{H':List HP}{w:World}(hin:n.In B w0 H') (hw:St B w0 H' w)=>XP n c.2.2.1 c.2.2.2.1 hin hw
 have p2:=λ{H':List HP}{w:World}(hin:n.In B w0 H') (hw:St B w0 H' w)=>XP n c.2.2.2.1 c.2.2.1 hin hw
 have hix:∀u v:Int,XG n.net u v=Yy n.net u v:=λu v=>by unfold XG;rw[Tf (by omega)]
 have hus:=Yi9 hck c.2.2.1 c.2.2.2.1
 have p3:=λ{H':List HP}{w:World}(hin:n.In B w0 H') (hw:St B w0 H' w)=>V4 n (XG n.net c.2.2.1 c.2.2.2.1) hin hw
 rw[hus]at p3
 have hP:Zk n.net l i=(!(Y3 n.net c.2.2.1 c.2.2.2.1)||Uc n.net l i c l.length||(!(X8 n.net (mar n.net (Yy n.net c.2.2.1 c.2.2.2.1).toNat) (Yx n.net l i c.2.2.2.1 l.length))||!(X8 n.net (mar n.net (Yy n.net c.2.2.2.1 c.2.2.1).toNat) (Yx n.net l i c.2.2.1 l.length)))):=by
  unfold Zk Uc
  rw[hc,show JQ n.net (XG n.net (Yr c) (toC c))=Y3 n.net c.2.2.1 c.2.2.2.1 from hus]
  rfl
 rw[hP]
 by_cases hg:Y3 n.net c.2.2.1 c.2.2.2.1=true
 rotate_left
 ·have hg:Y3 n.net c.2.2.1 c.2.2.2.1=false:=by simpa using hg
  rw[hg]at p3⊢
  repeat'(first|apply(zs2 ?_)|(apply zg3;first|refine zs7 ?_|refine zs61 ?_)|(apply zg5;refine zs57 ?_)|(apply zg22;refine zs51 ?_)|(apply zg23;first|(refine zs52 ?_;intro _)|(refine zs53 ?_;intro _))|(apply zg24;(refine zs54 ?_;intro _))|apply(zs65 ?_)|apply(zs68 ?_)|apply(zs69 ?_)|apply(zs70 ?_)|fail)
  rename_i gn gl gi gc
  apply YD [0,1,2,3,4,6,7,8,9,10,5,11,12,13] [] [true,false,false,true]
  kernel_rfl
  kernel_rfl
  exact zy
  (simp only[Yd,nthO];rfl)
  exact rfl
  repeat'(first|(apply zg2;refine zs6 ?_)|(apply zg3;first|refine zs7 ?_|refine zs8 ?_)|apply(zs87 ?_)|fail)
  first|apply Yb en45|apply Yc en45
  exact za
  exact rfl
  exactλ_ hw=>(p1 zc49 hw)
  repeat'(first|apply(zs65 ?_)|apply(zs87 ?_)|(apply Yj;(repeat(first|with_reducible exact Y2|(with_reducible apply YP;(repeat(first|with_reducible exact Ys|with_reducible apply YB))))))|fail)
  first|apply Yb en45|apply Yc en45
  exact za
  exact rfl
  exactλ_ hw=>(p2 zc49 hw)
  repeat'(first|apply(zs1 ?_)|apply(zs2 ?_)|(apply zg3;refine zs8 ?_)|apply(zs65 ?_)|(apply ZU;exact zp)|apply(zs68 ?_)|apply(zs69 ?_)|apply(zs70 ?_)|(apply Yj;(repeat(first|with_reducible exact Y2|(with_reducible apply YP;(repeat(first|with_reducible exact Ys|with_reducible apply YB))))))|apply(zs93 ?_)|apply(zs94 ?_)|fail)
  first|apply Yb JA|apply Yc JA
  exact za
  exact rfl
  exactλ_ hw=>(p3 zc49 hw)
  repeat'(first|apply(zs2 ?_)|(apply zg20;refine zs48 ?_)|apply(zs65 ?_)|apply(zs68 ?_)|apply(zs69 ?_)|apply(zs70 ?_)|(apply zg27;refine zs71 ?_)|apply(zs74 ?_)|apply(zs77 ?_)|fail)
  apply Yg H
  ·exact zc0
  exact zc5
 rw[hg]at p3⊢
 obtain⟨⟨f0,f1⟩,⟨t0,t1⟩,_,k1,k2⟩:(0<=c.2.2.1/\c.2.2.1<n.net.nodes)/\(0<=c.2.2.2.1/\c.2.2.2.1<n.net.nodes)/\c.2.2.1≠c.2.2.2.1/\0<=Yy n.net c.2.2.1 c.2.2.2.1/\0<=Yy n.net c.2.2.2.1 c.2.2.1:=Xr hok hg
 have x1:=Zj k1
 have x2:=Zj k2
 rw[hix]at p1 p2 p3
 obtain⟨i1,hi1⟩:∃z,Yy n.net c.2.2.1 c.2.2.2.1=z:=⟨_,rfl⟩
 obtain⟨i2,hi2⟩:∃z,Yy n.net c.2.2.2.1 c.2.2.1=z:=⟨_,rfl⟩
 rw[hi1]at p1 p3 k1 x1⊢
 rw[hi2]at p2 k2 x2⊢
 have q1:=λ{H':List HP}{w:World}(gn gl gi:Nat) (hin:n.In B w0 H') (hr:Rd B w0 H' A (l.flatMap celF)) (h1:netN gn n∈H') (h2:blk gl (.cells #[.slice A l.length cap] 28 (0,0))∈H') (h3:blk gi (.cells #[.int .i64 i] 3 (0,0))∈H') (hw:St B w0 H' w)=>YaW n l i gn gl gi A cap i1 c.2.2.2.1 hok ⟨t0,t1⟩ ⟨k1,x1⟩ hlen hin hr h1 h2 h3 hw
 have q2:=λ{H':List HP}{w:World}(gn gl gi:Nat) (hin:n.In B w0 H') (hr:Rd B w0 H' A (l.flatMap celF)) (h1:netN gn n∈H') (h2:blk gl (.cells #[.slice A l.length cap] 28 (0,0))∈H') (h3:blk gi (.cells #[.int .i64 i] 3 (0,0))∈H') (hw:St B w0 H' w)=>YaW n l i gn gl gi A cap i2 c.2.2.1 hok ⟨f0,f1⟩ ⟨k2,x2⟩ hlen hin hr h1 h2 h3 hw
 obtain⟨b1,hb1⟩:∃b,X8 n.net (mar n.net i1.toNat) (Yx n.net l i c.2.2.2.1 l.length)=b:=⟨_,rfl⟩
 obtain⟨b2,hb2⟩:∃b,X8 n.net (mar n.net i2.toNat) (Yx n.net l i c.2.2.1 l.length)=b:=⟨_,rfl⟩
 rw[hb1]at q1⊢
 rw[hb2]at q2⊢
 repeat'(first|apply(zs2 ?_)|(apply zg3;first|refine zs7 ?_|refine zs61 ?_)|(apply zg5;refine zs57 ?_)|(apply zg22;refine zs51 ?_)|(apply zg23;first|(refine zs52 ?_;intro _)|(refine zs53 ?_;intro _))|(apply zg24;(refine zs54 ?_;intro _))|apply(zs65 ?_)|apply(zs68 ?_)|apply(zs69 ?_)|apply(zs70 ?_)|fail)
 rename_i gn gl gi gc
 apply YD [0,1,2,3,4,6,7,8,9,10,5,11,12,13] [] [true,false,false,true]
 kernel_rfl
 kernel_rfl
 exact zy
 (simp only[Yd,nthO];rfl)
 exact rfl
 repeat'(first|(apply zg2;refine zs6 ?_)|(apply zg3;first|refine zs7 ?_|refine zs8 ?_)|apply(zs87 ?_)|fail)
 first|apply Yb en45|apply Yc en45
 exact za
 exact rfl
 exactλ_ hw=>(p1 zc49 hw)
 repeat'(first|apply(zs65 ?_)|apply(zs87 ?_)|(apply Yj;(repeat(first|with_reducible exact Y2|(with_reducible apply YP;(repeat(first|with_reducible exact Ys|with_reducible apply YB))))))|fail)
 first|apply Yb en45|apply Yc en45
 exact za
 exact rfl
 exactλ_ hw=>(p2 zc49 hw)
 repeat'(first|apply(zs1 ?_)|apply(zs2 ?_)|(apply zg3;refine zs8 ?_)|apply(zs65 ?_)|(apply ZU;exact zp)|apply(zs68 ?_)|apply(zs69 ?_)|apply(zs70 ?_)|(apply Yj;(repeat(first|with_reducible exact Y2|(with_reducible apply YP;(repeat(first|with_reducible exact Ys|with_reducible apply YB))))))|apply(zs93 ?_)|apply(zs94 ?_)|fail)
 first|apply Yb JA|apply Yc JA
 exact za
 exact rfl
 exactλ_ hw=>(p3 zc49 hw)
 repeat'(first|apply(zs1 ?_)|(apply zg3;refine zs7 ?_)|(apply zg4;refine zs9 ?_)|(apply zg20;refine zs47 ?_)|apply(zs65 ?_)|apply(zs68 ?_)|apply(zs69 ?_)|apply(zs70 ?_)|(apply zg27;refine zs72 ?_)|apply(zs73 ?_)|apply(zs76 ?_)|fail)
 refine Yh (λ(k:Nat)=>[(35,.int .i64 k),(34,.int .i64 l.length),(33,.slice A l.length cap),(3,.pointer (some ⟨gn,0,none⟩)),(4,.pointer (some ⟨gl,0,none⟩)),(5,.pointer (some ⟨gi,0,none⟩)),(7,.pointer (some ⟨gc,0,none⟩)),(8,.int .i64 i1),(9,.int .i64 i2)])
  (λ_=>blk gc (.cells #[.int .i64 c.1,.int .i64 c.2.1,.int .i64 c.2.2.1,.int .i64 c.2.2.2.1,.int .i64 c.2.2.2.2] 117 (0,0))::blk gi (.cells #[.int .i64 i] 3 (0,0))::blk gl (.cells #[.slice A l.length cap] 28 (0,0))::netN gn n::H) (λk=>k<=l.length/\Uc n.net l i c k=false) (λk=>l.length-k) 0 ⟨Tm _,rfl⟩ ?_ ?_ ?_
 ·exact zc1
 ·unfold netN
  exact zc0
 rintro k ⟨hk,hno⟩ K hK
 have hrc:Rd B w0 (blk gc (.cells #[.int .i64 c.1,.int .i64 c.2.1,.int .i64 c.2.2.1,.int .i64 c.2.2.2.1,.int .i64 c.2.2.2.2] 117 (0,0))::blk gi (.cells #[.int .i64 i] 3 (0,0))::blk gl (.cells #[.slice A l.length cap] 28 (0,0))::netN gn n::H) A (l.flatMap celF):=hr.cons.cons.cons.cons
 by_cases hlt:k<l.length
 ·have hgk:l[k]? =some (celL l k):=by unfold celL;rw[Tu,Ta hlt];rfl
  have hst:Uc n.net l i c (k+1)=(Uc n.net l i c k||(decide (k≠i)&&YE c (celL l k))):=by
   unfold Uc
   rw[RD,Nj]
   simp
  obtain⟨d,hd⟩:∃d,celL l k=d:=⟨_,rfl⟩
  rw[hd]at hgk hst
  have p4:=λ{H':List HP}{w:World}(hw:St B w0 H' w)=>YgU c d hw
  unfold netN at hrc⊢
  obtain⟨t,ht⟩:∃t,YE c d=t:=⟨_,rfl⟩
  rw[ht]at p4 hst
  rw[hno,NH]at hst
  by_cases hki:k=i
  ·rw[Tn (λh=>h hki),SD]at hst
   repeat'(first|apply(zs1 ?_)|apply(zs2 ?_)|(apply zg1;refine zs3 ?_)|(apply zg3;first|refine zs7 ?_|refine zs61 ?_)|(apply zg5;refine zs57 ?_)|(apply zg6;refine zs12 ?_)|(apply zg8;(refine zs16 ?_ ?_<;>intro _<;>try exact zo))|(apply(zs17 ?_ ?_)<;>intro _<;>try exact zo)|(apply zg13;refine zs30 ?_)|(apply zg22;refine zs51 ?_)|(apply zg24;(refine zs54 ?_;intro _))|apply(zs65 ?_)|apply(zs68 ?_)|apply(zs69 ?_)|apply(zs70 ?_)|(apply zg27;first|refine zs71 ?_|refine zs72 ?_)|apply(zs73 ?_)|apply(zs76 ?_)|apply(zs79 ?_)|fail)
   apply hK (k+1)
   ·exact⟨by omega,hst⟩
   ·omega
   ·exact zc1
   ·unfold netN
    exact zc0
  rw[Ti hki,RV]at hst
  cases t with
  |false=>
   repeat'(first|((first|apply Yb YlP|apply Yc YlP);exact za;exact rfl;exactλ_ hw=>(p4 hw))|apply(zs1 ?_)|apply(zs2 ?_)|(apply zg1;refine zs4 ?_)|(apply zg3;first|refine zs7 ?_|refine zs8 ?_|refine zs61 ?_)|(apply zg5;refine zs57 ?_)|(apply zg6;refine zs11 ?_)|(apply zg8;(refine zs16 ?_ ?_<;>intro _<;>try exact zo))|(apply(zs17 ?_ ?_)<;>intro _<;>try exact zo)|(apply zg13;refine zs30 ?_)|(apply zg22;refine zs51 ?_)|(apply zg24;(refine zs54 ?_;intro _))|apply(zs65 ?_)|apply(zs68 ?_)|apply(zs69 ?_)|apply(zs70 ?_)|(apply zg27;first|refine zs71 ?_|refine zs72 ?_)|apply(zs73 ?_)|apply(zs76 ?_)|apply(zs79 ?_)|fail)
   apply hK (k+1)
   ·exact⟨by omega,hst⟩
   ·omega
   ·exact zc1
   ·unfold netN
    exact zc0
  |true=>
   have hfa:Uc n.net l i c l.length=true:=by
    unfold Uc
    rw[Re]
    exact⟨k,TN.2 hlt,by rw[hd,ht,Ti hki];rfl⟩
   rw[hfa]
   repeat'(first|((first|apply Yb YlP|apply Yc YlP);exact za;exact rfl;exactλ_ hw=>(p4 hw))|apply(zs1 ?_)|apply(zs2 ?_)|(apply zg1;refine zs4 ?_)|(apply zg3;first|refine zs7 ?_|refine zs8 ?_|refine zs61 ?_)|(apply zg5;refine zs57 ?_)|(apply zg6;refine zs11 ?_)|(apply zg8;(refine zs16 ?_ ?_<;>intro _<;>try exact zo))|(apply(zs17 ?_ ?_)<;>intro _<;>try exact zo)|(apply zg22;refine zs51 ?_)|(apply zg24;(refine zs54 ?_;intro _))|apply(zs65 ?_)|apply(zs68 ?_)|apply(zs69 ?_)|apply(zs70 ?_)|(apply zg27;refine zs71 ?_)|apply(zs73 ?_)|apply(zs74 ?_)|apply(zs76 ?_)|apply(zs77 ?_)|apply(zs78 ?_)|fail)
   apply Yg H
   ·exact zc0
   exact zc5
 ·obtain rfl:k=l.length:=by omega
  rw[hno]
  clear hK
  unfold netN at hrc q1 q2⊢
  cases b1 with
  |false=>
   repeat'(first|apply(zs1 ?_)|apply(zs2 ?_)|(apply zg2;refine zs6 ?_)|(apply zg3;refine zs7 ?_)|(apply(zs17 ?_ ?_)<;>intro _<;>try exact zo)|apply(zs65 ?_)|apply(zs68 ?_)|apply(zs69 ?_)|apply(zs70 ?_)|(apply zg27;refine zs72 ?_)|apply(zs75 ?_)|apply(zs80 ?_)|apply(zs81 ?_)|(apply zg29;(apply Yo;exact za;exact rfl))|fail)
   first|apply YU (cs:=[.pointer (some ⟨gn,0,none⟩),.pointer (some ⟨gl,0,none⟩),.pointer (some ⟨gi,0,none⟩)])|apply Xa (cs:=[.pointer (some ⟨gn,0,none⟩),.pointer (some ⟨gl,0,none⟩),.pointer (some ⟨gi,0,none⟩)])
   exact rfl
   exact Ypx
   exact za
   exact rfl
   exactλ_ hw=>q1 gn gl gi zc49 hrc (by(focus exact zc2)) (by(focus exact zc2)) (by(focus exact zc2)) hw
   repeat'(first|apply(zs1 ?_)|apply(zs2 ?_)|(apply zg1;refine zs3 ?_)|(apply zg6;refine zs11 ?_)|(apply zg20;refine zs48 ?_)|apply(zs65 ?_)|apply(zs68 ?_)|apply(zs74 ?_)|fail)
   apply Yg H
   ·exact zc0
   exact zc5
  |true=>
   cases b2<;>(
    repeat'(first|apply(zs1 ?_)|apply(zs2 ?_)|(apply zg2;refine zs6 ?_)|(apply zg3;refine zs7 ?_)|(apply(zs17 ?_ ?_)<;>intro _<;>try exact zo)|apply(zs65 ?_)|apply(zs68 ?_)|apply(zs69 ?_)|apply(zs70 ?_)|(apply zg27;refine zs72 ?_)|apply(zs75 ?_)|apply(zs80 ?_)|apply(zs81 ?_)|(apply zg29;(apply Yo;exact za;exact rfl))|fail)
    first|apply YU (cs:=[.pointer (some ⟨gn,0,none⟩),.pointer (some ⟨gl,0,none⟩),.pointer (some ⟨gi,0,none⟩)])|apply Xa (cs:=[.pointer (some ⟨gn,0,none⟩),.pointer (some ⟨gl,0,none⟩),.pointer (some ⟨gi,0,none⟩)])
    exact rfl
    exact Ypx
    exact za
    exact rfl
    exactλ_ hw=>q1 gn gl gi (by repeat(first|exact hin|apply NetM.In.cons)) hrc zm zm zm hw
    repeat'(first|apply(zs1 ?_)|(apply zg1;refine zs4 ?_)|(apply zg2;refine zs6 ?_)|(apply zg3;refine zs7 ?_)|(apply zg20;refine zs47 ?_)|fail)
    first|apply YU (cs:=[.pointer (some ⟨gn,0,none⟩),.pointer (some ⟨gl,0,none⟩),.pointer (some ⟨gi,0,none⟩)])|apply Xa (cs:=[.pointer (some ⟨gn,0,none⟩),.pointer (some ⟨gl,0,none⟩),.pointer (some ⟨gi,0,none⟩)])
    exact rfl
    exact Ypx
    exact za
    exact rfl
    exactλ_ hw=>q2 gn gl gi (by repeat(first|exact hin|apply NetM.In.cons)) hrc zm zm zm hw
    repeat'(first|apply(zs2 ?_)|(apply zg1;refine zs4 ?_)|(apply zg6;refine zs12 ?_)|(apply zg20;first|refine zs47 ?_|refine zs48 ?_)|apply(zs65 ?_)|apply(zs68 ?_)|apply(zs74 ?_)|fail)
    apply Yg H
    ·exact zk
    apply Yf;exact rfl;exact rfl;exact⟨rfl,rfl⟩)
def JT(n:Net)(l:List Cel)(k:Nat):Bool:=(List.range k).any (Zk n l)
theorem YhT(n:NetM)(l:List Cel)(hck:Yp n.net=0)(hlen:l.length<=1000)(hin:n.In B w0 H)(hr:Rd B w0 H A (l.flatMap celF))(hw:St B w0 H w):
 CX B w0 357 [n.val,.slice A l.length cap] w λv K=>∃i:Int,v=.tuple #[.int .i64 i,.bool (JT n.net l l.length)]/\K=H:=by
 refine Ya Tryz.func357 Tryz.ntmps357 rfl rfl hw ?_
 have p1:=λ{H':List HP}{w:World}(hin:n.In B w0 H') (hw:St B w0 H' w)=>Y1 n hin hw
 rw[hck]at p1
 (apply Xm;apply YY;apply YV;exact rfl;exact rfl;intro g)
 repeat'(first|((first|apply Yb en44|apply Yc en44);exact za;exact rfl;exactλ_ hw=>(p1 hin.cons hw))|apply(zs1 ?_)|apply(zs2 ?_)|(apply zg3;refine zs8 ?_)|(apply zg4;refine zs9 ?_)|(apply zg8;(refine zs16 ?_ ?_<;>intro _<;>try exact zo))|apply(zs65 ?_)|apply(zs68 ?_)|apply(zs69 ?_)|apply(zs70 ?_)|(apply zg27;refine zs72 ?_)|apply(zs73 ?_)|apply(zs76 ?_)|fail)
 refine Yh (λ(k:Nat)=>[(12,.int .i64 k),(11,.int .i64 l.length),(1,.slice A l.length cap),(2,.pointer (some ⟨g,0,none⟩))]) (λ_=>netN g n::H) (λk=>k<=l.length/\JT n.net l k=false) (λk=>l.length-k) 0 ⟨Tm _,rfl⟩ ?_ (λw hw=>hw) ?_
 ·exact zc1
 rintro k ⟨hk,hno⟩ K hK
 unfold netN
 by_cases hlt:k<l.length
 ·have p2:=λ{H':List HP}{w:World}(hin:n.In B w0 H') (hr:Rd B w0 H' A (l.flatMap celF)) (hw:St B w0 H' w)=>YhP n l k hck hlt hlen (cap:=cap) hin hr hw
  have hst:JT n.net l (k+1)=(JT n.net l k||Zk n.net l k):=by
   grind [JT]
  rw[hno,NH]at hst
  cases hp:Zk n.net l k with
  |false=>
   rw[hp]at p2 hst
   repeat'(first|((first|apply Yb YlO|apply Yc YlO);exact za;exact rfl;exactλ_ hw=>(p2 hin.cons hr.cons hw))|apply(zs1 ?_)|apply(zs2 ?_)|(apply zg3;refine zs8 ?_)|(apply(zs17 ?_ ?_)<;>intro _<;>try exact zo)|(apply zg13;refine zs30 ?_)|apply(zs65 ?_)|apply(zs68 ?_)|apply(zs69 ?_)|apply(zs70 ?_)|(apply zg27;first|refine zs71 ?_|refine zs72 ?_)|apply(zs73 ?_)|apply(zs76 ?_)|apply(zs79 ?_)|fail)
   apply hK (k+1)
   ·exact⟨by omega,hst⟩
   ·omega
   ·exact zc1
   ·unfold netN
    exact zc0
  |true=>
   rw[hp]at p2
   have hfa:JT n.net l l.length=true:=by
    unfold JT
    rw[Re]
    exact⟨k,TN.2 hlt,hp⟩
   rw[hfa]
   repeat'(first|((first|apply Yb YlO|apply Yc YlO);exact za;exact rfl;exactλ_ hw=>(p2 hin.cons hr.cons hw))|apply(zs1 ?_)|apply(zs2 ?_)|(apply zg3;refine zs8 ?_)|(apply(zs17 ?_ ?_)<;>intro _<;>try exact zo)|apply(zs65 ?_)|apply(zs68 ?_)|apply(zs69 ?_)|apply(zs70 ?_)|(apply zg27;refine zs71 ?_)|apply(zs73 ?_)|apply(zs74 ?_)|apply(zs76 ?_)|apply(zs77 ?_)|apply(zs78 ?_)|fail)
   apply Yg H
   ·exact zc0
   exact zc96
 ·obtain rfl:k=l.length:=by omega
  rw[hno]
  repeat'(first|apply(zs2 ?_)|(apply(zs17 ?_ ?_)<;>intro _<;>try exact zo)|apply(zs65 ?_)|apply(zs68 ?_)|apply(zs69 ?_)|apply(zs70 ?_)|(apply zg27;refine zs72 ?_)|apply(zs74 ?_)|apply(zs75 ?_)|apply(zs80 ?_)|apply(zs81 ?_)|fail)
  apply Yg H
  ·exact zc0
  exact zc96
theorem Yh3{n:Net}{l:List Cel}(hck:Yp n=0):Jn n l=!(JT n l l.length):=by
 simp_all [Jn,JT,List.not_any_eq_all_not]
theorem Yj3(n:NetM)(l:List Cel)(hck:Yp n.net=0)(hlen:l.length<=1000)(hin:n.In B w0 H)(hr:Rd B w0 H A (l.flatMap celF))(hw:St B w0 H w):
 CX B w0 347 [n.val,.slice A l.length cap] w λv K=>v=.bool (Jn n.net l)/\K=H:=by
 refine Ya Tryz.func347 Tryz.ntmps347 rfl rfl hw ?_
 have p1:=λ{H':List HP}{w:World}(hin:n.In B w0 H') (hw:St B w0 H' w)=>Y1 n hin hw
 rw[hck]at p1
 rw[Yh3 hck]
 repeat'(first|apply(zs1 ?_)|apply(zs2 ?_)|(apply zg3;refine zs8 ?_)|(apply zg23;(refine zs52 ?_;intro _))|apply(zs65 ?_)|apply(zs68 ?_)|apply(zs69 ?_)|apply(zs70 ?_)|fail)
 apply Ye _ YwE
 exact za
 exact rfl
 exactλ_ hw=>(YhT n l hck hlen hin.cons hr.cons (hw))
 rintro _ _ ⟨i,rfl,rfl⟩
 cases JT n.net l l.length<;>(
  repeat'(first|((first|apply Yb en44|apply Yc en44);exact za;exact rfl;exactλ_ hw=>(p1 hin.cons hw))|apply(zs1 ?_)|apply(zs2 ?_)|(apply zg1;refine zs4 ?_)|(apply zg3;refine zs8 ?_)|(apply zg6;refine zs11 ?_)|apply(zs13 ?_)|(apply zg7;(refine zs15 ?_ ?_<;>intro _<;>try exact zo))|(apply zg20;first|refine zs47 ?_|refine zs48 ?_)|apply(zs65 ?_)|apply(zs68 ?_)|apply(zs69 ?_)|apply(zs70 ?_)|apply(zs74 ?_)|fail)
  apply Yg H
  ·exact zk
  apply Yf;exact rfl;exact rfl;exact⟨rfl,rfl⟩)
end Go.Proofs.YtambgjgljcadlaaGreatDoor
namespace Go.Eng
open Go.RowKit
variable {B cap:Nat}{w0:World}{H:List HP}{A:Option Addr}
theorem Yrb{P:Program}{n:Shp}{Q:Exit->Act->World->Prop}{env:Env}{c:Code}{e size k:Nat}{xs:List Value}(hm:sl e size A k cap xs∈H)(h:k<=cap->VC P n B w0 c Q env H):VC P n B w0 c Q env H:=by
 refine⟨λa w ha hw=>?_⟩
 have hown:=hw.sl hm
 have hkc:k<=cap:=zc47
 exact(h hkc).run a w ha hw
end Go.Eng
namespace Go.Proofs.YtambgjgljcadlaaGreatDoor
open Go.RowKit Go.Eng Go.Nw Go.Rt
theorem YqC(A:Option Addr)(cap size:Nat):subA A 0 cap size=A:=by
 simp_all [subA,Go.Addr.add]
variable {A:Option Addr}{cap B:Nat}{w0 w:World}{H:List HP}
theorem XU(l:List Lk)(hlen:l.length<=1000)(hr:Rd B w0 H A (l.flatMap lkF))(hw:St B w0 H w):
 CX B w0 309 [.slice A l.length cap] w λv K=>∃A' cap',v=.slice A' l.length cap'/\K=sl 356 3 A' l.length cap' (l.flatMap lkF)::H:=by
 cases A with
 |none=>
  have hl:l=[]:=by
   cases l with
   |nil=>rfl
   |cons x l=>
    exact zc33
  subst hl
  refine Ya Tryz.func309 Tryz.ntmps309 rfl rfl hw ?_
  refine zX6 ?_
  apply X5 356 3;exact zc40
 |some a=>
  refine Ya Tryz.func309 Tryz.ntmps309 rfl rfl hw ?_
  repeat'(first|(apply Ze;(iterate 3 exact rfl))|(apply Xn T;exact rfl;exact rfl;intro g2)|refine zgb ?_|fail)
  apply XN T (f:=lkF) (l2:=l) (e:=356) (size:=3) (xs:=[]);(iterate 3 exact rfl);exact hr.cons;exact(λ_=>rfl);exact(λ_=>rfl);exact rfl;(intro _ _;exact zd);omega;intro A' cap'
  exact zc23
def arcV(a:Lk):Value:=.agg #[.int .i64 a.1,.int .i64 a.2.1,.int .i64 a.2.2]
theorem YeW{α:Type}(p:α->Bool):∀(l:List α) (k:Int),(l.filter (λa=>!p a)=l/\Yi p l k= -1)\/∃j,j<l.length/\Yi p l k=k+j/\(l.take j).filter (λa=>!p a)=l.take j/\∃a,l[j]? =some a/\p a=true
 |[],_=>.inl ⟨rfl,rfl⟩
 |a::l,k=>by
  unfold Yi
  cases h:p a with
  |true=>exact .inr ⟨0,by simp,by simp,rfl,a,rfl,h⟩
  |false=>
   rw[Tf (by decide)]
   rcases YeW p l (k+1)with⟨h1,h2⟩|⟨j,h1,h2,h3,b,h4,h5⟩
   ·simp_all
   exact Yt9
theorem Yd0(p:Lk->Bool)(l:List Lk)(f:Nat)(cs:List Value)(hen:∀xs w,(callFunc f xs).run Tryz.prog w=.ok (.enter f xs) w)(hlen:l.length<=1000)(hr:Rd B w0 H A (l.flatMap lkF))
 (hp:∀a∈l,∀w,St B w0 H w->Calls Tryz.prog f ([arcV a]++cs).toArray w (Post B w0 λv K=>v=.bool (p a)/\K=H)) (hw:St B w0 H w):
 CX B w0 337 [.slice A l.length cap,.func (.func f) #[] cs.toArray] w λv K=>v=.int .i64 (Yi p l 0)/\K=H:=by
 refine Ya Tryz.func337 Tryz.ntmps337 rfl rfl hw ?_
 refine zX9 ?_
 refine Yh (λ(k:Nat)=>[(8,.int .i64 k),(7,.int .i64 l.length),(0,.slice A l.length cap),(1,.func (.func f) #[] cs.toArray)]) (λ_=>H) (λk=>k<=l.length/\Yi p l 0=Yi p (l.drop k) k) (λk=>l.length-k) 0 ⟨Tm _,by simp⟩ ?_ (λw hw=>hw) ?_
 ·exact zc1
 rintro k ⟨hk,hi⟩ K hK
 by_cases hlt:k<l.length
 ·obtain⟨a,ha⟩:∃a,l[k]? =some a:=⟨_,Ta hlt⟩
  have hpa:=hp a (Tc ha)
  rw[Zu p l ha]at hi
  refine zX10 ?_<;>intros
  cases hpv:p a
  ·rw[hpv]at hi
   refine zX9 ?_
   apply hK (k+1)
   ·grind
   ·omega
   ·exact zc1
   exact zc19
  exact zc8
 exact zc4
structure Kz where
 i:Nat
 j:Nat
 M:List Lk
theorem XV(p:Lk->Bool)(l:List Lk)(f:Nat)(cs:List Value)(hen:∀xs w,(callFunc f xs).run Tryz.prog w=.ok (.enter f xs) w)(hlen:l.length<=1000)
 (hp:∀a∈l,∀(X:List HP) w,St B w0 (X++H) w->Calls Tryz.prog f ([arcV a]++cs).toArray w (Post B w0 λv K=>v=.bool (p a)/\K=X++H)) (hw:St B w0 (Jk A cap l::H) w):
 CX B w0 308 [.slice A l.length cap,.func (.func f) #[] cs.toArray] w λv K=>v=.slice A (l.filter λa=>!p a).length cap/\K=Jk A cap (l.filter λa=>!p a)::H:=by
 refine Ya Tryz.func308 Tryz.ntmps308 rfl rfl hw ?_
 refine Yrb (k:=l.length) (cap:=cap) (by(focus exact zc2)) λhcap=>?_
 have hif:=λ{w:World}(hw:St B w0 (Jk A cap l::H) w)=>Yd0 p l f cs hen hlen (cap:=cap) (.sl TB) (λa ha w hw=>hp a ha [Jk A cap l] w hw) hw
 rcases YeW p l 0 with⟨h1,h2⟩|⟨i0,h1,h2,h3,a0,h4,h5⟩
 ·rw[h2]at hif
  rw[h1]
  repeat'(first|((first|apply Yb YlM|apply Yc YlM);exact za;exact rfl;exactλ_ hw=>(hif hw))|refine zgb ?_|(refine zge ?_ ?_<;>intro _<;>try exact zo)|fail)
  exact zc5
 rw[h2,Int.zero_add]at hif
 repeat'(first|((first|apply Yb YlM|apply Yc YlM);exact za;exact rfl;exactλ_ hw=>(hif hw))|refine zgc ?_|(refine zge ?_ ?_<;>intro _<;>try exact zo)|fail)
 refine Yh (λ(z:Kz)=>[(6,.int .i64 z.j),(5,.int .i64 z.i),(0,.slice A z.M.length cap),(1,.func (.func f) #[] cs.toArray)]) (λz=>Jk A cap z.M::H) (λz=>z.M.length=l.length/\z.i<z.j/\z.j<=l.length/\z.M.take z.i=(l.take z.j).filter (λa=>!p a)/\z.M.drop z.j=l.drop z.j) (λz=>l.length-z.j) ⟨i0,i0+1,l⟩ ⟨rfl,by exact zc31,by exact zc31,?_,rfl⟩ ?_ (λw hw=>hw) ?_
 ·exact Yug
 ·exact zc1
 rintro⟨i,j,M⟩ ⟨hM,hij,hj,ht,hd⟩ K hK
 simp only at hM hij hj ht hd⊢
 by_cases hlt:j<l.length
 ·obtain⟨a,ha⟩:∃a,l[j]? =some a:=⟨_,Ta hlt⟩
  have hMa:M[j]? =some a:=zc95
  have hpa:=λ{X1 X2:HP}{w:World}(hw:St B w0 (X1::X2::H) w)=>hp a (Tc ha) [X1,X2] w hw
  have hft:(l.take (j+1)).filter (λa=>!p a)=M.take i++(if p a=true then []else [a]):=Yt3
  obtain⟨b,hb⟩:∃b,p a=b:=⟨_,rfl⟩
  rw[hb]at hft hpa
  have hd1:∀x:Lk,(M.set i x).drop (j+1)=l.drop (j+1):=λx=>by
   exact Yt6
  cases b with
  |true=>
   rw[Tj rfl,Ri]at hft
   refine zX27 ?_<;>intros
   apply hK ⟨i,j+1,M⟩
   ·exact⟨hM,by exact zc31,by exact zc31,hft.symm,by exact Yut⟩
   ·exact zc31
   ·exact zc1
   ·exact zc56
  |false=>
   rw[Tf (by decide)]at hft
   have hMl:(M.set i a).length=M.length:=TT
   repeat'(first|((first|apply YU (cs:=cs));exact rfl;exact hen;exact za;exact rfl;exactλ_ hw=>hpa hw)|(apply Xw T (f:=lkF) (l:=M) (i:=i) (a:=a);(iterate 3 exact rfl);exact zd;exactλ_=>rfl;(iterate 3 exact rfl);omega)|refine zgd ?_|(refine zge ?_ ?_<;>intro _<;>try exact zo)|(refine zgh ?_;intro _)|fail)
   apply hK ⟨i+1,j+1,M.set i a⟩
   ·refine⟨by exact zc31,by exact zc31,by exact zc31,?_,hd1 a⟩
    exact YtM
   ·exact zc31
   ·dsimp only
    rw[hMl]
    exact zc1
   ·unfold Jk
    dsimp only
    rw[hMl]
    exact zc56
 ·obtain rfl:j=l.length:=by omega
  clear hK
  rw[TP]at ht
  have hil:(l.filter λa=>!p a).length=i:=by rw[<-ht,TX];omega
  have hfl:(M.flatMap lkF).take (i*3)=(l.filter λa=>!p a).flatMap lkF:=by rw[<-Xz (q:=3) (λ_=>rfl),ht]
  refine zX29 ?_<;>intros
  rw[Rx]
  apply Xv (sl 356 3 A i cap ((l.filter λa=>!p a).flatMap lkF)::H)
  ·intro w hw
   refine hw.shrink (e:=356) (size:=3) (cap:=cap) (A:=A) (xs:=M.flatMap lkF) (k:=M.length) (k':=i) (by omega) ?_
   rw[hfl]
   exact Upd.here _
  apply Qj T T2 (e:=356) (size:=3) (k:=i) (xs:=(l.filter λa=>!p a).flatMap lkF);exact rfl;exact TB;(iterate 3 exact rfl);omega
  refine zX30 ?_
  rw[YqC]
  refine zX8 ?_
  apply Yf;exact rfl;exact rfl
  exact⟨by rw[hil],by unfold Jk;rw[hil]⟩
theorem Yed(s t:Int)(gs gt:Nat)(a:Lk)(hs:blk gs (.cells #[.int .i64 s] 3 (0,0))∈H)(ht:blk gt (.cells #[.int .i64 t] 3 (0,0))∈H)(hw:St B w0 H w):
 CX B w0 336 [arcV a,.pointer (some ⟨gs,0,none⟩),.pointer (some ⟨gt,0,none⟩)] w λv K=>v=.bool (decide (a.1=s/\a.2.1=t))/\K=H:=by
 refine Ya Tryz.func336 Tryz.ntmps336 rfl rfl hw ?_
 unfold arcV
 by_cases h:a.1=s/\a.2.1=t
 ·rw[Ti h]
  refine Yji ?_<;>intros
  all_goals(apply Yn;exact zc13)
 ·rw[Tn h]
  repeat'(first|refine zgc ?_|(refine zge ?_ ?_<;>intro _<;>try exact zo)|(refine zgh ?_;intro _)|fail)
  all_goals(apply Yn;apply Yf;exact rfl;exact rfl;exact⟨rfl,rfl⟩)
def W3(s t:Int)(l:List Lk):List Lk:=l.filter λa=>!decide (a.1=s/\a.2.1=t)
theorem Q4(l:List Lk)(s t:Int)(hlen:l.length<=1000)(hr:Rd B w0 H A (l.flatMap lkF))(hw:St B w0 H w):
 CX B w0 307 [.slice A l.length cap,.int .i64 s,.int .i64 t] w λv K=>∃A' cap',v=.slice A' (W3 s t l).length cap'/\K=Jk A' cap' (W3 s t l)::H:=by
 refine Ya Tryz.func307 Tryz.ntmps307 rfl rfl hw ?_
 repeat'(first|refine zga ?_|(refine zgh ?_;intro _)|fail)
 rename_i g1 g2
 apply Ye _ YeM
 exact za
 exact rfl
 exactλ_ hw=>(XU l hlen (hr.cons.cons) (hw))
 rintro _ _ ⟨A',cap',rfl,rfl⟩
 repeat'(first|(apply zg29;(apply Yo;exact za;exact rfl))|fail)
 apply Ye _ YeL
 exact za
 exact rfl
 exactλ_ hw=>(XV (λa=>decide (a.1=s/\a.2.1=t)) l 336 [.pointer (some ⟨g1,0,none⟩),.pointer (some ⟨g2,0,none⟩)] Ywx hlen (λa _ X w hw=>Yed s t g1 g2 a (TZ _ zm) (TZ _ zm) hw) (hw))
 rintro _ _ ⟨rfl,rfl⟩
 repeat'(first|refine zga ?_|fail)
 apply Yg (Jk A' cap' (W3 s t l)::H)
 ·exactλw hw=>hw.perm (.cons _ (.dropK (.drop _ _)))
 apply Yf;exact rfl;exact rfl
 exact⟨A',cap',rfl,rfl⟩
end Go.Proofs.YtambgjgljcadlaaGreatDoor
namespace Go.Eng
open Go.RowKit
variable {B:Nat}{w0:World}{H:List HP}
theorem Rd.manyT{K:List HP}{A:Option Addr}{xs:List Value}(h:Rd B w0 H A xs)(hm:Eng.many H∈K):Rd B w0 K A xs:=h.mono λw hw=>by
 obtain⟨S1,h1,h2⟩:=YgO hm hw.sep
 exact⟨hw.below,hw.le,Vw h2 h1⟩
end Go.Eng
namespace Go.Proofs.YtambgjgljcadlaaGreatDoor
open Go.RowKit Go.Eng Go.Nw Go.Rt
def Oc(pre:List Int)(v:Int):Bool:=decide (v∈pre.drop 1)
def OO(pre:List Int)(to v:Int):Bool:=!decide (v=to)&&Oc pre v
def YaV(pre:List Int):Int:=pre.getD 0 0
def Yif(pre:List Int):Int:=pre.getD (pre.length-1) 0
def QJ(l:List Lk)(pre:List Int)(to:Int):List Lk:=(if pre.length=2 then W3 (YaV pre) to l else l).filter λa=>!(OO pre to a.1||OO pre to a.2.1)
def badB(pre:List Int)(a:Lk):Bool:=Oc pre a.2.1||(Oc pre a.1&&decide (a.1≠Yif pre))||decide (a.2.1=YaV pre)
def Ye5(l:List Lk)(pre:List Int):List Lk:=l.filter λa=>!badB pre a
noncomputable def Yl9(fuel nodes:Nat)(l:List Lk)(pre:List Int)(to:Int):Option (Int×Bool):=
 if Yif pre=to then some (Yl (J8 nodes (QJ l pre to) to) (YaV pre),decide (Yl (J8 nodes (QJ l pre to) to) (YaV pre)<Xg))
 else match YaJ fuel nodes (Ye5 l pre) (Yif pre) (YaV pre) to (Oc pre)with
  |none=>none
  |some r=>some (r.1,r.2.1)
variable {l:List Lk}
theorem ArcsOk.sub{nodes:Nat}{m:List Lk}(h:ArcsOk nodes l)(hm:∀a∈m,a∈l):ArcsOk nodes m:=λa ha=>h a (hm a ha)
theorem YnB{pre:List Int}{to:Int}{a:Lk}(h:a∈QJ l pre to):a∈l:=YtZ
theorem YnA(l:List Lk)(pre:List Int)(to:Int):(QJ l pre to).length<=l.length:=by
 unfold QJ
 exact YtX
theorem YnC(l:List Lk)(pre:List Int):(Ye5 l pre).length<=l.length:=RB _ _
variable {B:Nat}{w0 w:World}{H:List HP}
theorem Ydh(gm gc clock:Nat)(es:Ents)(f:Int->Bool)(a:Lk)(hf:MB es f)(hm:blk gm (mobj es clock)∈H)(hc:blk gc (.cells #[.map (some gm)] 417 (0,0))∈H)(hw:St B w0 H w):
 CX B w0 334 [arcV a,.pointer (some ⟨gc,0,none⟩)] w λv K=>v=.bool (f a.1||f a.2.1)/\K=H:=by
 refine Ya Tryz.func334 Tryz.ntmps334 rfl rfl hw ?_
 unfold arcV
 obtain⟨b1,h1⟩:∃b,f a.1=b:=⟨_,rfl⟩
 obtain⟨b2,h2⟩:∃b,f a.2.1=b:=⟨_,rfl⟩
 rw[h1,h2]
 cases b1
 ·skip
  refine Ytx ?_<;>intros
  apply Yn;exact zc13
 ·skip
  refine Ytx ?_<;>intros
  apply Yn;exact zc13
theorem YkE(gm gc ga gf clock:Nat)(es:Ents)(f:Int->Bool)(s t:Int)(a:Lk)(hf:MB es f)(hm:blk gm (mobj es clock)∈H)(hc:blk gc (.cells #[.map (some gm)] 417 (0,0))∈H)(ha:blk ga (.cells #[.int .i64 t] 3 (0,0))∈H)(hs:blk gf (.cells #[.int .i64 s] 3 (0,0))∈H)(hw:St B w0 H w):
 CX B w0 335 [arcV a,.pointer (some ⟨gc,0,none⟩),.pointer (some ⟨ga,0,none⟩),.pointer (some ⟨gf,0,none⟩)] w λv K=>v=.bool (f a.2.1||(f a.1&&decide (a.1≠t))||decide (a.2.1=s))/\K=H:=by
 refine Ya Tryz.func335 Tryz.ntmps335 rfl rfl hw ?_
 unfold arcV
 obtain⟨b1,h1⟩:∃b,f a.1=b:=⟨_,rfl⟩
 obtain⟨b2,h2⟩:∃b,f a.2.1=b:=⟨_,rfl⟩
 rw[h1,h2]
 by_cases e1:a.1=t<;>by_cases e2:a.2.1=s
 ·rw[Ti e2,Tn (λh=>h e1)]
  exact zc7
 ·rw[Tn e2,Tn (λh=>h e1)]
  exact zc7
 ·rw[Ti e2,Ti (p:=a.1≠t) e1]
  exact zc7
 ·rw[Tn e2,Ti (p:=a.1≠t) e1]
  exact zc7
structure Pz where
 ga:Nat
 gf:Nat
structure Qz where
 k:Nat
 es:Ents
 c:Nat
 f:Int->Bool
def W0(l:List Lk)(pre:List Int)(to:Int):List Lk:=if pre.length=2 then W3 (YaV pre) to l else l
theorem YnZ(nodes:Nat)(l:List Lk)(pre:List Int)(to:Int)(fuel:Nat)(s:Int×Bool)(hn:1<=nodes/\nodes<=40)(hl:l.length<=900)(hok:ArcsOk nodes l)(hpl:2<=pre.length/\pre.length<=1000)(hpi:∀v∈pre,0<=v/\v<nodes)(hto:0<=to/\to<nodes)(hfu:fuel<=100000)(hrun:Yl9 fuel nodes l pre to=some s)
 {AL AP:Option Addr}{capL capP B:Nat}{w0:World}{H:List HP}{w:World}(hr:Rd B w0 H AL (l.flatMap lkF)) (hp:Rd B w0 H AP (pre.flatMap numF)) (hcap:pre.length<=capP) (hw:St B w0 H w):
 CX B w0 306 [.int .i64 nodes,.slice AL l.length capL,.slice AP pre.length capP,.int .i64 to] w λv K=>v=.tuple #[.int .i64 s.1,.bool s.2]/\(-600000000000000<=s.1/\s.1<=3000000000)/\K=H:=by
 refine Ya Tryz.func306 Tryz.ntmps306 rfl rfl hw ?_
 have hg0:pre[0]? =some (YaV pre):=XY (by omega)
 have hg1:pre[((pre.length:Int)-1).toNat]? =some (Yif pre):=by
  rw[show((pre.length:Int)-1).toNat=pre.length-1 by omega];exact XY (by omega)
 have hfr:=hpi _ (Tc hg0)
 have har:=hpi _ (Tc hg1)
 obtain⟨fr,hfe⟩:∃x,YaV pre=x:=⟨_,rfl⟩
 obtain⟨at_,hae⟩:∃x,Yif pre=x:=⟨_,rfl⟩
 rw[hfe]at hg0 hfr
 rw[hae]at hg1 har
 iterate 7 (first|refine zga ?_|fail)
 refine XM (many H::[]) (λw hw=>hw.perm (.closeT _)) ?_
 have hpT:Rd B w0 [many H] AP (pre.flatMap numF):=hp.manyT TB
 refine XE (λ(z:Pz)=>[(11,.pointer (some ⟨z.ga,0,none⟩)),(10,.pointer (some ⟨z.gf,0,none⟩)),(0,.int .i64 nodes),(1,.slice AL l.length capL),(2,.slice AP pre.length capP),(3,.int .i64 to)]) (λz=>blk z.gf (.cells #[.int .i64 fr] 3 (0,0))::blk z.ga (.cells #[.int .i64 at_] 3 (0,0))::H) ?_ ?_
 ·intro K hK
  apply Je (.n1 0 (.n1 1 (.n1 2 (.n1 3 (.n1 4 (.n1 5 (.n1 6 (.n1 7 (.n1 8 (.n2 9 (.n1 10 (.n1 11 .done)) 10 (.n1 9 (.n1 11 .done)))))))))))) [12] [true]
  kernel_rfl
  kernel_rfl
  exact zy
  (simp only[Yd,nthO];rfl)
  repeat'(first|(apply Yj;try exact zl)|apply(zs91 ?_ ?_)|(apply YW;try exact zl)|refine zgd ?_|(refine zgh ?_;intro _)|fail)
  ·rename_i gf ga
   refine hK ⟨ga,gf⟩ _ _ ?_ ?_
   ·exact zc1
   ·dsimp only
    intro w hw
    have h5:St B w0 (blk gf (.cells #[.int .i64 fr] 3 (0,0))::blk ga (.cells #[.int .i64 at_] 3 (0,0))::[many H]) w:=by
     revert w
     exact zc0
    exact h5.perm (.cons _ (.cons _ (.openT _)))
  ·rename_i ga gf
   refine hK ⟨ga,gf⟩ _ _ ?_ ?_
   ·exact zc1
   ·dsimp only
    intro w hw
    have h5:St B w0 (blk gf (.cells #[.int .i64 fr] 3 (0,0))::blk ga (.cells #[.int .i64 at_] 3 (0,0))::[many H]) w:=by
     revert w
     exact zc0
    exact h5.perm (.cons _ (.cons _ (.openT _)))
 rintro⟨ga,gf⟩
 dsimp only
 have hdl:(pre.drop 1).length=pre.length-1:=Ro
 repeat'(first|(apply OS;exact rfl;intro gm)|(apply X0 T (n':=(pre.drop 1).length);(iterate 4 exact rfl);omega;(rw[hdl];rfl))|refine zgd ?_|(refine zgh ?_;intro _)|fail)
 rename_i gc
 refine Yh (λ(z:Qz)=>[(34,.int .i64 z.k),(33,.int .i64 (pre.drop 1).length),(32,.slice (subA AP 1 capP 1) (pre.drop 1).length (capP-1)),(12,.pointer (some ⟨gc,0,none⟩)),(11,.pointer (some ⟨ga,0,none⟩)),(10,.pointer (some ⟨gf,0,none⟩)),(0,.int .i64 nodes),(1,.slice AL l.length capL),(2,.slice AP pre.length capP),(3,.int .i64 to)]) (λz=>blk gc (.cells #[.map (some gm)] 417 (0,0))::blk gm (mobj z.es z.c)::blk gf (.cells #[.int .i64 fr] 3 (0,0))::blk ga (.cells #[.int .i64 at_] 3 (0,0))::H)
  (λz=>z.k<=(pre.drop 1).length/\MB z.es z.f/\MOk z.es z.c/\∀v,z.f v=decide (v∈(pre.drop 1).take z.k)) (λz=>(pre.drop 1).length-z.k) ⟨0,[],0,λ_=>false⟩ ⟨Tm _,MB.nil,MOk.nil,λv=>by simp⟩ ?_ zc0 ?_
 ·exact zc1
 rintro⟨k,es,c,f⟩ ⟨hk,hmb,hmk,hf⟩ K hK
 simp only at hk hmb hmk hf⊢
 have hp1:∀{X1 X2 X3 X4:HP},Rd B w0 (X1::X2::X3::X4::H) (subA AP 1 capP 1) ((pre.drop 1).flatMap numF):=Ytq 1 (hp.cons.cons.cons.cons) hcap
 by_cases hlt:k<(pre.drop 1).length
 ·obtain⟨v,hv⟩:∃v,(pre.drop 1)[k]? =some v:=⟨_,Ta hlt⟩
  have hp1':=@hp1
  repeat'(first|(apply Zm T (f:=numF) (l:=pre.drop 1);exact rfl;exact rfl;exact hp1;exact rfl;exactλ_=>rfl;exact rfl;exact rfl;omega)|(apply Z3 T (f:=numF) (l:=pre.drop 1);exact rfl;exact hp1;exact hv;exactλ_=>rfl;(iterate 4 exact rfl))|(apply Yla (kt:=3) (et:=4);(iterate 3 exact rfl);kernel_rfl;(intro _ _;exact zd);exact hmb;exact hmk;intro es2 c2 m2 o2 _ _)|refine zgc ?_|(refine zge ?_ ?_<;>intro _<;>try exact zo)|fail)
  apply hK ⟨k+1,es2,c2,λu=>decide (u=v)||f u⟩
  ·refine⟨by exact zc31,m2,o2,λu=>?_⟩
   simp only
   rw[hf u,TG,hv]
   by_cases h1:u=v<;>by_cases h2:u∈(pre.drop 1).take k<;>simp[h1]
  ·exact zc31
  ·exact zc1
  exact zc19
 obtain rfl:k=(pre.drop 1).length:=by omega
 clear hK
 rw[TP]at hf
 have hmb2:MB es (Oc pre):=hmb.ext hf
 clear hmb hf hp1
 unfold Yl9 at hrun
 rw[hfe,hae]at hrun
 by_cases hat:at_=to
 ·rw[Tj hat]at hrun
  have hin:to∈pre.drop 1:=by
   have h1:(pre.drop 1)[pre.length-2]? =some to:=by
    rw[RS,show 1+(pre.length-2)=((pre.length:Int)-1).toNat by omega,<-hat];exact hg1
   exact Tc h1
  have hsto:Oc pre to=true:=Ti hin
  have hll:(W0 l pre to).length<=l.length:=by
   unfold W0
   split
   ·exact Ymo
   ·exact Ybk
  have hla:QJ l pre to=(W0 l pre to).filter λa=>!(OO pre to a.1||OO pre to a.2.1):=rfl
  have hAl:=YnA l pre to
  have hAok:ArcsOk nodes (QJ l pre to):=ArcsOk.sub hok λa h=>YnB h
  have hnn:Xg=1073741824:=rfl
  by_cases h2:pre.length=2
  ·skip
   repeat'(first|(apply Yk9 (kt:=3) (et:=4);exact rfl;exact rfl;kernel_rfl;(intro _;exact zd);exact hmb2;exact hmk;exact hsto;intro es3 mb3 mk3)|refine zgc ?_|(refine zge ?_ ?_<;>intro _<;>try exact zo)|fail)
   have hrl:Rd B w0 (blk gc (.cells #[.map (some gm)] 417 (0,0))::blk gm (mobj es3 c)::blk gf (.cells #[.int .i64 fr] 3 (0,0))::blk ga (.cells #[.int .i64 at_] 3 (0,0))::H) AL (l.flatMap lkF):=hr.cons.cons.cons.cons
   have hlst:W0 l pre to=W3 fr to l:=by unfold W0;rw[Tj h2,hfe]
   apply Ye _ Yte
   exact za
   exact rfl
   exactλ_ hw=>(Q4 l fr to (by omega) hrl (hw))
   rintro _ _ ⟨A1,cap1,rfl,rfl⟩
   rw[<-hlst]
   refine zX4 ?_
   apply Ye _ YeM
   exact za
   exact rfl
   exactλ_ hw=>(XU (W0 l pre to) (by omega) (.sl (by(focus exact zc2))) (hw))
   rintro _ _ ⟨A2,cap2,rfl,rfl⟩
   refine YdI ?_
   apply Ye _ YeL
   exact za
   exact rfl
   exactλ_ hw=>(XV (λa=>OO pre to a.1||OO pre to a.2.1) (W0 l pre to) 334 [.pointer (some ⟨gc,0,none⟩)] Ytk (by omega) (λa _ X w hw=>Ydh gm gc c es3 (OO pre to) a mb3 (TZ _ (by(focus exact zc2))) (TZ _ (by(focus exact zc2))) hw) (hw))
   rintro _ _ ⟨rfl,rfl⟩
   rw[<-hla]
   refine zX4 ?_
   apply Ye _ Ypv
   exact za
   exact rfl
   exactλ_ hw=>(VE nodes (QJ l pre to) to hn.2 (by omega) hAok hto (.sl (by(focus exact zc2))) (hw))
   rintro _ _ ⟨gF,far,rfl,hd,rfl⟩
   rw[Qy hAok hd]at hrun
   obtain rfl:=Tz hrun
   have hflen:=hd.len
   have hgf:=XH (far:=far) (i:=fr) (by omega)
   have hrf:=hd.range fr hfr.1 hfr.2
   rw[hnn]at hrf
   rw[hnn]
   apply Xv (ints (some ⟨gF,0,none⟩) nodes far::blk gf (.cells #[.int .i64 fr] 3 (0,0))::H)
   ·exact zc0
   iterate 4 (first|refine zga ?_|fail)
   by_cases hlt:Yl far fr<1073741824
   ·rw[Ti hlt]
    exact zc6
   ·rw[Tn hlt]
    exact zc6
  ·skip
   repeat'(first|(apply Yk9 (kt:=3) (et:=4);exact rfl;exact rfl;kernel_rfl;(intro _;exact zd);exact hmb2;exact hmk;exact hsto;intro es3 mb3 mk3)|refine zgc ?_|(refine zge ?_ ?_<;>intro _<;>try exact zo)|fail)
   have hrl:Rd B w0 (blk gc (.cells #[.map (some gm)] 417 (0,0))::blk gm (mobj es3 c)::blk gf (.cells #[.int .i64 fr] 3 (0,0))::blk ga (.cells #[.int .i64 at_] 3 (0,0))::H) AL (l.flatMap lkF):=hr.cons.cons.cons.cons
   have hlst:W0 l pre to=l:=by unfold W0;rw[Tf h2]
   rw[<-hlst]at hrl⊢
   apply Ye _ YeM
   exact za
   exact rfl
   exactλ_ hw=>(XU (W0 l pre to) (by omega) hrl (hw))
   rintro _ _ ⟨A2,cap2,rfl,rfl⟩
   refine YdI ?_
   apply Ye _ YeL
   exact za
   exact rfl
   exactλ_ hw=>(XV (λa=>OO pre to a.1||OO pre to a.2.1) (W0 l pre to) 334 [.pointer (some ⟨gc,0,none⟩)] Ytk (by omega) (λa _ X w hw=>Ydh gm gc c es3 (OO pre to) a mb3 (TZ _ (by(focus exact zc2))) (TZ _ (by(focus exact zc2))) hw) (hw))
   rintro _ _ ⟨rfl,rfl⟩
   rw[<-hla]
   refine zX4 ?_
   apply Ye _ Ypv
   exact za
   exact rfl
   exactλ_ hw=>(VE nodes (QJ l pre to) to hn.2 (by omega) hAok hto (.sl (by(focus exact zc2))) (hw))
   rintro _ _ ⟨gF,far,rfl,hd,rfl⟩
   rw[Qy hAok hd]at hrun
   obtain rfl:=Tz hrun
   have hflen:=hd.len
   have hgf:=XH (far:=far) (i:=fr) (by omega)
   have hrf:=hd.range fr hfr.1 hfr.2
   rw[hnn]at hrf
   rw[hnn]
   apply Xv (ints (some ⟨gF,0,none⟩) nodes far::blk gf (.cells #[.int .i64 fr] 3 (0,0))::H)
   ·exact zc0
   iterate 4 (first|refine zga ?_|fail)
   by_cases hlt:Yl far fr<1073741824
   ·rw[Ti hlt]
    exact zc6
   ·rw[Tn hlt]
    exact zc6
 ·rw[Tf hat]at hrun
  have hbad:∀a,badB pre a=(Oc pre a.2.1||(Oc pre a.1&&decide (a.1≠at_))||decide (a.2.1=fr)):=λa=>by unfold badB;rw[hae,hfe]
  have hBl:=YnC l pre
  have hBok:ArcsOk nodes (Ye5 l pre):=ArcsOk.sub hok λa h=>(Rr.1 h).1
  have hlb:Ye5 l pre=l.filter λa=>!badB pre a:=rfl
  cases hbo:YaJ fuel nodes (Ye5 l pre) at_ fr to (Oc pre)with
  |none=>rw[hbo]at hrun;cases hrun
  |some r=>
   rw[hbo]at hrun
   obtain rfl:=Tz hrun
   have hrl:Rd B w0 (blk gc (.cells #[.map (some gm)] 417 (0,0))::blk gm (mobj es c)::blk gf (.cells #[.int .i64 fr] 3 (0,0))::blk ga (.cells #[.int .i64 at_] 3 (0,0))::H) AL (l.flatMap lkF):=hr.cons.cons.cons.cons
   refine zX0 ?_<;>intros
   apply Ye _ YeM
   exact za
   exact rfl
   exactλ_ hw=>(XU l (by omega) hrl (hw))
   rintro _ _ ⟨A2,cap2,rfl,rfl⟩
   refine YdI ?_
   apply Ye _ YeL
   exact za
   exact rfl
   exactλ_ hw=>(XV (badB pre) l 335 [.pointer (some ⟨gc,0,none⟩),.pointer (some ⟨ga,0,none⟩),.pointer (some ⟨gf,0,none⟩)] Yww (by omega) (λa _ X w hw=>by rw[hbad a];exact YkE gm gc ga gf c es (Oc pre) fr at_ a hmb2 (TZ _ (by(focus exact zc2))) (TZ _ (by(focus exact zc2))) (TZ _ (by(focus exact zc2))) (TZ _ (by(focus exact zc2))) hw) (hw))
   rintro _ _ ⟨rfl,rfl⟩
   rw[<-hlb]
   refine zX4 ?_
   apply Ye _ Ytd
   exact za
   exact rfl
   exactλ_ hw=>(Yer nodes (Ye5 l pre) at_ fr to (some gm) (Oc pre) fuel r (by omega) (by omega) hBok har hfr hto hfu hbo ⟨es,c,by(focus exact zc2),hmb2,hmk⟩ (.sl (by(focus exact zc2))) (hw))
   rintro _ _ ⟨g,A,cap,rfl,⟨_,_,b3,b4⟩,rfl⟩
   refine zX9 ?_
   apply Yg H
   ·unfold gpcs
    exactλw hw=>hw.tail.tail.tail.tail.tail.tail.tail
   apply YL;(iterate 3 exact rfl)
   exact⟨rfl,⟨b3,b4⟩,rfl⟩
end Go.Proofs.YtambgjgljcadlaaGreatDoor
namespace Go.Eng
open Go.RowKit
variable {B cap:Nat}{w0:World}{H:List HP}{A:Option Addr}
theorem UP{P:Program}{n:Shp}{ops:Array Oper}{Q:Exit->Act->World->Prop}{env:Env}{l:List Oper}{e size k:Nat}{xs:List Value}(hm:sl e size A k cap xs∈H)(h:k<=cap->VL P none n B w0 ops Q l env H):VL P none n B w0 ops Q l env H:=by
 refine⟨λa ha w hw=>?_⟩
 have hown:=hw.sl hm
 have hkc:k<=cap:=zc47
 exact(h hkc).run a ha w hw
end Go.Eng
namespace Go.Proofs.YtambgjgljcadlaaGreatDoor
open Go.RowKit Go.Eng Go.Nw Go.Rt
section
variable (fuel nodes:Nat) (L:List Lk) (to total:Int)
noncomputable def YiB(r:List Int)(spent at_:Int)(st:Int×Int)(a:Lk):Option (Int×Int):=
 if a.1≠at_\/a.2.1∈r\/(0<=st.1/\st.1<a.2.1)then some st else
  match Yl9 fuel nodes L (r++[a.2.1]) to with
  |none=>none
  |some s=>if s.2=true/\spent+a.2.2+s.1=total then some (a.2.1,a.2.2)else some st
noncomputable def W6(r:List Int)(spent at_:Int):List Lk->Int×Int->Option (Int×Int)
 |[],st=>some st
 |a::m,st=>match YiB fuel nodes L to total r spent at_ st a with
  |none=>none
  |some st2=>W6 r spent at_ m st2
noncomputable def W5:Nat->List Int->Int->Int->Option (List Int)
 |0,_,_,_=>none
 |k+1,r,spent,at_=>if at_=to then some r else
  match W6 fuel nodes L to total r spent at_ L (-1,0)with
  |none=>none
  |some st=>if st.1<0 then none else W5 k (r++[st.1]) (spent+st.2) st.1
end
def midP(r:List Int):List Int:=(r.drop 1).take (r.length-2)
def UE(l:List Lk)(s to:Int)(r:List Int):List Lk:=(if r.length=2 then W3 s to l else l).filter λa=>!(decide (a.1∈midP r)||decide (a.2.1∈midP r))
noncomputable def Jq(nodes:Nat)(l:List Lk)(s to:Int)(r:List Int):List Int:=wayF (UE l s to r) (J8 nodes (UE l s to r) to) s to
noncomputable def Yfh(fuel nodes:Nat)(L:List Lk)(s to:Int):Option (Option (List Int×List Int)):=
 match YaJ fuel nodes L s s to (λ_=>false)with
 |none=>none
 |some r=>if r.2.1=false then some none else
  match W5 fuel nodes L to r.1 400 [s] 0 s with
  |none=>none
  |some p=>some (some (p,Jq nodes L s to p))
theorem YnE{l:List Lk}{s to:Int}{r:List Int}{a:Lk}(h:a∈UE l s to r):a∈l:=YtZ
theorem YnD(l:List Lk)(s to:Int)(r:List Int):(UE l s to r).length<=l.length:=by
 unfold UE
 exact YtX
variable {A:Option Addr}{cap B:Nat}{w0:World}{H:List HP}
theorem Yda(gi:Nat)(m:List Int)(a:Lk)(hlen:m.length<=1000){w:World}(hi:blk gi (.cells #[.slice A m.length cap] 64 (0,0))∈H)(hr:Rd B w0 H A (m.flatMap numF))(hw:St B w0 H w):
 CX B w0 310 [arcV a,.pointer (some ⟨gi,0,none⟩)] w λv K=>v=.bool (decide (a.1∈m)||decide (a.2.1∈m))/\K=H:=by
 refine Ya Tryz.func310 Tryz.ntmps310 rfl rfl hw ?_
 unfold arcV
 have h1:=λ{X:HP}{w:World}(hw:St B w0 (X::H) w)=>Jl m a.1 (by omega) (cap:=cap) (hr.cons (X:=X)) hw
 have h2:=λ{X:HP}{w:World}(hw:St B w0 (X::H) w)=>Jl m a.2.1 (by omega) (cap:=cap) (hr.cons (X:=X)) hw
 obtain⟨b1,hb1⟩:∃b,decide (a.1∈m)=b:=⟨_,rfl⟩
 obtain⟨b2,hb2⟩:∃b,decide (a.2.1∈m)=b:=⟨_,rfl⟩
 rw[hb1]at h1
 rw[hb2]at h2
 rw[hb1,hb2]
 cases b1
 ·skip
  refine zX97 ?_<;>intros
  first|apply Yb Ua|apply Yc Ua
  exact za
  exact rfl
  exactλ_ hw=>(h1 hw)
  refine zX7 ?_
  first|apply Yb Ua|apply Yc Ua
  exact za
  exact rfl
  exactλ_ hw=>(h2 hw)
  refine zX9 ?_
  apply Yn;exact zc13
 ·skip
  refine zX97 ?_<;>intros
  first|apply Yb Ua|apply Yc Ua
  exact za
  exact rfl
  exactλ_ hw=>(h1 hw)
  refine zX9 ?_
  apply Yn;exact zc13
structure Oz where
 k:Nat
 r:List Int
 A:Option Addr
 cap:Nat
 spent:Int
 at_:Int
structure OzOk(fuel nodes:Nat)(L:List Lk)(s to total:Int)(p:List Int)(z:Oz):Prop where
 run:W5 fuel nodes L to total z.k z.r z.spent z.at_=some p
 len:1<=z.r.length/\z.r.length+z.k<=401
 mem:∀v∈z.r,0<=v/\v<nodes
 sp:0<=z.spent/\z.spent<=1000000*(z.r.length:Int)
 one:z.r.length=1->z.at_=s
structure Iz where
 j:Nat
 best:Int
 price:Int
theorem YpO(A:Option Addr)(cap:Nat)(r:List Int)(x:Int):sl 3 1 A (r.length+1) cap (r.flatMap numF++#[Value.int .i64 x].toList)=ints A cap (r++[x]):=by simp_all [ints,numF]
theorem YnS(n:NetM)(s to:Int)(nodes fuel:Nat)(res:Option (List Int×List Int))(hck:Yp n.net=0)(hnn:n.nodes=nodes)(hs:0<=s/\s<nodes)(ht:0<=to/\to<nodes)(hst:s≠to)(hfu:fuel<=100000)(hrun:Yfh fuel nodes (JW n.net) s to=some res)
 {B:Nat}{w0:World}{H:List HP}{w:World}(hin:n.In B w0 H) (hw:St B w0 H w):
 CX B w0 273 [n.val,.int .i64 s,.int .i64 to] w λv K=>match res with
  |none=>v=.slice none 0 0/\K=H
  |some pq=>∃g A1 c1 A2 c2,v=.slice (some ⟨g,0,none⟩) 2 2/\(2<=pq.1.length/\pq.1.length<=401/\pq.2.length<=1073741824)/\WayV A2 pq.2/\K=sl 64 1 (some ⟨g,0,none⟩) 2 2 ([⟨A1,c1,pq.1⟩,⟨A2,c2,pq.2⟩].flatMap rowF)::ints A1 c1 pq.1::ints A2 c2 pq.2::H:=by
 have hok:=YM hck
 have hn0:=hok.n0
 have hn1:=hok.n1
 have hnn2:n.net.nodes=n.nodes:=rfl
 have hal:(JW n.net).length<=128:=TU (UW _ _) hok.k0
 have hLo:=Ylg hok (nodes:=nodes) hnn
 obtain⟨L,hL⟩:∃L,JW n.net=L:=⟨_,rfl⟩
 have hspecA:=λ{H:List HP}{w:World}(hin:n.In B w0 H) (hw:St B w0 H w)=>Yeo n hin hck hw
 rw[hL]at hal hLo hrun hspecA
 have hno:Xg=1073741824:=rfl
 refine Ya Tryz.func273 Tryz.ntmps273 rfl rfl hw ?_
 (apply Xm;apply YY;apply YV;exact rfl;exact rfl;intro g)
 refine zX7 ?_
 apply Ye _ Ys5
 exact za
 exact rfl
 exactλ_ hw=>(hspecA hin.cons (hw))
 rintro _ _ ⟨A,cap,rfl,rfl⟩
 unfold Yfh at hrun
 cases hbo:YaJ fuel nodes L s s to (λ_=>false)with
 |none=>rw[hbo]at hrun;cases hrun
 |some r0=>
  rw[hbo]at hrun
  obtain⟨total,ok,es0⟩:=r0
  dsimp only at hrun
  have hboth:=λ{H:List HP}{w:World}(hr:Rd B w0 H A (L.flatMap lkF)) (hw:St B w0 H w)=>Yer nodes L s s to none (λ_=>false) fuel (total,ok,es0) (capL:=cap) (by omega) (by omega) hLo hs hs ht hfu hbo (λ_=>rfl) hr hw
  rw[<-hnn]at hboth
  refine zX7 ?_
  apply Ye _ Ytd
  exact za
  exact rfl
  exactλ_ hw=>(hboth (.sl (by(focus exact zc2))) (hw))
  rintro _ _ ⟨g0,A0,cap0,rfl,⟨_,_,b3,b4⟩,rfl⟩
  dsimp only at b3 b4⊢
  apply Xv (Jk A cap L::netB g n::H)
  ·unfold gpcs
   exactλw hw=>hw.tail.tail
  cases ok with
  |false=>
   rw[Tj rfl]at hrun
   obtain rfl:=Tz hrun
   refine zX2 ?_
   apply Yg H
   ·exactλw hw=>hw.tail.tail
   exact zc30
  |true=>
   rw[Tf (by decide)]at hrun
   cases hlo:W5 fuel nodes L to total 400 [s] 0 s with
   |none=>rw[hlo]at hrun;cases hrun
   |some p=>
    rw[hlo]at hrun
    obtain rfl:=Tz hrun
    dsimp only
    refine zX23 ?_<;>intros
    rename_i g1
    refine Yh (λ(z:Oz)=>[(13,.int .i64 z.at_),(12,.int .i64 z.spent),(11,.slice z.A z.r.length z.cap),(8,.int .i64 total),(7,.slice A L.length cap),(3,.pointer (some ⟨g,0,none⟩)),(1,.int .i64 s),(2,.int .i64 to)]) (λz=>ints z.A z.cap z.r::Jk A cap L::netB g n::H) (λz=>OzOk fuel nodes L s to total p z) (λz=>z.k) ⟨400,[s],some ⟨g1,0,none⟩,1,0,s⟩ ⟨hlo,by simp,λv hv=>by obtain rfl:=TO.1 hv;exact hs,by simp,λ_=>rfl⟩ ?_ (λw hw=>hw.blk_sl (cs:=numF s) (len:=1) (size:=1) rfl (by omega)) ?_
    ·exact zc1
    rintro⟨k,r,Ar,capr,spent,at_⟩ ⟨hrun2,⟨hl1,hl2⟩,hmem,⟨hsp0,hsp1⟩,hone⟩ K hK
    simp only at hrun2 hl1 hl2 hmem hsp0 hsp1 hone⊢
    cases k with
    |zero=>cases hrun2
    |succ k=>
     unfold W5 at hrun2
     by_cases hat:at_=to
     ·rw[Tj hat]at hrun2
      obtain rfl:=Tz hrun2
      have hr2:2<=r.length:=by
       rcases Na 1 r.length with h|h
       ·exact h
       ·have:=hone (by omega)
        exact absurd (this.symm.trans hat) hst
      clear hK
      have hml:(midP r).length=r.length-2:=by unfold midP;rw[TX,Ro];omega
      have hPl:=YnD L s to r
      have hPok:ArcsOk nodes (UE L s to r):=ArcsOk.sub hLo λa h=>YnE h
      obtain⟨LL,hLL⟩:∃LL,(if r.length=2 then W3 s to L else L)=LL:=⟨_,rfl⟩
      have hLLl:LL.length<=L.length:=by
       rw[<-hLL]
       split
       ·exact Ymo
       ·exact Ybk
      have hlp:UE L s to r=LL.filter λa=>!(decide (a.1∈midP r)||decide (a.2.1∈midP r)):=by rw[<-hLL];rfl
      have hfirst:=λ{A:Option Addr}{cap:Nat}{H:List HP}{w:World}(hr:Rd B w0 H A ((UE L s to r).flatMap lkF)) (hw:St B w0 H w)=>Ycz nodes (UE L s to r) s to (capL:=cap) (by omega) (by omega) hPok hs ht hr hw
      rw[<-hnn]at hfirst
      by_cases h2:r.length=2
      ·skip
       rw[Tj h2]at hLL
       refine zX0 ?_<;>intros
       apply Ye _ Yte
       exact za
       exact rfl
       exactλ_ hw=>(Q4 L s to (by omega) (.sl (by(focus exact zc2))) (hw))
       rintro _ _ ⟨A1,cap1,rfl,rfl⟩
       rw[hLL]
       refine zX2 ?_
       refine UP (e:=3) (size:=1) (k:=r.length) (cap:=capr) (A:=Ar) (xs:=r.flatMap numF) (by(focus exact zc2)) λhcapr=>?_
       apply WC T (n':=(midP r).length);(iterate 5 exact rfl);omega;omega
       rw[Int.toNat_one]
       refine zX23 ?_<;>intros
       rename_i gi
       have hmid:∀{HH:List HP},Rd B w0 HH Ar (r.flatMap numF)->Rd B w0 HH (subA Ar 1 capr 1) ((midP r).flatMap numF):=λh=>Rd.sub (f:=numF) (q:=1) (o:=1) (k:=r.length-2) (λ_=>rfl) h hcapr
       apply Ye _ YeM
       exact za
       exact rfl
       exactλ_ hw=>(XU LL (by omega) (.sl (by(focus exact zc2))) (hw))
       rintro _ _ ⟨A2,cap2,rfl,rfl⟩
       refine YdI ?_
       apply Ye _ YeL
       exact za
       exact rfl
       exactλ_ hw=>(XV (λa=>decide (a.1∈midP r)||decide (a.2.1∈midP r)) LL 310 [.pointer (some ⟨gi,0,none⟩)] Ytf (by omega) (λa _ X w hw=>Yda gi (midP r) a (by omega) (TZ _ (by(focus exact zc2))) (hmid (.sl (TZ _ (by(focus exact zc2))))) hw) (hw))
       rintro _ _ ⟨rfl,rfl⟩
       rw[<-hlp]
       refine zX7 ?_
       apply Ye _ Ypu
       exact za
       exact rfl
       exactλ_ hw=>(hfirst (.sl (by(focus exact zc2))) (hw))
       rintro _ _ ⟨A9,cap9,rfl,hway,hdl,hdd,rfl⟩
       have hop:wayF (UE L s to r) (J8 nodes (UE L s to r) to) s to=Jq nodes L s to r:=rfl
       rw[hop]at hway⊢
       have hq:(Jq nodes L s to r).length<=1073741824:=YgW _ _ _ _
       refine zX16 ?_<;>intros
       rename_i gL
       apply Yg (sl 64 1 (some ⟨gL,0,none⟩) 2 2 ([⟨Ar,capr,r⟩,⟨A9,cap9,Jq nodes L s to r⟩].flatMap rowF)::ints Ar capr r::ints A9 cap9 (Jq nodes L s to r)::H)
       ·intro w hw
        have h5:St B w0 (blk gL (.cells #[.slice Ar r.length capr,.slice A9 (Jq nodes L s to r).length cap9] 64 (0,0))::ints Ar capr r::ints A9 cap9 (Jq nodes L s to r)::H) w:=by
         revert w
         exact zc0
        exact zc89
       apply Yf;exact rfl;exact rfl
       exact Yt8
      ·skip
       rw[Tf h2]at hLL
       rw[hLL]
       refine zX1 ?_<;>intros
       refine UP (e:=3) (size:=1) (k:=r.length) (cap:=capr) (A:=Ar) (xs:=r.flatMap numF) (by(focus exact zc2)) λhcapr=>?_
       apply WC T (n':=(midP r).length);(iterate 5 exact rfl);omega;omega
       rw[Int.toNat_one]
       refine zX23 ?_<;>intros
       rename_i gi
       have hmid:∀{HH:List HP},Rd B w0 HH Ar (r.flatMap numF)->Rd B w0 HH (subA Ar 1 capr 1) ((midP r).flatMap numF):=λh=>Rd.sub (f:=numF) (q:=1) (o:=1) (k:=r.length-2) (λ_=>rfl) h hcapr
       apply Ye _ YeM
       exact za
       exact rfl
       exactλ_ hw=>(XU LL (by omega) (.sl (by(focus exact zc2))) (hw))
       rintro _ _ ⟨A2,cap2,rfl,rfl⟩
       refine YdI ?_
       apply Ye _ YeL
       exact za
       exact rfl
       exactλ_ hw=>(XV (λa=>decide (a.1∈midP r)||decide (a.2.1∈midP r)) LL 310 [.pointer (some ⟨gi,0,none⟩)] Ytf (by omega) (λa _ X w hw=>Yda gi (midP r) a (by omega) (TZ _ (by(focus exact zc2))) (hmid (.sl (TZ _ (by(focus exact zc2))))) hw) (hw))
       rintro _ _ ⟨rfl,rfl⟩
       rw[<-hlp]
       refine zX7 ?_
       apply Ye _ Ypu
       exact za
       exact rfl
       exactλ_ hw=>(hfirst (.sl (by(focus exact zc2))) (hw))
       rintro _ _ ⟨A9,cap9,rfl,hway,hdl,hdd,rfl⟩
       have hop:wayF (UE L s to r) (J8 nodes (UE L s to r) to) s to=Jq nodes L s to r:=rfl
       rw[hop]at hway⊢
       have hq:(Jq nodes L s to r).length<=1073741824:=YgW _ _ _ _
       refine zX16 ?_<;>intros
       rename_i gL
       apply Yg (sl 64 1 (some ⟨gL,0,none⟩) 2 2 ([⟨Ar,capr,r⟩,⟨A9,cap9,Jq nodes L s to r⟩].flatMap rowF)::ints Ar capr r::ints A9 cap9 (Jq nodes L s to r)::H)
       ·intro w hw
        have h5:St B w0 (blk gL (.cells #[.slice Ar r.length capr,.slice A9 (Jq nodes L s to r).length cap9] 64 (0,0))::ints Ar capr r::ints A9 cap9 (Jq nodes L s to r)::H) w:=by
         revert w
         exact zc0
        exact zc89
       apply Yf;exact rfl;exact rfl
       rw[<-hLL]
       exact Yt8
     ·rw[Tf hat]at hrun2
      cases hsc:W6 fuel nodes L to total r spent at_ L (-1,0)with
      |none=>rw[hsc]at hrun2;cases hrun2
      |some bp=>
       rw[hsc]at hrun2
       obtain⟨bf,pf⟩:=bp
       dsimp only at hrun2
       refine zX0 ?_<;>intros
       refine Yh (λ(z:Iz)=>[(45,.int .i64 z.j),(44,.int .i64 L.length),(43,.slice A L.length cap),(15,.int .i64 z.price),(14,.int .i64 z.best),(13,.int .i64 at_),(12,.int .i64 spent),(11,.slice Ar r.length capr),(8,.int .i64 total),(7,.slice A L.length cap),(3,.pointer (some ⟨g,0,none⟩)),(1,.int .i64 s),(2,.int .i64 to)]) (λ_=>ints Ar capr r::Jk A cap L::netB g n::H) (λz=>z.j<=L.length/\W6 fuel nodes L to total r spent at_ (L.drop z.j) (z.best,z.price)=some (bf,pf)/\(z.best= -1\/(0<=z.best/\z.best<nodes))/\(0<=z.price/\z.price<=1000000)) (λz=>L.length-z.j) ⟨0,-1,0⟩ ⟨Tm _,hsc,.inl rfl,by exact zc31⟩ ?_ (λw hw=>hw) ?_
       ·exact zc1
       rintro⟨j,best,price⟩ ⟨hj,hsc2,hbest,⟨hpr0,hpr1⟩⟩ K2 hK2
       simp only at hj hsc2 hbest hpr0 hpr1⊢
       by_cases hlt:j<L.length
       ·obtain⟨a,ha⟩:∃a,L[j]? =some a:=⟨_,Ta hlt⟩
        obtain⟨⟨a1,a2⟩,⟨a3,a4⟩,⟨a5,a6⟩⟩:=hLo a (Tc ha)
        have hdrop:L.drop j=a::L.drop (j+1):=YtU
        rw[hdrop]at hsc2
        unfold W6 YiB at hsc2
        have hcon:=λ{X:HP}{w:World}(hw:St B w0 (X::ints Ar capr r::Jk A cap L::netB g n::H) w)=>Jl r a.2.1 (by omega) (cap:=capr) (.sl (TJ _ TB)) hw
        by_cases h1:a.1=at_
        rotate_left
        ·rw[Tj (.inl h1)]at hsc2
         refine zX44 ?_<;>intros
         apply hK2 ⟨j+1,best,price⟩
         ·exact⟨by exact zc31,hsc2,hbest,hpr0,hpr1⟩
         ·exact zc31
         ·exact zc1
         ·exact zc56
        by_cases h2:a.2.1∈r
        ·rw[Tj (.inr (.inl h2))]at hsc2
         rw[Ti h2]at hcon
         repeat'(first|((first|apply Yb Ua|apply Yc Ua);exact za;exact rfl;exactλ_ hw=>(hcon hw))|refine zgd ?_|(refine zge ?_ ?_<;>intro _<;>try exact zo)|(refine zgh ?_;intro _)|fail)
         apply hK2 ⟨j+1,best,price⟩
         ·exact⟨by exact zc31,hsc2,hbest,hpr0,hpr1⟩
         ·exact zc31
         ·exact zc1
         ·exact zc56
        rw[Tn h2]at hcon
        by_cases h3:0<=best/\best<a.2.1
        ·rw[Tj (.inr (.inr h3))]at hsc2
         repeat'(first|((first|apply Yb Ua|apply Yc Ua);exact za;exact rfl;exactλ_ hw=>(hcon hw))|refine zgd ?_|(refine zgf ?_ ?_<;>intro _<;>try exact zo)|(refine zgh ?_;intro _)|fail)
         apply hK2 ⟨j+1,best,price⟩
         ·exact⟨by exact zc31,hsc2,hbest,hpr0,hpr1⟩
         ·exact zc31
         ·exact zc1
         ·exact zc56
        rw[Tf (by rintro(h|h|h);exact h h1;exact h2 h;exact h3 h)]at hsc2
        cases hrs:Yl9 fuel nodes L (r++[a.2.1]) to with
        |none=>rw[hrs]at hsc2;cases hsc2
        |some s2=>
         rw[hrs]at hsc2
         obtain⟨sum,fine⟩:=s2
         dsimp only at hsc2
         have hlen1:(r++[a.2.1]).length=r.length+1:=by simp
         have hfl1:(r++[a.2.1]).flatMap numF=r.flatMap numF++#[Value.int .i64 a.2.1].toList:=by simp[List.flatMap_append,numF]
         have hrest:=λ{AP:Option Addr}{capP:Nat}{H:List HP}{w:World}(hr:Rd B w0 H A (L.flatMap lkF)) (hp:Rd B w0 H AP ((r++[a.2.1]).flatMap numF)) (hcap:(r++[a.2.1]).length<=capP) (hw:St B w0 H w)=>YnZ nodes L (r++[a.2.1]) to fuel (sum,fine) (capL:=cap) (by omega) (by omega) hLo ⟨by omega,by omega⟩ (λv hv=>by
          rcases TF.1 hv with hv|hv
          ·exact hmem v hv
          ·obtain rfl:=TO.1 hv
           exact⟨a3,a4⟩) ht hfu hrs hr hp hcap hw
         rw[hlen1,hfl1,<-hnn]at hrest
         dsimp only at hrest
         repeat'(first|((first|apply Yb Ua|apply Yc Ua);exact za;exact rfl;exactλ_ hw=>(hcon hw))|refine zgd ?_|(refine zgf ?_ ?_<;>intro _<;>try exact zo)|(refine zgh ?_;intro _)|fail)
         all_goals(
          apply Je (.n1 0 (.n1 1 (.n1 2 (.n1 3 (.n1 5 (.n1 6 (.n1 9 (.n2 4 (.n1 7 (.n1 8 (.n1 10 (.n1 11 (.n1 12 (.n1 13 (.n1 14 (.n1 15 .done)))))))) 7 (.n1 4 (.n1 8 (.n1 10 (.n1 11 (.n1 12 (.n1 13 (.n1 14 (.n1 15 .done)))))))))))))))) [] [true,true,true,true]
          kernel_rfl
          kernel_rfl
          exact zy
          exact rfl
          repeat'(first|(apply Yj;try exact zl)|apply(zs91 ?_ ?_)|(apply YW;try exact zl)|refine zgd ?_|(refine zgh ?_;intro _)|fail)
          all_goals(
           apply Ye _ Ypo
           exact za
           exact rfl
           exactλ_ hw=>(J5 r (by omega) (.sl zm) (hw))
           rintro _ _ ⟨A5,cap5,rfl,rfl⟩
           repeat'(first|(apply Yj;try exact zl)|(apply YW;try exact zl)|refine zgd ?_|(refine zgh ?_;intro _)|(refine zgi ?_;intro _ _)|fail)
           rename_i A6 cap6
           refine UP (e:=3) (size:=1) (k:=r.length+1) (cap:=cap6) (A:=A6) (xs:=r.flatMap numF++#[Value.int .i64 a.2.1].toList) zm λhcap=>?_
           apply Ye _ Ywo
           exact za
           exact rfl
           exactλ_ hw=>(hrest (.sl zm) (.sl zm) hcap (hw))
           rintro _ _ ⟨rfl,⟨q1,q2⟩,rfl⟩
           by_cases hgo:fine=true/\spent+a.2.2+sum=total
           ·rw[Tj hgo]at hsc2
            obtain⟨rfl,heq⟩:=hgo
            repeat'(first|(apply Yj;try exact zl)|(apply YW;try exact zl)|refine zgd ?_|(refine zge ?_ ?_<;>intro _<;>try exact zo)|fail)
            apply hK2 ⟨j+1,a.2.1,a.2.2⟩
            ·exact⟨by simp only;omega,hsc2,.inr ⟨a3,a4⟩,by simp only;omega⟩
            ·simp only;omega
            ·exact zu
            ·exact zk
           ·rw[Tf hgo]at hsc2
            cases fine with
            |false=>
             repeat'(first|(apply Yj;try exact zl)|(apply YW;try exact zl)|refine zgd ?_|fail)
             apply hK2 ⟨j+1,best,price⟩
             ·exact⟨by simp only;omega,hsc2,hbest,hpr0,hpr1⟩
             ·simp only;omega
             ·exact zu
             ·exact zk
            |true=>
             have hne:¬spent+a.2.2+sum=total:=λh=>hgo ⟨rfl,h⟩
             repeat'(first|(apply Yj;try exact zl)|(apply YW;try exact zl)|refine zgd ?_|(refine zge ?_ ?_<;>intro _<;>try exact zo)|fail)
             apply hK2 ⟨j+1,best,price⟩
             ·exact⟨by simp only;omega,hsc2,hbest,hpr0,hpr1⟩
             ·simp only;omega
             ·exact zu
             ·exact zk))
       ·obtain rfl:j=L.length:=by omega
        rw[SH]at hsc2
        obtain⟨rfl,rfl⟩:=Prod.mk.inj (Tz hsc2)
        clear hK2
        by_cases hneg:best<0
        ·rw[Tj hneg]at hrun2;cases hrun2
        rw[Tf hneg]at hrun2
        refine Ymk ?_<;>intros
        rename_i A3 cap3
        apply hK ⟨k,r++[best],A3,cap3,spent+price,best⟩
        ·refine⟨hrun2,?_,λv hv=>?_,?_,λh=>?_⟩
         ·exact Yuq
         ·rcases TF.1 hv with hv|hv
          ·exact hmem v hv
          ·obtain rfl:=TO.1 hv
           omega
         ·exact Yuq
         ·simp only[To,TL]at h;omega
        ·exact zc31
        ·dsimp only
         rw[To,TL];exact zc1
        ·dsimp only
         rw[<-YpO]
         exact zc0
noncomputable def Wz(fuel:Nat)(n:Net)(s t:Int):Option (Option (List Int×List Int)×Int):=
 if Z8 n s t≠0 then some (none,Z8 n s t)else
  match Yfh fuel n.nodes.toNat (JW n) s t with
  |none=>none
  |some none=>some (none,17)
  |some (some pq)=>if 9<pq.1.length\/9<pq.2.length then some (none,21)else some (some pq,0)
theorem Ymt(n:NetM)(s to:Int)(fuel:Nat)(res:Option (List Int×List Int)×Int)(hfu:fuel<=100000)(hrun:Wz fuel n.net s to=some res){B:Nat}{w0:World}{H:List HP}{w:World}(hin:n.In B w0 H)(hw:St B w0 H w):
 CX B w0 222 [n.val,.int .i64 s,.int .i64 to] w λv K=>match res.1 with
  |none=>v=.tuple #[.slice none 0 0,.int .i64 res.2]/\K=H
  |some pq=>∃g A1 c1 A2 c2,v=.tuple #[.slice (some ⟨g,0,none⟩) 2 2,.int .i64 res.2]/\(2<=pq.1.length/\pq.1.length<=9/\pq.2.length<=9)/\WayV A2 pq.2/\K=sl 64 1 (some ⟨g,0,none⟩) 2 2 ([⟨A1,c1,pq.1⟩,⟨A2,c2,pq.2⟩].flatMap rowF)::ints A1 c1 pq.1::ints A2 c2 pq.2::H:=by
 refine Ya Tryz.func222 Tryz.ntmps222 rfl rfl hw ?_
 (apply Xm;apply YY;apply YV;exact rfl;exact rfl;intro g)
 unfold Wz at hrun
 by_cases he:Z8 n.net s to=0
 rotate_left
 ·rw[Tj he]at hrun
  obtain rfl:=Tz hrun
  repeat'(first|((first|apply Yb OG|apply Yc OG);exact za;exact rfl;exactλ_ hw=>(Vr n s to hin.cons hw))|refine zgb ?_|(refine zge ?_ ?_<;>intro _<;>try exact zo)|fail)
  (repeat apply Yn)
  exact zc64
 rw[Tf (λh=>h he)]at hrun
 obtain⟨hck,⟨s0,s1⟩,⟨t0,t1⟩,hst⟩:=YlQ he
 have hen:=λ{H:List HP}{w:World}(hin:n.In B w0 H) (hw:St B w0 H w)=>Vr n s to hin hw
 rw[he]at hen
 have hok:=YM hck
 have hn0:=hok.n0
 have hn1:=hok.n1
 have hnn:((n.net.nodes.toNat:Nat):Int)=n.net.nodes:=by omega
 have hnn2:n.nodes=((n.net.nodes.toNat:Nat):Int):=by rw[hnn];rfl
 cases hpf:Yfh fuel n.net.nodes.toNat (JW n.net) s to with
 |none=>simp_all
 |some o=>
  rw[hpf]at hrun
  have hp:=λ{H:List HP}{w:World}(hin:n.In B w0 H) (hw:St B w0 H w)=>YnS n s to n.net.nodes.toNat fuel o hck hnn2 ⟨s0,by omega⟩ ⟨t0,by omega⟩ hst hfu hpf hin hw
  cases o with
  |none=>
   obtain rfl:=Tz hrun
   refine YqS ?_<;>intros
   apply Ye _ Ys6
   exact za
   exact rfl
   exactλ_ hw=>(hp hin.cons (hw))
   rintro _ _ ⟨rfl,rfl⟩
   refine zX6 ?_
   apply Yn
   apply YL;(iterate 3 exact rfl)
   exact YfA
  |some pq=>
   obtain⟨p,q⟩:=pq
   dsimp only at hrun
   refine YqS ?_<;>intros
   apply Ye _ Ys6
   exact za
   exact rfl
   exactλ_ hw=>(hp hin.cons (hw))
   rintro _ _ ⟨gL,A1,c1,A2,c2,rfl,⟨k1,k2,k3⟩,hway,rfl⟩
   dsimp only at k1 k2 k3 hway⊢
   repeat'(first|(apply Ze;(iterate 3 exact rfl))|refine zgc ?_|fail)
   have hs1:=λ{H:List HP}{w:World}(hw:St B w0 H w)=>Wh p.length (A:=A1) (cap:=c1) (by omega) hw
   have hs2:=λ{H:List HP}{w:World}(hw:St B w0 H w)=>Wh q.length (A:=A2) (cap:=c2) (by omega) hw
   refine Yh (λ(k:Nat)=>[(28,.int .i64 k),(27,.int .i64 2),(26,.slice (some ⟨gL,0,none⟩) 2 2),(9,.slice (some ⟨gL,0,none⟩) 2 2)]) (λ_=>sl 64 1 (some ⟨gL,0,none⟩) 2 2 ([(⟨A1,c1,p⟩:RowM),⟨A2,c2,q⟩].flatMap rowF)::ints A1 c1 p::ints A2 c2 q::netB g n::H) (λk=>k<=2/\(1<=k->p.length<=9)/\(2<=k->q.length<=9)) (λk=>2-k) 0 ⟨by omega,by omega,by omega⟩ ?_ (λw hw=>hw) ?_
   ·exact zc1
   rintro k ⟨hk,hk1,hk2⟩ K hK
   obtain rfl|rfl|rfl:k=0\/k=1\/k=2:=by omega
   ·have hx0:[(⟨A1,c1,p⟩:RowM),⟨A2,c2,q⟩][0]? =some ⟨A1,c1,p⟩:=rfl
    by_cases h9:9<p.length
    ·rw[Tj h9]at hs1
     rw[Tj (.inl h9)]at hrun
     obtain rfl:=Tz hrun
     clear hK
     repeat'(first|(apply Zm T (f:=rowF) (l:=[(⟨A1,c1,p⟩:RowM),⟨A2,c2,q⟩]);exact rfl;exact rfl;exact .sl zm;exact rfl;exactλ_=>rfl;exact rfl;exact rfl;(simp only[TS,Rj];omega))|(apply Z3 T (f:=rowF) (l:=[(⟨A1,c1,p⟩:RowM),⟨A2,c2,q⟩]);exact rfl;exact .sl zm;exact hx0;exactλ_=>rfl;(iterate 4 exact rfl))|((first|apply Yb OH|apply Yc OH);exact za;exact rfl;exactλ_ hw=>(hs1 hw))|refine zgd ?_|(refine zge ?_ ?_<;>intro _<;>try exact zo)|fail)
     exact zc98
    ·rw[Tf h9]at hs1
     repeat'(first|(apply Zm T (f:=rowF) (l:=[(⟨A1,c1,p⟩:RowM),⟨A2,c2,q⟩]);exact rfl;exact rfl;exact .sl zm;exact rfl;exactλ_=>rfl;exact rfl;exact rfl;(simp only[TS,Rj];omega))|(apply Z3 T (f:=rowF) (l:=[(⟨A1,c1,p⟩:RowM),⟨A2,c2,q⟩]);exact rfl;exact .sl zm;exact hx0;exactλ_=>rfl;(iterate 4 exact rfl))|((first|apply Yb OH|apply Yc OH);exact za;exact rfl;exactλ_ hw=>(hs1 hw))|refine zgc ?_|(refine zge ?_ ?_<;>intro _<;>try exact zo)|fail)
     apply hK 1
     ·exact⟨by omega,λ_=>by omega,by omega⟩
     ·omega
     ·exact zc1
     exact zc19
   ·have hx1:[(⟨A1,c1,p⟩:RowM),⟨A2,c2,q⟩][1]? =some ⟨A2,c2,q⟩:=rfl
    by_cases h9:9<q.length
    ·rw[Tj h9]at hs2
     rw[Tj (.inr h9)]at hrun
     obtain rfl:=Tz hrun
     clear hK
     repeat'(first|(apply Zm T (f:=rowF) (l:=[(⟨A1,c1,p⟩:RowM),⟨A2,c2,q⟩]);exact rfl;exact rfl;exact .sl zm;exact rfl;exactλ_=>rfl;exact rfl;exact rfl;(simp only[TS,Rj];omega))|(apply Z3 T (f:=rowF) (l:=[(⟨A1,c1,p⟩:RowM),⟨A2,c2,q⟩]);exact rfl;exact .sl zm;exact hx1;exactλ_=>rfl;(iterate 4 exact rfl))|((first|apply Yb OH|apply Yc OH);exact za;exact rfl;exactλ_ hw=>(hs2 hw))|refine zgd ?_|(refine zge ?_ ?_<;>intro _<;>try exact zo)|fail)
     exact zc98
    ·rw[Tf h9]at hs2
     repeat'(first|(apply Zm T (f:=rowF) (l:=[(⟨A1,c1,p⟩:RowM),⟨A2,c2,q⟩]);exact rfl;exact rfl;exact .sl zm;exact rfl;exactλ_=>rfl;exact rfl;exact rfl;(simp only[TS,Rj];omega))|(apply Z3 T (f:=rowF) (l:=[(⟨A1,c1,p⟩:RowM),⟨A2,c2,q⟩]);exact rfl;exact .sl zm;exact hx1;exactλ_=>rfl;(iterate 4 exact rfl))|((first|apply Yb OH|apply Yc OH);exact za;exact rfl;exactλ_ hw=>(hs2 hw))|refine zgc ?_|(refine zge ?_ ?_<;>intro _<;>try exact zo)|fail)
     apply hK 2
     ·exact⟨by omega,λ_=>hk1 (by omega),λ_=>by omega⟩
     ·omega
     ·exact zc1
     exact zc19
   ·have h1:=hk1 (by omega)
    have h2:=hk2 (by omega)
    rw[Tf (by omega)]at hrun
    obtain rfl:=Tz hrun
    clear hK
    refine zX0 ?_<;>intros
    apply Yg (sl 64 1 (some ⟨gL,0,none⟩) 2 2 ([(⟨A1,c1,p⟩:RowM),⟨A2,c2,q⟩].flatMap rowF)::ints A1 c1 p::ints A2 c2 q::H)
    ·exact zc0
    apply YL;(iterate 3 exact rfl)
    exact⟨gL,A1,c1,A2,c2,rfl,⟨k1,h1,h2⟩,hway,rfl⟩
def YvE(n:Net)(u v:Int):Int:=Ye8 n u v+1
def rt(s t:Int)(ms:List Int):List Int:=s::(ms++[t])
structure IsRt(n:Net)(s t:Int)(ms:List Int):Prop where
 path:Yvz (Y3 n) n.nodes.toNat t s ms
 nd:(rt s t ms).Nodup
structure Two(n:Net)(s t:Int)(mp mq:List Int):Prop where
 p:IsRt n s t mp
 q:IsRt n s t mq
 ne:mp≠mq
 dis:∀x∈mp,x∉mq
theorem Two.symm{n:Net}{s t:Int}{mp mq:List Int}(h:Two n s t mp mq):Two n s t mq mp:=⟨h.q,h.p,Nk h.ne,λx hx hy=>h.dis x hy hx⟩
def key(n:Net)(s t:Int)(ms:List Int):Int:=keyG (YvE n) (rt s t ms)
theorem getD_some{l:List (List Int)}{i:Nat}{x:List Int}(h:l[i]? =some x):l.getD i []=x:=by
 rw[Tu,h];rfl
open Go.ChangeShapes Go.WideShapes Go.ChangeAt Go.RowKit Go.Eng Go.Nw Go.Rt
section
variable {H:Type}{enc:TypeId×Value->H}{W:World}{spare:Nat->Bool}{held:Bool}
structure RtG(W:World)(r:RowM):Prop where
 old:Old W r.A (r.xs.flatMap numF)
 len:r.xs.length<=9223372036854775807
 cap:r.xs.length<=r.cap
 good:∀z∈r.xs,I64 z
theorem Yqd:Opn enc Tryz.prog W spare held 64 rowF (RtG W):=
 VK (Zv (q:=1) Tryz.underlying64 (by kernel_rfl) (by decide) op_i) Yma (λ_=>rfl) (λ_ h=>⟨h.old,TU h.len maxL,h.cap,h.good⟩)
theorem YbB:Opn enc Tryz.prog W spare held 24 rowF (RtG W):=
 VK Ygo Yma (λ_=>rfl) (λ_ h=>⟨h.old,TU h.len maxL,h.cap,h.good⟩)
theorem Yfe:Opn enc Tryz.prog W spare held 54 (λs:SlM RowM=>[s.val]) (SlG W rowF (RtG W)):=Zv (q:=1) Tryz.underlying54 (by kernel_rfl) (by decide) Yqd
theorem Yqc:Opn enc Tryz.prog W spare held 22 (λs:SlM RowM=>[s.val]) (SlG W rowF (RtG W)):=Zv (q:=1) Tryz.underlying22 (by kernel_rfl) (by decide) YbB
structure RqG(W:World)(x:RqM):Prop where
 f:FlwG x.f
 old:Old W x.A (x.rows.flatMap rowF)
 len:x.rows.length<=9223372036854775807
 cap:x.rows.length<=x.cap
 good:∀r∈x.rows,RtG W r
theorem Ykq:Opn enc Tryz.prog W spare held 56 rqF (RqG W):=
 VK (ZH (ts:=[53,54]) (by kernel_rfl) (Yv Ysf (Yv Yfe Vj)))
  (λx=>⟨x.1,x.2.1.A,x.2.1.cap,x.2.1.xs⟩) (λx=>by simp[rqF,flwF,SlM.val]) (λx h=>by
   obtain⟨h1,h2,_⟩:=h
   exact⟨h1,h2.old,TU h2.len maxL,h2.cap,h2.good⟩)
theorem Yiz:Opn enc Tryz.prog W spare held 27 (λs:SlM RqM=>[s.val]) (SlG W rqF (RqG W)):=Zv (q:=7) Tryz.underlying27 (by kernel_rfl) (by decide) Ykq
structure ClG(W:World)(c:ClM):Prop where
 f:I64 c.flow
 rt:Old W c.rA (c.rs.flatMap rowF)
 rg:∀r∈c.rs,RtG W r
 bd:RtG W ⟨c.bA,c.bcap,c.bs⟩
 ws:RtG W ⟨c.wA,c.wcap,c.ws⟩
 st:Old W c.sA (c.ss.flatMap rowF)
 sg:∀r∈c.ss,RtG W r
 rl:c.rs.length<=9223372036854775807
 sl:c.ss.length<=9223372036854775807
 rc:c.rs.length<=c.rcap
 sc:c.ss.length<=c.scap
theorem Yqa:Opn enc Tryz.prog W spare held 191 clF (ClG W):=
 VK (ZH (ts:=[3,54,24,24,22]) (by kernel_rfl) (Yv op_i (Yv Yfe (Yv YbB (Yv YbB (Yv Yqc Vj))))))
  (λx=>⟨x.1,x.2.1.A,x.2.1.cap,x.2.1.xs,x.2.2.1.A,x.2.2.1.cap,x.2.2.1.xs,x.2.2.2.1.A,x.2.2.2.1.cap,x.2.2.2.1.xs,x.2.2.2.2.1.A,x.2.2.2.2.1.cap,x.2.2.2.2.1.xs⟩) (λx=>by simp[clF,numF,rowF,SlM.val]) (λx h=>by
   obtain⟨h1,h2,h3,h4,h5,_⟩:=h
   exact⟨h1,h2.old,h2.good,h3,h4,h5.old,h5.good,TU h2.len maxL,TU h5.len maxL,h2.cap,h5.cap⟩)
theorem YnP:Opn enc Tryz.prog W spare held 32 (λs:SlM ClM=>[s.val]) (SlG W clF (ClG W)):=Zv (q:=5) Tryz.underlying32 (by kernel_rfl) (by decide) Yqa
end
end Go.Proofs.YtambgjgljcadlaaGreatDoor
