/- Lemmas. -/
import Derived.Test.YtjommdkgfbhbdaaGreatDoorQ12
import Derived.Test.YtjommdkgfbhbdaaGreatDoorQ13
set_option maxRecDepth 100000
set_option maxHeartbeats 8000000
set_option linter.all false
namespace Go.Proofs.YtjommdkgfbhbdaaGreatDoor
open Go.RowKit Go.Eng Go.Nw
variable {B cap:Nat}{w0 w:World}{H:List HP}
theorem NetM.In.inM{K:List HP}{n:NetM}(h:n.In B w0 H)(hm:Eng.many H∈K):n.In B w0 K:=
 ⟨h.pw.inM hm,λr hr=>(h.rw_ r hr).inM hm,h.lk.inM hm,h.mg.inM hm,h.s1,h.s2,h.s3,h.s4⟩
theorem YgW(a b:Cel)(hw:St B w0 H w):
 CX B w0 431 [celV a,celV b] w λv K=>v=.bool (Yx a b)/\K=H:=by
 refine Ya Tryz.func431 Tryz.ntmps431 rfl rfl hw ?_
 have htc:Yx a b=true↔(a.2.2.1=b.2.2.1\/a.2.2.1=b.2.2.2.1\/a.2.2.2.1=b.2.2.1\/a.2.2.2.1=b.2.2.2.1):=by unfold Yx YF toC;simp_all
 obtain⟨z,hz⟩:∃z,Yx a b=z:=⟨_,rfl⟩
 rw[hz]at htc⊢
 repeat'(first|apply(zs1 ?_)|apply(zs2 ?_)|(apply zg1;first|refine zs3 ?_|refine zs4 ?_)|(apply zg2;refine zs6 ?_)|(apply zg3;refine zs7 ?_)|(apply zg6;first|refine zs11 ?_|refine zs12 ?_)|(apply zg7;(refine zs15 ?_ ?_<;>intro _<;>try exact zo))|(apply zg23;(refine zs52 ?_;intro _))|apply(zs65 ?_)|apply(zs68 ?_)|apply(zs69 ?_)|apply(zs70 ?_)|apply(zs74 ?_)|fail)
 all_goals(
  apply Yf H
  ·exact zk
  apply Yd;exact rfl;exact rfl
  cases z<;>simp at htc<;>first|exact⟨rfl,rfl⟩|(exfalso;omega))
def Ul(_:Net)(l:List Cel)(i:Nat)(c:Cel)(k:Nat):Bool:=(List.range k).any λj=>decide (j≠i)&&Yx c (celL l j)
theorem Ybq(n:NetM)(l:List Cel)(i:Nat)(gn gl gi:Nat)(A:Option Addr)(cap:Nat)(lk node:Int)(hok:Ok n.net)(hnode:0<=node/\node<n.nodes)(hlk:0<=lk/\lk.toNat<n.net.links.length)(hlen:l.length<=1000)(hin:n.In B w0 H)(hr:Rd B w0 H A (l.flatMap celF))
 (h1:netN gn n∈H) (h2:blk gl (.cells #[.slice A l.length cap] 31 (0,0))∈H) (h3:blk gi (.cells #[.int .i64 i] 3 (0,0))∈H) (hw:St B w0 H w):
 CX B w0 432 [.int .i64 lk,.int .i64 node,.pointer (some ⟨gn,0,none⟩),.pointer (some ⟨gl,0,none⟩),.pointer (some ⟨gi,0,none⟩)] w λv K=>v=.bool (Zu n.net (mar n.net lk.toNat) (Yu n.net l i node l.length))/\K=H:=by
 refine Ya Tryz.func432 Tryz.ntmps432 rfl rfl hw ?_
 have hmg:=hin.mg
 have hs4:=hin.s4
 have hml:n.margin.length=n.net.links.length:=hok.k1
 have hm1:n.margin[lk.toNat]? =some (mar n.net lk.toNat):=zc31
 have p1:=λ{w:World}(hw:St B w0 H w)=>YcV n l i node hok hnode hlen (cap:=cap) hin hr hw
 obtain⟨d,hd⟩:∃d,Yu n.net l i node l.length=d:=⟨_,rfl⟩
 rw[hd]at p1⊢
 have p2:=λ{w:World}(hw:St B w0 H w)=>Qi n (mar n.net lk.toNat) d hin hw
 unfold netN at h1
 repeat'(first|apply(zs2 ?_)|apply(zs65 ?_)|apply(zs68 ?_)|apply(zs69 ?_)|apply(zs70 ?_)|fail)
 apply YV [0,1,2,3,4,5,6,7,8,9,10,11,12] []
 kernel_rfl
 kernel_rfl
 (simp only[Yc,nthO];rfl)
 exact rfl
 repeat'(first|apply(zs1 ?_)|(apply zg2;refine zs6 ?_)|(apply zg3;first|refine zs7 ?_|refine zs8 ?_|refine zs60 ?_)|(apply zg5;refine zs57 ?_)|apply(zs87 ?_)|fail)
 apply Yb Ytp
 exact za
 exact rfl
 exactλ_ hw=>(p1 hw)
 repeat'(first|apply(zs65 ?_)|apply(zs87 ?_)|(apply Yh;(repeat(first|with_reducible exact YY|(with_reducible apply YN;(repeat(first|with_reducible exact Yo|with_reducible apply Yw))))))|fail)
 ·show Perm H (H++[])
  exact zc28
 repeat'(first|fail)
 apply Yb Yfe
 exact za
 exact rfl
 exactλ_ hw=>(p2 hw)
 repeat'(first|apply(zs2 ?_)|apply(zs65 ?_)|(apply XH;exact zp)|apply(zs68 ?_)|apply(zs74 ?_)|(apply Yh;(repeat(first|with_reducible exact YY|(with_reducible apply YN;(repeat(first|with_reducible exact Yo|with_reducible apply Yw))))))|apply(zs93 ?_)|apply(zs94 ?_)|fail)
 ·show Perm H (H++[])
  exact zc28
 repeat'(first|fail)
 exact zc10
variable {A:Option Addr}
theorem YhU(n:NetM)(l:List Cel)(i:Nat)(hck:Yl n.net=0)(hi:i<l.length)(hlen:l.length<=1000)(hin:n.In B w0 H)(hr:Rd B w0 H A (l.flatMap celF))(hw:St B w0 H w):
 CX B w0 429 [n.val,.slice A l.length cap,.int .i64 i] w λv K=>v=.bool (ZM n.net l i)/\K=H:=by
 refine Ya Tryz.func429 Tryz.ntmps429 rfl rfl hw ?_
 have hok:=YO hck
 have hget:l[i]? =some (celL l i):=by unfold celL;rw[Tz,Ta hi];rfl
 obtain⟨c,hc⟩:∃c,celL l i=c:=⟨_,rfl⟩
 rw[hc]at hget
 have p1:=λ{H':List HP}{w:World}(hin:n.In B w0 H') (hw:St B w0 H' w)=>Zv n c.2.2.1 c.2.2.2.1 hin hw
 have p2:=λ{H':List HP}{w:World}(hin:n.In B w0 H') (hw:St B w0 H' w)=>Zv n c.2.2.2.1 c.2.2.1 hin hw
 have hix:∀u v:Int,Zj n.net u v=Yq n.net u v:=λu v=>by unfold Zj;rw[Tj (by omega)]
 have hus:=Yjj hck c.2.2.1 c.2.2.2.1
 have p3:=λ{H':List HP}{w:World}(hin:n.In B w0 H') (hw:St B w0 H' w)=>Uf n (Zj n.net c.2.2.1 c.2.2.2.1) hin hw
 rw[hus]at p3
 have hP:ZM n.net l i=(!(YX n.net c.2.2.1 c.2.2.2.1)||Ul n.net l i c l.length||(!(Zu n.net (mar n.net (Yq n.net c.2.2.1 c.2.2.2.1).toNat) (Yu n.net l i c.2.2.2.1 l.length))||!(Zu n.net (mar n.net (Yq n.net c.2.2.2.1 c.2.2.1).toNat) (Yu n.net l i c.2.2.1 l.length)))):=by
  unfold ZM Ul
  rw[hc,show J5 n.net (Zj n.net (YF c) (toC c))=YX n.net c.2.2.1 c.2.2.2.1 from hus]
  rfl
 rw[hP]
 by_cases hg:YX n.net c.2.2.1 c.2.2.2.1=true
 rotate_left
 ·have hg:YX n.net c.2.2.1 c.2.2.2.1=false:=by simpa using hg
  rw[hg]at p3⊢
  repeat'(first|apply(zs2 ?_)|(apply zg3;first|refine zs7 ?_|refine zs61 ?_)|(apply zg5;refine zs57 ?_)|(apply zg22;refine zs51 ?_)|(apply zg23;first|(refine zs52 ?_;intro _)|(refine zs53 ?_;intro _))|(apply zg24;(refine zs54 ?_;intro _))|apply(zs65 ?_)|apply(zs68 ?_)|apply(zs69 ?_)|apply(zs70 ?_)|fail)
  rename_i gn gl gi gc
  apply YA [0,1,2,3,4,6,7,8,9,10,5,11,12,13] [] [true,false,false,true]
  kernel_rfl
  kernel_rfl
  exact zy
  (simp only[Yc,nthO];rfl)
  exact rfl
  repeat'(first|(apply zg2;refine zs6 ?_)|(apply zg3;first|refine zs7 ?_|refine zs8 ?_)|apply(zs87 ?_)|fail)
  apply Yb Vg
  exact za
  exact rfl
  exactλ_ hw=>(p1 zc33 hw)
  repeat'(first|apply(zs65 ?_)|apply(zs87 ?_)|(apply Yh;(repeat(first|with_reducible exact YY|(with_reducible apply YN;(repeat(first|with_reducible exact Yo|with_reducible apply Yw))))))|fail)
  apply Yb Vg
  exact za
  exact rfl
  exactλ_ hw=>(p2 zc33 hw)
  repeat'(first|apply(zs1 ?_)|apply(zs2 ?_)|(apply zg3;refine zs8 ?_)|apply(zs65 ?_)|(apply XH;exact zp)|apply(zs68 ?_)|apply(zs69 ?_)|apply(zs70 ?_)|(apply Yh;(repeat(first|with_reducible exact YY|(with_reducible apply YN;(repeat(first|with_reducible exact Yo|with_reducible apply Yw))))))|apply(zs93 ?_)|apply(zs94 ?_)|fail)
  apply Yb Ybi
  exact za
  exact rfl
  exactλ_ hw=>(p3 zc33 hw)
  repeat'(first|apply(zs2 ?_)|(apply zg20;refine zs48 ?_)|apply(zs65 ?_)|apply(zs68 ?_)|apply(zs69 ?_)|apply(zs70 ?_)|(apply zg27;refine zs71 ?_)|apply(zs74 ?_)|apply(zs77 ?_)|fail)
  apply Yf H
  ·exact zc0
  exact zc3
 rw[hg]at p3⊢
 obtain⟨⟨f0,f1⟩,⟨t0,t1⟩,_,k1,k2⟩:(0<=c.2.2.1/\c.2.2.1<n.net.nodes)/\(0<=c.2.2.2.1/\c.2.2.2.1<n.net.nodes)/\c.2.2.1≠c.2.2.2.1/\0<=Yq n.net c.2.2.1 c.2.2.2.1/\0<=Yq n.net c.2.2.2.1 c.2.2.1:=Xo hok hg
 have x1:=XV k1
 have x2:=XV k2
 rw[hix]at p1 p2 p3
 obtain⟨i1,hi1⟩:∃z,Yq n.net c.2.2.1 c.2.2.2.1=z:=⟨_,rfl⟩
 obtain⟨i2,hi2⟩:∃z,Yq n.net c.2.2.2.1 c.2.2.1=z:=⟨_,rfl⟩
 rw[hi1]at p1 p3 k1 x1⊢
 rw[hi2]at p2 k2 x2⊢
 have q1:=λ{H':List HP}{w:World}(gn gl gi:Nat) (hin:n.In B w0 H') (hr:Rd B w0 H' A (l.flatMap celF)) (h1:netN gn n∈H') (h2:blk gl (.cells #[.slice A l.length cap] 31 (0,0))∈H') (h3:blk gi (.cells #[.int .i64 i] 3 (0,0))∈H') (hw:St B w0 H' w)=>Ybq n l i gn gl gi A cap i1 c.2.2.2.1 hok ⟨t0,t1⟩ ⟨k1,x1⟩ hlen hin hr h1 h2 h3 hw
 have q2:=λ{H':List HP}{w:World}(gn gl gi:Nat) (hin:n.In B w0 H') (hr:Rd B w0 H' A (l.flatMap celF)) (h1:netN gn n∈H') (h2:blk gl (.cells #[.slice A l.length cap] 31 (0,0))∈H') (h3:blk gi (.cells #[.int .i64 i] 3 (0,0))∈H') (hw:St B w0 H' w)=>Ybq n l i gn gl gi A cap i2 c.2.2.1 hok ⟨f0,f1⟩ ⟨k2,x2⟩ hlen hin hr h1 h2 h3 hw
 obtain⟨b1,hb1⟩:∃b,Zu n.net (mar n.net i1.toNat) (Yu n.net l i c.2.2.2.1 l.length)=b:=⟨_,rfl⟩
 obtain⟨b2,hb2⟩:∃b,Zu n.net (mar n.net i2.toNat) (Yu n.net l i c.2.2.1 l.length)=b:=⟨_,rfl⟩
 rw[hb1]at q1⊢
 rw[hb2]at q2⊢
 repeat'(first|apply(zs2 ?_)|(apply zg3;first|refine zs7 ?_|refine zs61 ?_)|(apply zg5;refine zs57 ?_)|(apply zg22;refine zs51 ?_)|(apply zg23;first|(refine zs52 ?_;intro _)|(refine zs53 ?_;intro _))|(apply zg24;(refine zs54 ?_;intro _))|apply(zs65 ?_)|apply(zs68 ?_)|apply(zs69 ?_)|apply(zs70 ?_)|fail)
 rename_i gn gl gi gc
 apply YA [0,1,2,3,4,6,7,8,9,10,5,11,12,13] [] [true,false,false,true]
 kernel_rfl
 kernel_rfl
 exact zy
 (simp only[Yc,nthO];rfl)
 exact rfl
 repeat'(first|(apply zg2;refine zs6 ?_)|(apply zg3;first|refine zs7 ?_|refine zs8 ?_)|apply(zs87 ?_)|fail)
 apply Yb Vg
 exact za
 exact rfl
 exactλ_ hw=>(p1 zc33 hw)
 repeat'(first|apply(zs65 ?_)|apply(zs87 ?_)|(apply Yh;(repeat(first|with_reducible exact YY|(with_reducible apply YN;(repeat(first|with_reducible exact Yo|with_reducible apply Yw))))))|fail)
 apply Yb Vg
 exact za
 exact rfl
 exactλ_ hw=>(p2 zc33 hw)
 repeat'(first|apply(zs1 ?_)|apply(zs2 ?_)|(apply zg3;refine zs8 ?_)|apply(zs65 ?_)|(apply XH;exact zp)|apply(zs68 ?_)|apply(zs69 ?_)|apply(zs70 ?_)|(apply Yh;(repeat(first|with_reducible exact YY|(with_reducible apply YN;(repeat(first|with_reducible exact Yo|with_reducible apply Yw))))))|apply(zs93 ?_)|apply(zs94 ?_)|fail)
 apply Yb Ybi
 exact za
 exact rfl
 exactλ_ hw=>(p3 zc33 hw)
 repeat'(first|apply(zs1 ?_)|(apply zg3;refine zs7 ?_)|(apply zg4;refine zs9 ?_)|(apply zg20;refine zs47 ?_)|apply(zs65 ?_)|apply(zs68 ?_)|apply(zs69 ?_)|apply(zs70 ?_)|(apply zg27;refine zs72 ?_)|apply(zs73 ?_)|apply(zs76 ?_)|fail)
 refine Ye (λ(k:Nat)=>[(35,.int .i64 k),(34,.int .i64 l.length),(33,.slice A l.length cap),(3,.pointer (some ⟨gn,0,none⟩)),(4,.pointer (some ⟨gl,0,none⟩)),(5,.pointer (some ⟨gi,0,none⟩)),(7,.pointer (some ⟨gc,0,none⟩)),(8,.int .i64 i1),(9,.int .i64 i2)])
  (λ_=>blk gc (.cells #[.int .i64 c.1,.int .i64 c.2.1,.int .i64 c.2.2.1,.int .i64 c.2.2.2.1,.int .i64 c.2.2.2.2] 162 (0,0))::blk gi (.cells #[.int .i64 i] 3 (0,0))::blk gl (.cells #[.slice A l.length cap] 31 (0,0))::netN gn n::H) (λk=>k<=l.length/\Ul n.net l i c k=false) (λk=>l.length-k) 0 ⟨Td _,rfl⟩ ?_ ?_ ?_
 ·exact zc1
 ·unfold netN
  exact zc0
 rintro k ⟨hk,hno⟩ K hK
 have hrc:Rd B w0 (blk gc (.cells #[.int .i64 c.1,.int .i64 c.2.1,.int .i64 c.2.2.1,.int .i64 c.2.2.2.1,.int .i64 c.2.2.2.2] 162 (0,0))::blk gi (.cells #[.int .i64 i] 3 (0,0))::blk gl (.cells #[.slice A l.length cap] 31 (0,0))::netN gn n::H) A (l.flatMap celF):=hr.cons.cons.cons.cons
 by_cases hlt:k<l.length
 ·have hgk:l[k]? =some (celL l k):=Yul
  have hst:Ul n.net l i c (k+1)=(Ul n.net l i c k||(decide (k≠i)&&Yx c (celL l k))):=by
   unfold Ul
   rw[Rq,S7]
   simp
  obtain⟨d,hd⟩:∃d,celL l k=d:=⟨_,rfl⟩
  rw[hd]at hgk hst
  have p4:=λ{H':List HP}{w:World}(hw:St B w0 H' w)=>YgW c d hw
  unfold netN at hrc⊢
  obtain⟨t,ht⟩:∃t,Yx c d=t:=⟨_,rfl⟩
  rw[ht]at p4 hst
  rw[hno,Nz]at hst
  by_cases hki:k=i
  ·rw[Ti (λh=>h hki),Nb]at hst
   repeat'(first|apply(zs1 ?_)|apply(zs2 ?_)|(apply zg1;refine zs3 ?_)|(apply zg3;first|refine zs7 ?_|refine zs61 ?_)|(apply zg5;refine zs57 ?_)|(apply zg6;refine zs12 ?_)|(apply zg8;(refine zs16 ?_ ?_<;>intro _<;>try exact zo))|(apply(zs17 ?_ ?_)<;>intro _<;>try exact zo)|(apply zg13;refine zs30 ?_)|(apply zg22;refine zs51 ?_)|(apply zg24;(refine zs54 ?_;intro _))|apply(zs65 ?_)|apply(zs68 ?_)|apply(zs69 ?_)|apply(zs70 ?_)|(apply zg27;first|refine zs71 ?_|refine zs72 ?_)|apply(zs73 ?_)|apply(zs76 ?_)|apply(zs79 ?_)|fail)
   apply hK (k+1)
   ·exact Ymy
   ·omega
   ·exact zc1
   ·unfold netN
    exact zc0
  rw[Tf hki,RD]at hst
  cases t with
  |false=>
   repeat'(first|((apply Yb Ytv);exact za;exact rfl;exactλ_ hw=>(p4 hw))|apply(zs1 ?_)|apply(zs2 ?_)|(apply zg1;refine zs4 ?_)|(apply zg3;first|refine zs7 ?_|refine zs8 ?_|refine zs61 ?_)|(apply zg5;refine zs57 ?_)|(apply zg6;refine zs11 ?_)|(apply zg8;(refine zs16 ?_ ?_<;>intro _<;>try exact zo))|(apply(zs17 ?_ ?_)<;>intro _<;>try exact zo)|(apply zg13;refine zs30 ?_)|(apply zg22;refine zs51 ?_)|(apply zg24;(refine zs54 ?_;intro _))|apply(zs65 ?_)|apply(zs68 ?_)|apply(zs69 ?_)|apply(zs70 ?_)|(apply zg27;first|refine zs71 ?_|refine zs72 ?_)|apply(zs73 ?_)|apply(zs76 ?_)|apply(zs79 ?_)|fail)
   apply hK (k+1)
   ·exact Ymy
   ·omega
   ·exact zc1
   ·unfold netN
    exact zc0
  |true=>
   have hfa:Ul n.net l i c l.length=true:=by
    unfold Ul
    rw[Rj]
    exact⟨k,TQ.2 hlt,by rw[hd,ht,Tf hki];rfl⟩
   rw[hfa]
   repeat'(first|((apply Yb Ytv);exact za;exact rfl;exactλ_ hw=>(p4 hw))|apply(zs1 ?_)|apply(zs2 ?_)|(apply zg1;refine zs4 ?_)|(apply zg3;first|refine zs7 ?_|refine zs8 ?_|refine zs61 ?_)|(apply zg5;refine zs57 ?_)|(apply zg6;refine zs11 ?_)|(apply zg8;(refine zs16 ?_ ?_<;>intro _<;>try exact zo))|(apply(zs17 ?_ ?_)<;>intro _<;>try exact zo)|(apply zg22;refine zs51 ?_)|(apply zg24;(refine zs54 ?_;intro _))|apply(zs65 ?_)|apply(zs68 ?_)|apply(zs69 ?_)|apply(zs70 ?_)|(apply zg27;refine zs71 ?_)|apply(zs73 ?_)|apply(zs74 ?_)|apply(zs76 ?_)|apply(zs77 ?_)|apply(zs78 ?_)|fail)
   apply Yf H
   ·exact zc0
   exact zc3
 ·obtain rfl:k=l.length:=by omega
  rw[hno]
  clear hK
  unfold netN at hrc q1 q2⊢
  cases b1 with
  |false=>
   repeat'(first|apply(zs1 ?_)|apply(zs2 ?_)|(apply zg2;refine zs6 ?_)|(apply zg3;refine zs7 ?_)|(apply(zs17 ?_ ?_)<;>intro _<;>try exact zo)|apply(zs65 ?_)|apply(zs68 ?_)|apply(zs69 ?_)|apply(zs70 ?_)|(apply zg27;refine zs72 ?_)|apply(zs75 ?_)|apply(zs80 ?_)|apply(zs81 ?_)|(apply zg29;(apply Ys;exact za;exact rfl))|fail)
   apply Zg (cs:=[.pointer (some ⟨gn,0,none⟩),.pointer (some ⟨gl,0,none⟩),.pointer (some ⟨gi,0,none⟩)])
   exact rfl
   exact Ypt
   exact za
   exact rfl
   exactλ_ hw=>q1 gn gl gi zc33 hrc (by(focus exact zc2)) (by(focus exact zc2)) (by(focus exact zc2)) hw
   repeat'(first|apply(zs1 ?_)|apply(zs2 ?_)|(apply zg1;refine zs3 ?_)|(apply zg6;refine zs11 ?_)|(apply zg20;refine zs48 ?_)|apply(zs65 ?_)|apply(zs68 ?_)|apply(zs74 ?_)|fail)
   apply Yf H
   ·exact zc0
   exact zc3
  |true=>
   cases b2<;>(
    repeat'(first|apply(zs1 ?_)|apply(zs2 ?_)|(apply zg2;refine zs6 ?_)|(apply zg3;refine zs7 ?_)|(apply(zs17 ?_ ?_)<;>intro _<;>try exact zo)|apply(zs65 ?_)|apply(zs68 ?_)|apply(zs69 ?_)|apply(zs70 ?_)|(apply zg27;refine zs72 ?_)|apply(zs75 ?_)|apply(zs80 ?_)|apply(zs81 ?_)|(apply zg29;(apply Ys;exact za;exact rfl))|fail)
    apply Zg (cs:=[.pointer (some ⟨gn,0,none⟩),.pointer (some ⟨gl,0,none⟩),.pointer (some ⟨gi,0,none⟩)])
    exact rfl
    exact Ypt
    exact za
    exact rfl
    exactλ_ hw=>q1 gn gl gi (by repeat(first|exact hin|apply NetM.In.cons)) hrc zm zm zm hw
    repeat'(first|apply(zs1 ?_)|(apply zg1;refine zs4 ?_)|(apply zg2;refine zs6 ?_)|(apply zg3;refine zs7 ?_)|(apply zg20;refine zs47 ?_)|fail)
    apply Zg (cs:=[.pointer (some ⟨gn,0,none⟩),.pointer (some ⟨gl,0,none⟩),.pointer (some ⟨gi,0,none⟩)])
    exact rfl
    exact Ypt
    exact za
    exact rfl
    exactλ_ hw=>q2 gn gl gi (by repeat(first|exact hin|apply NetM.In.cons)) hrc zm zm zm hw
    repeat'(first|apply(zs2 ?_)|(apply zg1;refine zs4 ?_)|(apply zg6;refine zs12 ?_)|(apply zg20;first|refine zs47 ?_|refine zs48 ?_)|apply(zs65 ?_)|apply(zs68 ?_)|apply(zs74 ?_)|fail)
    apply Yf H
    ·exact zk
    apply Yd;exact rfl;exact rfl;exact⟨rfl,rfl⟩)
def J9(n:Net)(l:List Cel)(k:Nat):Bool:=(List.range k).any (ZM n l)
theorem YhY(n:NetM)(l:List Cel)(hck:Yl n.net=0)(hlen:l.length<=1000)(hin:n.In B w0 H)(hr:Rd B w0 H A (l.flatMap celF))(hw:St B w0 H w):
 CX B w0 422 [n.val,.slice A l.length cap] w λv K=>∃i:Int,v=.tuple #[.int .i64 i,.bool (J9 n.net l l.length)]/\K=H:=by
 refine Ya Tryz.func422 Tryz.ntmps422 rfl rfl hw ?_
 have p1:=λ{H':List HP}{w:World}(hin:n.In B w0 H') (hw:St B w0 H' w)=>Y4 n hin hw
 rw[hck]at p1
 (apply Xc;apply YW;apply YR;exact rfl;exact rfl;intro g)
 repeat'(first|((apply Yb XM);exact za;exact rfl;exactλ_ hw=>(p1 hin.cons hw))|apply(zs1 ?_)|apply(zs2 ?_)|(apply zg3;refine zs8 ?_)|(apply zg4;refine zs9 ?_)|(apply zg8;(refine zs16 ?_ ?_<;>intro _<;>try exact zo))|apply(zs65 ?_)|apply(zs68 ?_)|apply(zs69 ?_)|apply(zs70 ?_)|(apply zg27;refine zs72 ?_)|apply(zs73 ?_)|apply(zs76 ?_)|fail)
 refine Ye (λ(k:Nat)=>[(12,.int .i64 k),(11,.int .i64 l.length),(1,.slice A l.length cap),(2,.pointer (some ⟨g,0,none⟩))]) (λ_=>netN g n::H) (λk=>k<=l.length/\J9 n.net l k=false) (λk=>l.length-k) 0 ⟨Td _,rfl⟩ ?_ (λw hw=>hw) ?_
 ·exact zc1
 rintro k ⟨hk,hno⟩ K hK
 unfold netN
 by_cases hlt:k<l.length
 ·have p2:=λ{H':List HP}{w:World}(hin:n.In B w0 H') (hr:Rd B w0 H' A (l.flatMap celF)) (hw:St B w0 H' w)=>YhU n l k hck hlt hlen (cap:=cap) hin hr hw
  have hst:J9 n.net l (k+1)=(J9 n.net l k||ZM n.net l k):=by
   grind [J9]
  rw[hno,Nz]at hst
  cases hp:ZM n.net l k with
  |false=>
   rw[hp]at p2 hst
   repeat'(first|((apply Yb Ytu);exact za;exact rfl;exactλ_ hw=>(p2 hin.cons hr.cons hw))|apply(zs1 ?_)|apply(zs2 ?_)|(apply zg3;refine zs8 ?_)|(apply(zs17 ?_ ?_)<;>intro _<;>try exact zo)|(apply zg13;refine zs30 ?_)|apply(zs65 ?_)|apply(zs68 ?_)|apply(zs69 ?_)|apply(zs70 ?_)|(apply zg27;first|refine zs71 ?_|refine zs72 ?_)|apply(zs73 ?_)|apply(zs76 ?_)|apply(zs79 ?_)|fail)
   apply hK (k+1)
   ·exact Ymy
   ·omega
   ·exact zc1
   ·unfold netN
    exact zc0
  |true=>
   rw[hp]at p2
   have hfa:J9 n.net l l.length=true:=by
    unfold J9
    rw[Rj]
    exact⟨k,TQ.2 hlt,hp⟩
   rw[hfa]
   repeat'(first|((apply Yb Ytu);exact za;exact rfl;exactλ_ hw=>(p2 hin.cons hr.cons hw))|apply(zs1 ?_)|apply(zs2 ?_)|(apply zg3;refine zs8 ?_)|(apply(zs17 ?_ ?_)<;>intro _<;>try exact zo)|apply(zs65 ?_)|apply(zs68 ?_)|apply(zs69 ?_)|apply(zs70 ?_)|(apply zg27;refine zs71 ?_)|apply(zs73 ?_)|apply(zs74 ?_)|apply(zs76 ?_)|apply(zs77 ?_)|apply(zs78 ?_)|fail)
   apply Yf H
   ·exact zc0
   exact YqN
 ·obtain rfl:k=l.length:=by omega
  rw[hno]
  repeat'(first|apply(zs2 ?_)|(apply(zs17 ?_ ?_)<;>intro _<;>try exact zo)|apply(zs65 ?_)|apply(zs68 ?_)|apply(zs69 ?_)|apply(zs70 ?_)|(apply zg27;refine zs72 ?_)|apply(zs74 ?_)|apply(zs75 ?_)|apply(zs80 ?_)|apply(zs81 ?_)|fail)
  apply Yf H
  ·exact zc0
  exact YqN
theorem Yh7{n:Net}{l:List Cel}(hck:Yl n=0):JE n l=!(J9 n l l.length):=by
 simp_all [JE,J9,List.not_any_eq_all_not]
theorem Ykj(n:NetM)(l:List Cel)(hck:Yl n.net=0)(hlen:l.length<=1000)(hin:n.In B w0 H)(hr:Rd B w0 H A (l.flatMap celF))(hw:St B w0 H w):
 CX B w0 408 [n.val,.slice A l.length cap] w λv K=>v=.bool (JE n.net l)/\K=H:=by
 refine Ya Tryz.func408 Tryz.ntmps408 rfl rfl hw ?_
 have p1:=λ{H':List HP}{w:World}(hin:n.In B w0 H') (hw:St B w0 H' w)=>Y4 n hin hw
 rw[hck]at p1
 rw[Yh7 hck]
 repeat'(first|apply(zs1 ?_)|apply(zs2 ?_)|(apply zg3;refine zs8 ?_)|(apply zg23;(refine zs52 ?_;intro _))|apply(zs65 ?_)|apply(zs68 ?_)|apply(zs69 ?_)|apply(zs70 ?_)|fail)
 apply Yg _ Yxi
 exact za
 exact rfl
 exactλ_ hw=>(YhY n l hck hlen hin.cons hr.cons (hw))
 rintro _ _ ⟨i,rfl,rfl⟩
 cases J9 n.net l l.length<;>(
  repeat'(first|((apply Yb XM);exact za;exact rfl;exactλ_ hw=>(p1 hin.cons hw))|apply(zs1 ?_)|apply(zs2 ?_)|(apply zg1;refine zs4 ?_)|(apply zg3;refine zs8 ?_)|(apply zg6;refine zs11 ?_)|apply(zs13 ?_)|(apply zg7;(refine zs15 ?_ ?_<;>intro _<;>try exact zo))|(apply zg20;first|refine zs47 ?_|refine zs48 ?_)|apply(zs65 ?_)|apply(zs68 ?_)|apply(zs69 ?_)|apply(zs70 ?_)|apply(zs74 ?_)|fail)
  apply Yf H
  ·exact zk
  apply Yd;exact rfl;exact rfl;exact⟨rfl,rfl⟩)
open Go.ChangeShapes Go.WideShapes Go.ChangeAt Go.RowKit Go.Eng Go.Nw Go.Rt
section
variable {H:Type}{enc:TypeId×Value->H}{W:World}{spare:Nat->Bool}{held:Bool}
structure RtG(W:World)(r:RowM):Prop where
 old:Old W r.A (r.xs.flatMap numF)
 len:r.xs.length<=9223372036854775807
 cap:r.xs.length<=r.cap
 good:∀z∈r.xs,I64 z
theorem Yqc:Opn enc Tryz.prog W spare held 127 rowF (RtG W):=
 Uy (Ja (q:=1) Tryz.underlying127 (by kernel_rfl) (by decide) op_i) Ymc (λ_=>rfl) (λ_ h=>⟨h.old,TX h.len maxL,h.cap,h.good⟩)
theorem Ygy:Opn enc Tryz.prog W spare held 24 rowF (RtG W):=
 Uy Ygx Ymc (λ_=>rfl) (λ_ h=>⟨h.old,TX h.len maxL,h.cap,h.good⟩)
theorem Yfy:Opn enc Tryz.prog W spare held 91 (λs:SlM RowM=>[s.val]) (SlG W rowF (RtG W)):=Ja (q:=1) Tryz.underlying91 (by kernel_rfl) (by decide) Yqc
theorem Yqb:Opn enc Tryz.prog W spare held 22 (λs:SlM RowM=>[s.val]) (SlG W rowF (RtG W)):=Ja (q:=1) Tryz.underlying22 (by kernel_rfl) (by decide) Ygy
structure RqG(W:World)(x:RqM):Prop where
 f:FlwG x.f
 old:Old W x.A (x.rows.flatMap rowF)
 len:x.rows.length<=9223372036854775807
 cap:x.rows.length<=x.cap
 good:∀r∈x.rows,RtG W r
theorem YkF:Opn enc Tryz.prog W spare held 93 rqF (RqG W):=
 Uy (Jy (ts:=[45,91]) (by kernel_rfl) (YE Yr0 (YE Yfy Um)))
  (λx=>⟨x.1,x.2.1.A,x.2.1.cap,x.2.1.xs⟩) (λx=>by simp[rqF,flwF,SlM.val]) (λx h=>by
   obtain⟨h1,h2,_⟩:=h
   exact⟨h1,h2.old,TX h2.len maxL,h2.cap,h2.good⟩)
theorem YiD:Opn enc Tryz.prog W spare held 30 (λs:SlM RqM=>[s.val]) (SlG W rqF (RqG W)):=Ja (q:=7) Tryz.underlying30 (by kernel_rfl) (by decide) YkF
structure ClG(W:World)(c:ClM):Prop where
 f:I64 c.flow
 rt:Old W c.rA (c.rs.flatMap rowF)
 rg:∀r∈c.rs,RtG W r
 bd:RtG W ⟨c.bA,c.bcap,c.bs⟩
 ws:RtG W ⟨c.wA,c.wcap,c.ws⟩
 st:Old W c.sA (c.ss.flatMap rowF)
 sg:∀r∈c.ss,RtG W r
 rl:c.rs.length<=9223372036854775807
 sl:c.ss.length<=9223372036854775807
 rc:c.rs.length<=c.rcap
 sc:c.ss.length<=c.scap
theorem Yp9:Opn enc Tryz.prog W spare held 189 clF (ClG W):=
 Uy (Jy (ts:=[3,91,24,24,22]) (by kernel_rfl) (YE op_i (YE Yfy (YE Ygy (YE Ygy (YE Yqb Um))))))
  (λx=>⟨x.1,x.2.1.A,x.2.1.cap,x.2.1.xs,x.2.2.1.A,x.2.2.1.cap,x.2.2.1.xs,x.2.2.2.1.A,x.2.2.2.1.cap,x.2.2.2.1.xs,x.2.2.2.2.1.A,x.2.2.2.2.1.cap,x.2.2.2.2.1.xs⟩) (λx=>by simp[clF,numF,rowF,SlM.val]) (λx h=>by
   obtain⟨h1,h2,h3,h4,h5,_⟩:=h
   exact⟨h1,h2.old,h2.good,h3,h4,h5.old,h5.good,TX h2.len maxL,TX h5.len maxL,h2.cap,h5.cap⟩)
theorem YnN:Opn enc Tryz.prog W spare held 35 (λs:SlM ClM=>[s.val]) (SlG W clF (ClG W)):=Ja (q:=5) Tryz.underlying35 (by kernel_rfl) (by decide) Yp9
end
end Go.Proofs.YtjommdkgfbhbdaaGreatDoor
namespace Go.Eng
open Go.RowKit
end Go.Eng
namespace Go.Proofs.YtjommdkgfbhbdaaGreatDoor
open Go.RowKit Go.Eng Go.Nw Go.Rt
def Yp3(s t:Int)(l:List Lk):List Lk:=l.filter λa=>!decide (a.1=s/\a.2.1=t)
end Go.Proofs.YtjommdkgfbhbdaaGreatDoor
namespace Go.Eng
open Go.RowKit
end Go.Eng
namespace Go.Proofs.YtjommdkgfbhbdaaGreatDoor
open Go.RowKit Go.Eng Go.Nw Go.Rt
def Ymh(pre:List Int)(v:Int):Bool:=decide (v∈pre.drop 1)
def YtB(pre:List Int)(to v:Int):Bool:=!decide (v=to)&&Ymh pre v
def Yh8(pre:List Int):Int:=pre.getD 0 0
def YpQ(pre:List Int):Int:=pre.getD (pre.length-1) 0
def Ytx(l:List Lk)(pre:List Int)(to:Int):List Lk:=(if pre.length=2 then Yp3 (Yh8 pre) to l else l).filter λa=>!(YtB pre to a.1||YtB pre to a.2.1)
def badB(pre:List Int)(a:Lk):Bool:=Ymh pre a.2.1||(Ymh pre a.1&&decide (a.1≠YpQ pre))||decide (a.2.1=Yh8 pre)
def Yxn(l:List Lk)(pre:List Int):List Lk:=l.filter λa=>!badB pre a
noncomputable def Yxt(fuel nodes:Nat)(l:List Lk)(pre:List Int)(to:Int):Option (Int×Bool):=
 if YpQ pre=to then some (Yk (Uj nodes (Ytx l pre to) to) (Yh8 pre),decide (Yk (Uj nodes (Ytx l pre to) to) (Yh8 pre)<Xr))
 else match QM fuel nodes (Yxn l pre) (YpQ pre) (Yh8 pre) to (Ymh pre)with
  |none=>none
  |some r=>some (r.1,r.2.1)
theorem ArcsOk.sub{nodes:Nat}{l m:List Lk}(h:ArcsOk nodes l)(hm:∀a∈m,a∈l):ArcsOk nodes m:=λa ha=>h a (hm a ha)
end Go.Proofs.YtjommdkgfbhbdaaGreatDoor
namespace Go.Eng
open Go.RowKit
theorem YbX{P:Program}{n:Shp}{B:Nat}{w0:World}{ops:Array Oper}{Q:Exit->Act->World->Prop}{env:Env}{H:List HP}{l:List Oper}{e size k cap:Nat}{A:Option Addr}{xs:List Value}(hm:sl e size A k cap xs∈H)(h:k<=cap->VL P none n B w0 ops Q l env H):VL P none n B w0 ops Q l env H:=by
 refine⟨λa ha w hw=>?_⟩
 have hown:=hw.sl hm
 have hkc:k<=cap:=zc89
 exact(h hkc).run a ha w hw
end Go.Eng
namespace Go.Proofs.YtjommdkgfbhbdaaGreatDoor
open Go.RowKit Go.Eng Go.Nw Go.Rt
section
variable (fuel nodes:Nat) (L:List Lk) (to total:Int)
noncomputable def Yqf(r:List Int)(spent at_:Int)(st:Int×Int)(a:Lk):Option (Int×Int):=
 if a.1≠at_\/a.2.1∈r\/(0<=st.1/\st.1<a.2.1)then some st else
  match Yxt fuel nodes L (r++[a.2.1]) to with
  |none=>none
  |some s=>if s.2=true/\spent+a.2.2+s.1=total then some (a.2.1,a.2.2)else some st
noncomputable def YiF(r:List Int)(spent at_:Int):List Lk->Int×Int->Option (Int×Int)
 |[],st=>some st
 |a::m,st=>match Yqf fuel nodes L to total r spent at_ st a with
  |none=>none
  |some st2=>YiF r spent at_ m st2
noncomputable def YiE:Nat->List Int->Int->Int->Option (List Int)
 |0,_,_,_=>none
 |k+1,r,spent,at_=>if at_=to then some r else
  match YiF fuel nodes L to total r spent at_ L (-1,0)with
  |none=>none
  |some st=>if st.1<0 then none else YiE k (r++[st.1]) (spent+st.2) st.1
end
def midP(r:List Int):List Int:=(r.drop 1).take (r.length-2)
def Yty(l:List Lk)(s to:Int)(r:List Int):List Lk:=(if r.length=2 then Yp3 s to l else l).filter λa=>!(decide (a.1∈midP r)||decide (a.2.1∈midP r))
noncomputable def Yvi(nodes:Nat)(l:List Lk)(s to:Int)(r:List Int):List Int:=wayF (Yty l s to r) (Uj nodes (Yty l s to r) to) s to
noncomputable def Yqe(fuel nodes:Nat)(L:List Lk)(s to:Int):Option (Option (List Int×List Int)):=
 match QM fuel nodes L s s to (λ_=>false)with
 |none=>none
 |some r=>if r.2.1=false then some none else
  match YiE fuel nodes L to r.1 400 [s] 0 s with
  |none=>none
  |some p=>some (some (p,Yvi nodes L s to p))
noncomputable def Yop(fuel:Nat)(n:Net)(s t:Int):Option (Option (List Int×List Int)×Int):=
 if Zp n s t≠0 then some (none,Zp n s t)else
  match Yqe fuel n.nodes.toNat (JO n) s t with
  |none=>none
  |some none=>some (none,17)
  |some (some pq)=>if 9<pq.1.length\/9<pq.2.length then some (none,21)else some (some pq,0)
variable {B:Nat}{w0 w:World}{H:List HP}
theorem YkH(n:NetM)(s to:Int)(nodes:Nat)(hck:Yl n.net=0)(hnn:n.nodes=nodes)(hs:0<=s/\s<nodes)(ht:0<=to/\to<nodes)(hbo:(QM 100000 nodes (JO n.net) s s to (λ_=>false)).map (λr=>r.2.1)=some false)
 (hin:n.In B w0 H) (hw:St B w0 H w):
 CX B w0 288 [n.val,.int .i64 s,.int .i64 to] w λv K=>v=.slice none 0 0/\K=H:=by
 have hok:=YO hck
 have hn0:=hok.n0
 have hn1:=hok.n1
 have hnn2:n.net.nodes=n.nodes:=rfl
 have hal:(JO n.net).length<=128:=TX (Wb _ _) hok.k0
 have hLo:=Ylw hok (nodes:=nodes) hnn
 obtain⟨L,hL⟩:∃L,JO n.net=L:=⟨_,rfl⟩
 have hspecA:=λ{H:List HP}{w:World}(hin:n.In B w0 H) (hw:St B w0 H w)=>Ye2 n hin hck hw
 rw[hL]at hal hLo hbo hspecA
 refine Ya Tryz.func288 Tryz.ntmps288 rfl rfl hw ?_
 (apply Xc;apply YW;apply YR;exact rfl;exact rfl;intro g)
 refine zX7 ?_
 apply Yg _ YsW
 exact za
 exact rfl
 exactλ_ hw=>(hspecA hin.cons (hw))
 rintro _ _ ⟨A,cap,rfl,rfl⟩
 obtain⟨⟨total,ok,es0⟩,hb,hf⟩:=Nk.1 hbo
 obtain rfl:ok=false:=hf
 have hboth:=λ{H:List HP}{w:World}(hr:Rd B w0 H A (L.flatMap lkF)) (hw:St B w0 H w)=>Ym4 nodes L s s to none (λ_=>false) 100000 (total,false,es0) (capL:=cap) (by omega) (by omega) hLo hs hs ht (TK _) hb (λ_=>rfl) hr hw
 rw[<-hnn]at hboth
 refine zX7 ?_
 apply Yg _ YwU
 exact za
 exact rfl
 exactλ_ hw=>(hboth (.sl (by(focus exact zc2))) (hw))
 rintro _ _ ⟨g0,A0,cap0,rfl,⟨_,_,b3,b4⟩,rfl⟩
 dsimp only at b3 b4⊢
 apply Zh (YcB A cap L::netB g n::H)
 ·unfold gpcs
  exactλw hw=>hw.tail.tail
 refine zX3 ?_
 apply Yf H
 ·exactλw hw=>hw.tail.tail
 exact zc24
theorem YjC(n:NetM)(s to:Int)(he:Zp n.net s to=0)(hbo:(QM 100000 n.net.nodes.toNat (JO n.net) s s to (λ_=>false)).map (λr=>r.2.1)=some false)(hin:n.In B w0 H)(hw:St B w0 H w):
 CX B w0 213 [n.val,.int .i64 s,.int .i64 to] w λv K=>v=.tuple #[.slice none 0 0,.int .i64 17]/\K=H:=by
 refine Ya Tryz.func213 Tryz.ntmps213 rfl rfl hw ?_
 (apply Xc;apply YW;apply YR;exact rfl;exact rfl;intro g)
 obtain⟨hck,⟨s0,s1⟩,⟨t0,t1⟩,-⟩:=YlS he
 have hen:=λ{H:List HP}{w:World}(hin:n.In B w0 H) (hw:St B w0 H w)=>US n s to hin hw
 rw[he]at hen
 have hok:=YO hck
 have hn0:=hok.n0
 have hn1:=hok.n1
 have hnn:((n.net.nodes.toNat:Nat):Int)=n.net.nodes:=by omega
 have hnn2:n.nodes=((n.net.nodes.toNat:Nat):Int):=by rw[hnn];rfl
 have hp:=λ{H:List HP}{w:World}(hin:n.In B w0 H) (hw:St B w0 H w)=>YkH n s to n.net.nodes.toNat hck hnn2 ⟨s0,by omega⟩ ⟨t0,by omega⟩ hbo hin hw
 refine YtG ?_<;>intros
 apply Yb Ywx
 exact za
 exact rfl
 exactλ_ hw=>(hp hin.cons hw)
 refine zX6 ?_
 apply Yi
 apply YH;(iterate 3 exact rfl)
 simp_all
def YvK(n:Net)(u v:Int):Int:=Q9 n u v+1
def rt(s t:Int)(ms:List Int):List Int:=s::(ms++[t])
structure IsRt(n:Net)(s t:Int)(ms:List Int):Prop where
 path:YvF (YX n) n.nodes.toNat t s ms
 nd:(rt s t ms).Nodup
structure Two(n:Net)(s t:Int)(mp mq:List Int):Prop where
 p:IsRt n s t mp
 q:IsRt n s t mq
 ne:mp≠mq
 dis:∀x∈mp,x∉mq
theorem Two.symm{n:Net}{s t:Int}{mp mq:List Int}(h:Two n s t mp mq):Two n s t mq mp:=⟨h.q,h.p,NF h.ne,λx hx hy=>h.dis x hy hx⟩
def key(n:Net)(s t:Int)(ms:List Int):Int:=keyG (YvK n) (rt s t ms)
theorem getD_some{l:List (List Int)}{i:Nat}{x:List Int}(h:l[i]? =some x):l.getD i []=x:=by
 rw[Tz,h];rfl
end Go.Proofs.YtjommdkgfbhbdaaGreatDoor
namespace Go.Eng
open Go.RowKit
section
variable {P:Program}{m:Mode}{n:Shp}{B d:Nat}{w0:World}{ops:Array Oper}{Q:Exit->Act->World->Prop}{rest:List Oper}{env:Env}{H:List HP}{ty:TypeId}{pos:String}{after:Array Edge}{x y:Operand}{k:IntKind}{a b:Int}{xt yt:TypeId}
theorem YoN{a b:Int}{xt yt:TypeId}(hx:evo env x=some (.int .u8 a))(hy:evo env y=some (.int .u8 b))(hn:Nat.ble (d+1) n.k=true)(hb:0<=a-b/\a-b<=255)(h:VL P m n B w0 ops Q rest ((d,.int .u8 (a-b))::env) H):VL P m n B w0 ops Q (⟨some d,.binOp .sub xt x y yt,ty,pos,after,none⟩::rest) env H:=
 by grind [Ycs,Go.IntWalk.u8_in]
end
end Go.Eng
namespace Go.Proofs.YtjommdkgfbhbdaaGreatDoor
open Go.RowKit Go.Eng
def hexS(s:ByteArray):Bool:=s.data.toList.all λc=>decide ((48<=c/\c<=57)\/(97<=c/\c<=102))
theorem YpE{s:ByteArray}(h:hexS s=true){i:Nat}{c:UInt8}(hc:s[i]? =some c):(48<=(c.toNat:Int)/\(c.toNat:Int)<=57)\/(97<=(c.toNat:Int)/\(c.toNat:Int)<=102):=by
 have hm:c∈s.data.toList:=by
  have h1:s.data[i]? =some c:=hc
  grind
 have h2:=TT (TL.1 h c hm)
 grind [UInt8.le_iff_toNat_le]
end Go.Proofs.YtjommdkgfbhbdaaGreatDoor
namespace Go.Eng
open Go.RowKit
section
variable {P:Program}{m:Mode}{n:Shp}{B d:Nat}{w0:World}{ops:Array Oper}{Q:Exit->Act->World->Prop}{rest:List Oper}{env:Env}{H:List HP}{ty:TypeId}{pos:String}{after:Array Edge}
variable {t g i:Nat}{k:IntKind}{l:List Int}{tt:TypeId}{x y:Operand}
theorem YT(T:Tab P){fr:Nat×Nat}(hx:evo env x=some (.pointer (some ⟨g,i,none⟩)))(hm:blk g (.cells (numA k l) tt fr)∈H)(hi:i<l.length)
 (ht:look T.sc t=some ()) (hn:Nat.ble (d+1) n.k=true) (h:VL P m n B w0 ops Q rest ((d,.int k (l.getD i 0))::env) H):VL P m n B w0 ops Q (⟨some d,.load t x,ty,pos,after,none⟩::rest) env H:=
 by grind [JQ,YiA]
theorem O0(T:Tab P){j e:Nat}{ki:IntKind}{i:Int}(hx:evo env x=some (.agg (numA k l)))(hy:evo env y=some (.int ki i))(ht:look T.ar t=some (j,e,1))(hs:OQ P e=true)(hn:Nat.ble (d+1) n.k=true)(hi:0<=i/\i<j)(hj:l.length=j)
 (h:VL P m n B w0 ops Q rest ((d,.int k (l.getD i.toNat 0))::env) H):VL P m n B w0 ops Q (⟨some d,.index t x y,ty,pos,after,none⟩::rest) env H:=
 by grind [Ybb,YiA]
theorem Y5(T:Tab P){z:Int}{K:List HP}(hx:evo env x=some (.pointer (some ⟨g,i,none⟩)))(hy:evo env y=some (.int k z))
 (hu:Upd (blk g (.cells (numA k l) tt (0,0))) (blk g (.cells (numA k (l.set i z)) tt (0,0))) H K) (hi:i<l.length)
 (ht:look T.sc t=some ()) (h:VL P none n B w0 ops Q rest env K):VL P none n B w0 ops Q (⟨none,.store t x y,ty,pos,after,none⟩::rest) env H:=by
 refine Yhm T (cs:=numA k l) (tt:=tt) hx hy rfl ?_ (by grind [numA]) ht h
 have e:(numA k l).setIfInBounds i (.int k z)=numA k (l.set i z):=by
  grind [numA]
 simp_all
end
end Go.Eng
namespace Go.Proofs.YtjommdkgfbhbdaaGreatDoor
open Go.RowKit Go.Eng
def rotE(x:Int)(s:Nat):Int:=bits .or .u32 (IntKind.u32.wrap (x*2^s)) (x/2^(32-s))
def mixE(a b c d x y:Int):List Int:=
 let a1:=IntKind.u32.wrap (a+IntKind.u32.wrap (b+x))
 let d1:=rotE (bits .xor .u32 d a1) 16
 let c1:=IntKind.u32.wrap (c+d1)
 let b1:=rotE (bits .xor .u32 b c1) 20
 let a2:=IntKind.u32.wrap (a1+IntKind.u32.wrap (b1+y))
 let d2:=rotE (bits .xor .u32 d1 a2) 24
 let c2:=IntKind.u32.wrap (c1+d2)
 [a2,rotE (bits .xor .u32 b1 c2) 25,c2,d2]
def initE:List Int:=[0x6a09e667,0xbb67ae85,0x3c6ef372,0xa54ff53a,0x510e527f,0x9b05688c,0x1f83d9ab,0x5be0cd19]
def laneE:List (List Int):=[[0,4,8,12],[1,5,9,13],[2,6,10,14],[3,7,11,15],[0,5,10,15],[1,6,11,12],[2,7,8,13],[3,4,9,14]]
def ordsE:List (List Int):=[[0,1,2,3,4,5,6,7,8,9,10,11,12,13,14,15],[14,10,4,8,9,15,13,6,1,12,0,2,11,7,5,3],[11,8,12,0,5,2,15,13,10,14,3,6,7,1,9,4],[7,9,3,1,13,12,11,14,2,6,5,10,4,0,15,8],[9,0,5,7,2,4,10,15,14,1,11,12,6,8,3,13],[2,12,6,10,0,11,8,3,4,13,7,5,15,14,1,9],[12,5,1,15,14,13,4,10,0,7,6,3,9,2,8,11],[13,11,7,14,12,1,3,9,5,0,15,4,8,6,2,10],[6,15,14,9,11,3,0,8,12,2,13,7,1,4,10,5],[10,2,8,4,7,6,1,5,15,11,9,14,3,12,13,0]]
def ordE(r k:Nat):Int:=(ordsE.getD r []).getD k 0
variable {B r:Nat}{w0 w:World}{H:List HP}
theorem ZV(x k:Int)(s:Nat)(hk:(k= -16/\s=16)\/(k= -12/\s=20)\/(k= -8/\s=24)\/(k= -7/\s=25))(hw:St B w0 H w):
 CX B w0 383 [.int .u32 x,.int .i64 k] w λv K=>v=.int .u32 (rotE x s)/\K=H:=by
 refine Ya Tryz.func383 Tryz.ntmps383 rfl rfl hw ?_
 rcases hk with⟨rfl,rfl⟩|⟨rfl,rfl⟩|⟨rfl,rfl⟩|⟨rfl,rfl⟩
 all_goals(
  repeat'(first|(apply Ycr;(iterate 3 exact rfl);decide)|(apply Ycs;(iterate 3 exact rfl))|(apply Yaz;(iterate 3 exact rfl);decide)|(apply YoH;(iterate 3 exact rfl))|refine zgd ?_|fail)
  apply Yd;exact rfl;exact rfl;exact⟨rfl,rfl⟩)
theorem YtA(k:IntKind)(a b c d:Int):numA k [a,b,c,d]=#[.int k a,.int k b,.int k c,.int k d]:=rfl
theorem YnJ(a b c d x y:Int)(hw:St B w0 H w):
 CX B w0 323 [.agg (numA .u32 [a,b,c,d]),.int .u32 x,.int .u32 y] w λv K=>v=.agg (numA .u32 (mixE a b c d x y))/\K=H:=by
 refine Ya Tryz.func323 Tryz.ntmps323 rfl rfl hw ?_
 rw[YtA]
 repeat'(first|(apply YL T;(iterate 4 exact rfl);omega)|(apply JQ T;exact rfl;exact zm;(iterate 3 exact rfl))|(apply ZN;(iterate 3 exact rfl))|(apply JR;(iterate 3 exact rfl))|refine zgd ?_|(refine zgh ?_;intro _)|fail)
 apply Yb Ybk
 exact za
 exact rfl
 exactλ_ hw=>(ZV _ _ 16 (by decide) hw)
 refine YqL ?_
 apply Yb Ybk
 exact za
 exact rfl
 exactλ_ hw=>(ZV _ _ 20 (by decide) hw)
 refine YqL ?_
 apply Yb Ybk
 exact za
 exact rfl
 exactλ_ hw=>(ZV _ _ 24 (by decide) hw)
 refine YqL ?_
 apply Yb Ybk
 exact za
 exact rfl
 exactλ_ hw=>(ZV _ _ 25 (by decide) hw)
 refine zX3 ?_
 apply ZA T (H2:=H);exact rfl;exact rfl;(focus exact zc2);exact rfl;exact rfl
 ·exact zc0
 exact Qg
theorem O4(hw:St B w0 H w):
 CX B w0 254 [] w λv K=>v=.agg (numA .u32 initE)/\K=H:=by
 refine Ya Tryz.func254 Tryz.ntmps254 rfl rfl hw ?_
 repeat'(first|(refine zs51 ?_)|((refine zs54 ?_;intro _))|(refine zs55 ?_)|refine zga ?_|fail)
 apply ZA T (H2:=H);exact rfl;exact rfl;(focus exact zc2);exact rfl;exact rfl
 ·exact zc45
 exact Qg
theorem Ykr(i:Nat)(hi:i<8)(hw:St B w0 H w):
 CX B w0 322 [.int .i64 i] w λv K=>v=.agg (numA .i64 (laneE.getD i []))/\K=H:=by
 refine Ya Tryz.func322 Tryz.ntmps322 rfl rfl hw ?_
 obtain rfl|rfl|rfl|rfl|rfl|rfl|rfl|rfl:i=0\/i=1\/i=2\/i=3\/i=4\/i=5\/i=6\/i=7:=by omega
 all_goals(
  repeat'(first|(apply Yg9 T;(iterate 5 exact rfl);omega)|refine zgd ?_|(refine zgh ?_;intro _)|fail)
  apply ZA T (H2:=H);exact rfl;exact rfl;exact zm;exact rfl;exact rfl
  ·exact zk
  exact⟨rfl,rfl⟩)
def digE(c:Int):Int:=if 97<=c then c-97+10 else c-48
def RowS(r:Nat)(s:ByteArray):Prop:=s.size=16/\∀k c,s[k]? =some c->((48<=(c.toNat:Int)/\(c.toNat:Int)<=57)\/(97<=(c.toNat:Int)/\(c.toNat:Int)<=102))/\digE c.toNat=ordE r k
variable {s:ByteArray}
theorem Yvl(h:s.size=16/\hexS s=true/\(s.data.toList.map λc=>digE c.toNat)=ordsE.getD r []):RowS r s:=by
 refine⟨h.1,λk c hc=>⟨YpE h.2.1 hc,?_⟩⟩
 have h1:s.data[k]? =some c:=hc
 grind [ordE]
theorem YdZ(r:Nat)(hr:r<10)(hw:St B w0 H w):
 CX B w0 321 [.int .i64 r] w λv K=>(∃s:ByteArray,v=.string s/\RowS r s)/\K=H:=by
 refine Ya Tryz.func321 Tryz.ntmps321 rfl rfl hw ?_
 obtain rfl|rfl|rfl|rfl|rfl|rfl|rfl|rfl|rfl|rfl:r=0\/r=1\/r=2\/r=3\/r=4\/r=5\/r=6\/r=7\/r=8\/r=9:=by omega
 all_goals(
  repeat'(first|(apply Ybb T;(iterate 5 exact rfl);omega;exact rfl)|refine zgd ?_|fail)
  apply Yd;exact rfl;exact rfl
  exact⟨⟨_,rfl,Yvl (by decide)⟩,rfl⟩)
theorem YhG(hs:RowS r s){k:Nat}{c:UInt8}(hc:s[k]? =some c)(hw:St B w0 H w):
 CX B w0 324 [.int .u8 c.toNat] w λv K=>v=.int .i64 (ordE r k)/\K=H:=by
 obtain⟨hb,he⟩:=hs.2 k c hc
 rw[<-he]
 unfold digE
 refine Ya Tryz.func324 Tryz.ntmps324 rfl rfl hw ?_
 repeat'(first|(apply YoN;(iterate 3 exact rfl);omega)|(apply Ycn T;(iterate 4 exact rfl);omega)|refine zgc ?_|(refine zgf ?_ ?_<;>intro _<;>try exact zo)|fail)
 ·exact zc10
 ·apply Yd;exact rfl;exact rfl;grind
def bytF(z:Int):List Value:=[.int .u8 z]
abbrev numB(g:Nat)(k:IntKind)(l:List Int)(t:TypeId):HP:=blk g (.cells (numA k l) t (0,0))
abbrev nmB(g:Nat)(l:List Int):HP:=numB g .u32 l 280
abbrev chB(g:Nat)(l:List Int):HP:=numB g .u32 l 208
def Yjn(m:List Int)(i:Nat)(c:Int):List Int:=m.set (i/4) (bits .or .u32 (m.getD (i/4) 0) (IntKind.u32.wrap (IntKind.u32.wrap c*2^(8*(i%4)))))
def Zb(bs:List Int):Nat->List Int
 |0=>List.replicate 16 0
 |i+1=>Yjn (Zb bs i) i (bs.getD i 0)
theorem Jo(bs:List Int):∀i,(Zb bs i).length=16
 |0=>TS
 |i+1=>TE.trans (Jo bs i)
theorem YbK(bs:List Int)(hb:bs.length<=64){A:Option Addr}{cap B:Nat}{w0:World}{H:List HP}{w:World}(hr:Rd B w0 H A (bs.flatMap bytF))(hw:St B w0 H w):
 CX B w0 256 [.slice A bs.length cap] w λv K=>v=.agg (numA .u32 (Zb bs bs.length))/\K=H:=by
 refine Ya Tryz.func256 Tryz.ntmps256 rfl rfl hw ?_
 refine Y6 [many H] (λw hw=>hw.perm (.closeT H)) ?_
 have hrM:∀{H':List HP},many H∈H'->Rd B w0 H' A (bs.flatMap bytF):=λhm=>hr.mono λw hw=>hw.inM hm
 refine zX73 ?_<;>intros
 rename_i g2 g3
 refine Ye (λi:Nat=>[(8,.int .i64 (i:Nat)),(7,.int .i64 bs.length),(6,.slice A bs.length cap),(3,.pointer (some ⟨g3,0,none⟩)),(2,.pointer (some ⟨g2,0,none⟩))])
  (λi=>numB g3 .u32 (Zb bs i) 280::numB g2 .u32 (List.replicate 16 0) 280::[many H]) (λi=>i<=bs.length) (λi=>bs.length-i) 0 (Td _) ?_ ?_ ?_
 ·exact zc1
 ·intro w hw
  have h5:St B w0 (numB g3 .u32 (List.replicate 16 0) 280::numB g2 .u32 (List.replicate 16 0) 280::[many H]) w:=hw
  exact h5
 intro i hi K hK
 have hl:=Jo bs i
 by_cases hlt:i<bs.length
 rotate_left
 ·clear hK
  obtain rfl:i=bs.length:=by omega
  repeat'(first|(apply XL T;exact rfl;exact zm;exact rfl;(rw[Xp];exact hl);exact rfl)|(apply YZ T;exact rfl;exact rfl;exact zd;(rw[hl];rfl);exact rfl;exact hl)|refine zgc ?_|(refine zge ?_ ?_<;>intro _<;>try exact zo)|fail)
  apply ZA T (H2:=H);exact rfl;exact rfl;(focus exact zc2);exact rfl;(rw[Xp];exact hl)
  ·intro w hw
   have h5:St B w0 [many H] w:=by
    revert w
    exact zc0
   exact zc81
  simp_all
 have hx:bs[i]? =some (bs.getD i 0):=by simp_all
 have hstep:Zb bs (i+1)=Yjn (Zb bs i) i (bs.getD i 0):=rfl
 obtain⟨l,hle⟩:∃l,Zb bs i=l:=⟨_,rfl⟩
 obtain⟨x,hxe⟩:∃x,bs.getD i 0=x:=⟨_,rfl⟩
 rw[hle]at hl hstep⊢
 rw[hxe]at hx hstep
 have hrr:=hrM (H':=numB g3 .u32 l 280::numB g2 .u32 (List.replicate 16 0) 280::[many H]) (.tail _ (.tail _ (.head _)))
 refine zX50 ?_<;>intros
 apply YA [0,1,2,3,4,5,6,7,8,9,10,11] [12] [true,true,true]
 kernel_rfl
 kernel_rfl
 exact zy
 (simp only[Yc,nthO];rfl)
 (simp only[Yc,nthO];rfl)
 repeat'(first|(apply YL T;(iterate 4 exact rfl);omega)|(apply YT T;exact rfl;exact zm;(rw[hl];omega);exact rfl;exact rfl)|(apply Jc T;(iterate 4 exact rfl))|(apply Ycr;(iterate 3 exact rfl);(exact⟨by omega,by show _<=(32:Int);omega⟩))|(apply YoH;(iterate 3 exact rfl))|(apply Y5 T;exact rfl;exact rfl;exact zd;(rw[hl];omega);exact rfl)|refine zgd ?_|fail)
 apply hK (i+1)
 ·exact hlt
 ·omega
 ·exact zc1
 ·have e1:0+((i:Int)/4).toNat*1=i/4:=by omega
  grind [Yjn]
def V9(v o w:List Int):Nat->List Int
 |0=>v
 |q+1=>(V9 v o w q).set (o.getD q 0).toNat (w.getD q 0)
theorem OS(v o w:List Int):∀q,(V9 v o w q).length=v.length
 |0=>rfl
 |q+1=>TE.trans (OS v o w q)
def YfL(m v:List Int)(r i:Nat):List Int:=
 let o:=laneE.getD i []
 let w:=mixE (v.getD (o.getD 0 0).toNat 0) (v.getD (o.getD 1 0).toNat 0) (v.getD (o.getD 2 0).toNat 0) (v.getD (o.getD 3 0).toNat 0) (m.getD (ordE r (2*i)).toNat 0) (m.getD (ordE r (2*i+1)).toNat 0)
 V9 v o w 4
def Jm(m v:List Int)(r:Nat):Nat->List Int
 |0=>v
 |i+1=>YfL m (Jm m v r i) r i
def Ze(m v:List Int):Nat->List Int
 |0=>v
 |r+1=>Jm m (Ze m v r) r 8
def Jw(h v:List Int):Nat->List Int
 |0=>h
 |k+1=>(Jw h v k).set k (bits .xor .u32 ((Jw h v k).getD k 0) (bits .xor .u32 (v.getD k 0) (v.getD (k+8) 0)))
def Wu(h:List Int)(t:Int)(last:Bool):List Int:=
 let v:=h++initE
 let v:=v.set 12 (bits .xor .u32 (v.getD 12 0) (IntKind.u32.wrap t))
 let v:=v.set 13 (bits .xor .u32 (v.getD 13 0) (IntKind.u32.wrap (t/2^32)))
 if last then v.set 14 (bits .xor .u32 (if IntKind.u32.signed then -1 else IntKind.u32.max) (v.getD 14 0))else v
def Jk(h m:List Int)(t:Int)(last:Bool):List Int:=Jw h (Ze m (Wu h t last) 10) 8
theorem Yn8(m v:List Int)(r i:Nat):(YfL m v r i).length=v.length:=OS _ _ _ _
theorem Ww(m v:List Int)(r:Nat):∀i,(Jm m v r i).length=v.length
 |0=>rfl
 |i+1=>(Yn8 _ _ _ _).trans (Ww m v r i)
theorem Vn(m v:List Int):∀r,(Ze m v r).length=v.length
 |0=>rfl
 |r+1=>(Ww _ _ _ _).trans (Vn m v r)
theorem OI(h v:List Int):∀k,(Jw h v k).length=h.length
 |0=>rfl
 |k+1=>TE.trans (OI h v k)
variable {h:List Int}
theorem Yd6(hh:h.length=8)(t:Int)(last:Bool):(Wu h t last).length=16:=by
 have h1:(h++initE).length=16:=by rw[Tt,hh];rfl
 unfold Wu
 grind
theorem VY(m:List Int)(hh:h.length=8)(t:Int)(last:Bool):(Jk h m t last).length=8:=(OI _ _ _).trans hh
end Go.Proofs.YtjommdkgfbhbdaaGreatDoor
namespace Go.Eng
open Go.RowKit
section
variable {P:Program}{m:Mode}{n:Shp}{B d:Nat}{w0:World}{ops:Array Oper}{Q:Exit->Act->World->Prop}{rest:List Oper}{env:Env}{H:List HP}{ty:TypeId}{pos:String}{after:Array Edge}
theorem Ycl{x:Operand}{k:IntKind}{a:Int}{xt:TypeId}(hx:evo env x=some (.int k a))(hn:Nat.ble (d+1) n.k=true)(h:VL P m n B w0 ops Q rest ((d,.int k (bits .xor k (if k.signed then -1 else k.max) a))::env) H):
 VL P m n B w0 ops Q (⟨some d,.unOp .xor xt x,ty,pos,after,none⟩::rest) env H:=by
 refine Yt (v:=.int k (bits .xor k (if k.signed then -1 else k.max) a)) rfl rfl hn rfl (λf w ha _=>?_) h
 simp[execOp,ha.eval hx,Op.unary]
 rfl
end
end Go.Eng
namespace Go.Proofs.YtjommdkgfbhbdaaGreatDoor
open Go.RowKit Go.Eng
def Yxm(r k:Nat)(v:Value):Prop:=v=.int .i64 (ordE r k)
def Ytw(a b c d x y:Int)(v:Value):Prop:=v=.agg (numA .u32 (mixE a b c d x y))
variable {h:List Int}
theorem cp1(hh:h.length=8):(List.replicate 16 (0:Int)).take 0++h.take 8++(List.replicate 16 (0:Int)).drop 8=h++List.replicate 8 0:=by
 grind
theorem cp2(hh:h.length=8):(h++List.replicate 8 (0:Int)).take 8++initE.take 8++(h++List.replicate 8 (0:Int)).drop 16=h++initE:=by
 rw[<-hh,List.take_left,List.drop_of_length_le (by simp_all),hh,Rr];rfl
theorem Yl2{j:Nat}(hj:j<8):∃o0 o1 o2 o3:Int,laneE.getD j []=[o0,o1,o2,o3]/\(0<=o0/\o0<16)/\(0<=o1/\o1<16)/\(0<=o2/\o2<16)/\(0<=o3/\o3<16):=by
 obtain rfl|rfl|rfl|rfl|rfl|rfl|rfl|rfl:j=0\/j=1\/j=2\/j=3\/j=4\/j=5\/j=6\/j=7:=by omega
 all_goals exact⟨_,_,_,_,rfl,by decide⟩
theorem YgA{r k:Nat}(hr:r<10)(hk:k<16):0<=ordE r k/\ordE r k<16:=by
 have h:∀r<10,∀k<16,0<=ordE r k/\ordE r k<16:=by decide
 simp_all
theorem WZ(h m:List Int)(hh:h.length=8)(hm:m.length=16)(t:Int)(last:Bool){B:Nat}{w0:World}{H:List HP}{w:World}(hw:St B w0 H w):
 CX B w0 255 [.agg (numA .u32 h),.agg (numA .u32 m),.int .u64 t,.bool last] w λv K=>v=.agg (numA .u32 (Jk h m t last))/\K=H:=by
 refine Ya Tryz.func255 Tryz.ntmps255 rfl rfl hw ?_
 refine Y6 [many H] (λw hw=>hw.perm (.closeT H)) ?_
 have hiv:initE.length=8:=rfl
 refine zX14 ?_<;>intros
 rename_i g4 g5 g8 g9
 apply Yb Ys0
 exact za
 exact rfl
 exactλ_ hw=>(O4 hw)
 repeat'(first|(apply YZ T;exact rfl;exact rfl;exact zd;(rw[hiv];rfl);exact rfl;exact hiv)|refine zga ?_|(refine zgh ?_;intro _)|fail)
 rename_i g10
 apply Y6 (chB g10 initE::nmB g9 (List.replicate 16 0)::chB g8 (List.replicate 8 0)::nmB g5 m::chB g4 h::[many H])
 ·exact YbM
 apply YA [0,1] [2] [true,true,true,true,true,true]
 kernel_rfl
 kernel_rfl
 exact zy
 (simp only[Yc,nthO];rfl)
 (simp only[Yc,nthO];rfl)
 repeat'(first|(apply Yf2 T;(iterate 4 exact rfl);omega)|(apply Vt T;(iterate 3 exact rfl))|(apply QB T (ys:=h);exact rfl;exact rfl;exact Rd.blk (cs:=numA .u32 h) (t:=208) (fr:=(0,0)) zm;exact cp1 hh;exact zd;exact rfl;exact rfl;(rw[hh];decide);intro hv1)|refine zgd ?_|fail)
 rw[TS]at hv1
 apply YA [0,1] [2] [true,true,true,true,true,true]
 kernel_rfl
 kernel_rfl
 exact zy
 (simp only[Yc,nthO];rfl)
 (simp only[Yc,nthO];rfl)
 repeat'(first|(apply YbN T;(iterate 4 exact rfl);omega)|(apply Vt T;(iterate 3 exact rfl))|(apply QB T (ys:=initE);exact rfl;exact rfl;exact Rd.blk (cs:=numA .u32 initE) (t:=208) (fr:=(0,0)) zm;exact cp2 hh;exact zd;exact rfl;exact rfl;(rw[hiv,hv1];decide);intro hv2)|refine zgd ?_|fail)
 rw[hv1]at hv2
 obtain⟨va,hva⟩:∃va,h++initE=va:=⟨_,rfl⟩
 rw[hva]at hv2⊢
 obtain⟨v0,hv0⟩:∃v0,Wu h t last=v0:=⟨_,rfl⟩
 have hl0:v0.length=16:=by grind [Yd6]
 unfold Wu at hv0
 rw[hva]at hv0
 dsimp only at hv0
 repeat'(first|(apply YL T;(iterate 4 exact rfl);omega)|(apply YT T;exact rfl;exact zm;(first|omega|(rw[TE];omega));exact rfl;exact rfl)|(apply Jc T;(iterate 4 exact rfl))|(apply Yaz;(iterate 3 exact rfl);decide)|(apply JR;(iterate 3 exact rfl))|(apply Y5 T;exact rfl;exact rfl;exact zd;(first|omega|(rw[TE];omega));exact rfl)|refine zga ?_|fail)
 refine Zs (λ_:Unit=>[(9,.pointer (some ⟨g9,0,none⟩)),(5,.pointer (some ⟨g5,0,none⟩)),(4,.pointer (some ⟨g4,0,none⟩)),(8,.pointer (some ⟨g8,0,none⟩))]) (λ_=>nmB g9 v0::nmB g5 m::chB g4 h::chB g8 (List.replicate 8 0)::[many H]) ?_ ?_
 ·intro K hK
  cases last with
  |false=>
   rw[Tj (by decide)]at hv0
   refine zX7 ?_
   apply hK ()
   ·exact zc1
   ·rw[<-hv0]
    simp only[Ri,RG,Int.reduceToNat]
    exact zc0
  |true=>
   rw[Tn rfl]at hv0
   repeat'(first|(apply YL T;(iterate 4 exact rfl);omega)|(apply YT T;exact rfl;exact zm;(rw[TE,TE];omega);exact rfl;exact rfl)|(apply Ycl;exact rfl;exact rfl)|(apply Y5 T;exact rfl;exact rfl;exact zd;(rw[TE,TE];omega);exact rfl)|refine zga ?_|fail)
   apply hK ()
   ·exact zc1
   ·rw[<-hv0]
    simp only[Ri,RG,Int.reduceToNat]
    exact zc0
 rintro⟨⟩
 have hco:Jk h m t last=Jw h (Ze m v0 10) 8:=by
  unfold Jk Wu
  rw[hva]
  dsimp only
  rw[hv0]
 rw[hco]
 clear hco hv0 hva hv2 hv1
 refine zX7 ?_
 refine Ye (λz:Nat=>[(44,.int .i64 (z:Nat)),(9,.pointer (some ⟨g9,0,none⟩)),(5,.pointer (some ⟨g5,0,none⟩)),(4,.pointer (some ⟨g4,0,none⟩)),(8,.pointer (some ⟨g8,0,none⟩))]) (λz=>nmB g9 (Ze m v0 z)::nmB g5 m::chB g4 h::chB g8 (List.replicate 8 0)::[many H]) (λz=>z<=10) (λz=>10-z) 0 (Td _) ?_ ?_ ?_
 ·exact zc1
 ·rw[show Ze m v0 0=v0 from rfl]
  exact zc0
 intro i hi K hK
 by_cases hlt:i<10
 ·have hstep:Ze m v0 (i+1)=Jm m (Ze m v0 i) i 8:=rfl
  obtain⟨vi,hvi⟩:∃v,Ze m v0 i=v:=⟨_,rfl⟩
  have hlv:vi.length=16:=by rw[<-hvi,Vn];exact hl0
  rw[hvi]at hstep⊢
  repeat'(first|(apply X4 (λv=>∃s:ByteArray,v=.string s/\RowS i s) YwF;exact za;exact rfl;exactλ_ hw=>YdZ i hlt hw;rintro _ ⟨s,rfl,hs⟩)|refine zgb ?_|(refine zge ?_ ?_<;>intro _<;>try exact zo)|fail)
  have hss:=hs.1
  refine Ye (λz:Nat=>[(49,.int .i64 (z:Nat)),(12,.string s),(44,.int .i64 (i:Nat)),(9,.pointer (some ⟨g9,0,none⟩)),(5,.pointer (some ⟨g5,0,none⟩)),(4,.pointer (some ⟨g4,0,none⟩)),(8,.pointer (some ⟨g8,0,none⟩))]) (λz=>nmB g9 (Jm m vi i z)::nmB g5 m::chB g4 h::chB g8 (List.replicate 8 0)::[many H]) (λz=>z<=8) (λz=>8-z) 0 (Td _) ?_ ?_ ?_
  ·exact zc1
  ·rw[show Jm m vi i 0=vi from rfl]
   exact zc0
  intro j hj K2 hK2
  by_cases hlt2:j<8
  rotate_left
  ·clear hK2
   obtain rfl:j=8:=by omega
   refine zX0 ?_<;>intros
   apply hK (i+1)
   ·exact hlt
   ·omega
   ·exact zc1
   ·rw[hstep]
    exact zc0
  clear hK hstep
  obtain⟨v7,hv7e⟩:∃v,Jm m vi i j=v:=⟨_,rfl⟩
  have hv7:v7.length=16:=by rw[<-hv7e,Ww];exact hlv
  obtain⟨o0,o1,o2,o3,hlan,b0,b1,b2,b3⟩:=Yl2 hlt2
  obtain⟨W,hW⟩:∃W,mixE (v7.getD o0.toNat 0) (v7.getD o1.toNat 0) (v7.getD o2.toNat 0) (v7.getD o3.toNat 0) (m.getD (ordE i (2*j)).toNat 0) (m.getD (ordE i (2*j+1)).toNat 0)=W:=⟨_,rfl⟩
  have hWl:W.length=4:=by rw[<-hW];rfl
  have hstep:Jm m vi i (j+1)=V9 v7 [o0,o1,o2,o3] W 4:=by
   show YfL m (Jm m vi i j) i j=_
   unfold YfL
   rw[hlan,hv7e,<-hW];rfl
  have pl:=λ{H':List HP}{w:World}(hw:St B w0 H' w)=>Ykr j hlt2 hw
  rw[hlan]at pl
  have e1:(2*(j:Int)).toNat=2*j:=by omega
  have e2:(2*(j:Int)+1).toNat=2*j+1:=by omega
  have hd1:=YgA hlt (k:=2*j) (by omega)
  have hd2:=YgA hlt (k:=2*j+1) (by omega)
  have hd3:0<=ordE i (2*(j:Int)).toNat/\ordE i (2*(j:Int)).toNat<16:=by rw[e1];exact hd1
  have hd4:0<=ordE i (2*(j:Int)+1).toNat/\ordE i (2*(j:Int)+1).toNat<16:=by rw[e2];exact hd2
  rw[hv7e]
  repeat'(first|(apply X4 (λv=>v=.agg (numA .i64 [o0,o1,o2,o3])) YwG;exact za;exact rfl;exactλ_ hw=>pl hw;rintro _ rfl)|(apply YZ T;exact rfl;exact rfl;exact zd;(iterate 3 exact rfl))|refine zgb ?_|(refine zge ?_ ?_<;>intro _<;>try exact zo)|(refine zgh ?_;intro _)|fail)
  rename_i gl
  refine Zs (λgw:Nat=>[(15,.pointer (some ⟨gw,0,none⟩)),(14,.pointer (some ⟨gl,0,none⟩)),(49,.int .i64 (j:Nat)),(12,.string s),(44,.int .i64 (i:Nat)),(9,.pointer (some ⟨g9,0,none⟩)),(5,.pointer (some ⟨g5,0,none⟩)),(4,.pointer (some ⟨g4,0,none⟩)),(8,.pointer (some ⟨g8,0,none⟩))]) (λgw=>numB gw .u32 W 327::numB gl .i64 [o0,o1,o2,o3] 325::nmB g9 v7::nmB g5 m::chB g4 h::chB g8 (List.replicate 8 0)::[many H]) ?_ ?_
  ·intro K3 hK3
   apply Jb (.n1 0 (.n1 1 (.n1 2 (.n1 3 (.n1 4 (.n1 5 (.n1 6 (.n1 7 (.n1 8 (.n1 9 (.n1 10 (.n1 11 (.n1 12 (.n1 13 (.n1 14 (.n1 15 (.n1 16 (.n1 17 (.n1 18 (.n1 19 (.n1 20 (.n1 24 (.n1 25 (.n1 26 (.n1 27 (.n1 28 (.n2 21 (.n1 22 (.n1 23 (.n2 29 (.n1 30 (.n1 31 (.n2 32 (.n1 33 .done) 33 (.n1 32 .done)))) 33 (.n1 29 (.n1 30 (.n1 31 (.n1 32 .done))))))) 33 (.n1 21 (.n1 22 (.n1 23 (.n1 29 (.n1 30 (.n1 31 (.n1 32 .done)))))))))))))))))))))))))))))))))) [34] [true,true,true,true,true,true]
   kernel_rfl
   kernel_rfl
   exact zy
   (simp only[Yc,nthO];rfl)
   repeat'(first|(apply YL T;(iterate 4 exact rfl);omega)|(apply YT T (k:=.u32);exact rfl;exact zm;omega;exact rfl;exact rfl)|(apply JQ T (cs:=numA .i64 [o0,o1,o2,o3]);exact rfl;exact zm;(iterate 3 exact rfl))|(apply X4 (Yxm i _) YwI;exact za;exact rfl;exactλ_ hw=>YhG hs (by assumption) hw;rintro _ rfl)|(apply X4 (Ytw _ _ _ _ _ _) YwH;exact za;exact rfl;exactλ_ hw=>YnJ _ _ _ _ _ _ hw;rintro _ rfl)|(apply YZ T;exact rfl;exact rfl;exact zd;(iterate 3 exact rfl))|(apply Yh;try exact zl)|apply(zs91 ?_ ?_)|(apply Xf;try exact zl)|refine zgd ?_|(refine zgh ?_;intro _)|(refine zgi ?_;intro _ _)|fail)
   all_goals(
    rename Nat=>gw
    apply hK3 gw
    ·exact zu
    ·rw[<-hW]
     simp only[Ri,RG,Int.reduceToNat,e1,e2]
     exact zk)
  intro gw
  have hob:∀q<4,0<=[o0,o1,o2,o3].getD q 0/\[o0,o1,o2,o3].getD q 0<16:=by
   intro q hq
   obtain rfl|rfl|rfl|rfl:q=0\/q=1\/q=2\/q=3:=by omega
   ·exact b0
   ·exact b1
   ·exact b2
   ·exact b3
  clear pl hd1 hd2 hd3 hd4 hW
  obtain⟨ol,hol⟩:∃ol,[o0,o1,o2,o3]=ol:=⟨_,rfl⟩
  have holl:ol.length=4:=by rw[<-hol];rfl
  rw[hol]at hob hstep⊢
  repeat'(first|(apply XL T;exact rfl;exact zm;exact rfl;(rw[Xp];exact holl);exact rfl)|refine zgb ?_|fail)
  refine Ye (λz:Nat=>[(88,.int .i64 (z:Nat)),(87,.agg (numA .i64 ol)),(15,.pointer (some ⟨gw,0,none⟩)),(49,.int .i64 (j:Nat)),(12,.string s),(44,.int .i64 (i:Nat)),(9,.pointer (some ⟨g9,0,none⟩)),(5,.pointer (some ⟨g5,0,none⟩)),(4,.pointer (some ⟨g4,0,none⟩)),(8,.pointer (some ⟨g8,0,none⟩))]) (λz=>numB gw .u32 W 327::nmB g9 (V9 v7 ol W z)::nmB g5 m::chB g4 h::chB g8 (List.replicate 8 0)::[many H]) (λz=>z<=4) (λz=>4-z) 0 (Td _) ?_ ?_ ?_
  ·exact zc1
  ·rw[show V9 v7 ol W 0=v7 from rfl]
   exact zc0
  intro q hq K3 hK3
  by_cases hlt3:q<4
  rotate_left
  ·clear hK3
   obtain rfl:q=4:=by omega
   refine zX0 ?_<;>intros
   apply hK2 (j+1)
   ·exact hlt2
   ·omega
   ·exact zc1
   ·rw[hstep]
    exact zc0
  have hs2:V9 v7 ol W (q+1)=(V9 v7 ol W q).set (ol.getD q 0).toNat (W.getD q 0):=rfl
  obtain⟨v8,hv8e⟩:∃v,V9 v7 ol W q=v:=⟨_,rfl⟩
  have hv8:v8.length=16:=by rw[<-hv8e,OS];exact hv7
  have hbq:=hob q hlt3
  have e3:((q:Nat):Int).toNat=q:=by omega
  obtain⟨x,hx⟩:∃x,ol.getD q 0=x:=⟨_,rfl⟩
  rw[hx]at hbq hs2
  rw[hv8e]at hs2⊢
  repeat'(first|(apply O0 T;(iterate 5 exact rfl);omega;exact holl;rw[e3,hx])|(apply YL T;(iterate 4 exact rfl);omega)|(apply YT T (k:=.u32);exact rfl;exact zm;omega;exact rfl;exact rfl)|(apply Y5 T;exact rfl;exact rfl;exact zd;omega;exact rfl)|refine zgc ?_|(refine zge ?_ ?_<;>intro _<;>try exact zo)|fail)
  apply hK3 (q+1)
  ·exact hlt3
  ·omega
  ·exact zc1
  ·rw[hs2]
   simp only[Ri,RG,e3]
   exact zc0
 obtain rfl:i=10:=by omega
 clear hK
 obtain⟨v,hv⟩:∃v,Ze m v0 10=v:=⟨_,rfl⟩
 have hvl:v.length=16:=by rw[<-hv,Vn];exact hl0
 rw[hv]
 refine zX0 ?_<;>intros
 refine Ye (λz:Nat=>[(100,.int .i64 (z:Nat)),(9,.pointer (some ⟨g9,0,none⟩)),(4,.pointer (some ⟨g4,0,none⟩)),(8,.pointer (some ⟨g8,0,none⟩))]) (λz=>chB g4 (Jw h v z)::nmB g9 v::chB g8 (List.replicate 8 0)::[many H]) (λz=>z<=8) (λz=>8-z) 0 (Td _) ?_ ?_ ?_
 ·exact zc1
 ·rw[show Jw h v 0=h from rfl]
  exact zc0
 intro k hk K hK
 have hfl:(Jw h v k).length=8:=(OI h v k).trans hh
 by_cases hlt:k<8
 ·have hs2:Jw h v (k+1)=(Jw h v k).set k (bits .xor .u32 ((Jw h v k).getD k 0) (bits .xor .u32 (v.getD k 0) (v.getD (k+8) 0))):=rfl
  obtain⟨l8,hl8e⟩:∃l,Jw h v k=l:=⟨_,rfl⟩
  have hl8:l8.length=8:=by rw[<-hl8e];exact hfl
  rw[hl8e]at hs2⊢
  have e3:((k:Nat):Int).toNat=k:=by omega
  have e4:(((k:Nat):Int)+8).toNat=k+8:=by omega
  refine zX1 ?_<;>intros
  apply YA [0,1,2,3,4,5,6,7,8,9,10,11,12] [13] [true,true,true,true]
  kernel_rfl
  kernel_rfl
  exact zy
  (simp only[Yc,nthO];rfl)
  (simp only[Yc,nthO];rfl)
  repeat'(first|(apply YL T;(iterate 4 exact rfl);omega)|(apply YT T (k:=.u32);exact rfl;exact zm;omega;exact rfl;exact rfl)|(apply JR;(iterate 3 exact rfl))|(apply Y5 T;exact rfl;exact rfl;exact zd;omega;exact rfl)|refine zgd ?_|fail)
  apply hK (k+1)
  ·exact hlt
  ·omega
  ·exact zc1
  ·rw[hs2]
   simp only[Ri,RG,e3,e4]
   exact zc0
 ·clear hK
  obtain rfl:k=8:=by omega
  repeat'(first|(apply XL T;exact rfl;exact zm;exact rfl;(rw[Xp];exact hfl);exact rfl)|(apply YZ T;exact rfl;exact rfl;exact zd;(rw[Xp,hfl];rfl);exact rfl;exact hfl)|refine zgc ?_|(refine zge ?_ ?_<;>intro _<;>try exact zo)|fail)
  apply ZA T (H2:=H);exact rfl;exact rfl;(focus exact zc2);exact rfl;(rw[Xp];exact hfl)
  ·intro w hw
   have h5:St B w0 [many H] w:=by
    revert w
    exact zc0
   exact zc81
  exact Qg
theorem Ylv(a b x:Int):IntKind.u32.wrap (IntKind.u32.wrap (a+b)+x)=IntKind.u32.wrap (a+IntKind.u32.wrap (b+x)):=by
 have e:∀n:Int,IntKind.u32.wrap n=n%4294967296:=λn=>by simp[IntKind.wrap,IntKind.bits,IntKind.signed]
 rw[e,e,e,e]
 omega
theorem WD(a b:Int):bits .xor .u32 a b=((BitVec.ofInt 32 a^^^BitVec.ofInt 32 b).toNat:Int):=by
 show IntKind.u32.wrap ((BitVec.ofInt 32 a^^^BitVec.ofInt 32 b).toNat:Int)=_
 have e:∀n:Int,IntKind.u32.wrap n=n%4294967296:=λn=>by simp[IntKind.wrap,IntKind.bits,IntKind.signed]
 have h:=(BitVec.ofInt 32 a^^^BitVec.ofInt 32 b).isLt
 rw[e]
 omega
theorem Yst(a b c:Int):bits .xor .u32 (bits .xor .u32 a b) c=bits .xor .u32 a (bits .xor .u32 b c):=by
 rw[WD a b,WD b c,WD,WD,BitVec.ofInt_natCast,BitVec.ofInt_natCast,BitVec.ofNat_toNat,BitVec.ofNat_toNat]
 simp only[BitVec.setWidth_eq,BitVec.xor_assoc]
def Ybg(h iv:List Int):Nat->List Int
 |0=>List.replicate 16 0
 |i+1=>((Ybg h iv i).set i (h.getD i 0)).set (8+i) (iv.getD i 0)
theorem Ye7(h iv:List Int):∀i,(Ybg h iv i).length=16
 |0=>rfl
 |i+1=>by rw[Ybg,TE,TE];exact Ye7 h iv i
theorem Ym9{h iv:List Int}(hh:h.length=8)(hi:iv.length=8):Ybg h iv 8=h++iv:=by
 match h,hh with
 |[a,b,c,d,e,f,g,i],_=>
  match iv,hi with
  |[a2,b2,c2,d2,e2,f2,g2,i2],_=>rfl
variable {B:Nat}{w0 w:World}{H:List HP}
theorem YiT(a b c d x y:Int)(hw:St B w0 H w):
 CX B w0 326 [.agg (numA .u32 [a,b,c,d]),.int .u32 x,.int .u32 y] w λv K=>v=.agg (numA .u32 (mixE a b c d x y))/\K=H:=by
 refine Ya Tryz.func326 Tryz.ntmps326 rfl rfl hw ?_
 rw[YtA]
 repeat'(first|(apply YL T;(iterate 4 exact rfl);omega)|(apply JQ T;exact rfl;exact zm;(iterate 3 exact rfl))|(apply ZN;(iterate 3 exact rfl))|(apply JR;(iterate 3 exact rfl))|refine zgd ?_|(refine zgh ?_;intro _)|fail)
 rw[Ylv a b x]
 apply Yb Ybk
 exact za
 exact rfl
 exactλ_ hw=>(ZV _ _ 16 (by decide) hw)
 repeat'(first|(apply ZN;(iterate 3 exact rfl))|(apply JR;(iterate 3 exact rfl))|refine zga ?_|fail)
 apply Yb Ybk
 exact za
 exact rfl
 exactλ_ hw=>(ZV _ _ 20 (by decide) hw)
 repeat'(first|(apply ZN;(iterate 3 exact rfl))|(apply JR;(iterate 3 exact rfl))|refine zga ?_|fail)
 rw[Ylv (IntKind.u32.wrap (a+IntKind.u32.wrap (b+x)))]
 apply Yb Ybk
 exact za
 exact rfl
 exactλ_ hw=>(ZV _ _ 24 (by decide) hw)
 repeat'(first|(apply ZN;(iterate 3 exact rfl))|(apply JR;(iterate 3 exact rfl))|refine zga ?_|fail)
 apply Yb Ybk
 exact za
 exact rfl
 exactλ_ hw=>(ZV _ _ 25 (by decide) hw)
 repeat'(first|refine zgd ?_|fail)
 apply ZA T (H2:=H);exact rfl;exact rfl;exact zm;exact rfl;exact rfl
 ·exact zk
 exact⟨rfl,rfl⟩
theorem Yaj(hw:St B w0 H w):
 CX B w0 257 [] w λv K=>v=.agg (numA .u32 initE)/\K=H:=by
 refine Ya Tryz.func257 Tryz.ntmps257 rfl rfl hw ?_
 repeat'(first|refine zgd ?_|(refine zgh ?_;intro _)|fail)
 apply ZA T (H2:=H);exact rfl;exact rfl;exact zm;exact rfl;exact rfl
 ·exact zk
 exact⟨rfl,rfl⟩
theorem YgL(hw:St B w0 H w):
 CX B w0 325 [] w λv K=>v=.agg (numA .i64 ordsE.flatten)/\K=H:=by
 refine Ya Tryz.func325 Tryz.ntmps325 rfl rfl hw ?_
 repeat'(first|refine zgd ?_|(refine zgh ?_;intro _)|fail)
 apply ZA T (H2:=H);exact rfl;exact rfl;exact zm;exact rfl;exact rfl
 ·exact zk
 exact⟨rfl,rfl⟩
theorem len8{l:List Int}(h:l.length=8):∃a b c d e f g i,l=[a,b,c,d,e,f,g,i]:=by
 match l,h with
 |[a,b,c,d,e,f,g,i],_=>simp_all
def stC(l:List Int)(A:Option Addr)(n cap:Nat)(c:Int):Array Value:=(l.map (Value.int .u32)++[Value.slice A n cap,Value.int .u64 c]).toArray
theorem stC8(a b c d e f g i:Int)(A:Option Addr)(n cap:Nat)(k:Int):stC [a,b,c,d,e,f,g,i] A n cap k=#[.int .u32 a,.int .u32 b,.int .u32 c,.int .u32 d,.int .u32 e,.int .u32 f,.int .u32 g,.int .u32 i,.slice A n cap,.int .u64 k]:=rfl
theorem Yp4(a b c d e f g i:Int):numA .u32 [a,b,c,d,e,f,g,i]=#[.int .u32 a,.int .u32 b,.int .u32 c,.int .u32 d,.int .u32 e,.int .u32 f,.int .u32 g,.int .u32 i]:=rfl
end Go.Proofs.YtjommdkgfbhbdaaGreatDoor
namespace Go.Eng
open Go.RowKit
section
variable {P:Program}{m:Mode}{n:Shp}{B d:Nat}{w0:World}{ops:Array Oper}{Q:Exit->Act->World->Prop}{rest:List Oper}{env:Env}{H:List HP}{ty:TypeId}{pos:String}{after:Array Edge}
theorem Ycm(T:Tab P){src dst:TypeId}{j k:IntKind}{a:Int}{x:Operand}(hx:evo env x=some (.int k a))(hs:look T.ik src=some j)(ht:look T.ik dst=some .u8)(hn:Nat.ble (d+1) n.k=true)(h:VL P m n B w0 ops Q rest ((d,.int .u8 ((a%256).toNat:Nat))::env) H):VL P m n B w0 ops Q (⟨some d,.convert src dst x,ty,pos,after,none⟩::rest) env H:=
 by grind [Jc,Go.IntKind.wrap_u8]
end
end Go.Eng
namespace Go.Proofs.YtjommdkgfbhbdaaGreatDoor
open Go.RowKit Go.Eng
def WN:List Int:=[1795745351,0xbb67ae85,0x3c6ef372,0xa54ff53a,0x510e527f,0x9b05688c,0x1f83d9ab,0x5be0cd19]
def XZ(s:ByteArray):List Int:=s.data.toList.map λb=>(b.toNat:Int)
theorem VR(s:ByteArray):(XZ s).length=s.size:=by simp_all [XZ]
def Jj(bs:List Int):Nat->List Int
 |0=>WN
 |k+1=>Jk (Jj bs k) (Zb ((bs.drop (64*k)).take 64) 64) (64*k+64:Nat) false
theorem Wd(bs:List Int):∀k,(Jj bs k).length=8
 |0=>rfl
 |k+1=>VY _ (Wd bs k) _ _
def XG(bs:List Int):Nat:=(bs.length-1)/64
def Yei(bs:List Int):List Int:=Jk (Jj bs (XG bs)) (Zb (bs.drop (64*XG bs)) (bs.length-64*XG bs)) bs.length true
def Vf(h:List Int)(i:Nat):Nat:=(h.getD (i/4) 0/2^(8*(i%4))%256).toNat
def outE(h:List Int)(n:Nat):List Nat:=(List.range n).map (Vf h)
theorem YnP(h:List Int)(i:Nat):outE h (4*(i+1))=outE h (4*i)++[Vf h (4*i),Vf h (4*i+1),Vf h (4*i+2),Vf h (4*i+3)]:=by
 grind [outE,Rq]
theorem QN(h:List Int)(i j:Nat)(hj:j<4):Vf h (4*i+j)=(h.getD i 0/2^(8*j)%256).toNat:=by
 grind [Vf]
def digS(s:ByteArray):ByteArray:=Yjb (outE (Yei (XZ s)) 32)
variable {B:Nat}{w0 w:World}{H:List HP}
theorem Ygh(hw:St B w0 H w):
 CX B w0 175 [.string ⟨#[]⟩] w λv K=>v=.agg (stC WN none 0 0 0)/\K=H:=by
 refine Ya Tryz.func175 Tryz.ntmps175 rfl rfl hw ?_
 refine Y6 [many H] (λw hw=>hw.perm (.closeT H)) ?_
 refine zX14 ?_<;>intros
 apply Yb Ys0
 exact za
 exact rfl
 exactλ_ hw=>(O4 hw)
 unfold initE
 rw[Yp4]
 repeat'(first|(apply YL T;(iterate 4 exact rfl);omega)|(apply JQ T;exact rfl;exact zm;(iterate 3 exact rfl))|(apply Jc T;(iterate 4 exact rfl))|(apply Yhd;(iterate 3 exact rfl))|(apply ZN;(iterate 3 exact rfl))|(apply JR;(iterate 3 exact rfl))|(apply zg8;(refine zs22 ?_ ?_<;>intro _ _<;>try exact zo))|refine zgd ?_|(refine zgh ?_;intro _)|fail)
 ·rename_i hne
  exact absurd hne (by decide)
 apply ZA T (H2:=H);exact rfl;exact rfl;(focus exact zc2);exact rfl;exact rfl
 ·intro w hw
  have h5:St B w0 [many H] w:=by
   revert w
   exact zc0
  exact zc81
 have e:bits .xor .u32 1779033703 (IntKind.u32.wrap (16842784+IntKind.u32.wrap (256*IntKind.u32.wrap (0:Nat))))=1795745351:=by decide
 unfold WN
 rw[stC8,<-e]
 simp_all
structure TkV where
 k:Nat
 A:Option Addr
 cap:Nat
theorem YhK(s:ByteArray)(hs:s.size<=1000000000)(g:Nat)(hw:St B w0 (blk g (.cells (stC WN none 0 0 0) 211 (0,0))::H) w):
 CX B w0 176 [.pointer (some ⟨g,0,none⟩),.string s] w λv K=>∃A cap P,v=.tuple #[]/\(∀{H':List HP},many [P]∈H'->Rd B w0 H' A (List.flatMap bytF ((XZ s).drop (64*XG (XZ s)))))/\K=blk g (.cells (stC (Jj (XZ s) (XG (XZ s))) A ((XZ s).length-64*XG (XZ s)) cap (64*XG (XZ s):Nat)) 211 (0,0))::many [P]::H:=by
 refine Ya Tryz.func176 Tryz.ntmps176 rfl rfl hw ?_
 unfold WN
 rw[stC8]
 have hcells:Lib.strCells s=(XZ s).flatMap bytF:=by
  unfold Lib.strCells XZ
  generalize s.data.toList=L
  induction L with
  |nil=>rfl
  |cons b L ih=>rw[Rx,Rx,Re,ih];rfl
 have hbl:=VR s
 obtain⟨ba,hbs⟩:∃bs,XZ s=bs:=⟨_,rfl⟩
 rw[hbs]at hcells hbl⊢
 refine Y6 (blk g (.cells #[.int .u32 1795745351,.int .u32 0xbb67ae85,.int .u32 0x3c6ef372,.int .u32 0xa54ff53a,.int .u32 0x510e527f,.int .u32 0x9b05688c,.int .u32 0x1f83d9ab,.int .u32 0x5be0cd19,.slice none 0 0,.int .u64 0] 211 (0,0))::sl 5 1 none 0 0 []::[many H]) (λw hw=>?_) ?_
 ·have h5:=(hw.perm (.cons _ (.closeT H))).nilSlice 5 1
  exact h5.perm (.swap _ _ _)
 repeat'(first|(apply QA T (tt:=9) (xs:=[]);(iterate 6 exact rfl);(intro _ _;exact zd);omega;intro A1 c1)|refine zgd ?_|fail)
 obtain⟨P,hP⟩:∃P,sl 5 1 A1 s.size c1 (ba.flatMap bytF)=P:=⟨_,rfl⟩
 have e0:sl 5 1 A1 (0+s.size) c1 ([]++Lib.strCells s)=P:=by rw[Ri,TC,hcells,hP]
 refine OA (e:=5) (size:=1) (k:=0+s.size) (cap:=c1) (A:=A1) (by(focus exact zc2)) λhcap=>?_
 rw[e0,show 0+s.size=s.size from Ri _]
 rw[Ri]at hcap
 refine Ye (λ_:TkV=>[(0,.pointer (some ⟨g,0,none⟩))]) (λz=>blk g (.cells (stC (Jj ba z.k) z.A (ba.length-64*z.k) z.cap (64*z.k:Nat)) 211 (0,0))::P::[many H])
  (λz=>(z.k=0\/64*z.k<ba.length)/\ba.length-64*z.k<=z.cap/\∀{H':List HP},P∈H'->Rd B w0 H' z.A ((ba.drop (64*z.k)).flatMap bytF)) (λz=>ba.length-64*z.k) ⟨0,A1,c1⟩ ⟨.inl rfl,by exact zc50,λhm=>by rw[<-hP]at hm;exact Rd.sl hm⟩ ?_ ?_ ?_
 ·exact zc1
 ·dsimp only
  rw[show Jj ba 0=WN from rfl]
  unfold WN
  rw[stC8,hbl]
  exact YbM
 clear hcells
 rintro⟨k,A,cap⟩ ⟨hk,hc,hr⟩ K hK
 dsimp only at hk hc hr⊢
 have hl:=Wd ba k
 have hstep:Jj ba (k+1)=Jk (Jj ba k) (Zb ((ba.drop (64*k)).take 64) 64) (64*k+64:Nat) false:=rfl
 have hrl:(ba.drop (64*k)).length=ba.length-64*k:=TY
 have hdd:(ba.drop (64*k)).drop 64=ba.drop (64*(k+1)):=by rw[Nc];congr 1
 obtain⟨bs,hbse⟩:∃l,ba.drop (64*k)=l:=⟨_,rfl⟩
 obtain⟨r,hre⟩:∃r,ba.length-64*k=r:=⟨_,rfl⟩
 obtain⟨l,hle⟩:∃l,Jj ba k=l:=⟨_,rfl⟩
 rw[hbse]at hr hstep hrl hdd
 rw[hre]at hc hrl⊢
 rw[hle]at hl hstep⊢
 subst hrl
 obtain⟨x0,x1,x2,x3,x4,x5,x6,x7,rfl⟩:=len8 hl
 rw[stC8]
 by_cases hgt:64<bs.length
 rotate_left
 ·clear hK
  obtain rfl:XG ba=k:=by unfold XG;omega
  refine zX50 ?_<;>intros
  apply Yf (blk g (.cells (stC [x0,x1,x2,x3,x4,x5,x6,x7] A bs.length cap (64*XG ba:Nat)) 211 (0,0))::many [P]::H)
  ·intro w hw
   rw[stC8]
   have h5:St B w0 (P::blk g (.cells #[.int .u32 x0,.int .u32 x1,.int .u32 x2,.int .u32 x3,.int .u32 x4,.int .u32 x5,.int .u32 x6,.int .u32 x7,.slice A bs.length cap,.int .u64 (64*XG ba:Nat)] 211 (0,0))::[many H]) w:=by
    revert w
    exact zc0
   exact((h5.perm (.cons _ (.cons _ (.openT H)))).perm (.close [_] _)).perm (.swap _ _ _)
  apply JB;exact rfl
  exact⟨A,cap,P,rfl,λhm=>(hbse▸hr (.head _)).mono λw hw=>hw.inM hm,by rw[hle,hre]⟩
 have hb64:(bs.take 64).length=64:=Yem
 have p1:=λ{H':List HP}{w:World}(hr:Rd B w0 H' (subA A 0 cap 1) ((bs.take 64).flatMap bytF)) (hw:St B w0 H' w)=>YbK (bs.take 64) (by omega) (cap:=cap) hr hw
 rw[hb64]at p1
 obtain⟨lm,hlme⟩:∃l,Zb (bs.take 64) 64=l:=⟨_,rfl⟩
 have hlm:lm.length=16:=by rw[<-hlme];exact Jo _ _
 rw[hlme]at p1 hstep
 obtain⟨y0,y1,y2,y3,y4,y5,y6,y7,hy⟩:=len8 (VY (h:=[x0,x1,x2,x3,x4,x5,x6,x7]) lm rfl (64*k+64:Nat) false)
 rw[hy]at hstep
 have p2:=λ{H':List HP}{w:World}(hw:St B w0 H' w)=>WZ [x0,x1,x2,x3,x4,x5,x6,x7] lm rfl hlm (64*k+64:Nat) false hw
 rw[hy,Yp4]at p2
 have ec:IntKind.u64.wrap ((64*k:Nat)+64)=(64*k+64:Nat):=IntWalk.u64_in _ (by omega)
 repeat'(first|(apply ZN;(iterate 3 exact rfl);rw[ec])|refine zgd ?_|(refine zge ?_ ?_<;>intro _<;>try exact zo)|fail)
 apply YA [0,1,2,3,4,5,6,7,8,9,11,12,13,14,10,15,16,17] [18] [true,true,true]
 kernel_rfl
 kernel_rfl
 exact zy
 (simp only[Yc,nthO];rfl)
 (simp only[Yc,nthO];rfl)
 repeat'(first|(apply ZO T (l:=bs);(iterate 4 exact rfl);omega;exact hc;exact rfl)|(apply WR T (vs:=[.int .u32 x0,.int .u32 x1,.int .u32 x2,.int .u32 x3,.int .u32 x4,.int .u32 x5,.int .u32 x6,.int .u32 x7]);exact rfl;exact zm;exact rfl;exact rfl;(intro j v hv;revert hv;rcases j with _|_|_|_|_|_|_|_|j<;>(intro hv;first|exact hv|cases hv));exact rfl)|(apply X4 (λv=>v=.agg (numA .u32 lm)) Ys2;exact za;exact rfl;exactλ_ hw=>p1 (Rd.sub (f:=bytF) (o:=0) (k:=64) (λ_=>rfl) (hr zm) hc) hw;rintro _ rfl)|(apply X4 (λv=>v=.agg #[.int .u32 y0,.int .u32 y1,.int .u32 y2,.int .u32 y3,.int .u32 y4,.int .u32 y5,.int .u32 y6,.int .u32 y7]) Ys1;exact za;exact rfl;exactλ_ hw=>p2 hw;rintro _ rfl)|(apply ZP T;(iterate 4 exact rfl);omega;(show _=ba.length-64*(k+1);omega))|(apply Yh;try exact zl)|refine zgd ?_|fail)
 apply hK ⟨k+1,subA A (Int.toNat 64) cap 1,cap-Int.toNat 64⟩
 ·refine⟨.inr zc50,by show ba.length-64*(k+1)<=cap-64;omega,λhm=>?_⟩
  have h:=Rd.sub (f:=bytF) (o:=64) (k:=(bs.drop 64).length) (λ_=>rfl) (hr hm) hc
  rw[TI]at h
  rwa [hdd]at h
 ·show ba.length-64*(k+1)<ba.length-64*k
  omega
 ·exact zc1
 ·dsimp only
  have e9:((64*(k+1):Nat):Int)=(64*k+64:Nat):=by omega
  rw[hstep,stC8,e9]
  exact zc0
theorem Yj7(l:List Int)(hl:l.length=8)(bs:List Int)(hb:bs.length<=64)(c N:Nat)(hN:c+bs.length=N)(hN9:N<=1000000000){A:Option Addr}{cap:Nat}(hr:Rd B w0 H A (bs.flatMap bytF))(hw:St B w0 H w):
 CX B w0 177 [.agg (stC l A bs.length cap c)] w λv K=>v=.string (Yjb (outE (Jk l (Zb bs bs.length) N true) 32))/\K=H:=by
 refine Ya Tryz.func177 Tryz.ntmps177 rfl rfl hw ?_
 refine Y6 [many H] (λw hw=>hw.perm (.closeT H)) ?_
 have hrM:∀{H':List HP},many H∈H'->Rd B w0 H' A (bs.flatMap bytF):=λhm=>hr.mono λw hw=>hw.inM hm
 obtain⟨x0,x1,x2,x3,x4,x5,x6,x7,rfl⟩:=len8 hl
 have p1:=λ{H':List HP}{w:World}(hr:Rd B w0 H' A (bs.flatMap bytF)) (hw:St B w0 H' w)=>YbK bs hb (cap:=cap) hr hw
 obtain⟨lm,hlme⟩:∃l,Zb bs bs.length=l:=⟨_,rfl⟩
 have hlm:lm.length=16:=by rw[<-hlme];exact Jo _ _
 rw[hlme]at p1⊢
 have p2:=λ{H':List HP}{w:World}(hw:St B w0 H' w)=>WZ [x0,x1,x2,x3,x4,x5,x6,x7] lm rfl hlm N true hw
 obtain⟨l8,hl8e⟩:∃l,Jk [x0,x1,x2,x3,x4,x5,x6,x7] lm N true=l:=⟨_,rfl⟩
 have hl8:l8.length=8:=by rw[<-hl8e];exact VY _ rfl _ _
 rw[hl8e]at p2⊢
 rw[Yp4]at p2
 rw[stC8]
 have ec:IntKind.u64.wrap ((c:Int)+IntKind.u64.wrap (bs.length:Nat))=N:=by
  rw[IntWalk.u64_in (bs.length:Int) (by omega),IntWalk.u64_in _ (by omega)]
  omega
 repeat'(first|(apply YjJ T;(iterate 3 exact rfl);exact zi5;(iterate 3 exact rfl);omega;intro gm)|refine zga ?_|(refine zgh ?_;intro _)|fail)
 apply YA [0,1,2,3,5,6,7,8,9,10,11,13,4,12] [] [true,true,true]
 kernel_rfl
 kernel_rfl
 exact zy
 (simp only[Yc,nthO];rfl)
 exact rfl
 repeat'(first|(apply WR T (vs:=[.int .u32 x0,.int .u32 x1,.int .u32 x2,.int .u32 x3,.int .u32 x4,.int .u32 x5,.int .u32 x6,.int .u32 x7]);exact rfl;exact zm;exact rfl;exact rfl;(intro j v hv;revert hv;rcases j with _|_|_|_|_|_|_|_|j<;>(intro hv;first|exact hv|cases hv));exact rfl)|(apply Jc T;(iterate 4 exact rfl))|(apply ZN;(iterate 3 exact rfl);rw[ec])|(apply X4 (λv=>v=.agg (numA .u32 lm)) Ys2;exact za;exact rfl;exactλ_ hw=>p1 (hrM zm) hw;rintro _ rfl)|(apply X4 (λv=>v=.agg (numA .u32 l8)) Ys1;exact za;exact rfl;exactλ_ hw=>p2 hw;rintro _ rfl)|(apply Yh;try exact zl)|refine zgd ?_|fail)
 refine Ye (λz:Nat×Option Addr×Nat=>[(20,.int .i64 (z.1:Nat)),(19,.agg (numA .u32 l8)),(3,.slice z.2.1 (4*z.1) z.2.2)]) (λz=>sl 5 1 z.2.1 (4*z.1) z.2.2 (u8n (outE l8 (4*z.1)))::[many H]) (λz=>z.1<=8) (λz=>8-z.1) (0,some ⟨gm,0,none⟩,32) (Td _) ?_ ?_ ?_
 ·exact zc1
 ·intro w hw
  have h5:St B w0 (sl 5 1 (some ⟨gm,0,none⟩) 0 (Int.toNat 32) []::[many H]) w:=by
   revert w
   exact zc0
  exact h5
 rintro⟨i,A2,c2⟩ hi K hK
 dsimp only at hi⊢
 have holn:(outE l8 (4*i)).length=4*i:=by unfold outE;rw[To,List.length_range]
 obtain⟨out,hout⟩:∃o,outE l8 (4*i)=o:=⟨_,rfl⟩
 have hfour:=YnP l8 i
 rw[hout]at holn hfour⊢
 rw[<-holn]
 by_cases hlt:i<8
 rotate_left
 ·clear hK
  obtain rfl:i=8:=by omega
  repeat'(first|(apply Yow T;exact rfl;exact zm;(iterate 4 exact rfl))|refine zgc ?_|(refine zge ?_ ?_<;>intro _<;>try exact zo)|fail)
  apply Yf H
  ·intro w hw
   have h5:St B w0 [many H] w:=by
    revert w
    exact zc0
   exact zc81
  apply Yd;exact rfl;exact rfl
  exact⟨by rw[<-hout],rfl⟩
 have e3:((i:Nat):Int).toNat=i:=by omega
 obtain⟨x,hx⟩:∃x,l8.getD i 0=x:=⟨_,rfl⟩
 have f0:Vf l8 (4*i)=(x%256).toNat:=by
  have:=QN l8 i 0 (by decide)
  rw[hx,SR,Nat.mul_zero,Int.pow_zero,Int.ediv_one]at this
  exact this
 have f1:Vf l8 (4*i+1)=(x/2^Int.toNat 8%256).toNat:=by rw[QN l8 i 1 (by decide),hx];rfl
 have f2:Vf l8 (4*i+2)=(x/2^Int.toNat 16%256).toNat:=by rw[QN l8 i 2 (by decide),hx];rfl
 have f3:Vf l8 (4*i+3)=(x/2^Int.toNat 24%256).toNat:=by rw[QN l8 i 3 (by decide),hx];rfl
 rw[f0,f1,f2,f3]at hfour
 repeat'(first|(apply O0 T;(iterate 5 exact rfl);omega;exact hl8;rw[e3,hx])|(apply Yaz;(iterate 3 exact rfl);decide)|(apply Ycm T;(iterate 4 exact rfl))|refine zgc ?_|(refine zge ?_ ?_<;>intro _<;>try exact zo)|(refine zgh ?_;intro _)|(refine zgi ?_;intro _ _)|fail)
 rename_i A3 c3
 obtain⟨o2,ho2⟩:∃o,out++[(x%256).toNat,(x/2^Int.toNat 8%256).toNat,(x/2^Int.toNat 16%256).toNat,(x/2^Int.toNat 24%256).toNat]=o:=⟨_,rfl⟩
 have e6:4*(i+1)=out.length+4:=by omega
 have e5:sl 5 1 A3 (out.length+4) c3 (u8n out++#[Value.int .u8 ((x%256).toNat:Nat),.int .u8 ((x/2^Int.toNat 8%256).toNat:Nat),.int .u8 ((x/2^Int.toNat 16%256).toNat:Nat),.int .u8 ((x/2^Int.toNat 24%256).toNat:Nat)].toList)=sl 5 1 A3 (4*(i+1)) c3 (u8n (outE l8 (4*(i+1)))):=by rw[hfour,e6];simp[u8n]
 rw[e5]
 apply hK (i+1,A3,c3)
 ·exact hlt
 ·exact zc50
 ·dsimp only
  rw[e6]
  exact zc1
 ·exact zc0
theorem Ygf(s:ByteArray)(hs:s.size<=1000000000)(hw:St B w0 H w):
 CX B w0 88 [.string s] w λv K=>v=.string (digS s)/\K=H:=by
 refine Ya Tryz.func88 Tryz.ntmps88 rfl rfl hw ?_
 refine Y6 [many H] (λw hw=>hw.perm (.closeT H)) ?_
 have e0:stC WN none 0 0 0=#[.int .u32 1795745351,.int .u32 0xbb67ae85,.int .u32 0x3c6ef372,.int .u32 0xa54ff53a,.int .u32 0x510e527f,.int .u32 0x9b05688c,.int .u32 0x1f83d9ab,.int .u32 0x5be0cd19,.slice none 0 0,.int .u64 0]:=rfl
 repeat'(first|(apply X4 (λv=>v=.agg (stC WN none 0 0 0)) Yv0;exact za;exact rfl;exactλ_ hw=>Ygh hw;rintro _ rfl;rw[e0])|refine zgc ?_|(refine zgh ?_;intro _)|fail)
 rename_i g
 have p1:=λ{H':List HP}{w:World}(hw:St B w0 (blk g (.cells (stC WN none 0 0 0) 211 (0,0))::H') w)=>YhK s hs g hw
 rw[e0]at p1
 have hbl:=VR s
 unfold digS Yei
 obtain⟨ba,hbs⟩:∃bs,XZ s=bs:=⟨_,rfl⟩
 rw[hbs]at p1 hbl⊢
 have hKl:64*XG ba<=ba.length/\ba.length-64*XG ba<=64:=by grind [XG]
 have hrl:(ba.drop (64*XG ba)).length=ba.length-64*XG ba:=TY
 have hl2:=Wd ba (XG ba)
 obtain⟨l2,hle⟩:∃l,Jj ba (XG ba)=l:=⟨_,rfl⟩
 obtain⟨bs,hbse⟩:∃l,ba.drop (64*XG ba)=l:=⟨_,rfl⟩
 obtain⟨c,hce⟩:∃c,64*XG ba=c:=⟨_,rfl⟩
 rw[hle]at p1 hl2⊢
 rw[hce]at hbse
 rw[hce,hbse]at p1 hrl⊢
 rw[hce]at hKl
 rw[<-hrl]at p1⊢
 apply Yg _ Yv1
 exact za
 exact rfl
 exactλ_ hw=>(p1 (hw))
 rintro _ _ ⟨A,cap,P,rfl,hr,rfl⟩
 obtain⟨y0,y1,y2,y3,y4,y5,y6,y7,rfl⟩:=len8 hl2
 have p2:=λ{H':List HP}{w:World}(hm:many [P]∈H') (hw:St B w0 H' w)=>Yj7 [y0,y1,y2,y3,y4,y5,y6,y7] rfl bs (by omega) c ba.length (by omega) (by omega) (cap:=cap) (hr hm) hw
 rw[stC8]at p2⊢
 repeat'(first|refine zgb ?_|fail)
 apply Yb Yv2
 exact za
 exact rfl
 exactλ_ hw=>(p2 (by simp_all) hw)
 repeat'(first|refine zga ?_|fail)
 apply Yf H
 ·intro w hw
  have h5:St B w0 [many H] w:=by
   revert w
   exact zk
  exact h5.perm (.openT H)
 apply Yd;exact rfl;exact rfl;simp_all
def laneF:List Int:=laneE.flatten
def ordsF:List Int:=ordsE.flatten
theorem YnD{i:Nat}(hi:i<8):subL (0+i*4) 4 (numA .i64 laneF).toList=(laneE.getD i []).map (Value.int .i64):=by
 obtain rfl|rfl|rfl|rfl|rfl|rfl|rfl|rfl:i=0\/i=1\/i=2\/i=3\/i=4\/i=5\/i=6\/i=7:=by omega
 all_goals rfl
theorem Yqd{r k:Nat}(hr:r<10)(hk:k<16):ordsF.getD (0+r*16+k*1) 0=ordE r k:=by
 have h:∀r<10,∀k<16,ordsF.getD (0+r*16+k*1) 0=ordE r k:=by decide
 exact h r hr k hk
theorem YaY(h m:List Int)(hh:h.length=8)(hm:m.length=16)(t:Int)(last:Bool){B:Nat}{w0:World}{H:List HP}{w:World}(hw:St B w0 H w):
 CX B w0 258 [.agg (numA .u32 h),.agg (numA .u32 m),.int .u64 t,.bool last] w λv K=>v=.agg (numA .u32 (Jk h m t last))/\K=H:=by
 refine Ya Tryz.func258 Tryz.ntmps258 rfl rfl hw ?_
 refine Y6 [many H] (λw hw=>hw.perm (.closeT H)) ?_
 have hiv:initE.length=8:=rfl
 have hlf:laneF.length=32:=rfl
 have hof:ordsF.length=160:=rfl
 repeat'(first|refine zga ?_|(refine zgh ?_;intro _)|fail)
 rename_i g4 g5 g8 g9
 apply Yb Ys3
 exact za
 exact rfl
 exactλ_ hw=>(Yaj hw)
 repeat'(first|(apply YZ T;exact rfl;exact rfl;exact zd;(rw[hiv];rfl);exact rfl;exact hiv)|refine zgb ?_|(refine zgh ?_;intro _)|fail)
 rename_i g10
 refine Ye (λi:Nat=>[(11,.int .i64 (i:Nat)),(10,.pointer (some ⟨g10,0,none⟩)),(9,.pointer (some ⟨g9,0,none⟩)),(5,.pointer (some ⟨g5,0,none⟩)),(4,.pointer (some ⟨g4,0,none⟩)),(8,.pointer (some ⟨g8,0,none⟩)),(2,.int .u64 t),(3,.bool last)]) (λi=>nmB g9 (Ybg h initE i)::chB g10 initE::nmB g5 m::chB g4 h::chB g8 (List.replicate 8 0)::[many H]) (λi=>i<=8) (λi=>8-i) 0 (Td _) ?_ ?_ ?_
 ·exact zu
 ·intro w hw
  have h5:St B w0 (nmB g9 (List.replicate 16 0)::chB g10 initE::nmB g5 m::chB g4 h::chB g8 (List.replicate 8 0)::[many H]) w:=by
   revert w
   (intro w hw;refine hw.perm ?_;focus repeat(first|exact Perm.refl _|(apply YaV;focus((repeat(first|exact Yo|apply Yw));done))|apply Perm.dropK))
  exact h5
 intro i hi K hK
 by_cases hlt:i<8
 ·have hcl:=Ye7 h initE i
  have hst:Ybg h initE (i+1)=((Ybg h initE i).set i (h.getD i 0)).set (8+i) (initE.getD i 0):=rfl
  obtain⟨v,hv⟩:∃v,Ybg h initE i=v:=⟨_,rfl⟩
  rw[hv]at hcl hst⊢
  have e3:((i:Nat):Int).toNat=i:=by omega
  have e4:(8+((i:Nat):Int)).toNat=8+i:=by omega
  repeat'(first|(apply YL T;(iterate 4 exact rfl);omega)|(apply YT T (k:=.u32);exact rfl;exact zm;(first|omega|(rw[hiv];omega));exact rfl;exact rfl)|(apply Y5 T;exact rfl;exact rfl;exact zd;(first|omega|(rw[TE];omega));exact rfl)|refine zgc ?_|(refine zge ?_ ?_<;>intro _<;>try exact zo)|fail)
  apply hK (i+1)
  ·exact hlt
  ·omega
  ·exact zu
  ·rw[hst]
   simp only[Ri,RG,e3,e4]
   exact zk
 obtain rfl:i=8:=by omega
 clear hK
 rw[Ym9 hh hiv]
 obtain⟨va,hva⟩:∃va,h++initE=va:=⟨_,rfl⟩
 have hv2:va.length=16:=by rw[<-hva,Tt,hh,hiv]
 rw[hva]
 obtain⟨v0,hv0⟩:∃v0,Wu h t last=v0:=⟨_,rfl⟩
 have hl0:v0.length=16:=by rw[<-hv0];exact Yd6 hh t last
 unfold Wu at hv0
 rw[hva]at hv0
 dsimp only at hv0
 repeat'(first|(apply YL T;(iterate 4 exact rfl);omega)|(apply YT T;exact rfl;exact zm;(first|omega|(rw[TE];omega));exact rfl;exact rfl)|(apply Jc T;(iterate 4 exact rfl))|(apply Yaz;(iterate 3 exact rfl);decide)|(apply JR;(iterate 3 exact rfl))|(apply Y5 T;exact rfl;exact rfl;exact zd;(first|omega|(rw[TE];omega));exact rfl)|refine zgc ?_|(refine zge ?_ ?_<;>intro _<;>try exact zo)|fail)
 refine Zs (λ_:Unit=>[(9,.pointer (some ⟨g9,0,none⟩)),(5,.pointer (some ⟨g5,0,none⟩)),(4,.pointer (some ⟨g4,0,none⟩)),(8,.pointer (some ⟨g8,0,none⟩))]) (λ_=>nmB g9 v0::nmB g5 m::chB g4 h::chB g8 (List.replicate 8 0)::[many H]) ?_ ?_
 ·intro K hK
  cases last with
  |false=>
   rw[Tj (by decide)]at hv0
   repeat'(first|refine zgb ?_|fail)
   apply hK ()
   ·exact zu
   ·rw[<-hv0]
    simp only[Ri,RG,Int.reduceToNat]
    exact zk
  |true=>
   rw[Tn rfl]at hv0
   repeat'(first|(apply YL T;(iterate 4 exact rfl);omega)|(apply YT T;exact rfl;exact zm;(rw[TE,TE];omega);exact rfl;exact rfl)|(apply Ycl;exact rfl;exact rfl)|(apply Y5 T;exact rfl;exact rfl;exact zd;(rw[TE,TE];omega);exact rfl)|refine zga ?_|fail)
   apply hK ()
   ·exact zu
   ·rw[<-hv0]
    simp only[Ri,RG,Int.reduceToNat]
    exact zk
 rintro⟨⟩
 have hco:Jk h m t last=Jw h (Ze m v0 10) 8:=by
  unfold Jk Wu
  rw[hva]
  dsimp only
  rw[hv0]
 rw[hco]
 clear hco hv0 hva hv2
 repeat'(first|refine zga ?_|fail)
 apply Yb YwJ
 exact za
 exact rfl
 exactλ_ hw=>(YgL hw)
 rw[show ordsE.flatten=ordsF from rfl]
 obtain⟨oF,hoF⟩:∃l,ordsF=l:=⟨_,rfl⟩
 rw[hoF]at hof⊢
 have hoA:∀{r k:Nat},r<10->k<16->oF.getD (0+r*16+k*1) 0=ordE r k:=λh1 h2=>by rw[<-hoF];exact Yqd h1 h2
 repeat'(first|(apply YZ T;exact rfl;exact rfl;exact zd;(rw[hof];rfl);exact rfl;exact hof)|refine zgd ?_|(refine zgh ?_;intro _)|fail)
 rename_i g12 g13
 refine Ye (λz:Nat=>[(14,.int .i64 (z:Nat)),(13,.pointer (some ⟨g13,0,none⟩)),(12,.pointer (some ⟨g12,0,none⟩)),(9,.pointer (some ⟨g9,0,none⟩)),(5,.pointer (some ⟨g5,0,none⟩)),(4,.pointer (some ⟨g4,0,none⟩)),(8,.pointer (some ⟨g8,0,none⟩))]) (λz=>numB g13 .i64 laneF 333::numB g12 .i64 oF 331::nmB g9 (Ze m v0 z)::nmB g5 m::chB g4 h::chB g8 (List.replicate 8 0)::[many H]) (λz=>z<=10) (λz=>10-z) 0 (Td _) ?_ ?_ ?_
 ·exact zu
 ·intro w hw
  have h5:St B w0 (numB g13 .i64 laneF 333::numB g12 .i64 oF 331::nmB g9 v0::nmB g5 m::chB g4 h::chB g8 (List.replicate 8 0)::[many H]) w:=hw
  exact h5
 intro i hi K hK
 by_cases hlt:i<10
 ·have hstep:Ze m v0 (i+1)=Jm m (Ze m v0 i) i 8:=rfl
  obtain⟨vi,hvi⟩:∃v,Ze m v0 i=v:=⟨_,rfl⟩
  have hlv:vi.length=16:=by rw[<-hvi,Vn];exact hl0
  rw[hvi]at hstep⊢
  repeat'(first|refine zgb ?_|(refine zge ?_ ?_<;>intro _<;>try exact zo)|fail)
  refine Ye (λz:Nat=>[(15,.int .i64 (z:Nat)),(14,.int .i64 (i:Nat)),(13,.pointer (some ⟨g13,0,none⟩)),(12,.pointer (some ⟨g12,0,none⟩)),(9,.pointer (some ⟨g9,0,none⟩)),(5,.pointer (some ⟨g5,0,none⟩)),(4,.pointer (some ⟨g4,0,none⟩)),(8,.pointer (some ⟨g8,0,none⟩))]) (λz=>numB g13 .i64 laneF 333::numB g12 .i64 oF 331::nmB g9 (Jm m vi i z)::nmB g5 m::chB g4 h::chB g8 (List.replicate 8 0)::[many H]) (λz=>z<=8) (λz=>8-z) 0 (Td _) ?_ ?_ ?_
  ·exact zu
  ·rw[show Jm m vi i 0=vi from rfl]
   exact zk
  intro j hj K2 hK2
  by_cases hlt2:j<8
  rotate_left
  ·clear hK2
   obtain rfl:j=8:=by omega
   repeat'(first|refine zgc ?_|(refine zge ?_ ?_<;>intro _<;>try exact zo)|fail)
   apply hK (i+1)
   ·exact hlt
   ·omega
   ·exact zu
   ·rw[hstep]
    exact zk
  clear hK hstep
  obtain⟨v7,hv7e⟩:∃v,Jm m vi i j=v:=⟨_,rfl⟩
  have hv7:v7.length=16:=by rw[<-hv7e,Ww];exact hlv
  obtain⟨o0,o1,o2,o3,hlan,b0,b1,b2,b3⟩:=Yl2 hlt2
  obtain⟨W,hW⟩:∃W,mixE (v7.getD o0.toNat 0) (v7.getD o1.toNat 0) (v7.getD o2.toNat 0) (v7.getD o3.toNat 0) (m.getD (ordE i (2*j)).toNat 0) (m.getD (ordE i (2*j+1)).toNat 0)=W:=⟨_,rfl⟩
  have hWl:W.length=4:=by rw[<-hW];rfl
  have hstep:Jm m vi i (j+1)=V9 v7 [o0,o1,o2,o3] W 4:=by
   show YfL m (Jm m vi i j) i j=_
   unfold YfL
   rw[hlan,hv7e,<-hW];rfl
  have hsub:=YnD hlt2
  rw[hlan]at hsub
  have e0:((j:Nat):Int).toNat=j:=by omega
  have e1:(2*(j:Int)).toNat=2*j:=by omega
  have e2:(2*(j:Int)+1).toNat=2*j+1:=by omega
  have e3:((i:Nat):Int).toNat=i:=by omega
  have hd1:=YgA hlt (k:=2*j) (by omega)
  have hd2:=YgA hlt (k:=2*j+1) (by omega)
  have q1:oF.getD (0+((i:Nat):Int).toNat*16+(2*(j:Int)).toNat*1) 0=ordE i (2*j):=by rw[e3,e1];exact hoA hlt (by omega)
  have q2:oF.getD (0+((i:Nat):Int).toNat*16+(2*(j:Int)+1).toNat*1) 0=ordE i (2*j+1):=by rw[e3,e2];exact hoA hlt (by omega)
  rw[hv7e]
  repeat'(first|(apply YL T;(iterate 4 exact rfl);omega)|(apply Ybc T (cs:=numA .i64 laneF) (vs:=[Value.int .i64 o0,Value.int .i64 o1,Value.int .i64 o2,Value.int .i64 o3]);exact rfl;exact zm;exact rfl;(rw[e0];exact hsub);exact rfl;exact rfl)|(apply YZ T (l:=[o0,o1,o2,o3]);exact rfl;exact rfl;exact zd;(iterate 3 exact rfl))|refine zgb ?_|(refine zge ?_ ?_<;>intro _<;>try exact zo)|(refine zgh ?_;intro _)|fail)
  rename_i gl
  refine Zs (λgw:Nat=>[(17,.pointer (some ⟨gw,0,none⟩)),(16,.pointer (some ⟨gl,0,none⟩)),(15,.int .i64 (j:Nat)),(14,.int .i64 (i:Nat)),(13,.pointer (some ⟨g13,0,none⟩)),(12,.pointer (some ⟨g12,0,none⟩)),(9,.pointer (some ⟨g9,0,none⟩)),(5,.pointer (some ⟨g5,0,none⟩)),(4,.pointer (some ⟨g4,0,none⟩)),(8,.pointer (some ⟨g8,0,none⟩))]) (λgw=>numB gw .u32 W 327::numB gl .i64 [o0,o1,o2,o3] 325::numB g13 .i64 laneF 333::numB g12 .i64 oF 331::nmB g9 v7::nmB g5 m::chB g4 h::chB g8 (List.replicate 8 0)::[many H]) ?_ ?_
  ·intro K3 hK3
   apply Jb (.n1 0 (.n1 1 (.n1 2 (.n1 3 (.n1 4 (.n1 5 (.n1 6 (.n1 7 (.n1 8 (.n1 9 (.n1 10 (.n1 11 (.n1 12 (.n1 13 (.n1 14 (.n1 15 (.n1 16 (.n1 17 (.n1 18 (.n1 19 (.n1 20 (.n1 21 (.n1 22 (.n1 23 (.n1 24 (.n1 25 (.n1 26 (.n1 27 (.n1 28 (.n1 29 (.n1 30 (.n1 31 (.n1 32 (.n1 33 (.n2 34 (.n1 35 .done) 35 (.n1 34 .done)))))))))))))))))))))))))))))))))))) [36] [true,true,true,true,true,true,true,true]
   kernel_rfl
   kernel_rfl
   exact zy
   (simp only[Yc,nthO];rfl)
   repeat'(first|(apply YL T;(iterate 4 exact rfl);omega)|(apply JQ T (cs:=numA .i64 [o0,o1,o2,o3]);exact rfl;exact zm;(iterate 3 exact rfl))|(apply YT T (k:=.i64) (l:=oF);exact rfl;exact zm;omega;exact rfl;exact rfl;first|rw[q1]|rw[q2])|(apply YT T (k:=.u32);exact rfl;exact zm;omega;exact rfl;exact rfl)|(apply X4 (Ytw _ _ _ _ _ _) YwK;exact za;exact rfl;exactλ_ hw=>YiT _ _ _ _ _ _ hw;rintro _ rfl)|(apply YZ T;exact rfl;exact rfl;exact zd;(iterate 3 exact rfl))|(apply Yh;try exact zl)|apply(zs91 ?_ ?_)|(apply Xf;try exact zl)|refine zgd ?_|(refine zgh ?_;intro _)|fail)
   all_goals(
    rename Nat=>gw
    apply hK3 gw
    ·exact zu
    ·rw[<-hW]
     simp only[Ri,RG,Int.reduceToNat,e1,e2]
     exact zk)
  intro gw
  have hob:∀q<4,0<=[o0,o1,o2,o3].getD q 0/\[o0,o1,o2,o3].getD q 0<16:=by
   intro q hq
   obtain rfl|rfl|rfl|rfl:q=0\/q=1\/q=2\/q=3:=by omega
   ·exact b0
   ·exact b1
   ·exact b2
   ·exact b3
  clear hd1 hd2 hW hsub q1 q2
  obtain⟨ol,hol⟩:∃ol,[o0,o1,o2,o3]=ol:=⟨_,rfl⟩
  have holl:ol.length=4:=by rw[<-hol];rfl
  rw[hol]at hob hstep⊢
  repeat'(first|refine zgb ?_|fail)
  refine Ye (λz:Nat=>[(18,.int .i64 (z:Nat)),(17,.pointer (some ⟨gw,0,none⟩)),(16,.pointer (some ⟨gl,0,none⟩)),(15,.int .i64 (j:Nat)),(14,.int .i64 (i:Nat)),(13,.pointer (some ⟨g13,0,none⟩)),(12,.pointer (some ⟨g12,0,none⟩)),(9,.pointer (some ⟨g9,0,none⟩)),(5,.pointer (some ⟨g5,0,none⟩)),(4,.pointer (some ⟨g4,0,none⟩)),(8,.pointer (some ⟨g8,0,none⟩))]) (λz=>numB gw .u32 W 327::numB gl .i64 ol 325::numB g13 .i64 laneF 333::numB g12 .i64 oF 331::nmB g9 (V9 v7 ol W z)::nmB g5 m::chB g4 h::chB g8 (List.replicate 8 0)::[many H]) (λz=>z<=4) (λz=>4-z) 0 (Td _) ?_ ?_ ?_
  ·exact zu
  ·rw[show V9 v7 ol W 0=v7 from rfl]
   exact zk
  intro q hq K3 hK3
  by_cases hlt3:q<4
  rotate_left
  ·clear hK3
   obtain rfl:q=4:=by omega
   repeat'(first|refine zgc ?_|(refine zge ?_ ?_<;>intro _<;>try exact zo)|fail)
   apply hK2 (j+1)
   ·exact hlt2
   ·omega
   ·exact zu
   ·rw[hstep]
    exact zk
  have hs2:V9 v7 ol W (q+1)=(V9 v7 ol W q).set (ol.getD q 0).toNat (W.getD q 0):=rfl
  obtain⟨v8,hv8e⟩:∃v,V9 v7 ol W q=v:=⟨_,rfl⟩
  have hv8:v8.length=16:=by rw[<-hv8e,OS];exact hv7
  have hbq:=hob q hlt3
  have e4:((q:Nat):Int).toNat=q:=by omega
  have q3:ol.getD (0+((q:Nat):Int).toNat*1) 0=ol.getD q 0:=by rw[e4,Ri,RG]
  obtain⟨x,hx⟩:∃x,ol.getD q 0=x:=⟨_,rfl⟩
  rw[hx]at hbq hs2 q3
  rw[hv8e]at hs2⊢
  repeat'(first|refine zgb ?_|(refine zge ?_ ?_<;>intro _<;>try exact zo)|fail)
  apply YA [0,1,2,3,4,5,6] [7] [true,true,true,true,true,true,true,true,true]
  kernel_rfl
  kernel_rfl
  exact zy
  (simp only[Yc,nthO];rfl)
  (simp only[Yc,nthO];rfl)
  repeat'(first|(apply YL T;(iterate 4 exact rfl);omega)|(apply YT T (k:=.i64) (l:=ol);exact rfl;exact zm;omega;exact rfl;exact rfl;rw[q3])|(apply YT T (k:=.u32);exact rfl;exact zm;omega;exact rfl;exact rfl)|(apply Y5 T;exact rfl;exact rfl;exact zd;omega;exact rfl)|refine zgd ?_|fail)
  apply hK3 (q+1)
  ·exact hlt3
  ·omega
  ·exact zu
  ·rw[hs2]
   simp only[Ri,RG,e4]
   exact zk
 obtain rfl:i=10:=by omega
 clear hK
 obtain⟨v,hv⟩:∃v,Ze m v0 10=v:=⟨_,rfl⟩
 have hvl:v.length=16:=by rw[<-hv,Vn];exact hl0
 rw[hv]
 repeat'(first|refine zgc ?_|(refine zge ?_ ?_<;>intro _<;>try exact zo)|fail)
 refine Ye (λz:Nat=>[(19,.int .i64 (z:Nat)),(9,.pointer (some ⟨g9,0,none⟩)),(4,.pointer (some ⟨g4,0,none⟩)),(8,.pointer (some ⟨g8,0,none⟩))]) (λz=>chB g4 (Jw h v z)::nmB g9 v::chB g8 (List.replicate 8 0)::[many H]) (λz=>z<=8) (λz=>8-z) 0 (Td _) ?_ ?_ ?_
 ·exact zu
 ·rw[show Jw h v 0=h from rfl]
  exact zk
 intro k hk K hK
 have hfl:(Jw h v k).length=8:=(OI h v k).trans hh
 by_cases hlt:k<8
 ·have hs2:Jw h v (k+1)=(Jw h v k).set k (bits .xor .u32 ((Jw h v k).getD k 0) (bits .xor .u32 (v.getD k 0) (v.getD (k+8) 0))):=rfl
  obtain⟨l8,hl8e⟩:∃l,Jw h v k=l:=⟨_,rfl⟩
  have hl8:l8.length=8:=by rw[<-hl8e];exact hfl
  rw[hl8e]at hs2⊢
  have e3:((k:Nat):Int).toNat=k:=by omega
  have e4:(((k:Nat):Int)+8).toNat=k+8:=by omega
  rw[<-Yst]at hs2
  repeat'(first|refine zgb ?_|(refine zge ?_ ?_<;>intro _<;>try exact zo)|fail)
  apply YA [0,1,2,3,4,5,6,7,8,9,10,11,12,13] [14] [true,true,true,true]
  kernel_rfl
  kernel_rfl
  exact zy
  (simp only[Yc,nthO];rfl)
  (simp only[Yc,nthO];rfl)
  repeat'(first|(apply YL T;(iterate 4 exact rfl);omega)|(apply YT T (k:=.u32);exact rfl;exact zm;omega;exact rfl;exact rfl)|(apply JR;(iterate 3 exact rfl))|(apply Y5 T;exact rfl;exact rfl;exact zd;omega;exact rfl)|refine zgd ?_|fail)
  apply hK (k+1)
  ·exact hlt
  ·omega
  ·exact zu
  ·rw[hs2]
   simp only[Ri,RG,e3,e4]
   exact zk
 ·clear hK
  obtain rfl:k=8:=by omega
  repeat'(first|(apply XL T;exact rfl;exact zm;exact rfl;(rw[Xp];exact hfl);exact rfl)|(apply YZ T;exact rfl;exact rfl;exact zd;(rw[Xp,hfl];rfl);exact rfl;exact hfl)|refine zgc ?_|(refine zge ?_ ?_<;>intro _<;>try exact zo)|fail)
  apply ZA T (H2:=H);exact rfl;exact rfl;exact zm;exact rfl;(rw[Xp];exact hfl)
  ·intro w hw
   have h5:St B w0 [many H] w:=by
    revert w
    exact zk
   exact h5.perm (.openT H)
  exact⟨rfl,rfl⟩
end Go.Proofs.YtjommdkgfbhbdaaGreatDoor
