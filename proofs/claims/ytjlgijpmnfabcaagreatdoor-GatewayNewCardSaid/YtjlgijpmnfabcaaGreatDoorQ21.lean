/- Lemmas. -/
import Derived.Test.YtjlgijpmnfabcaaGreatDoorQ19
import Derived.Test.YtjlgijpmnfabcaaGreatDoorQ20
set_option maxRecDepth 100000
set_option maxHeartbeats 8000000
set_option linter.all false
namespace Go.Proofs.YtjlgijpmnfabcaaGreatDoor
open Go.RowKit Go.Eng Go.Nw Go.Rt
abbrev zerG(g:Nat):HP:=blk g (.cells (Value.agg #[.int .i64 0,.slice none 0 0,.int .i64 0,.int .i64 0,.slice none 0 0,.slice none 0 0,.slice none 0 0,.int .i64 0,.int .i64 0,.slice none 0 0,.slice none 0 0,.slice none 0 0,.slice none 0 0,.slice none 0 0]).cells 54 (0,0))
theorem YiU{α:Type}(L:List α)(k:Nat)(x:α)(h:k<=L.length):(XS L k x).length=L.length+1:=by
 unfold XS;rw[Tq,TS,TJ,Rh];omega
theorem Ox(g:GwM)(l:Lop){S:Spl->Prop}{G:Nat->Pln->Prop}(hG:ExtG S G l)(h0:chkG g.gw=0->G 0 g.p.pln)(hS:hasL g.l l.1=false->∀(k:Nat) s,(Zs l)[k]? =some s->(∀(j:Nat) t,j<k->(Zs l)[j]? =some t->Wg g.p.pln l t=none)->S s){B:Nat}{w0:World}{H:List HP}{w:World}(ht:TabsB B w0)(hg:g.In B w0 H)(hw:St B w0 H w):
 CX B w0 52 [g.val,lopV l] w (Qd B w0 H (admG g.gw l)):=by
 refine Yc Tryz.func52 Tryz.ntmps52 rfl rfl hw ?_
 have hop:∀w,St B w0 [many H] w->St B w0 H w:=λw hw=>hw.perm (.openT H)
 have hgM:∀{H':List HP},many H∈H'->g.In B w0 H':=λhm=>hg.mono λw hw=>hw.inM hm
 have p1:=λ{H':List HP}{w:World}(hg:g.In B w0 H') (hw:St B w0 H' w)=>Jh g ht hg hw
 unfold GwM.val at p1
 unfold GwM.val lopV
 refine YW [many H] (λw hw=>hw.perm (.closeT H)) ?_
 have hgo:=λh:chkG g.gw=0=>Ybw.1 h
 unfold admG
 obtain⟨e,he⟩:∃e,chkG g.gw=e:=⟨_,rfl⟩
 rw[he]at p1 h0 hgo⊢
 by_cases he0:e=0
 rotate_left
 ·rw[Tm he0]
  repeat'(first|((first|apply Ya en23|apply Yb en23);exact za;exact rfl;exactλ_ hw=>(p1 (hgM zm) hw))|refine zgd ?_|(refine zge ?_ ?_<;>intro _<;>try exact zo)|(refine zgh ?_;intro _)|fail)
  apply Yp T (H2:=H);(iterate 3 exact rfl);exact zm;exact rfl;exact rfl
  ·intro w hw
   have h5:St B w0 [many H] w:=by
    revert w
    exact zk
   exact hop w h5
  exact .inl ⟨rfl,rfl,rfl⟩
 rw[Tf (λe=>e he0)]
 subst he0
 have hok:=hgo rfl
 have h0:=h0 rfl
 clear he hgo
 obtain⟨hn,h8,hfit,hpw⟩:=Uu.1 hok.l
 have hl8:g.l.length<=8:=h8
 have hs8:g.s.length=g.l.length:=hok.len
 have hkp:posL g.l l.1<=g.l.length:=Yrf g.l l.1
 rw[show g.gw.l=g.l from rfl,show g.gw.s=g.s from rfl,show g.gw.p=g.p.pln from rfl,show g.p.pln.n.nodes=g.p.n.nodes from rfl]
 have p2:=λ{H':List HP}{w:World}(hg:g.In B w0 H') (hw:St B w0 H' w)=>O2 g.l l.1 hpw (by omega) (cap:=g.lcap) hg.l hw
 obtain⟨hb,hhb⟩:∃b,hasL g.l l.1=b:=⟨_,rfl⟩
 obtain⟨k,hk⟩:∃k,posL g.l l.1=k:=⟨_,rfl⟩
 rw[hhb,hk]at p2
 rw[hhb,hk]
 rw[hk]at hkp
 cases hb with
 |true=>
  rw[Tm rfl]
  repeat'(first|(apply Ye T;exact rfl;exact zm;exact rfl;exact zv;exact rfl;exact rfl)|((first|apply Ya en23|apply Yb en23);exact za;exact rfl;exactλ_ hw=>(p1 (hgM zm) hw))|((first|apply Ya en74|apply Yb en74);exact za;exact rfl;exactλ_ hw=>(p2 (hgM zm) hw))|refine zgd ?_|(refine zge ?_ ?_<;>intro _<;>try exact zo)|(refine zgh ?_;intro _)|fail)
  apply Yp T (H2:=H);(iterate 3 exact rfl);exact zm;exact rfl;exact rfl
  ·intro w hw
   have h5:St B w0 [many H] w:=by
    revert w
    exact zk
   exact hop w h5
  exact .inl ⟨rfl,rfl,rfl⟩
 |false=>
 rw[Tf (by decide)]
 have p3:=λ{H':List HP}{w:World}(hg:g.In B w0 H') (hw:St B w0 H' w)=>YiS g.l k l hkp (by omega) hg.lc hg.l hw
 obtain⟨W,hW⟩:∃W,XS g.l k l=W:=⟨_,rfl⟩
 have hWl:W.length=g.l.length+1:=by rw[<-hW];exact YiU _ _ _ hkp
 rw[hW]at p3⊢
 unfold lopV at p3
 have p4:=λ{A:Option Addr}{cap:Nat}{H':List HP}{w:World}(hr:Rd B w0 H' A (W.flatMap lopF)) (hw:St B w0 H' w)=>WL g.p.n.nodes W (by omega) (cap:=cap) hr hw
 have hlo:=@Uu g.p.n.nodes W
 obtain⟨⟨li,le⟩,hL⟩:∃R,XD g.p.n.nodes W=R:=⟨_,rfl⟩
 rw[hL]at p4 hlo⊢
 dsimp only at p4 hlo⊢
 by_cases hle:le=0
 rotate_left
 ·rw[Tm hle]
  repeat'(first|(apply Ye T;exact rfl;exact zm;exact rfl;exact zv;exact rfl;exact rfl)|((first|apply Ya en23|apply Yb en23);exact za;exact rfl;exactλ_ hw=>(p1 (hgM zm) hw))|((first|apply Ya en74|apply Yb en74);exact za;exact rfl;exactλ_ hw=>(p2 (hgM zm) hw))|refine zgc ?_|(refine zge ?_ ?_<;>intro _<;>try exact zo)|(refine zgh ?_;intro _)|fail)
  apply Yi _ YrB
  exact za
  exact rfl
  exactλ_ hw=>(p3 (hgM zm) (hw))
  rintro _ _ ⟨A1,c1,rfl,hc1,rfl⟩
  repeat'(first|(apply Ye T;exact rfl;exact zm;exact rfl;exact zv;exact rfl;exact rfl)|((first|apply Ya en57|apply Yb en57);exact za;exact rfl;exactλ_ hw=>(p4 (Rd.sl zm) hw))|refine zgd ?_|(refine zge ?_ ?_<;>intro _<;>try exact zo)|fail)
  apply Yp T (H2:=H);(iterate 3 exact rfl);exact zm;exact rfl;exact rfl
  ·intro w hw
   have h5:St B w0 [many H] w:=by
    revert w
    exact zk
   exact hop w h5
  exact .inl ⟨rfl,rfl,rfl⟩
 rw[Tf (λe=>e hle)]
 subst hle
 have h32:lopE 32 l=0:=YvS ((hlo.1 rfl).2.2.1 l (by rw[<-hW];unfold XS;simp)) hn.2
 have p5:=λ{H':List HP}{w:World}(hw:St B w0 H' w)=>Yf2 l hw
 have hse:YiG l=Zs l:=by unfold YiG;rw[Tf (λe=>e h32)]
 rw[hse,h32]at p5
 unfold lopV at p5
 have hfits:∀s∈Zs l,Xf l s=0:=λs hs=>Ykj h32 hs
 have hspl:(Zs l).length<=1000:=by
  have h1:=(ZY h32).2.1
  unfold Zs sumS
  rw[Tu,List.length_range]
  omega
 obtain⟨L,hLs⟩:∃L,Zs l=L:=⟨_,rfl⟩
 have hS:=hS hhb
 rw[hLs]at hS
 rw[hLs]at p5 hfits hspl⊢
 repeat'(first|(apply Ye T;exact rfl;exact zm;exact rfl;exact zv;exact rfl;exact rfl)|((first|apply Ya en23|apply Yb en23);exact za;exact rfl;exactλ_ hw=>(p1 (hgM zm) hw))|((first|apply Ya en74|apply Yb en74);exact za;exact rfl;exactλ_ hw=>(p2 (hgM zm) hw))|refine zgc ?_|(refine zge ?_ ?_<;>intro _<;>try exact zo)|(refine zgh ?_;intro _)|fail)
 rename_i gg gl gz _
 apply Yi _ YrB
 exact za
 exact rfl
 exactλ_ hw=>(p3 (hgM zm) (hw))
 rintro _ _ ⟨A1,c1,rfl,hc1,rfl⟩
 repeat'(first|(apply Ye T;exact rfl;exact zm;exact rfl;exact zv;exact rfl;exact rfl)|((first|apply Ya en57|apply Yb en57);exact za;exact rfl;exactλ_ hw=>(p4 (Rd.sl zm) hw))|refine zgc ?_|(refine zge ?_ ?_<;>intro _<;>try exact zo)|fail)
 apply Yi _ YuI
 exact za
 exact rfl
 exactλ_ hw=>(p5 (hw))
 rintro _ _ ⟨A2,c2,rfl,rfl⟩
 by_cases hL0:L=[]
 ·rw[Tm hL0]
  have hLz:L.length=0:=by rw[hL0];rfl
  repeat'(first|refine zgd ?_|(refine zge ?_ ?_<;>intro _<;>try exact zo)|fail)
  apply Yp T (H2:=H);(iterate 3 exact rfl);exact zm;exact rfl;exact rfl
  ·intro w hw
   have h5:St B w0 [many H] w:=by
    revert w
    exact zk
   exact hop w h5
  exact .inl ⟨rfl,rfl,rfl⟩
 rw[Tf hL0]
 have hLp:0<L.length:=Nc.2 hL0
 have p6:=λ(k':Nat) (s:Spl) {H':List HP}{w:World}(hg:g.In B w0 H') (hw:St B w0 H' w)=>YiT g.s k s (by omega) (by omega) hg.sc hg.s hw
 unfold splV at p6
 repeat'(first|(apply zg29;(apply Ys;exact za;exact rfl))|refine zgc ?_|(refine zge ?_ ?_<;>intro _<;>try exact zo)|(refine zgh ?_;intro _)|fail)
 rename Nat=>gp
 apply Zz (zerB gp::lopA gl l::gwyA gg g::spls A2 c2 L::lops A1 c1 W::zerG gz::[many H])
 ·intro w hw
  have h5:St B w0 (zerA gp::lopA gl l::gwyA gg g::spls A2 c2 L::lops A1 c1 W::zerG gz::[many H]) w:=by
   revert w
   exact zk
  exact h5
 apply X6 [zerB gp,lopA gl l,gwyA gg g] _ YuL
 exact za
 try exact zl
 exact zp
 exact rfl
 exactλ_ hw=>(YhH g l L gl gg gp hG h0 hS hfits (by omega) ht (hgM zm).p (Rd.sl zm) hw)
 rintro _ _ hO
 rcases hO with⟨hb,rfl,rfl⟩|⟨j,s,q,X,hjs,hb,rfl,hq,rfl⟩
 ·rw[hb]
  repeat'(first|refine zgd ?_|(refine zge ?_ ?_<;>intro _<;>try exact zo)|fail)
  apply Yp T (H2:=H);(iterate 3 exact rfl);exact zm;exact rfl;exact rfl
  ·intro w hw
   have h5:St B w0 [many H] w:=by
    revert w
    exact zk
   exact hop w h5
  exact .inl ⟨rfl,rfl,rfl⟩
 ·rw[hb]
  have p7:=λ{H':List HP}{w:World}(hg:g.In B w0 H') (hw:St B w0 H' w)=>p6 j s hg hw
  clear p6
  have hjl:=(Tn.1 hjs).1
  have hWS:(XS g.s k s).length=g.s.length+1:=YiU _ _ _ (by omega)
  obtain⟨WS,hW0⟩:∃WS,XS g.s k s=WS:=⟨_,rfl⟩
  rw[hW0]at hWS p7
  repeat'(first|(apply Ye T;exact rfl;exact zm;exact rfl;exact zv;exact rfl;exact rfl)|refine zga ?_|(refine zge ?_ ?_<;>intro _<;>try exact zo)|fail)
  apply YG [0,1,2,3,4,5,6,7,8,9,10,11,12] [] [true,true,true,true,true,true,false,true]
  kernel_rfl
  kernel_rfl
  exact zy
  (simp only[Yh,nthO];rfl)
  exact rfl
  repeat'(first|(apply Ye T;exact rfl;exact zm;exact rfl;exact zv;exact rfl;exact rfl)|refine zgd ?_|fail)
  apply Yi _ YuM
  exact za
  exact rfl
  exactλ_ hw=>(p7 (hgM zm) (hw))
  rintro _ _ ⟨A3,c3,rfl,hc3,rfl⟩
  repeat'(first|(apply Ye T;exact rfl;exact zm;exact rfl;exact zv;exact rfl;exact rfl)|(apply Yj;try exact zl)|refine zgd ?_|fail)
  apply Yp T (H2:=many [many X,lops A1 c1 W,spls A3 c3 WS]::H);(iterate 3 exact rfl);exact zm;exact rfl;exact rfl
  ·intro w hw
   have h5:St B w0 (many X::lops A1 c1 W::spls A3 c3 WS::[many H]) w:=by
    revert w
    exact zk
   exact(h5.perm (.cons _ (.cons _ (.cons _ (.openT H))))).perm (.close [_,_,_] H)
  have hin:GwM.In B w0 [many X,lops A1 c1 W,spls A3 c3 WS] ⟨q,A1,c1,W,A3,c3,WS⟩:=⟨hq.inX (.head _),Rd.sl (.tail _ (.head _)),Rd.sl (.tail _ (.tail _ (.head _))),by show W.length<=_;omega,by show WS.length<=_;omega,hc1,hc3⟩
  exact .inr ⟨⟨q,A1,c1,W,A3,c3,WS⟩,_,by rw[<-hW0];rfl,rfl,hin.mono λw hw=>hw.perm (.open_ [_,_,_] []),rfl⟩
end Go.Proofs.YtjlgijpmnfabcaaGreatDoor
namespace Go.Rt
open Go.Nw
def Yjo(nodes:Nat)(l:List Lk)(to:Int)(far:List Int):Bool:=
 decide (far.length=nodes)&&decide (Yl far to=0)&&((List.range nodes).all λv:Nat=>decide (0<=Yl far v/\Yl far v<=Xo))&&
 ((List.range nodes).all λv:Nat=>decide ((v:Int)=to)||decide (¬Yl far v<Xo)||l.any λa=>decide (a.1=v/\Yl far a.2.1+a.2.2<=Yl far v))&&
 l.all λa=>decide (¬Yl far a.2.1<Xo)||decide (Yl far a.1<=Yl far a.2.1+a.2.2)
variable {l:List Lk}{to:Int}{far:List Int}
theorem Yml{nodes:Nat}(h:Yjo nodes l to far=true):Dist nodes l to far:=by
 unfold Yjo at h
 simp only[Tt,Rf,RU,To,TZ,Ro]at h
 obtain⟨⟨⟨⟨h1,h2⟩,h3⟩,h4⟩,h5⟩:=h
 refine⟨h1,h2,λv h0 hn=>?_,λv h0 hn hne hlt=>?_,λa ha hlt=>?_⟩
 ·have:=h3 v.toNat (by omega)
  grind
 ·have:=h4 v.toNat (by omega)
  grind
 grind
def YnZ(nodes:Nat)(l:List Lk):Bool:=l.all λa=>decide ((0<=a.1/\a.1<nodes)/\(0<=a.2.1/\a.2.1<nodes)/\(1<=a.2.2/\a.2.2<=1000000))
theorem Yl9{nodes:Nat}(h:YnZ nodes l=true):ArcsOk nodes l:=λa ha=>by
 have:=Rf.1 h a ha
 simp_all
theorem Ycc{nodes:Nat}(h1:YnZ nodes l=true)(h:Yjo nodes l to far=true):J8 nodes l to=far:=Qs (Yl9 h1) (Yml h)
end Go.Rt
namespace Go.Proofs.YtjlgijpmnfabcaaGreatDoor
open Go.RowKit Go.Eng Go.Nw Go.Rt
def exA5:List Lk:=[(0,1,1),(1,0,1)]
variable {B:Nat}{w0 w:World}{H:List HP}
theorem Yc8(a lo hi:Int)(hw:St B w0 H w):
 CX B w0 214 [.int .i64 a,.int .i64 lo,.int .i64 hi] w λv K=>v=.bool (decide (lo<=a/\a<=hi))/\K=H:=by
 refine Yc Tryz.func214 Tryz.ntmps214 rfl rfl hw ?_
 repeat'(first|refine zgc ?_|(refine zgf ?_ ?_<;>intro _<;>try exact zo)|fail)
 ·apply Yd;exact rfl;exact rfl
  exact⟨by rw[Ti (by omega)],rfl⟩
 all_goals(apply Yd;exact rfl;exact rfl;exact⟨by rw[Tj (by omega)],rfl⟩)
theorem Yj6(a lo hi:Int)(hw:St B w0 H w):
 CX B w0 216 [.int .i64 a,.int .i64 lo,.int .i64 hi] w λv K=>v=.bool (decide (lo<=a/\a<=hi))/\K=H:=by
 refine Yc Tryz.func216 Tryz.ntmps216 rfl rfl hw ?_
 repeat'(first|refine zgc ?_|(refine zgf ?_ ?_<;>intro _<;>try exact zo)|fail)
 ·apply Yd;exact rfl;exact rfl
  exact⟨by rw[Ti (by omega)],rfl⟩
 all_goals(apply Yd;exact rfl;exact rfl;exact⟨by rw[Tj (by omega)],rfl⟩)
theorem Ygk(n:NetM)(len off:Int)(hin:n.In B w0 H)(hw:St B w0 H w):
 CX B w0 120 [n.val,.slice none 0 0,.int .i64 len,.int .i64 off] w λv K=>v=.int .i64 (newP n.net len off).2/\K=H:=by
 refine Yc Tryz.func120 Tryz.ntmps120 rfl rfl hw ?_
 have hop:∀w,St B w0 [many H] w->St B w0 H w:=λw hw=>hw.perm (.openT H)
 have hinM:∀{H':List HP},many H∈H'->n.In B w0 H':=λhm=>hin.mono λw hw=>hw.inM hm
 have p1:=λ{H':List HP}{w:World}(hin:n.In B w0 H') (hw:St B w0 H' w)=>ZE n hin hw
 have p2:=λ{H':List HP}{w:World}(hw:St B w0 H' w)=>ZL n.nodes [] (Tc _) (A:=none) (cap:=0) Rd.nil hw
 obtain⟨⟨fi,fe⟩,hF⟩:∃R,YA n.nodes []=R:=⟨_,rfl⟩
 rw[hF]at p2
 dsimp only at p2
 unfold newP
 unfold NetM.val at p1⊢
 refine YW [many H] (λw hw=>hw.perm (.closeT H)) ?_
 by_cases hck:Ym n.net=0
 rotate_left
 ·rw[Tm hck]
  repeat'(first|(apply Ye T;exact rfl;exact zm;exact rfl;exact zv;exact rfl;exact rfl)|((first|apply Ya Jy|apply Yb Jy);exact za;exact rfl;exactλ_ hw=>(p2 hw))|((first|apply Ya Xy|apply Yb Xy);exact za;exact rfl;exactλ_ hw=>(p1 (hinM zm) hw))|refine zgc ?_|(refine zge ?_ ?_<;>intro _<;>try exact zo)|(refine zgh ?_;intro _)|fail)
  all_goals(
   apply Yg H
   ·intro w hw
    have h5:St B w0 [many H] w:=by
     revert w
     exact zk
    exact hop w h5
   apply Yd;exact rfl;exact rfl;exact⟨rfl,rfl⟩)
 rw[Tf (λe=>e hck)]
 have hF2:((fi,fe):Int×Int)=(-1,0):=hF.symm.trans (JK hck)
 obtain⟨rfl,rfl⟩:=Nx hF2
 rw[hck]at p1
 by_cases hr:len<1\/512<len\/off<1\/16<off
 ·rw[Tm hr]
  repeat'(first|(apply Ye T;exact rfl;exact zm;exact rfl;exact zv;exact rfl;exact rfl)|((first|apply Ya Jy|apply Yb Jy);exact za;exact rfl;exactλ_ hw=>(p2 hw))|((first|apply Ya Xy|apply Yb Xy);exact za;exact rfl;exactλ_ hw=>(p1 (hinM zm) hw))|((first|apply Yx YkY|apply Yw YkY);exact za;exact rfl;exactλ_ hw=>(Yc8 _ _ _ hw);all_goals(intro hB;(try simp only[To,Tv]at hB);try exact zo))|refine zgd ?_|(refine zge ?_ ?_<;>intro _<;>try exact zo)|(refine zgh ?_;intro _)|fail)
  all_goals(
   apply Yg H
   ·intro w hw
    have h5:St B w0 [many H] w:=by
     revert w
     exact zk
    exact hop w h5
   apply Yd;exact rfl;exact rfl;exact⟨rfl,rfl⟩)
 rw[Tf hr]
 repeat'(first|(apply Ye T;exact rfl;exact zm;exact rfl;exact zv;exact rfl;exact rfl)|((first|apply Ya Jy|apply Yb Jy);exact za;exact rfl;exactλ_ hw=>(p2 hw))|((first|apply Ya Xy|apply Yb Xy);exact za;exact rfl;exactλ_ hw=>(p1 (hinM zm) hw))|((first|apply Yx YkY|apply Yw YkY);exact za;exact rfl;exactλ_ hw=>(Yc8 _ _ _ hw);all_goals(intro hB;(try simp only[To,Tv]at hB);try exact zo))|refine zgd ?_|(refine zge ?_ ?_<;>intro _<;>try exact zo)|(refine zgh ?_;intro _)|fail)
 refine Yf (λ_:Unit=>[(11,.int .i64 0),(1,.slice none 0 0)]) (λ_=>[many H]) (λ_=>True) (λ_=>0) () trivial ?_ ?_ ?_
 ·exact zu
 ·exact zk
 rintro⟨⟩-K hK
 clear hK
 repeat'(first|refine zgc ?_|(refine zge ?_ ?_<;>intro _<;>try exact zo)|fail)
 apply Yg H
 ·intro w hw
  exact hop w hw
 apply Yd;exact rfl;exact rfl;exact⟨rfl,rfl⟩
theorem Yd4(n:NetM)(hck:Ym n.net=0)(hin:n.In B w0 H)(hw:St B w0 H w):
 CX B w0 121 [n.val,.slice none 0 0] w λv K=>(∃A,v=.tuple #[.slice A 0 0,.int .i64 (-1),.int .i64 0])/\K=H:=by
 refine Yc Tryz.func121 Tryz.ntmps121 rfl rfl hw ?_
 have hop:∀w,St B w0 [many H] w->St B w0 H w:=λw hw=>hw.perm (.openT H)
 have hinM:∀{H':List HP},many H∈H'->n.In B w0 H':=λhm=>hin.mono λw hw=>hw.inM hm
 have p1:=λ{H':List HP}{w:World}(hin:n.In B w0 H') (hw:St B w0 H' w)=>ZE n hin hw
 have p2:=λ{H':List HP}{w:World}(hw:St B w0 H' w)=>ZL n.nodes [] (Tc _) (A:=none) (cap:=0) Rd.nil hw
 rw[hck]at p1
 rw[show YA n.nodes []=(-1,0) from JK hck]at p2
 unfold NetM.val at p1⊢
 refine YW [many H] (λw hw=>hw.perm (.closeT H)) ?_
 repeat'(first|(apply Ye T;exact rfl;exact zm;exact rfl;exact zv;exact rfl;exact rfl)|((first|apply Ya Jy|apply Yb Jy);exact za;exact rfl;exactλ_ hw=>(p2 hw))|((first|apply Ya Xy|apply Yb Xy);exact za;exact rfl;exactλ_ hw=>(p1 (hinM zm) hw))|(apply Yr T;exact rfl;exact rfl;intro g2)|refine zgc ?_|(refine zge ?_ ?_<;>intro _<;>try exact zo)|(refine zgh ?_;intro _)|fail)
 rename_i g2
 refine Yf (λ_:Unit=>[(10,.int .i64 0),(1,.slice none 0 0),(9,.slice (some ⟨g2,0,none⟩) 0 0)]) (λ_=>[many H]) (λ_=>True) (λ_=>0) () trivial ?_ ?_ ?_
 ·exact zu
 ·exact zk
 rintro⟨⟩-K hK
 clear hK
 repeat'(first|refine zgc ?_|(refine zge ?_ ?_<;>intro _<;>try exact zo)|fail)
 apply Yg H
 ·intro w hw
  exact hop w hw
 apply ZK;(iterate 4 exact rfl);exact⟨⟨_,rfl⟩,rfl⟩
theorem Yj1(n:NetM)(hck:Ym n.net=0)(len off:Int)(hs:1<=len/\len<=512/\1<=off/\off<=16)(A:Option Addr)(hin:n.In B w0 H)(hw:St B w0 H w):
 CX B w0 122 [n.val,.slice A 0 0,.int .i64 len,.int .i64 off] w λv K=>(∃A2,v=.tuple #[.agg #[.int .i64 len,.int .i64 off,.slice none 0 0],.slice A2 0 0,.int .i64 0])/\K=H:=by
 refine Yc Tryz.func122 Tryz.ntmps122 rfl rfl hw ?_
 have hop:∀w,St B w0 [many H] w->St B w0 H w:=λw hw=>hw.perm (.openT H)
 have hinM:∀{H':List HP},many H∈H'->n.In B w0 H':=λhm=>hin.mono λw hw=>hw.inM hm
 have p1:=λ{H':List HP}{w:World}(hin:n.In B w0 H') (hw:St B w0 H' w)=>Ub n [] (A:=A) (cap:=0) hin ⟨Rd.nil,λx h=>(by cases h),Tc _⟩ hw
 rw[RY,Yf4 hck]at p1
 unfold NetM.val at p1⊢
 refine YW [many H] (λw hw=>hw.perm (.closeT H)) ?_
 repeat'(first|(apply Ye T;exact rfl;exact zm;exact rfl;exact zv;exact rfl;exact rfl)|((first|apply Ya Wi|apply Yb Wi);exact za;exact rfl;exactλ_ hw=>(p1 (hinM zm) hw))|((first|apply Yx Yr6|apply Yw Yr6);exact za;exact rfl;exactλ_ hw=>(Yj6 _ _ _ hw);all_goals(intro hB;(try simp only[To,Tv]at hB);try exact zo))|refine zgd ?_|(refine zge ?_ ?_<;>intro _<;>try exact zo)|(refine zgh ?_;intro _)|fail)
 rename Nat=>g8
 refine Yf (λ_:Unit=>[(13,.int .i64 0),(1,.slice A 0 0),(2,.int .i64 len),(3,.int .i64 off),(8,.pointer (some ⟨g8,0,none⟩))]) (λ_=>[blk g8 (.cells #[.int .i64 0,.int .i64 0,.slice none 0 0] 30 (0,0)),many H]) (λ_=>True) (λ_=>0) () trivial ?_ ?_ ?_
 ·exact zu
 ·intro w hw
  have h5:St B w0 [blk g8 (.cells (Value.agg #[.int .i64 0,.int .i64 0,.slice none 0 0]).cells 30 (0,0)),many H] w:=by
   revert w
   exact zk
  exact h5
 rintro⟨⟩-K hK
 clear hK
 repeat'(first|(apply Yr T;exact rfl;exact rfl;intro g2)|refine zgd ?_|(refine zge ?_ ?_<;>intro _<;>try exact zo)|(refine zgh ?_;intro _)|fail)
 rename_i g14 g15
 refine Yf (λ_:Unit=>[(17,.int .i64 0),(1,.slice A 0 0),(14,.pointer (some ⟨g14,0,none⟩)),(16,.slice (some ⟨g2,0,none⟩) 0 0),(8,.pointer (some ⟨g8,0,none⟩))]) (λ_=>[blk g14 (.cells #[.int .i64 len,.int .i64 off,.slice none 0 0] 30 (0,0)),blk g8 (.cells #[.int .i64 0,.int .i64 0,.slice none 0 0] 30 (0,0)),many H]) (λ_=>True) (λ_=>0) () trivial ?_ ?_ ?_
 ·exact zu
 ·exact zk
 rintro⟨⟩-K hK
 clear hK
 repeat'(first|refine zgc ?_|(refine zge ?_ ?_<;>intro _<;>try exact zo)|fail)
 apply Yeh T (H2:=H);(iterate 4 exact rfl);exact zm;exact rfl;exact rfl
 ·intro w hw
  have h5:St B w0 [many H] w:=by
   revert w
   exact zk
  exact hop w h5
 exact⟨⟨_,rfl⟩,rfl⟩
theorem Yiu(n:NetM)(hck:Ym n.net=0)(len off:Int)(hs:1<=len/\len<=512/\1<=off/\off<=16)(A:Option Addr)(hin:n.In B w0 H)(hw:St B w0 H w):
 CX B w0 125 [n.val,.slice A 0 0,.agg #[.int .i64 len,.int .i64 off,.slice none 0 0]] w λv K=>v=.tuple #[.agg #[.int .i64 len,.int .i64 off,.slice none 0 0],.int .i64 0]/\K=H:=by
 refine Yc Tryz.func125 Tryz.ntmps125 rfl rfl hw ?_
 have hop:∀w,St B w0 [many H] w->St B w0 H w:=λw hw=>hw.perm (.openT H)
 have hinM:∀{H':List HP},many H∈H'->n.In B w0 H':=λhm=>hin.mono λw hw=>hw.inM hm
 have p1:=λ{H':List HP}{w:World}(hin:n.In B w0 H') (hw:St B w0 H' w)=>Ygm n [] ⟨len,off,none,0,[]⟩ (A:=A) (cap:=0) hin ⟨Rd.nil,λx h=>(by cases h),Tc _⟩ Rd.nil (Tc _) hw
 rw[RY,show(⟨len,off,none,0,[]⟩:SchM).sch=mt len off from rfl,Ux hck hs]at p1
 unfold NetM.val SchM.val at p1
 unfold NetM.val
 refine YW [many H] (λw hw=>hw.perm (.closeT H)) ?_
 repeat'(first|refine zgb ?_|(refine zgh ?_;intro _)|fail)
 rename_i g3 g5 g6
 first|apply Ya Yr7|apply Yb Yr7
 exact za
 exact rfl
 exactλ_ hw=>(p1 (hinM zm) hw)
 repeat'(first|(apply Ye T;exact rfl;exact zm;exact rfl;exact zv;exact rfl;exact rfl)|refine zgd ?_|(refine zgh ?_;intro _)|fail)
 rename_i g8
 refine Yf (λ_:Unit=>[(9,.int .i64 0),(8,.pointer (some ⟨g8,0,none⟩)),(6,.pointer (some ⟨g6,0,none⟩)),(5,.pointer (some ⟨g5,0,none⟩))]) (λ_=>[blk g8 (.cells #[.int .i64 len,.int .i64 off,.slice none 0 0] 30 (0,0)),blk g6 (.cells #[.int .i64 0,.int .i64 0,.slice none 0 0] 30 (0,0)),blk g5 (.cells #[.int .i64 len,.int .i64 off,.slice none 0 0] 30 (0,0)),many H]) (λ_=>True) (λ_=>0) () trivial ?_ ?_ ?_
 ·exact zu
 ·intro w hw
  have h5:St B w0 [blk g8 (.cells #[.int .i64 len,.int .i64 off,.slice none 0 0] 30 (0,0)),blk g6 (.cells (Value.agg #[.int .i64 0,.int .i64 0,.slice none 0 0]).cells 30 (0,0)),blk g5 (.cells #[.int .i64 len,.int .i64 off,.slice none 0 0] 30 (0,0)),many H] w:=by
   revert w
   exact zk
  exact h5
 rintro⟨⟩-K hK
 clear hK
 repeat'(first|(apply Ye T;exact rfl;exact zm;exact rfl;exact zv;exact rfl;exact rfl)|refine zgc ?_|(refine zge ?_ ?_<;>intro _<;>try exact zo)|fail)
 apply Yp T (H2:=H);(iterate 3 exact rfl);exact zm;exact rfl;exact rfl
 ·intro w hw
  have h5:St B w0 [many H] w:=by
   revert w
   exact zk
  exact hop w h5
 exact⟨rfl,rfl⟩
theorem Ym4{rs rs':List RowM}(h:rs.map (·.xs)=rs'.map (·.xs)):rs.length=rs'.length:=by simpa using TD List.length h
variable {B:Nat}{w0 w:World}{H:List HP}
theorem Yfh(l m:List Int)(h:l=m)(hlen:l.length<=9223372036854775807){A A2:Option Addr}{cap cap2:Nat}(hr:Rd B w0 H A (l.flatMap numF))(hr2:Rd B w0 H A2 (m.flatMap numF))(hw:St B w0 H w):
 CX B w0 110 [.slice A l.length cap,.slice A2 m.length cap2] w λu K=>u=.bool true/\K=H:=by
 refine Yc Tryz.func110 Tryz.ntmps110 rfl rfl hw ?_
 subst h
 refine zX3 ?_<;>intros
 refine Yf (λ(k:Nat)=>[(5,.int .i64 k),(0,.slice A l.length cap),(1,.slice A2 l.length cap2)]) (λ_=>H) (λk=>k<=l.length) (λk=>l.length-k) 0 (Tc _) ?_ (λw hw=>hw) ?_
 ·exact zc1
 rintro k hk K hK
 by_cases hlt:k<l.length
 ·obtain⟨a,ha⟩:∃a,l[k]? =some a:=⟨_,Ta hlt⟩
  refine zX0 ?_<;>intros
  apply hK (k+1)
  ·omega
  ·omega
  ·exact zc1
  exact zc20
 ·refine zX1 ?_<;>intros
  exact zc13
theorem Ykd(n m:NetM)(h:n.net=m.net)(hin:n.In B w0 H)(hin2:m.In B w0 H)(hw:St B w0 H w):
 CX B w0 127 [n.val,m.val] w λu K=>u=.bool true/\K=H:=by
 refine Yc Tryz.func127 Tryz.ntmps127 rfl rfl hw ?_
 obtain⟨hpw,hrw,hlk,hmg,hs1,hs2,hs3,hs4⟩:=id hin
 obtain⟨hpw',hrw',hlk',hmg',hs1',hs2',hs3',hs4'⟩:=id hin2
 simp only[NetM.net,Net.mk.injEq]at h
 obtain⟨e1,e2,e3,e4,e5,e6⟩:=h
 have e7:=Ym4 e2
 have e8:n.links.length=m.links.length:=by rw[e5]
 have e9:n.margin.length=m.margin.length:=by rw[e6]
 (apply Y0;apply YL;apply Yy;exact rfl;exact rfl;intro g)
 apply Yy;exact rfl;exact rfl;intro g2
 refine zX1 ?_<;>intros
 refine Yf (λ(k:Nat)=>[(5,.int .i64 k),(2,.pointer (some ⟨g,0,none⟩)),(3,.pointer (some ⟨g2,0,none⟩))]) (λ_=>netB g2 m::netB g n::H) (λk=>k<=n.rows.length) (λk=>n.rows.length-k) 0 (Tc _) ?_ (λw hw=>hw) ?_
 ·exact zc1
 rintro k hk K hK
 by_cases hlt:k<n.rows.length
 ·obtain⟨a,ha⟩:∃a,n.rows[k]? =some a:=⟨_,Ta hlt⟩
  obtain⟨b,hb⟩:∃b,m.rows[k]? =some b:=⟨_,Ta (by omega)⟩
  have hab:a.xs=b.xs:=by
   have h1:(n.rows.map (·.xs))[k]? =some a.xs:=by simp[ha]
   have h2:(m.rows.map (·.xs))[k]? =some b.xs:=by simp[hb]
   rw[e2,h2]at h1
   exact(Tz h1).symm
  have ham:=Td ha
  have hbm:=Td hb
  repeat'(first|((first|apply Ya XW|apply Yb XW);exact za;exact rfl;exactλ_ hw=>(Yfh a.xs b.xs hab (hs2 a ham) (hrw a ham).cons.cons (hrw' b hbm).cons.cons hw))|(apply zg28;refine zs84 ?_)|refine zgd ?_|(refine zge ?_ ?_<;>intro _<;>try exact zo)|fail)
  apply hK (k+1)
  ·omega
  ·omega
  ·exact zc1
  exact zc20
 clear hK
 refine zX1 ?_<;>intros
 refine Yf (λ(k:Nat)=>[(6,.int .i64 k),(2,.pointer (some ⟨g,0,none⟩)),(3,.pointer (some ⟨g2,0,none⟩))]) (λ_=>netB g2 m::netB g n::H) (λk=>k<=n.links.length) (λk=>n.links.length-k) 0 (Tc _) ?_ (λw hw=>hw) ?_
 ·exact zc1
 rintro k hk K hK
 by_cases hlt:k<n.links.length
 ·obtain⟨a,ha⟩:∃a,n.links[k]? =some a:=⟨_,Ta hlt⟩
  have hb:m.links[k]? =some a:=by rw[<-e5];exact ha
  repeat'(first|(apply UF (xs:=lkF a) (ys:=lkF a);(iterate 3 exact rfl);kernel_rfl;kernel_rfl;(intro hne;exact absurd rfl hne);intro _)|refine zgd ?_|(refine zge ?_ ?_<;>intro _<;>try exact zo)|fail)
  apply hK (k+1)
  ·omega
  ·omega
  ·exact zc1
  exact zc20
 clear hK
 repeat'(first|((first|apply Ya XW|apply Yb XW);exact za;exact rfl;exactλ_ hw=>(Yfh n.margin m.margin e6 hs4 hmg.cons.cons hmg'.cons.cons hw))|refine zgc ?_|(refine zge ?_ ?_<;>intro _<;>try exact zo)|fail)
 apply Yk;apply Yk;exact zc13
def ageG(g:Gwy)(id:Int):Int×Int:=
 if chkG g≠0 then(0,chkG g)else if hasL g.l id=false then(0,7)
 else((Zc g.l (posL g.l id)).2.2.2.2.1+(g.s.getD (posL g.l id) (0,0)).1+(bndE g.p.c (2*id+1)).1-1,0)
theorem YvQ{g:Gwy}{id:Int}(hg:GwOk g)(h:hasL g.l id=true):∃l s,l.1=id/\g.l[posL g.l id]? =some l/\g.s[posL g.l id]? =some s/\0<=id/\id<=127:=by
 obtain⟨l,hl,he⟩:=TZ.1 h
 obtain rfl:=TR he
 obtain⟨-,-,hfit,hpw⟩:=Uu.1 hg.l
 have hat:=Ylp hpw hl
 have hk:=(Tn.1 hat).1
 have hn:=(ZY (hfit l hl)).1
 exact⟨l,_,rfl,hat,Ta (by rw[hg.len];exact hk),hn.1,hn.2⟩
variable {B:Nat}{w0 w:World}{H:List HP}
theorem Yg1(g:GwM)(id:Int)(hage:GwOk g.gw->∀(i:Nat) (l:Lop) (s:Spl),g.l[i]? =some l->g.s[i]? =some s->∃b,ageG g.gw l.1=(l.2.2.2.2.1+s.1+b-1,0)/\1<=b/\b<=s.2/\Xf l s=0)(ht:TabsB B w0)(hg:g.In B w0 H)(hw:St B w0 H w):
 CX B w0 27 [g.val,.int .i64 id] w λv K=>v=.tuple #[.int .i64 (ageG g.gw id).1,.int .i64 (ageG g.gw id).2]/\K=H:=by
 refine Yc Tryz.func27 Tryz.ntmps27 rfl rfl hw ?_
 have hop:∀w,St B w0 [many H] w->St B w0 H w:=λw hw=>hw.perm (.openT H)
 have hgM:∀{H':List HP},many H∈H'->g.In B w0 H':=λhm=>hg.mono λw hw=>hw.inM hm
 have p1:=λ{H':List HP}{w:World}(hg:g.In B w0 H') (hw:St B w0 H' w)=>Jh g ht hg hw
 unfold GwM.val at p1
 unfold GwM.val
 refine YW [many H] (λw hw=>hw.perm (.closeT H)) ?_
 have hgo:=λh:chkG g.gw=0=>Ybw.1 h
 unfold ageG at hage⊢
 obtain⟨e,he⟩:∃e,chkG g.gw=e:=⟨_,rfl⟩
 rw[he]at p1 hgo hage⊢
 by_cases he0:e=0
 rotate_left
 ·rw[Tm he0]
  repeat'(first|((first|apply Ya en23|apply Yb en23);exact za;exact rfl;exactλ_ hw=>(p1 (hgM zm) hw))|refine zgb ?_|(refine zge ?_ ?_<;>intro _<;>try exact zo)|(refine zgh ?_;intro _)|fail)
  apply Yg H
  ·intro w hw
   have h5:St B w0 [many H] w:=by
    revert w
    exact zk
   exact hop w h5
  apply Yo;(iterate 3 exact rfl);exact⟨rfl,rfl⟩
 rw[Tf (λe=>e he0)]
 subst he0
 have hok:=hgo rfl
 obtain⟨hn,h8,hfit,hpw⟩:=Uu.1 hok.l
 have h8:g.l.length<=8:=h8
 have hgat:=λh:hasL g.l id=true=>YvQ hok h
 have p2:=λ{H':List HP}{w:World}(hg:g.In B w0 H') (hw:St B w0 H' w)=>O2 g.l id hpw (by omega) (cap:=g.lcap) hg.l hw
 rw[show g.gw.l=g.l from rfl,show g.gw.s=g.s from rfl,show g.gw.p=g.p.pln from rfl]at hage⊢
 rw[show g.gw.l=g.l from rfl,show g.gw.s=g.s from rfl]at hgat
 obtain⟨hb,hhb⟩:∃b,hasL g.l id=b:=⟨_,rfl⟩
 rw[hhb]at p2 hgat⊢
 cases hb with
 |false=>
  rw[Tm rfl]
  repeat'(first|(apply Ye T;exact rfl;exact zm;exact rfl;exact zv;exact rfl;exact rfl)|((first|apply Ya en23|apply Yb en23);exact za;exact rfl;exactλ_ hw=>(p1 (hgM zm) hw))|((first|apply Ya en74|apply Yb en74);exact za;exact rfl;exactλ_ hw=>(p2 (hgM zm) hw))|refine zgd ?_|(refine zge ?_ ?_<;>intro _<;>try exact zo)|(refine zgh ?_;intro _)|fail)
  apply Yg H
  ·intro w hw
   have h5:St B w0 [many H] w:=by
    revert w
    exact zk
   exact hop w h5
  apply Yo;(iterate 3 exact rfl);exact⟨rfl,rfl⟩
 |true=>
 obtain⟨l,s,hid,hl,hs,hid1,hid2⟩:=hgat rfl
 obtain⟨b,hb,hb1,hb2,hr⟩:=hage hok _ l s hl hs
 subst hid
 obtain⟨h32,hs1,hs2,-⟩:=U4 hr
 have hP:=(ZY h32).2.1
 rw[Tf (by decide)]
 rw[Tf (λe=>e rfl),hhb,Tf (by decide)]at hb
 have p3:=λ{H':List HP}{w:World}(hg:g.In B w0 H') (hw:St B w0 H' w)=>Yg7 g.p.c (2*l.1+1) (cap:=g.p.ccap) hg.p.c hw
 rw[show g.p.pln.c=g.p.c.map ClM.clm from rfl]at hb⊢
 obtain⟨⟨u,ok⟩,hu⟩:∃R,bndE (g.p.c.map ClM.clm) (2*l.1+1)=R:=⟨_,rfl⟩
 rw[hu]at p3 hb⊢
 rw[hb]
 have hu2:u=b:=by
  have h1:Zc g.l (posL g.l l.1)=l:=by unfold Zc;rw[TA,hl];rfl
  have h2:g.s.getD (posL g.l l.1) (0,0)=s:=by rw[TA,hs];rfl
  have h3:=TD Prod.fst hb
  rw[h1,h2]at h3
  dsimp only at h3
  omega
 subst hu2
 clear hb hage
 obtain⟨k,hk⟩:∃k,posL g.l l.1=k:=⟨_,rfl⟩
 rw[hk]at p2 hl hs
 have hkl:=(Tn.1 hl).1
 have hks:=(Tn.1 hs).1
 repeat'(first|(apply Ye T;exact rfl;exact zm;exact rfl;exact zv;exact rfl;exact rfl)|((first|apply Ya en23|apply Yb en23);exact za;exact rfl;exactλ_ hw=>(p1 (hgM zm) hw))|((first|apply Ya en74|apply Yb en74);exact za;exact rfl;exactλ_ hw=>(p2 (hgM zm) hw))|((first|apply Ya en75|apply Yb en75);exact za;exact rfl;exactλ_ hw=>(p3 (hgM zm) hw))|refine zgd ?_|(refine zge ?_ ?_<;>intro _<;>try exact zo)|(refine zgh ?_;intro _)|fail)
 rename Nat=>g1
 have hrl:=(hgM (H':=[gwyA g1 g,many H]) (.tail _ (.head _))).l
 have hrs:=(hgM (H':=[gwyA g1 g,many H]) (.tail _ (.head _))).s
 repeat'(first|(apply Ye T;exact rfl;exact zm;exact rfl;exact zv;exact rfl;exact rfl)|refine zgd ?_|fail)
 apply Yg H
 ·intro w hw
  have h5:St B w0 [many H] w:=by
   revert w
   exact zk
  exact hop w h5
 apply Yo;(iterate 3 exact rfl);exact⟨rfl,rfl⟩
theorem Ybl(g:GwM)(id:Int)(hk:chkG g.gw=0)(hno:hasL g.l id=false)(ht:TabsB B w0)(hg:g.In B w0 H)(hw:St B w0 H w):
 CX B w0 54 [g.val,.int .i64 id] w λv K=>v=.tuple #[V6,.int .i64 7]/\K=H:=by
 refine Yc Tryz.func54 Tryz.ntmps54 rfl rfl hw ?_
 have hgM:∀{H':List HP},many H∈H'->g.In B w0 H':=λhm=>hg.mono λw hw=>hw.inM hm
 have p1:=λ{H':List HP}{w:World}(hg:g.In B w0 H') (hw:St B w0 H' w)=>Jh g ht hg hw
 obtain⟨-,h8,-,hpw⟩:=Uu.1 (Ybw.1 hk).l
 have h8:g.l.length<=8:=h8
 have p2:=λ{H':List HP}{w:World}(hg:g.In B w0 H') (hw:St B w0 H' w)=>O2 g.l id hpw (by omega) (cap:=g.lcap) hg.l hw
 rw[hk]at p1
 rw[hno]at p2
 unfold GwM.val at p1⊢
 refine YW [many H] (λw hw=>hw.perm (.closeT H)) ?_
 repeat'(first|(apply Ye T;exact rfl;exact zm;exact rfl;exact zv;exact rfl;exact rfl)|((first|apply Ya en23|apply Yb en23);exact za;exact rfl;exactλ_ hw=>(p1 (hgM zm) hw))|((first|apply Ya en74|apply Yb en74);exact za;exact rfl;exactλ_ hw=>(p2 (hgM zm) hw))|refine zgd ?_|(refine zge ?_ ?_<;>intro _<;>try exact zo)|(refine zgh ?_;intro _)|fail)
 apply Yp T (H2:=H);(iterate 3 exact rfl);exact zm;exact rfl;exact rfl
 ·intro w hw
  have h5:St B w0 [many H] w:=by
   revert w
   exact zk
  exact h5.perm (.openT H)
 exact⟨rfl,rfl⟩
def popX(a:Int):Int:=
 let m1:Int:=6148914691236517205
 let m2:Int:=3689348814741910323
 let m4:Int:=1085102592571150095
 let b:=IntKind.u64.wrap (bits .and .u64 (a/2) m1+bits .and .u64 a m1)
 let c:=IntKind.u64.wrap (bits .and .u64 (b/4) m2+bits .and .u64 b m2)
 let d:=bits .and .u64 (IntKind.u64.wrap (c/16+c)) m4
 let e:=IntKind.u64.wrap (d+d/256)
 let f:=IntKind.u64.wrap (e+e/65536)
 let g:=IntKind.u64.wrap (f+f/4294967296)
 bits .and .i64 (IntKind.i64.wrap g) 127
variable {B:Nat}{w0 w:World}{H:List HP}
theorem Yh8(a:Int)(hw:St B w0 H w):
 CX B w0 211 [.int .u64 a] w λv K=>v=.int .i64 (popX a)/\K=H:=by
 refine Yc Tryz.func211 Tryz.ntmps211 rfl rfl hw ?_
 repeat'(first|(apply YgH;(iterate 3 exact rfl))|refine zgd ?_|fail)
 apply Yd;exact rfl;exact rfl;exact⟨rfl,rfl⟩
theorem YmT(a:Int)(hw:St B w0 H w):
 CX B w0 117 [.int .u64 a] w λv K=>v=.int .i64 (popX a)/\K=H:=by
 refine Yc Tryz.func117 Tryz.ntmps117 rfl rfl hw ?_
 repeat'(first|((first|apply Ya Yr5|apply Yb Yr5);exact za;exact rfl;exactλ_ hw=>(Yh8 a hw))|refine zga ?_|fail)
 apply Yd;exact rfl;exact rfl;exact⟨rfl,rfl⟩
theorem Ype(x:Int):0<=popX x/\popX x<=127:=by
 have key:∀v:Int,0<=bits .and .i64 v 127/\bits .and .i64 v 127<=127:=λv=>by
  have h1:(BitVec.ofInt 64 v).toNat&&&(BitVec.ofInt 64 (127:Int)).toNat<=(BitVec.ofInt 64 (127:Int)).toNat:=Nat.and_le_right
  rw[show(BitVec.ofInt 64 (127:Int)).toNat=127 from rfl]at h1
  show 0<=IntKind.i64.wrap ((BitVec.ofInt 64 v&&&BitVec.ofInt 64 (127:Int)).toNat:Int)/\IntKind.i64.wrap ((BitVec.ofInt 64 v&&&BitVec.ofInt 64 (127:Int)).toNat:Int)<=127
  rw[BitVec.toNat_and,IntKind.wrap_i64,show(BitVec.ofInt 64 (127:Int)).toNat=127 from rfl]
  omega
 exact key _
def sumP:List Int->Int
 |[]=>0
 |x::l=>popX (IntKind.u64.wrap x)+sumP l
theorem Yfo:∀(l:List Int) (x:Int),sumP (l++[x])=sumP l+popX (IntKind.u64.wrap x)
 |[],x=>by simp[sumP]
 |y::l,x=>by
  simp only[TF,sumP,Yfo l x]
  omega
theorem YlA:∀l:List Int,0<=sumP l/\sumP l<=127*l.length
 |[]=>⟨RS _,RS _⟩
 |x::l=>by
  have h1:=Ype (IntKind.u64.wrap x)
  have h2:=YlA l
  simp only[sumP,TS]
  omega
def YhB(g:Gwy):Int×Int:=if chkG g≠0 then(0,chkG g)else(sumP g.p.f,0)
theorem YoC{g:Gwy}(h:GwOk g):g.p.f.length<=512:=by
 have hok:=Yt3 h.p
 have hf:=hok.f
 have hfr:=hok.free
 unfold Xg at hf hfr
 split at hfr
 ·cases hfr
 rename_i h1
 rw[Tf h1]at hf
 have h2:1<=g.p.s.len/\g.p.s.len<=512/\1<=g.p.s.off/\g.p.s.off<=16:=TR (Za.1 (by simpa using h1)).sized
 rw[hf]
 unfold XY
 rw[Zp,TN]
 omega
theorem YhA(g:GwM)(ht:TabsB B w0)(hg:g.In B w0 H)(hw:St B w0 H w):
 CX B w0 53 [g.val] w λv K=>v=.tuple #[.int .i64 (YhB g.gw).1,.int .i64 (YhB g.gw).2]/\K=H:=by
 refine Yc Tryz.func53 Tryz.ntmps53 rfl rfl hw ?_
 have hop:∀w,St B w0 [many H] w->St B w0 H w:=λw hw=>hw.perm (.openT H)
 have hgM:∀{H':List HP},many H∈H'->g.In B w0 H':=λhm=>hg.mono λw hw=>hw.inM hm
 have p1:=λ{H':List HP}{w:World}(hg:g.In B w0 H') (hw:St B w0 H' w)=>Jh g ht hg hw
 unfold GwM.val at p1
 unfold GwM.val
 refine YW [many H] (λw hw=>hw.perm (.closeT H)) ?_
 have hgo:=λh:chkG g.gw=0=>YoC (Ybw.1 h)
 unfold YhB
 obtain⟨e,he⟩:∃e,chkG g.gw=e:=⟨_,rfl⟩
 rw[he]at p1 hgo⊢
 by_cases he0:e=0
 rotate_left
 ·rw[Tm he0]
  repeat'(first|((first|apply Ya en23|apply Yb en23);exact za;exact rfl;exactλ_ hw=>(p1 (hgM zm) hw))|refine zgb ?_|(refine zge ?_ ?_<;>intro _<;>try exact zo)|(refine zgh ?_;intro _)|fail)
  apply Yg H
  ·intro w hw
   have h5:St B w0 [many H] w:=by
    revert w
    exact zk
   exact hop w h5
  apply Yo;(iterate 3 exact rfl);exact⟨rfl,rfl⟩
 rw[Tf (λe=>e he0)]
 subst he0
 have hfl:=hgo rfl
 rw[show g.gw.p.f=g.p.f from rfl]at hfl⊢
 have hrM:∀{H':List HP},many H∈H'->Rd B w0 H' g.p.fA (g.p.f.flatMap numF):=λhm=>(hgM hm).p.f
 repeat'(first|(apply Ye T;exact rfl;exact zm;exact rfl;exact zv;exact rfl;exact rfl)|((first|apply Ya en23|apply Yb en23);exact za;exact rfl;exactλ_ hw=>(p1 (hgM zm) hw))|refine zgb ?_|(refine zge ?_ ?_<;>intro _<;>try exact zo)|(refine zgh ?_;intro _)|fail)
 rename_i g1
 refine Yf (λk:Nat=>[(17,.int .i64 k),(16,.int .i64 g.p.f.length),(15,.slice g.p.fA g.p.f.length g.p.fcap),(5,.int .i64 (sumP (g.p.f.take k)))]) (λ_=>[many H]) (λk=>k<=g.p.f.length) (λk=>g.p.f.length-k) 0 (Tc _) ?_ ?_ ?_
 ·exact zu
 ·exact zk
 rintro k hk K hK
 by_cases hlt:k<g.p.f.length
 ·obtain⟨a,ha⟩:∃a,g.p.f[k]? =some a:=⟨_,Ta hlt⟩
  have hst:sumP (g.p.f.take (k+1))=sumP (g.p.f.take k)+popX (IntKind.u64.wrap a):=by rw[TB,ha];exact Yfo _ _
  have h1:=Ype (IntKind.u64.wrap a)
  have h2:=YlA (g.p.f.take k)
  rw[TJ]at h2
  have p2:=λ{H':List HP}{w:World}(hw:St B w0 H' w)=>YmT (IntKind.u64.wrap a) hw
  have hrd:=hrM (H':=[many H]) (.head _)
  repeat'(first|((first|apply Ya YrC|apply Yb YrC);exact za;exact rfl;exactλ_ hw=>(p2 hw))|refine zgd ?_|(refine zge ?_ ?_<;>intro _<;>try exact zo)|fail)
  apply hK (k+1)
  ·omega
  ·omega
  ·rw[hst];exact zu
  ·exact zk
 ·obtain rfl:k=g.p.f.length:=by omega
  rw[TC]
  repeat'(first|refine zgc ?_|(refine zge ?_ ?_<;>intro _<;>try exact zo)|fail)
  apply Yg H
  ·intro w hw
   have h5:St B w0 [many H] w:=by
    revert w
    exact zk
   exact hop w h5
  apply Yo;(iterate 3 exact rfl);exact⟨rfl,rfl⟩
def exN6:Net:=⟨2,[[0,40],[40,0]],1,2000,[(0,1,0),(1,0,0)],[20,20]⟩
def exL6:Lop:=(2,1,0,1,8,0,15)
def exP6:Pln:=⟨exN6,[],⟨8,1,[]⟩,[],[1,1,1,1,1,1,1,1]⟩
def exFa:Flw:=(4,1,0,8,0,1)
def exFb:Flw:=(5,0,1,8,1,7)
def exQa:Pln:=⟨exN6,[(exFa,[[1,0]])],⟨8,1,[(0,0,1,0,4)]⟩,[⟨4,[[1,0]],[1],[0],[[0]]⟩],[0,1,1,1,1,1,1,1]⟩
def exQb:Pln:=⟨exN6,[(exFa,[[1,0]]),(exFb,[[0,1]])],⟨8,1,[(0,0,1,0,4),(1,0,0,1,5)]⟩,[⟨4,[[1,0]],[1],[0],[[0]]⟩,⟨5,[[0,1]],[1],[1],[[0]]⟩],[0,0,1,1,1,1,1,1]⟩
theorem Qu:JW exN6=exA5:=by decide
theorem Yck:Vp 100000 exN6 1 0=some (none,17):=by
 have h:(Oy 100000 2 exA5 0 1 0 (λ_=>false)).map (λr=>r.2.1)=some false:=by decide
 have hp:Ya3 100000 2 exA5 1 0=some none:=by
  unfold Ya3
  cases hb:Oy 100000 2 exA5 0 1 0 (λ_=>false)with
  |none=>rw[hb]at h;cases h
  |some r=>
   rw[hb]at h
   obtain⟨x,ok,es⟩:=r
   simp only[Sl,RJ]at h
   subst h
   rfl
 unfold Vp
 rw[Tf (by decide),Qu,show exN6.nodes.toNat=2 from rfl,hp]
theorem YeJ:Jp exN6 exFa=(none,17):=by
 unfold Jp
 rw[show exFa.2.1=1 from rfl,show exFa.2.2.1=0 from rfl,Yck];rfl
theorem Yox:Vp 100000 exN6 exFa.2.1 exFa.2.2.1=some (Jp exN6 exFa):=by
 rw[YeJ];exact Yck
theorem Ycl:reqE exN6 exFa=((exFa,[[1,0]]),0):=by
 have hr:U8 exN6 1 0=[1,0]:=by
  unfold U8
  rw[Qu,show exN6.nodes.toNat=2 from rfl,Ycc (far:=[0,34]) (by decide) (by decide)]
  decide
 have hs:Zr exN6 1 0=([1,0],0):=by
  unfold Zr
  rw[hr]
  decide
 unfold reqE
 rw[YeJ]
 unfold Vc
 rw[show exFa.2.1=1 from rfl,show exFa.2.2.1=0 from rfl,hs]
 rfl
theorem Yjq:J6 exN6 [exFa]=([(exFa,[[1,0]])],(-1,0)):=by
 have h1:Yc4 exN6 [exFa]=(-1,0):=by
  unfold Yc4
  show YC (λi=>(reqE exN6 (Y3 [exFa] i)).2) 1 0=_
  unfold YC YC
  rw[show Y3 [exFa] 0=exFa from rfl,Ycl]
  rfl
 unfold J6
 rw[h1,Tf (by decide),Tf (by decide),Tf (by decide),RP,RY,Ycl]
theorem Yhl:extP exP6 exFa=(some exQa,0):=by
 unfold extP
 rw[Tf (by decide),Tf (by decide),Tf (by decide),Tf (by decide)]
 rw[show(exP6).n=exN6 from rfl,Yjq,Tf (by decide),Ycl,Tm (by decide)]
 rfl
theorem Ycm:Vp 100000 exN6 0 1=some (none,17):=by
 have h:(Oy 100000 2 exA5 0 0 1 (λ_=>false)).map (λr=>r.2.1)=some false:=by decide
 have hp:Ya3 100000 2 exA5 0 1=some none:=by
  unfold Ya3
  cases hb:Oy 100000 2 exA5 0 0 1 (λ_=>false)with
  |none=>rw[hb]at h;cases h
  |some r=>
   rw[hb]at h
   obtain⟨x,ok,es⟩:=r
   simp only[Sl,RJ]at h
   subst h
   rfl
 unfold Vp
 rw[Tf (by decide),Qu,show exN6.nodes.toNat=2 from rfl,hp]
theorem YeK:Jp exN6 exFb=(none,17):=by
 unfold Jp
 rw[show exFb.2.1=0 from rfl,show exFb.2.2.1=1 from rfl,Ycm];rfl
theorem Yoy:Vp 100000 exN6 exFb.2.1 exFb.2.2.1=some (Jp exN6 exFb):=by
 rw[YeK];exact Ycm
theorem Ycn:reqE exN6 exFb=((exFb,[[0,1]]),0):=by
 have hr:U8 exN6 0 1=[0,1]:=by
  unfold U8
  rw[Qu,show exN6.nodes.toNat=2 from rfl,Ycc (far:=[34,0]) (by decide) (by decide)]
  decide
 have hs:Zr exN6 0 1=([0,1],0):=by
  unfold Zr
  rw[hr]
  decide
 unfold reqE
 rw[YeK]
 unfold Vc
 rw[show exFb.2.1=0 from rfl,show exFb.2.2.1=1 from rfl,hs]
 rfl
theorem Yjr:J6 exN6 [exFb]=([(exFb,[[0,1]])],(-1,0)):=by
 have h1:Yc4 exN6 [exFb]=(-1,0):=by
  unfold Yc4
  show YC (λi=>(reqE exN6 (Y3 [exFb] i)).2) 1 0=_
  unfold YC YC
  rw[show Y3 [exFb] 0=exFb from rfl,Ycn]
  rfl
 unfold J6
 rw[h1,Tf (by decide),Tf (by decide),Tf (by decide),RP,RY,Ycn]
theorem Yhm:extP exQa exFb=(some exQb,0):=by
 unfold extP
 rw[Tf (by decide),Tf (by decide),Tf (by decide),Tf (by decide)]
 rw[show(exQa).n=exN6 from rfl,Yjr,Tf (by decide),Ycn,Tm (by decide)]
 rfl
def exG6:Gwy:=⟨exP6,[],[]⟩
def exH6:Gwy:=⟨exQb,[exL6],[(1,7)]⟩
theorem Yhk:Wg exP6 exL6 (1,7)=some exQb:=by
 unfold Wg
 rw[show ZW exL6 (1,7)=exFa from rfl,show ZO exL6 (1,7)=exFb from rfl,Yhl]
 simp only
 rw[Yhm]
 rfl
theorem YqG:chkG exG6=0:=by decide
theorem YqF:admG exG6 exL6=(some exH6,0):=by
 unfold admG
 rw[Tf (by decide),Tf (by decide),Tf (by decide),Tf (by decide)]
 rw[show Zs exL6=(1,7)::(Zs exL6).tail from rfl]
 unfold tryG
 rw[show(exG6).p=exP6 from rfl,Yhk]
 rfl
theorem Ymo:admG exH6 exL6=(none,6):=by
 unfold admG
 rw[Tf (by decide),Tm (by decide)]
theorem Yli:ageG exH6 2=(9,0):=by
 unfold ageG
 rw[Tf (by decide),Tf (by decide)]
 decide
theorem Yn1{l:List Lop}{s:List Spl}{k:Nat}{a:Lop}{b:Spl}(hl:s.length=l.length)(ha:l[k]? =some a)(hb:s[k]? =some b)(h:badS l s=false):Xf a b=0:=TK.1 λhne=>by
 rw[(Ybu hl ha hb).2.1 hne]at h;cases h
variable {B:Nat}{w0 w:World}{H:List HP}
theorem Yd0(g:GwM)(hlen:g.s.length=g.l.length)(hbad:badS g.l g.s=false)(hg:g.In B w0 H)(hw:St B w0 H w):
 CX B w0 63 [g.val] w λv K=>∃A cap,v=.slice A (Xi g.l g.s).length cap/\K=flws A cap (Xi g.l g.s)::H:=by
 refine Yc Tryz.func63 Tryz.ntmps63 rfl rfl hw ?_
 have hop:∀w,St B w0 [many H] w->St B w0 H w:=λw hw=>hw.perm (.openT H)
 have hgM:∀{H':List HP},many H∈H'->g.In B w0 H':=λhm=>hg.mono λw hw=>hw.inM hm
 have hll:=hg.ll
 unfold GwM.val
 refine YW [many H] (λw hw=>hw.perm (.closeT H)) ?_
 repeat'(first|refine zgb ?_|(refine zgh ?_;intro _)|fail)
 rename Nat=>g1
 refine XF 66 6 ?_
 refine Yf (λz:FlM=>[(4,.int .i64 (z.i:Nat)),(3,.slice z.A (Xi (g.l.take z.i) (g.s.take z.i)).length z.cap),(1,.pointer (some ⟨g1,0,none⟩))])
  (λz=>flws z.A z.cap (Xi (g.l.take z.i) (g.s.take z.i))::gwyA g1 g::[many H]) (λz=>z.i<=g.l.length) (λz=>g.l.length-z.i) ⟨0,none,0⟩ (Tc _) ?_ ?_ ?_
 ·exact zu
 ·intro w hw
  have h5:St B w0 (sl 66 6 none 0 0 []::gwyA g1 g::[many H]) w:=by
   revert w
   exact zk
  exact h5
 rintro⟨i,A1,c1⟩ hi K hK
 dsimp only at hi⊢
 have hfl:=US (g.l.take i) (g.s.take i)
 rw[TJ]at hfl
 by_cases hlt:i<g.l.length
 ·obtain⟨a,ha⟩:∃a,g.l[i]? =some a:=⟨_,Ta hlt⟩
  obtain⟨b,hb2⟩:∃b,g.s[i]? =some b:=⟨_,Ta (by omega)⟩
  have hst:=(Ybu hlen ha hb2).1
  have p4:=λ{H':List HP}{w:World}(hw:St B w0 H' w)=>YdQ a b (Yn1 hlen ha hb2 hbad) hw
  unfold lopV splV at p4
  have hra:=(hgM (H':=flws A1 c1 (Xi (g.l.take i) (g.s.take i))::gwyA g1 g::[many H]) (.tail _ (.tail _ (.head _)))).l
  have hrb:=(hgM (H':=flws A1 c1 (Xi (g.l.take i) (g.s.take i))::gwyA g1 g::[many H]) (.tail _ (.tail _ (.head _)))).s
  obtain⟨m,hm⟩:∃m,[ZW a b,ZO a b]=m:=⟨_,rfl⟩
  have hml:2=m.length:=by rw[<-hm];rfl
  rw[hm]at hst p4
  rw[hml]at p4
  generalize Xi (g.l.take i) (g.s.take i)=L at hst hfl hra hrb⊢
  repeat'(first|(apply Ye T;exact rfl;exact zm;exact rfl;exact zv;exact rfl;exact rfl)|refine zgb ?_|(refine zge ?_ ?_<;>intro _<;>try exact zo)|fail)
  apply YG [0,1,2,3,4,5,6,7,8,9,10,11,12,13,14,15] [] [true,true,true]
  kernel_rfl
  kernel_rfl
  exact zy
  (simp only[Yh,nthO];rfl)
  exact rfl
  repeat'(first|(apply Ye T;exact rfl;exact zm;exact rfl;exact zv;exact rfl;exact rfl)|refine zgd ?_|fail)
  apply Yi _ YuQ
  exact za
  exact rfl
  exactλ_ hw=>(p4 (hw))
  rintro _ _ ⟨A3,rfl,rfl⟩
  unfold flws
  repeat'(first|(apply YU T (f:=flwF) (l2:=m) (e:=66) (size:=6) (xs:=L.flatMap flwF);(iterate 3 exact rfl);exact Rd.sl zm;exact(λ_=>rfl);exact(λ_=>rfl);exact rfl;(intro _ _;exact zd);omega;intro A4 c4)|(apply Yj;try exact zl)|refine zgd ?_|fail)
  apply hK ⟨i+1,A4,c4⟩
  ·show i+1<=_;omega
  ·dsimp only;omega
  ·dsimp only
   rw[hst,Tq]
   exact zu
  ·intro w hw
   dsimp only
   unfold flws
   rw[hst,Tq,Ri]
   revert w
   exact zk
 obtain rfl:i=g.l.length:=by omega
 rw[TC,TE (l:=g.s) (by omega)]
 clear hK
 generalize Xi g.l g.s=L
 repeat'(first|refine zgc ?_|(refine zge ?_ ?_<;>intro _<;>try exact zo)|fail)
 apply Yg (flws A1 c1 L::H)
 ·intro w hw
  have h5:St B w0 (flws A1 c1 L::[many H]) w:=by
   revert w
   exact zk
  exact h5.perm (.cons _ (.openT H))
 apply Yd;exact rfl;exact rfl
 exact⟨A1,c1,rfl,rfl⟩
theorem YdU(g:GwM)(hg:g.In B w0 H)(hw:St B w0 H w):
 CX B w0 24 [g.val] w λv K=>v=.int .i64 (chkG g.gw)/\K=H:=by
 refine Yc Tryz.func24 Tryz.ntmps24 rfl rfl hw ?_
 have hop:∀w,St B w0 [many H] w->St B w0 H w:=λw hw=>hw.perm (.openT H)
 have hgM:∀{H':List HP},many H∈H'->g.In B w0 H':=λhm=>hg.mono λw hw=>hw.inM hm
 have p1:=λ{H':List HP}{w:World}(hg:g.In B w0 H') (hw:St B w0 H' w)=>YdT g.p hg.p hw
 have p2:=λ{H':List HP}{w:World}(hg:g.In B w0 H') (hw:St B w0 H' w)=>Yat g.p.n.nodes g.l (T0 hg.ll (by decide)) (cap:=g.lcap) hg.l hw
 have p3:=λ(a:Lop) (b:Spl) {H':List HP}{w:World}(hw:St B w0 H' w)=>YdR a b hw
 have hll:=hg.ll
 have hsl:=hg.sl
 unfold GwM.val
 unfold PnM.val at p1
 unfold chkG
 rw[show g.gw.p=g.p.pln from rfl,show g.gw.l=g.l from rfl,show g.gw.s=g.s from rfl,show g.p.pln.n.nodes=g.p.n.nodes from rfl]
 refine YW [many H] (λw hw=>hw.perm (.closeT H)) ?_
 by_cases hk:chkP g.p.pln=0
 rotate_left
 ·rw[Tm hk]
  repeat'(first|(apply Ye T;exact rfl;exact zm;exact rfl;exact zv;exact rfl;exact rfl)|refine zgb ?_|(refine zgh ?_;intro _)|fail)
  first|apply Ya en60|apply Yb en60
  exact za
  exact rfl
  exactλ_ hw=>(p1 (hgM zm) hw)
  repeat'(first|refine zgb ?_|(refine zge ?_ ?_<;>intro _<;>try exact zo)|fail)
  apply Yg H
  ·intro w hw
   have h5:St B w0 [many H] w:=by
    revert w
    exact zk
   exact hop w h5
  apply Yd;exact rfl;exact rfl;exact⟨rfl,rfl⟩
 rw[Tf (λe=>e hk)]
 rw[hk]at p1
 obtain⟨⟨li,le⟩,hL⟩:∃R,XD g.p.n.nodes g.l=R:=⟨_,rfl⟩
 rw[hL]at p2⊢
 dsimp only at p2⊢
 by_cases hle:le=0
 rotate_left
 ·rw[Tm hle]
  repeat'(first|(apply Ye T;exact rfl;exact zm;exact rfl;exact zv;exact rfl;exact rfl)|((first|apply Ya en60|apply Yb en60);exact za;exact rfl;exactλ_ hw=>(p1 (hgM zm) hw))|((first|apply Ya en61|apply Yb en61);exact za;exact rfl;exactλ_ hw=>(p2 (hgM zm) hw))|refine zgc ?_|(refine zge ?_ ?_<;>intro _<;>try exact zo)|(refine zgh ?_;intro _)|fail)
  apply Yg H
  ·intro w hw
   have h5:St B w0 [many H] w:=by
    revert w
    exact zk
   exact hop w h5
  apply Yd;exact rfl;exact rfl;exact⟨rfl,rfl⟩
 rw[Tf (λe=>e hle)]
 subst hle
 by_cases hlen:g.s.length=g.l.length
 rotate_left
 ·rw[Tm hlen]
  repeat'(first|(apply Ye T;exact rfl;exact zm;exact rfl;exact zv;exact rfl;exact rfl)|((first|apply Ya en60|apply Yb en60);exact za;exact rfl;exactλ_ hw=>(p1 (hgM zm) hw))|((first|apply Ya en61|apply Yb en61);exact za;exact rfl;exactλ_ hw=>(p2 (hgM zm) hw))|refine zgc ?_|(refine zge ?_ ?_<;>intro _<;>try exact zo)|(refine zgh ?_;intro _)|fail)
  apply Yg H
  ·intro w hw
   have h5:St B w0 [many H] w:=by
    revert w
    exact zk
   exact hop w h5
  apply Yd;exact rfl;exact rfl;exact⟨rfl,rfl⟩
 rw[Tf (λe=>e hlen)]
 repeat'(first|(apply Ye T;exact rfl;exact zm;exact rfl;exact zv;exact rfl;exact rfl)|((first|apply Ya en60|apply Yb en60);exact za;exact rfl;exactλ_ hw=>(p1 (hgM zm) hw))|((first|apply Ya en61|apply Yb en61);exact za;exact rfl;exactλ_ hw=>(p2 (hgM zm) hw))|refine zgc ?_|(refine zge ?_ ?_<;>intro _<;>try exact zo)|(refine zgh ?_;intro _)|fail)
 rename Nat=>g1
 clear p1 p2
 refine Yf (λi:Nat=>[(6,.int .i64 (i:Nat)),(1,.pointer (some ⟨g1,0,none⟩))]) (λ_=>gwyA g1 g::[many H]) (λi=>i<=g.l.length/\badS (g.l.take i) (g.s.take i)=false) (λi=>g.l.length-i) 0 ⟨Tc _,by rw[S8];rfl⟩ ?_ ?_ ?_
 ·exact zu
 ·exact zk
 rintro i ⟨hi,hb⟩ K hK
 by_cases hlt:i<g.l.length
 ·obtain⟨a,ha⟩:∃a,g.l[i]? =some a:=⟨_,Ta hlt⟩
  obtain⟨b,hb2⟩:∃b,g.s[i]? =some b:=⟨_,Ta (by omega)⟩
  obtain⟨-,hbad,hnext⟩:=Ybu hlen ha hb2
  have p4:=λ{H':List HP}{w:World}(hw:St B w0 H' w)=>p3 a b hw
  unfold lopV splV at p4
  have hra:=(hgM (H':=gwyA g1 g::[many H]) (.tail _ (.head _))).l
  have hrb:=(hgM (H':=gwyA g1 g::[many H]) (.tail _ (.head _))).s
  by_cases hr:Xf a b=0
  rotate_left
  ·rw[Tm (hbad hr)]
   repeat'(first|(apply Ye T;exact rfl;exact zm;exact rfl;exact zv;exact rfl;exact rfl)|refine zgb ?_|(refine zge ?_ ?_<;>intro _<;>try exact zo)|fail)
   apply YG [0,1,2,3,4,5,6,7,8,9,10,11,12,13,14,15] [] [true,true]
   kernel_rfl
   kernel_rfl
   exact zy
   (simp only[Yh,nthO];rfl)
   exact rfl
   repeat'(first|(apply Ye T;exact rfl;exact zm;exact rfl;exact zv;exact rfl;exact rfl)|refine zgd ?_|fail)
   apply Yi _ en62
   exact za
   exact rfl
   exactλ_ hw=>(p4 (hw))
   rintro _ _ ⟨⟨z,rfl⟩,rfl⟩
   repeat'(first|(apply Yj;try exact zl)|refine zgd ?_|(refine zge ?_ ?_<;>intro _<;>try exact zo)|fail)
   apply Yg H
   ·intro w hw
    have h5:St B w0 [many H] w:=by
     revert w
     exact zk
    exact hop w h5
   apply Yd;exact rfl;exact rfl;exact⟨rfl,rfl⟩
  rw[hr]at p4
  have hnb:=hnext hb hr
  repeat'(first|(apply Ye T;exact rfl;exact zm;exact rfl;exact zv;exact rfl;exact rfl)|refine zgb ?_|(refine zge ?_ ?_<;>intro _<;>try exact zo)|fail)
  apply YG [0,1,2,3,4,5,6,7,8,9,10,11,12,13,14,15] [] [true,true]
  kernel_rfl
  kernel_rfl
  exact zy
  (simp only[Yh,nthO];rfl)
  exact rfl
  repeat'(first|(apply Ye T;exact rfl;exact zm;exact rfl;exact zv;exact rfl;exact rfl)|refine zgd ?_|fail)
  apply Yi _ en62
  exact za
  exact rfl
  exactλ_ hw=>(p4 (hw))
  rintro _ _ ⟨⟨z,rfl⟩,rfl⟩
  repeat'(first|(apply Yj;try exact zl)|refine zgd ?_|(refine zge ?_ ?_<;>intro _<;>try exact zo)|fail)
  apply hK (i+1)
  ·exact⟨by omega,hnb⟩
  ·omega
  ·exact zu
  ·exact zk
 obtain rfl:i=g.l.length:=by omega
 rw[TC,TE (by omega)]at hb
 rw[Tf (show¬badS g.l g.s=true by rw[hb];decide)]
 have hfq:Y1 g.p.pln.q=RqM.fl g.p.q:=by
  show(g.p.q.map RqM.rq).map (·.1)=g.p.q.map _
  rw[SV];rfl
 rw[hfq]
 clear hK p3
 have hLl:(Xi g.l g.s).length<=2000:=by have h5:=US g.l g.s;omega
 have p5:=λ{H':List HP}{w:World}(hg:g.In B w0 H') (hw:St B w0 H' w)=>Yd0 g hlen hb hg hw
 have p6:=λ{H':List HP}{w:World}(hg:g.In B w0 H') (hw:St B w0 H' w)=>W0 g.p.q (cap:=g.p.qcap) hg.p.q.ln hg.p.q.rd hw
 unfold GwM.val at p5
 generalize Xi g.l g.s=L at hLl p5⊢
 generalize RqM.fl g.p.q=F at p6⊢
 repeat'(first|(apply Ye T;exact rfl;exact zm;exact rfl;exact zv;exact rfl;exact rfl)|refine zgc ?_|(refine zge ?_ ?_<;>intro _<;>try exact zo)|fail)
 apply Yi _ en63
 exact za
 exact rfl
 exactλ_ hw=>(p5 (hgM zm) (hw))
 rintro _ _ ⟨A1,c1,rfl,rfl⟩
 repeat'(first|(apply Ye T;exact rfl;exact zm;exact rfl;exact zv;exact rfl;exact rfl)|refine zgb ?_|fail)
 apply Yi _ en64
 exact za
 exact rfl
 exactλ_ hw=>(p6 (hgM zm) (hw))
 rintro _ _ ⟨A2,c2,rfl,rfl⟩
 by_cases hn:L.length=F.length
 rotate_left
 ·rw[Tm (λe=>hn (by rw[e]))]
  repeat'(first|refine zgb ?_|(refine zge ?_ ?_<;>intro _<;>try exact zo)|fail)
  apply Yg H
  ·intro w hw
   have h5:St B w0 [many H] w:=by
    revert w
    exact zk
   exact hop w h5
  apply Yd;exact rfl;exact rfl;exact⟨rfl,rfl⟩
 repeat'(first|refine zgb ?_|(refine zge ?_ ?_<;>intro _<;>try exact zo)|fail)
 have hr1:Rd B w0 (flws A2 c2 F::flws A1 c1 L::[many H]) A1 (L.flatMap flwF):=Rd.sl (.tail _ (.head _))
 have hr2:Rd B w0 (flws A2 c2 F::flws A1 c1 L::[many H]) A2 (F.flatMap flwF):=Rd.sl (.head _)
 refine Yf (λk:Nat=>[(11,.int .i64 (k:Nat)),(9,.slice A1 L.length c1),(10,.slice A2 F.length c2)]) (λ_=>flws A2 c2 F::flws A1 c1 L::[many H]) (λk=>k<=L.length/\L.take k=F.take k) (λk=>L.length-k) 0 ⟨Tc _,by simp⟩ ?_ ?_ ?_
 ·exact zu
 ·exact zk
 rintro k ⟨hk2,hi⟩ K hK
 by_cases hlt:k<L.length
 ·obtain⟨a,ha⟩:∃a,L[k]? =some a:=⟨_,Ta hlt⟩
  obtain⟨b,hb⟩:∃b,F[k]? =some b:=⟨_,Ta (by omega)⟩
  repeat'(first|(apply UF (xs:=flwF a) (ys:=flwF b);(iterate 3 exact rfl);kernel_rfl;kernel_rfl;all_goals intro _)|refine zgd ?_|(refine zge ?_ ?_<;>intro _<;>try exact zo)|fail)
  ·rename_i h
   rw[Tm (λe=>by rw[e,hb]at ha;exact h (by rw[Tz ha]))]
   apply Yg H
   ·intro w hw
    have h5:St B w0 [many H] w:=by
     revert w
     exact zk
    exact hop w h5
   apply Yd;exact rfl;exact rfl;exact⟨rfl,rfl⟩
  ·rename_i h
   apply hK (k+1)
   ·exact⟨by omega,by rw[TB,TB,ha,hb,hi,Yhx h]⟩
   ·omega
   ·exact zu
   ·exactλw hw=>hw
 rw[TE (by omega),TE (by omega)]at hi
 rw[Tf (λe=>e hi)]
 repeat'(first|refine zgc ?_|(refine zge ?_ ?_<;>intro _<;>try exact zo)|fail)
 apply Yg H
 ·intro w hw
  have h5:St B w0 [many H] w:=by
   revert w
   exact zk
  exact hop w h5
 apply Yd;exact rfl;exact rfl;exact⟨rfl,rfl⟩
variable {A A2:Option Addr}{cap cap2 B:Nat}{w0 w:World}{H:List HP}
theorem Ygl(l:List Int)(hlen:l.length<=1000000000000)(hr:Rd B w0 H A (l.flatMap numF))(hr2:Rd B w0 H A2 (l.flatMap numF))(hw:St B w0 H w):
 CX B w0 129 [.slice A l.length cap,.slice A2 l.length cap2] w λu K=>u=.bool true/\K=H:=by
 refine Yc Tryz.func129 Tryz.ntmps129 rfl rfl hw ?_
 refine zX3 ?_<;>intros
 refine Yf (λ(k:Nat)=>[(5,.int .i64 k),(0,.slice A l.length cap),(1,.slice A2 l.length cap2)]) (λ_=>H) (λk=>k<=l.length) (λk=>l.length-k) 0 (Tc _) ?_ (λw hw=>hw) ?_
 ·exact zc1
 rintro k hk K hK
 by_cases hlt:k<l.length
 ·obtain⟨a,ha⟩:∃a,l[k]? =some a:=⟨_,Ta hlt⟩
  refine zX0 ?_<;>intros
  apply hK (k+1)
  ·omega
  ·omega
  ·exact zc1
  exact zc20
 ·refine zX1 ?_<;>intros
  exact zc13
theorem Ygo(q q2:List RqM)(he:q.map RqM.rq=q2.map RqM.rq)(hq:QIn B w0 H A q)(hq2:QIn B w0 H A2 q2)(hw:St B w0 H w):
 CX B w0 14 [.slice A q.length cap,.slice A2 q2.length cap2] w λu K=>u=.bool true/\K=H:=by
 refine Yc Tryz.func14 Tryz.ntmps14 rfl rfl hw ?_
 have hll:q.length=q2.length:=by simpa using TD List.length he
 have hr:=hq.rd
 have hr2:=hq2.rd
 have hln:=hq.ln
 refine zX3 ?_<;>intros
 refine Yf (λ(k:Nat)=>[(5,.int .i64 k),(0,.slice A q.length cap),(1,.slice A2 q2.length cap2)]) (λ_=>H) (λk=>k<=q.length) (λk=>q.length-k) 0 (Tc _) ?_ (λw hw=>hw) ?_
 ·exact zc1
 rintro k hk K hK
 by_cases hlt:k<q.length
 ·obtain⟨a,ha⟩:∃a,q[k]? =some a:=⟨_,Ta hlt⟩
  obtain⟨b,hb⟩:∃b,q2[k]? =some b:=⟨_,Ta (by omega)⟩
  have hab:a.rq=b.rq:=by
   have h1:(q.map RqM.rq)[k]? =some a.rq:=by simp[ha]
   have h2:(q2.map RqM.rq)[k]? =some b.rq:=by simp[hb]
   rw[he,h2]at h1
   exact(Tz h1).symm
  have hf:b.f=a.f:=(TD Prod.fst hab).symm
  have hrs:a.rows.map (·.xs)=b.rows.map (·.xs):=TD Prod.snd hab
  have hai:=hq.x a (Td ha)
  have hbi:=hq2.x b (Td hb)
  have p1:=λ{H':List HP}{w:World}(hai:a.In B w0 H') (hbi:b.In B w0 H') (hw:St B w0 H' w)=>Wr a.rows b.rows hai.ln hbi.ln (λr hr=>(hai.rl r hr).1) (λr hr=>(hbi.rl r hr).1) (cap:=a.cap) (cap2:=b.cap) hai.rt hbi.rt hai.rw_ hbi.rw_ hw
  rw[Ti hrs]at p1
  repeat'(first|(apply Vr T (vs:=[.int .i64 a.f.1,.int .i64 a.f.2.1,.int .i64 a.f.2.2.1,.int .i64 a.f.2.2.2.1,.int .i64 a.f.2.2.2.2.1,.int .i64 a.f.2.2.2.2.2]);exact rfl;exact hr;exact ha;exactλ_=>rfl;(iterate 6 exact rfl))|(apply Vr T (vs:=[.int .i64 b.f.1,.int .i64 b.f.2.1,.int .i64 b.f.2.2.1,.int .i64 b.f.2.2.2.1,.int .i64 b.f.2.2.2.2.1,.int .i64 b.f.2.2.2.2.2]);exact rfl;exact hr2;exact hb;exactλ_=>rfl;(iterate 6 exact rfl))|(rw[hf];apply UF (xs:=flwF a.f) (ys:=flwF a.f);(iterate 3 exact rfl);kernel_rfl;kernel_rfl;(intro hne;exact absurd rfl hne);intro _)|((first|apply Ya en49|apply Yb en49);exact za;exact rfl;exactλ_ hw=>(p1 hai hbi hw))|(apply zg28;refine zs84 ?_)|refine zgd ?_|(refine zge ?_ ?_<;>intro _<;>try exact zo)|fail)
  apply hK (k+1)
  ·omega
  ·omega
  ·exact zc1
  exact zc20
 ·refine zX1 ?_<;>intros
  exact zc3
theorem Yiy(p p2:PnM)(he:p.pln=p2.pln)(hp:p.In B w0 H)(hp2:p2.In B w0 H)(hw:St B w0 H w):
 CX B w0 56 [p.val,p2.val] w λu K=>u=.bool true/\K=H:=by
 refine Yc Tryz.func56 Tryz.ntmps56 rfl rfl hw ?_
 have hn:p.n.net=p2.n.net:=TD Pln.n he
 have hq:p.q.map RqM.rq=p2.q.map RqM.rq:=TD Pln.q he
 have hs:p.s.sch=p2.s.sch:=TD Pln.s he
 have hc:p.c.map ClM.clm=p2.c.map ClM.clm:=TD Pln.c he
 have hf:p.f=p2.f:=TD Pln.f he
 have p1:=λ{H':List HP}{w:World}(hp:p.In B w0 H') (hp2:p2.In B w0 H') (hw:St B w0 H' w)=>Ykd p.n p2.n hn hp.n hp2.n hw
 have p2':=λ{H':List HP}{w:World}(hp:p.In B w0 H') (hp2:p2.In B w0 H') (hw:St B w0 H' w)=>Ygo p.q p2.q hq (cap:=p.qcap) (cap2:=p2.qcap) hp.q hp2.q hw
 have p3:=λ{H':List HP}{w:World}(hp:p.In B w0 H') (hp2:p2.In B w0 H') (hw:St B w0 H' w)=>Yka p.s p2.s hp.sl hp2.sl hp.s hp2.s hw
 have hs2:p.s.len=p2.s.len/\p.s.off=p2.s.off/\p.s.cells=p2.s.cells:=⟨TD Sch.len hs,TD Sch.off hs,TD Sch.cells hs⟩
 rw[Ti hs2]at p3
 have p4:=λ{H':List HP}{w:World}(hp:p.In B w0 H') (hp2:p2.In B w0 H') (hw:St B w0 H' w)=>W4 p.c p2.c (cap:=p.ccap) (cap2:=p2.ccap) hp.c hp2.c hw
 rw[Ti hc]at p4
 have p5:∀{H':List HP}{w:World},p.In B w0 H'->p2.In B w0 H'->St B w0 H' w->CX B w0 129 [.slice p.fA p.f.length p.fcap,.slice p2.fA p2.f.length p2.fcap] w λu K=>u=.bool true/\K=H':=λhp hp2 hw=>by
  have h2:=hp2.f
  rw[<-hf]at h2⊢
  exact Ygl p.f hp.fl (cap:=p.fcap) (cap2:=p2.fcap) hp.f h2 hw
 unfold PnM.val
 unfold NetM.val at p1
 unfold SchM.val at p3
 (apply Y0;apply YL;apply Yy;exact rfl;exact rfl;intro g)
 apply Yy;exact rfl;exact rfl;intro g2
 repeat'(first|(apply Ye T;exact rfl;exact zm;exact rfl;exact zv;exact rfl;exact rfl)|((first|apply Ya YrE|apply Yb YrE);exact za;exact rfl;exactλ_ hw=>(p1 hp.cons.cons hp2.cons.cons hw))|((first|apply Ya en14|apply Yb en14);exact za;exact rfl;exactλ_ hw=>(p2' hp.cons.cons hp2.cons.cons hw))|((first|apply Ya YrF|apply Yb YrF);exact za;exact rfl;exactλ_ hw=>(p3 hp.cons.cons hp2.cons.cons hw))|((first|apply Ya en16|apply Yb en16);exact za;exact rfl;exactλ_ hw=>(p4 hp.cons.cons hp2.cons.cons hw))|((first|apply Ya Yeu|apply Yb Yeu);exact za;exact rfl;exactλ_ hw=>(p5 hp.cons.cons hp2.cons.cons hw))|refine zgc ?_|fail)
 apply Yk;apply Yk;exact zc3
variable {B:Nat}{w0 w:World}{H:List HP}
theorem GwM.In.inX{X:List HP}{g:GwM}(h:g.In B w0 [many X])(hm:many X∈H):g.In B w0 H:=h.mono λ_ hw=>(hw.inM hm).perm (.closeT X)
theorem Yov:YhB exH6=(6,0):=by
 unfold YhB
 rw[Tf (by decide)]
 decide+kernel
variable {s:Spl}
theorem You{i:Nat}{l:Lop}(h1:exH6.l[i]? =some l)(h2:exH6.s[i]? =some s):∃b,ageG exH6 l.1=(l.2.2.2.2.1+s.1+b-1,0)/\1<=b/\b<=s.2/\Xf l s=0:=by
 cases i with
 |zero=>
  obtain rfl:exL6=l:=Tz h1
  obtain rfl:(1,7)=s:=Tz h2
  exact⟨1,Yli,by decide,by decide,by decide⟩
 |succ i=>cases h1
theorem Yjs(hw:St B w0 H w):
 CX B w0 51 [] w λv K=>∃(n:NetM) (X:List HP),v=n.val/\n.net=exN6/\n.In B w0 [many X]/\K=many X::H:=by
 refine Yc Tryz.func51 Tryz.ntmps51 rfl rfl hw ?_
 repeat'(first|refine zgd ?_|(refine zgh ?_;intro _)|fail)
 rename_i g0 r1 r2 gp gl gm
 apply Qh T (H2:=many [blk gm (.cells #[.int .i64 20,.int .i64 20] 3 (0,0)),blk gl (.cells #[.int .i64 0,.int .i64 1,.int .i64 0,.int .i64 1,.int .i64 0,.int .i64 0] 145 (0,0)),blk gp (.cells #[.slice (some ⟨r1,0,none⟩) 2 2,.slice (some ⟨r2,0,none⟩) 2 2] 24 (0,0)),blk r2 (.cells #[.int .i64 40,.int .i64 0] 3 (0,0)),blk r1 (.cells #[.int .i64 0,.int .i64 40] 3 (0,0))]::H);exact rfl;exact rfl;exact zm;exact rfl;exact rfl
 ·intro w hw
  have h5:St B w0 (blk gm (.cells #[.int .i64 20,.int .i64 20] 3 (0,0))::blk gl (.cells #[.int .i64 0,.int .i64 1,.int .i64 0,.int .i64 1,.int .i64 0,.int .i64 0] 145 (0,0))::blk gp (.cells #[.slice (some ⟨r1,0,none⟩) 2 2,.slice (some ⟨r2,0,none⟩) 2 2] 24 (0,0))::blk r2 (.cells #[.int .i64 40,.int .i64 0] 3 (0,0))::blk r1 (.cells #[.int .i64 0,.int .i64 40] 3 (0,0))::H) w:=by
   revert w
   exact zk
  exact h5.perm (.close [_,_,_,_,_] H)
 refine⟨⟨2,(some ⟨gp,0,none⟩),2,[⟨(some ⟨r1,0,none⟩),2,[0,40]⟩,⟨(some ⟨r2,0,none⟩),2,[40,0]⟩],1,2000,(some ⟨gl,0,none⟩),2,[(0,1,0),(1,0,0)],(some ⟨gm,0,none⟩),2,[20,20]⟩,_,rfl,rfl,?_,rfl⟩
 refine NetM.In.mono (H:=[_,_,_,_,_]) ?_ λw hw=>hw.perm (.open_ [_,_,_,_,_] [])
 refine⟨Rd.blk (cs:=#[.slice (some ⟨r1,0,none⟩) 2 2,.slice (some ⟨r2,0,none⟩) 2 2]) (t:=24) (fr:=(0,0)) zm,λr hr=>?_,Rd.blk (cs:=#[.int .i64 0,.int .i64 1,.int .i64 0,.int .i64 1,.int .i64 0,.int .i64 0]) (t:=145) (fr:=(0,0)) zm,Rd.blk (cs:=#[.int .i64 20,.int .i64 20]) (t:=3) (fr:=(0,0)) zm,by show 2<=_;omega,λr hr=>?_,by show 2<=_;omega,by show 2<=_;omega⟩
 ·simp only[RA,R9,NA]at hr
  rcases hr with rfl|rfl
  ·exact Rd.blk (cs:=#[.int .i64 0,.int .i64 40]) (t:=3) (fr:=(0,0)) zm
  ·exact Rd.blk (cs:=#[.int .i64 40,.int .i64 0]) (t:=3) (fr:=(0,0)) zm
 ·simp only[RA,R9,NA]at hr
  rcases hr with rfl|rfl<;>(show 2<=_;omega)
def exS(s:Spl):Prop:=s=(1,7)
def exG(i:Nat)(q:Pln):Prop:=(i=0/\q=exP6)\/(i=1/\q=exQa)\/(i=2/\q=exQb)
theorem YvO:ExtG exS exG exL6 where
 le:=by rintro i q (⟨-,rfl⟩|⟨-,rfl⟩|⟨-,rfl⟩)<;>decide
 st:=by
  rintro i q s f (⟨rfl,rfl⟩|⟨rfl,rfl⟩|⟨rfl,rfl⟩) rfl _ hf
  ·obtain rfl:exFa=f:=Tz hf
   exact .inr ⟨_,Yhl,.inr (.inl ⟨rfl,rfl⟩)⟩
  ·obtain rfl:exFb=f:=Tz hf
   exact .inr ⟨_,Yhm,.inr (.inr ⟨rfl,rfl⟩)⟩
  ·cases hf
 rn:=by
  rintro i q s f (⟨rfl,rfl⟩|⟨rfl,rfl⟩|⟨rfl,rfl⟩) rfl _ hf
  ·obtain rfl:exFa=f:=Tz hf
   exact Yox
  ·obtain rfl:exFb=f:=Tz hf
   exact Yoy
  ·cases hf
theorem YvP{k:Nat}(h:(Zs exL6)[k]? =some s)(hf:∀(j:Nat) t,j<k->(Zs exL6)[j]? =some t->Wg exP6 exL6 t=none):exS s:=by
 have h0:(Zs exL6)[0]? =some (1,7):=by decide
 rcases RE k with rfl|hk
 ·exact(Tz (h0.symm.trans h)).symm
 ·have h1:=hf 0 _ hk h0
  rw[Yhk]at h1;cases h1
theorem Yow:ExtG (λ_=>False) (λ_ q=>q.s.len<=24) exL6 where
 le:=λ_ _ h=>h
 st:=λ_ _ _ _ _ h=>h.elim
 rn:=λ_ _ _ _ _ h=>h.elim
theorem V5(ht:TabsB B w0)(hw:St B w0 H w):
 CX B w0 17 [] w λv K=>v=.bool true/\K=H:=by
 refine Yc Tryz.func17 Tryz.ntmps17 rfl rfl hw ?_
 refine YW [many H] (λw hw=>hw.perm (.closeT H)) ?_
 repeat'(first|refine zga ?_|fail)
 apply Yi _ en51
 exact za
 exact rfl
 exactλ_ hw=>(Yjs (hw))
 rintro _ _ ⟨n,X0,rfl,hn,hin,rfl⟩
 have hinX:∀{H':List HP},many X0∈H'->n.In B w0 H':=λhm=>hin.mono λ_ hw=>(hw.inM hm).perm (.closeT X0)
 have p0:=λ{H':List HP}{w:World}(hin:n.In B w0 H') (hw:St B w0 H' w)=>Ye3 n 8 1 ht hin hw
 rw[hn,show newG exN6 8 1=(some exG6,0) from rfl]at p0
 unfold Qd NetM.val at p0
 unfold NetM.val
 repeat'(first|fail)
 apply Yi _ en20
 exact za
 exact rfl
 exactλ_ hw=>(p0 (hinX zm) (hw))
 rintro _ _ (⟨h,-⟩|⟨g,X1,hg,rfl,hgi,rfl⟩)
 ·cases h
 have hg:g.gw=exG6:=(Tz hg).symm
 have hg24:g.p.s.len<=24:=by
  have h1:g.gw.p.s.len=8:=by rw[hg];rfl
  have h2:g.gw.p.s.len=g.p.s.len:=rfl
  omega
 have p1:∀{H':List HP}{w:World},g.In B w0 H'->St B w0 H' w->CX B w0 52 [g.val,lopV exL6] w (Qd B w0 H' (some exH6,0)):=λhgi hw=>by
  have h:=Ox g exL6 YvO (λ_=>.inl ⟨rfl,TD Gwy.p hg⟩) (λ_ k s h1 h2=>YvP h1 λj t hj ht=>by have h3:=h2 j t hj ht;rwa [show g.p.pln=exP6 from TD Gwy.p hg]at h3) ht hgi hw
  rw[hg,YqF]at h
  exact h
 have p2:∀{H':List HP}{w:World},g.In B w0 H'->St B w0 H' w->CX B w0 54 [g.val,.int .i64 2] w λv K=>v=.tuple #[V6,.int .i64 7]/\K=H':=λhgi hw=>
  Ybl g 2 (by rw[hg];exact YqG) (by rw[show g.l=exG6.l from TD Gwy.l hg];rfl) ht hgi hw
 unfold Qd at p1
 unfold GwM.val at p1 p2⊢
 unfold lopV exL6 at p1
 dsimp only at p1 p2
 repeat'(first|refine zgd ?_|(refine zgh ?_;intro _)|fail)
 apply Yi _ en52
 exact za
 exact rfl
 exactλ_ hw=>(p1 (hgi.inX zm) (hw))
 rintro _ _ (⟨h,-⟩|⟨a,X2,ha,rfl,hai,rfl⟩)
 ·cases h
 have ha:exH6=a.gw:=Tz ha
 have has:a.s=[(1,7)]:=by have:=TD Gwy.s ha;exact this.symm
 have hal:a.s.length=1:=by rw[has];rfl
 have ha24:a.p.s.len<=24:=by
  have h1:a.gw.p.s.len=8:=by rw[<-ha];rfl
  have h2:a.gw.p.s.len=a.p.s.len:=rfl
  omega
 have p3:∀{H':List HP}{w:World},a.In B w0 H'->St B w0 H' w->CX B w0 27 [a.val,.int .i64 2] w λv K=>v=.tuple #[.int .i64 9,.int .i64 0]/\K=H':=λhai hw=>by
  have h:=Yg1 a 2 (λ_ i l s h1 h2=>by rw[show a.l=exH6.l from(TD Gwy.l ha).symm]at h1;rw[show a.s=exH6.s from(TD Gwy.s ha).symm]at h2;rw[<-ha];exact You h1 h2) ht hai hw
  rw[<-ha,Yli]at h
  exact h
 have p4:∀{H':List HP}{w:World},a.In B w0 H'->St B w0 H' w->CX B w0 53 [a.val] w λv K=>v=.tuple #[.int .i64 6,.int .i64 0]/\K=H':=λhai hw=>by
  have h:=YhA a ht hai hw
  rw[<-ha,Yov]at h
  exact h
 have p5:∀{H':List HP}{w:World},a.In B w0 H'->St B w0 H' w->CX B w0 52 [a.val,lopV exL6] w (Qd B w0 H' (none,6)):=λhai hw=>by
  have h:=Ox a exL6 Yow (λ_=>ha24) (λh1=>by rw[show a.l=exH6.l from(TD Gwy.l ha).symm]at h1;exact absurd h1 (by decide)) ht hai hw
  rw[<-ha,Ymo]at h
  exact h
 have hrs:=λ{H':List HP}(hm:many X2∈H')=>(hai.inX hm).s
 unfold Qd at p5
 unfold GwM.val at p3 p4 p5
 unfold lopV exL6 at p5
 dsimp only at p5
 rw[hal]at p3 p4 p5⊢
 rw[has]at hrs
 repeat'(first|(apply Ye T;exact rfl;exact zm;exact rfl;exact zv;exact rfl;exact rfl)|((first|apply Ya en27|apply Yb en27);exact za;exact rfl;exactλ_ hw=>(p3 (hai.inX zm) hw))|((first|apply Ya en53|apply Yb en53);exact za;exact rfl;exactλ_ hw=>(p4 (hai.inX zm) hw))|refine zgc ?_|(refine zgh ?_;intro _)|fail)
 apply Yi _ en52
 exact za
 exact rfl
 exactλ_ hw=>(p5 (hai.inX zm) (hw))
 rintro _ _ (⟨-,rfl,rfl⟩|⟨b,X3,h,-⟩)
 rotate_left
 ·cases h
 unfold V6
 repeat'(first|refine zgc ?_|(refine zgh ?_;intro _)|fail)
 apply Yi _ en54
 exact za
 exact rfl
 exactλ_ hw=>(p2 (hgi.inX zm) (hw))
 rintro _ _ ⟨rfl,rfl⟩
 unfold V6
 have hsp:[((1:Int),(7:Int))][(0:Int).toNat]? =some (1,7):=rfl
 repeat'(first|(apply Ye T;exact rfl;exact zm;exact rfl;exact zv;exact rfl;exact rfl)|(apply Zf T (l:=[((1:Int),(7:Int))]) (f:=splF);exact rfl;exact rfl;exact hrs zm;exact rfl;exactλ_=>rfl;exact rfl;exact rfl;exact⟨by decide,by decide⟩)|(apply Ww T (l:=[((1:Int),(7:Int))]) (f:=splF);exact rfl;exact hrs zm;exact hsp;exactλ_=>rfl;(iterate 3 exact rfl))|(apply Yqe (xs:=[.int .i64 1,.int .i64 7]) (ys:=[.int .i64 1,.int .i64 7]);(iterate 3 exact rfl);kernel_rfl;kernel_rfl;rotate_left;(intro hne;exact absurd rfl hne);intro _)|refine zgd ?_|(refine zge ?_ ?_<;>intro _<;>try exact zo)|(refine zgh ?_;intro _)|fail)
 apply Yg H
 ·intro w hw
  have h5:St B w0 [many H] w:=by
   revert w
   exact zk
  exact h5.perm (.openT H)
 apply Yd;exact rfl;exact rfl;exact⟨rfl,rfl⟩
theorem PnM.Bg.mono{B:Nat}{w0:World}{H H':List HP}{p:PnM}(h:p.Bg B w0 H)(hH:∀w,St B w0 H' w->St B w0 H w):p.Bg B w0 H':=⟨h.n.mono hH,h.q.mono hH,h.s.mono hH,h.sl,h.c.mono5 hH,h.f.mono hH,h.fl⟩
variable {B:Nat}{w0 w:World}{H:List HP}
theorem Yin(n:NetM)(len off:Int)(hin:n.In B w0 H)(hw:St B w0 H w):
 CX B w0 55 [n.val,.slice none 0 0,.int .i64 len,.int .i64 off] w (YbK B w0 H (newP n.net len off)):=by
 refine Yc Tryz.func55 Tryz.ntmps55 rfl rfl hw ?_
 have hop:∀w,St B w0 [many H] w->St B w0 H w:=λw hw=>hw.perm (.openT H)
 have hinM:∀{H':List HP},many H∈H'->n.In B w0 H':=λhm=>hin.mono λw hw=>hw.inM hm
 have p1:=λ{H':List HP}{w:World}(hin:n.In B w0 H') (hw:St B w0 H' w)=>Ygk n len off hin hw
 by_cases hgood:Ym n.net=0/\(1<=len/\len<=512/\1<=off/\off<=16)
 rotate_left
 ·have hbad:∃e,newP n.net len off=(none,e)/\e≠0:=by
   rcases UX n.net len off with⟨P,hP⟩|h
   ·exfalso
    unfold newP at hP
    split at hP
    ·cases hP
    ·rename_i h1
     split at hP
     ·cases hP
     ·exact hgood ⟨TK.1 h1,by omega⟩
   ·exact h
  obtain⟨e,hP,he⟩:=hbad
  rw[hP]at p1⊢
  unfold NetM.val at p1⊢
  dsimp only at p1
  refine YW [many H] (λw hw=>hw.perm (.closeT H)) ?_
  repeat'(first|((first|apply Ya YkM|apply Yb YkM);exact za;exact rfl;exactλ_ hw=>(p1 (hinM zm) hw))|refine zgd ?_|(refine zge ?_ ?_<;>intro _<;>try exact zo)|(refine zgh ?_;intro _)|fail)
  apply Yp T (H2:=H);(iterate 3 exact rfl);exact zm;exact rfl;exact rfl
  ·intro w hw
   have h5:St B w0 [many H] w:=by
    revert w
    exact zk
   exact hop w h5
  exact .inl ⟨rfl,rfl,rfl⟩
 obtain⟨hck,hs⟩:=hgood
 have hP:newP n.net len off=(some ⟨n.net,[],mt len off,[],XY (mt len off)⟩,0):=by
  unfold newP
  rw[Tf (λe=>e hck),Tf (by omega)]
 rw[hP]at p1⊢
 have p2:=λ{H':List HP}{w:World}(hin:n.In B w0 H') (hw:St B w0 H' w)=>Yd4 n hck hin hw
 have p3:=λ(A:Option Addr) {H':List HP}{w:World}(hin:n.In B w0 H') (hw:St B w0 H' w)=>Yj1 n hck len off hs A hin hw
 have p4:=λ(A:Option Addr) {H':List HP}{w:World}(hin:n.In B w0 H') (hw:St B w0 H' w)=>Yiu n hck len off hs A hin hw
 have p5:=λ(A:Option Addr) {H':List HP}{w:World}(hin:n.In B w0 H') (hw:St B w0 H' w)=>Yc7 n [] ⟨len,off,none,0,[]⟩ (by rw[RY,show(⟨len,off,none,0,[]⟩:SchM).sch=mt len off from rfl,Ux hck hs]) (A:=A) (cap:=0) hin ⟨Rd.nil,λx h=>(by cases h),Tc _⟩ Rd.nil (Tc _) hw
 have hfr:(Xg (mt len off)).1=XY (mt len off):=by
  have hf:Xw (mt len off)=true:=by
   have hz:XU (mt len off)=true:=Ti hs
   unfold Xw;rw[hz];rfl
  unfold Xg;rw[hf,Tf (by decide)]
 rw[RY,show(⟨len,off,none,0,[]⟩:SchM).sch=mt len off from rfl,Ux hck hs,hfr]at p5
 unfold SchM.val at p5
 unfold NetM.val at p1 p2 p3 p4 p5⊢
 dsimp only at p1 p5
 refine YW [many H] (λw hw=>hw.perm (.closeT H)) ?_
 repeat'(first|((first|apply Ya YkM|apply Yb YkM);exact za;exact rfl;exactλ_ hw=>(p1 (hinM zm) hw))|refine zgb ?_|(refine zge ?_ ?_<;>intro _<;>try exact zo)|(refine zgh ?_;intro _)|fail)
 apply Yi _ YuN
 exact za
 exact rfl
 exactλ_ hw=>(p2 (hinM zm) (hw))
 rintro _ _ ⟨⟨A,rfl⟩,rfl⟩
 repeat'(first|refine zgc ?_|(refine zge ?_ ?_<;>intro _<;>try exact zo)|fail)
 apply Yi _ YuO
 exact za
 exact rfl
 exactλ_ hw=>(p3 A (hinM zm) (hw))
 rintro _ _ ⟨⟨A2,rfl⟩,rfl⟩
 repeat'(first|refine zgc ?_|(refine zge ?_ ?_<;>intro _<;>try exact zo)|(refine zgh ?_;intro _)|fail)
 first|apply Ya YrD|apply Yb YrD
 exact za
 exact rfl
 exactλ_ hw=>(p4 A (hinM zm) hw)
 repeat'(first|refine zgc ?_|(refine zgh ?_;intro _)|fail)
 apply Yi _ YuP
 exact za
 exact rfl
 exactλ_ hw=>(p5 A (hinM zm) (hw))
 rintro _ _ ⟨p,X,rfl,hp,hpi,rfl⟩
 unfold PnM.val
 repeat'(first|refine zgc ?_|fail)
 apply Yp T (H2:=many X::H);(iterate 3 exact rfl);exact zm;exact rfl;exact rfl
 ·intro w hw
  have h5:St B w0 (many X::[many H]) w:=by
   revert w
   exact zk
  exact h5.perm (.cons _ (.openT H))
 exact .inr ⟨p,X,by rw[hp],rfl,hpi [] ⟨Rd.nil,λx h=>(by cases h),Tc _⟩ Rd.nil,rfl⟩
theorem Yio(n:NetM)(len off:Int)(hin:n.In B w0 H)(hw:St B w0 H w):
 CX B w0 21 [n.val,.int .i64 len,.int .i64 off] w (Qd B w0 H (newG n.net len off)):=by
 refine Yc Tryz.func21 Tryz.ntmps21 rfl rfl hw ?_
 have hop:∀w,St B w0 [many H] w->St B w0 H w:=λw hw=>hw.perm (.openT H)
 have hinM:∀{H':List HP},many H∈H'->n.In B w0 H':=λhm=>hin.mono λw hw=>hw.inM hm
 have p1:=λ{H':List HP}{w:World}(hin:n.In B w0 H') (hw:St B w0 H' w)=>Yin n len off hin hw
 unfold YbK PnM.val NetM.val at p1
 unfold NetM.val newG
 refine YW [many H] (λw hw=>hw.perm (.closeT H)) ?_
 rcases UX n.net len off with⟨P,hP⟩|⟨e,hP,he⟩
 ·rw[hP]at p1⊢
  dsimp only at p1⊢
  repeat'(first|refine zgb ?_|(refine zgh ?_;intro _)|fail)
  apply Yi _ en55
  exact za
  exact rfl
  exactλ_ hw=>(p1 (hinM zm) (hw))
  rintro _ _ (⟨h,-⟩|⟨p,X,hp,rfl,hpi,rfl⟩)
  ·cases h
  obtain rfl:P=p.pln:=Tz hp
  repeat'(first|(apply Ye T;exact rfl;exact zm;exact rfl;exact zv;exact rfl;exact rfl)|refine zgd ?_|(refine zge ?_ ?_<;>intro _<;>try exact zo)|(refine zgh ?_;intro _)|fail)
  apply Yp T (H2:=many X::H);(iterate 3 exact rfl);exact zm;exact rfl;exact rfl
  ·intro w hw
   have h5:St B w0 (many X::[many H]) w:=by
    revert w
    exact zk
   exact h5.perm (.cons _ (.openT H))
  exact .inr ⟨⟨p,none,0,[],none,0,[]⟩,X,rfl,rfl,⟨hpi,Rd.nil,Rd.nil,Tc _,Tc _,Tc _,Tc _⟩,rfl⟩
 ·rw[hP]at p1⊢
  dsimp only at p1⊢
  repeat'(first|refine zgb ?_|(refine zgh ?_;intro _)|fail)
  apply Yi _ en55
  exact za
  exact rfl
  exactλ_ hw=>(p1 (hinM zm) (hw))
  rintro _ _ (⟨-,rfl,rfl⟩|⟨p,X,h,-⟩)
  rotate_left
  ·cases h
  unfold zeroPnV
  repeat'(first|(apply Ye T;exact rfl;exact zm;exact rfl;exact zv;exact rfl;exact rfl)|refine zgd ?_|(refine zge ?_ ?_<;>intro _<;>try exact zo)|(refine zgh ?_;intro _)|fail)
  apply Yp T (H2:=H);(iterate 3 exact rfl);exact zm;exact rfl;exact rfl
  ·intro w hw
   have h5:St B w0 [many H] w:=by
    revert w
    exact zk
   exact hop w h5
  exact .inl ⟨rfl,rfl,rfl⟩
structure GwM.Bg(B:Nat)(w0:World)(H:List HP)(g:GwM):Prop where
 p:g.p.Bg B w0 H
 l:Rd B w0 H g.lA (g.l.flatMap lopF)
 s:Rd B w0 H g.sA (g.s.flatMap splF)
 ll:g.l.length<=9223372036854775807
 sl:g.s.length<=9223372036854775807
 lc:g.l.length<=g.lcap
 sc:g.s.length<=g.scap
def FewG(g:GwM):Prop:=FewP g.p/\g.l.length<=9/\g.s.length<=10
variable {B:Nat}{w0:World}{H:List HP}{g:GwM}
theorem GwM.Bg.small(h:g.Bg B w0 H)(hf:FewG g):g.In B w0 H:=
 ⟨h.p.small hf.1,h.l,h.s,by have:=hf.2.1;omega,by have:=hf.2.2;omega,h.lc,h.sc⟩
theorem GwM.Bg.mono{H':List HP}(h:g.Bg B w0 H)(hH:∀w,St B w0 H' w->St B w0 H w):g.Bg B w0 H':=⟨h.p.mono hH,h.l.mono hH,h.s.mono hH,h.ll,h.sl,h.lc,h.sc⟩
theorem Yjw(g:GwM){w:World}(hg:g.Bg B w0 H)(hw:St B w0 H w):
 CX B w0 19 [g.val] w λv K=>(∃b,v=.bool b/\(b=true->FewG g))/\K=H:=by
 refine Yc Tryz.func19 Tryz.ntmps19 rfl rfl hw ?_
 have p1:=λ{H':List HP}{w:World}(hp:g.p.Bg B w0 H') (hw:St B w0 H' w)=>Yjv g.p hp hw
 have hll:=hg.ll
 have hsl:=hg.sl
 unfold GwM.val
 unfold PnM.val at p1
 (apply Y0;apply YL;apply Yy;exact rfl;exact rfl;intro g)
 repeat'(first|(apply Ye T;exact rfl;exact zm;exact rfl;exact zv;exact rfl;exact rfl)|refine zgb ?_|fail)
 apply Yi _ en7
 exact za
 exact rfl
 exactλ_ hw=>(p1 (hg.p.mono zk) (hw))
 rintro _ _ ⟨⟨b,rfl,hb⟩,hK⟩
 rw[hK]
 cases b with
 |false=>
  repeat'(first|(apply Ye T;exact rfl;exact zm;exact rfl;exact zv;exact rfl;exact rfl)|refine zgc ?_|fail)
  apply Yk;apply Yd;exact rfl;exact rfl;exact⟨⟨_,rfl,λh=>by cases h⟩,rfl⟩
 |true=>
 repeat'(first|(apply Ye T;exact rfl;exact zm;exact rfl;exact zv;exact rfl;exact rfl)|refine zgc ?_|(refine zgf ?_ ?_<;>intro _<;>try exact zo)|fail)
 all_goals(
  apply Yk
  apply Yd;exact rfl;exact rfl
  exact⟨⟨_,rfl,λh=>by first|(exact absurd h (by decide))|exact⟨hb rfl,by omega,by omega⟩⟩,rfl⟩)
variable {B:Nat}{w0:World}{H:List HP}
theorem Ydd(a b:GwM)(he:a.gw=b.gw){w:World}(ha:a.In B w0 H)(hb:b.In B w0 H)(hw:St B w0 H w):
 CX B w0 22 [a.val,b.val] w λu K=>u=.bool true/\K=H:=by
 refine Yc Tryz.func22 Tryz.ntmps22 rfl rfl hw ?_
 have hpl:a.p.pln=b.p.pln:=TD Gwy.p he
 have hl:a.l=b.l:=TD Gwy.l he
 have hs:a.s=b.s:=TD Gwy.s he
 have p1:=λ{H':List HP}{w:World}(ha:a.In B w0 H') (hb:b.In B w0 H') (hw:St B w0 H' w)=>Yiy a.p b.p hpl ha.p hb.p hw
 unfold PnM.val at p1
 have hop:∀w,St B w0 [many H] w->St B w0 H w:=λw hw=>hw.perm (.openT H)
 have haM:∀{H':List HP},many H∈H'->a.In B w0 H':=λhm=>ha.mono λw hw=>hw.inM hm
 have hbM:∀{H':List HP},many H∈H'->b.In B w0 H':=λhm=>hb.mono λw hw=>hw.inM hm
 have hal:=ha.ll
 have has:=ha.sl
 have hll:a.l.length=b.l.length:=by rw[hl]
 have hss:a.s.length=b.s.length:=by rw[hs]
 unfold GwM.val
 refine YW [many H] (λw hw=>hw.perm (.closeT H)) ?_
 (apply Y0;apply YL;apply Yy;exact rfl;exact rfl;intro g)
 apply Yy;exact rfl;exact rfl;intro g2
 have hra:=(haM (H':=[gwyA g2 b,gwyA g a,many H]) (.tail _ (.tail _ (.head _)))).l
 have hrb:=(hbM (H':=[gwyA g2 b,gwyA g a,many H]) (.tail _ (.tail _ (.head _)))).l
 have hsa:=(haM (H':=[gwyA g2 b,gwyA g a,many H]) (.tail _ (.tail _ (.head _)))).s
 have hsb:=(hbM (H':=[gwyA g2 b,gwyA g a,many H]) (.tail _ (.tail _ (.head _)))).s
 repeat'(first|(apply Ye T;exact rfl;exact zm;exact rfl;exact zv;exact rfl;exact rfl)|((first|apply Ya en56|apply Yb en56);exact za;exact rfl;exactλ_ hw=>(p1 (haM zm) (hbM zm) hw))|refine zgd ?_|(refine zge ?_ ?_<;>intro _<;>try exact zo)|fail)
 refine Yf (λk:Nat=>[(5,.int .i64 k),(2,.pointer (some ⟨g,0,none⟩)),(3,.pointer (some ⟨g2,0,none⟩))]) (λ_=>[gwyA g2 b,gwyA g a,many H]) (λk=>k<=a.l.length) (λk=>a.l.length-k) 0 (Tc _) ?_ (λw hw=>hw) ?_
 ·exact zu
 intro k hk K hK
 by_cases hlt:k<a.l.length
 ·obtain⟨x,hx⟩:∃x,a.l[k]? =some x:=⟨_,Ta hlt⟩
  have hy:=hx
  rw[hl]at hy
  repeat'(first|(apply UF (xs:=lopF x) (ys:=lopF x);(iterate 3 exact rfl);kernel_rfl;kernel_rfl;(intro hne;exact absurd rfl hne);intro _)|refine zgd ?_|(refine zge ?_ ?_<;>intro _<;>try exact zo)|fail)
  apply hK (k+1)
  ·omega
  ·omega
  ·exact zu
  ·exactλw hw=>hw
 clear hK hk
 repeat'(first|refine zgc ?_|(refine zge ?_ ?_<;>intro _<;>try exact zo)|fail)
 clear hlt
 refine Yf (λk:Nat=>[(6,.int .i64 k),(2,.pointer (some ⟨g,0,none⟩)),(3,.pointer (some ⟨g2,0,none⟩))]) (λ_=>[gwyA g2 b,gwyA g a,many H]) (λk=>k<=a.s.length) (λk=>a.s.length-k) 0 (Tc _) ?_ (λw hw=>hw) ?_
 ·exact zu
 intro k hk K hK
 by_cases hlt:k<a.s.length
 ·obtain⟨x,hx⟩:∃x,a.s[k]? =some x:=⟨_,Ta hlt⟩
  have hy:=hx
  rw[hs]at hy
  repeat'(first|(apply UF (xs:=splF x) (ys:=splF x);(iterate 3 exact rfl);kernel_rfl;kernel_rfl;(intro hne;exact absurd rfl hne);intro _)|refine zgd ?_|(refine zge ?_ ?_<;>intro _<;>try exact zo)|fail)
  apply hK (k+1)
  ·omega
  ·omega
  ·exact zu
  ·exactλw hw=>hw
 repeat'(first|refine zgc ?_|(refine zge ?_ ?_<;>intro _<;>try exact zo)|fail)
 apply Yg H
 ·intro w hw
  have h5:St B w0 [many H] w:=by
   revert w
   exact zk
  exact hop w h5
 apply Yd;exact rfl;exact rfl;exact⟨rfl,rfl⟩
def zeroGw:GwM:=⟨⟨⟨0,none,0,[],0,0,none,0,[],none,0,[]⟩,none,0,[],⟨0,0,none,0,[]⟩,none,0,[],none,0,[]⟩,none,0,[],none,0,[]⟩
theorem YlM:zeroGw.In B w0 H:=
 ⟨⟨⟨Rd.nil,λr h=>(by cases h),Rd.nil,Rd.nil,Tc _,λr h=>(by cases h),Tc _,Tc _⟩,⟨Rd.nil,λx h=>(by cases h),Tc _⟩,Rd.nil,Tc _,⟨Rd.nil,λx h=>(by cases h),Tc _⟩,Rd.nil,Tc _⟩,Rd.nil,Rd.nil,Tc _,Tc _,Tc _,Tc _⟩
theorem YjR(n:Net)(len off:Int):(∃g,newG n len off=(some g,0))\/∃e,newG n len off=(none,e):=by
 unfold newG
 rcases UX n len off with⟨p,h⟩|⟨e,h,-⟩
 ·rw[h];exact .inl ⟨_,rfl⟩
 ·rw[h];exact .inr ⟨_,rfl⟩
theorem YuA(n:NetM)(len off:Int)(g:GwM){B:Nat}{w0:World}{H:List HP}{w:World}(ht:TabsB B w0)(hin:n.In B w0 H)(hg:g.Bg B w0 H)(hw:St B w0 H w):
 CX B w0 4 [n.val,.int .i64 len,.int .i64 off,g.val] w λv K=>v=.bool true/\K=H:=by
 refine Yc Tryz.func4 Tryz.ntmps4 rfl rfl hw ?_
 have p0:=λ{H':List HP}{w:World}(hg:g.Bg B w0 H') (hw:St B w0 H' w)=>Yjw g hg hw
 have p1:=λ{H':List HP}{w:World}(hin:n.In B w0 H') (hw:St B w0 H' w)=>Ycs n hin hw
 have p2:=λ{H':List HP}{w:World}(hin:n.In B w0 H') (hw:St B w0 H' w)=>Ye3 n len off ht hin hw
 have p3:=λ{H':List HP}{w:World}(hin:n.In B w0 H') (hw:St B w0 H' w)=>Yio n len off hin hw
 have hop:∀w,St B w0 [many H] w->St B w0 H w:=λw hw=>hw.perm (.openT H)
 have hbM:∀{H':List HP},many H∈H'->g.Bg B w0 H':=λhm=>hg.mono λw hw=>hw.inM hm
 have hinM:∀{H':List HP},many H∈H'->n.In B w0 H':=λhm=>hin.mono λw hw=>hw.inM hm
 obtain⟨bf,hbf⟩:∃b,fewE n.net=b:=⟨_,rfl⟩
 rw[hbf]at p1
 unfold GwM.val at p0
 unfold NetM.val at p1 p2 p3
 unfold GwM.val NetM.val
 refine YW [many H] (λw hw=>hw.perm (.closeT H)) ?_
 iterate 8 (first|refine zga ?_|(refine zgh ?_;intro _)|fail)
 rename_i g4 g7
 refine Zt (λ_:{u:Unit//FewG g}=>[(1,.int .i64 len),(2,.int .i64 off),(4,.pointer (some ⟨g4,0,none⟩)),(7,.pointer (some ⟨g7,0,none⟩))]) (λ_=>[gwyA g7 g,netA g4 n,many H]) ?_ ?_
 ·intro K hK
  by_cases hskip:bf=true/\(len<=24\/512<len)
  rotate_left
  ·have hs2:bf=false\/(24<len/\len<=512):=by
    cases bf with
    |false=>exact .inl rfl
    |true=>exact .inr (by have h:=not_and.1 hskip rfl;omega)
   cases bf with
   |false=>
    repeat'(first|((first|apply Ya en17|apply Yb en17);exact za;exact rfl;exactλ_ hw=>(V5 ht hw))|((first|apply Ya en18|apply Yb en18);exact za;exact rfl;exactλ_ hw=>(p1 (hinM zm) hw))|refine zgd ?_|fail)
    apply Yg H
    ·intro w hw
     have h5:St B w0 [many H] w:=by
      revert w
      exact zk
     exact hop w h5
    apply Yd;exact rfl;exact rfl;exact⟨rfl,rfl⟩
   |true=>
    have hs3:24<len/\len<=512:=hs2.resolve_left (by decide)
    repeat'(first|((first|apply Ya en17|apply Yb en17);exact za;exact rfl;exactλ_ hw=>(V5 ht hw))|((first|apply Ya en18|apply Yb en18);exact za;exact rfl;exactλ_ hw=>(p1 (hinM zm) hw))|refine zgd ?_|(refine zgf ?_ ?_<;>intro _<;>try exact zo)|fail)
    apply Yg H
    ·intro w hw
     have h5:St B w0 [many H] w:=by
      revert w
      exact zk
     exact hop w h5
    apply Yd;exact rfl;exact rfl;exact⟨rfl,rfl⟩
  obtain⟨rfl,hlen⟩:=hskip
  repeat'(first|((first|apply Ya en17|apply Yb en17);exact za;exact rfl;exactλ_ hw=>(V5 ht hw))|((first|apply Ya en18|apply Yb en18);exact za;exact rfl;exactλ_ hw=>(p1 (hinM zm) hw))|refine zgd ?_|(refine zgf ?_ ?_<;>intro _<;>try exact zo)|fail)
  all_goals(
   apply Yi _ en19
   exact za
   exact rfl
   exactλ_ hw=>(p0 (hbM zm) (hw))
   rintro _ _ ⟨⟨b,rfl,hfew⟩,hK0⟩
   rw[hK0]
   cases b with
   |false=>
    repeat'(first|((first|apply Ya en17|apply Yb en17);exact za;exact rfl;exactλ_ hw=>(V5 ht hw))|refine zgd ?_|fail)
    apply Yg H
    ·intro w hw
     have h5:St B w0 [many H] w:=by
      revert w
      exact zk
     exact hop w h5
    apply Yd;exact rfl;exact rfl;exact⟨rfl,rfl⟩
   |true=>
    have hfew:=hfew rfl
    repeat'(first|refine zgd ?_|fail)
    apply hK ⟨(),hfew⟩
    ·exact zu
    ·exact zk)
 rintro⟨⟨⟩,hfew⟩
 have hgM:∀{H':List HP},many H∈H'->g.In B w0 H':=λhm=>(hbM hm).small hfew
 have p4:=λ{H':List HP}{w:World}(hg:g.In B w0 H') (hw:St B w0 H' w)=>Jh g ht hg hw
 have p5:=λ{H':List HP}{w:World}(hg:g.In B w0 H') (hw:St B w0 H' w)=>YdU g hg hw
 unfold GwM.val at p4 p5
 generalize chkG g.gw=ck at p4 p5
 unfold Qd at p2 p3
 rcases YjR n.net len off with⟨G,hG⟩|⟨e,hG⟩
 rotate_left
 ·rw[hG]at p2 p3
  dsimp only at p2 p3
  have p7:∀{H':List HP}{w:World},St B w0 H' w->CX B w0 22 [V6,V6] w λu K=>u=.bool true/\K=H':=λhw=>Ydd zeroGw zeroGw rfl YlM YlM hw
  unfold V6 at p2 p3 p7
  repeat'(first|refine zgb ?_|fail)
  apply Yi _ en20
  exact za
  exact rfl
  exactλ_ hw=>(p2 (hinM zm) (hw))
  rintro _ _ (⟨-,rfl,rfl⟩|⟨a,X,h,-⟩)
  rotate_left
  ·cases h
  repeat'(first|refine zgc ?_|(refine zgh ?_;intro _)|fail)
  apply Yi _ en21
  exact za
  exact rfl
  exactλ_ hw=>(p3 (hinM zm) (hw))
  rintro _ _ (⟨-,rfl,rfl⟩|⟨a,X,h,-⟩)
  rotate_left
  ·cases h
  repeat'(first|(apply Ye T;exact rfl;exact zm;exact rfl;exact zv;exact rfl;exact rfl)|refine zgc ?_|(refine zgh ?_;intro _)|fail)
  apply YG [0,1,2,3,4,5,6,7,8,9,11,10,12,13,14,15] [] [true,true,true,true,true]
  kernel_rfl
  kernel_rfl
  exact zy
  (simp only[Yh,nthO];rfl)
  exact rfl
  repeat'(first|(apply Ye T;exact rfl;exact zm;exact rfl;exact zv;exact rfl;exact rfl)|((first|apply Ya en22|apply Yb en22);exact za;exact rfl;exactλ_ hw=>(p7 hw))|((first|apply Ya en23|apply Yb en23);exact za;exact rfl;exactλ_ hw=>(p4 (hgM zm) hw))|((first|apply Ya en24|apply Yb en24);exact za;exact rfl;exactλ_ hw=>(p5 (hgM zm) hw))|(apply Yj;try exact zl)|refine zgd ?_|(refine zge ?_ ?_<;>intro _<;>try exact zo)|fail)
  apply Yg H
  ·intro w hw
   have h5:St B w0 [many H] w:=by
    revert w
    exact zk
   exact hop w h5
  apply Yd;exact rfl;exact rfl;exact⟨rfl,rfl⟩
 rw[hG]at p2 p3
 dsimp only at p2 p3
 repeat'(first|refine zgb ?_|fail)
 apply Yi _ en20
 exact za
 exact rfl
 exactλ_ hw=>(p2 (hinM zm) (hw))
 rintro _ _ (⟨h,-⟩|⟨a,X,ha,rfl,hai,rfl⟩)
 ·cases h
 unfold GwM.val
 repeat'(first|refine zgc ?_|(refine zgh ?_;intro _)|fail)
 apply Yi _ en21
 exact za
 exact rfl
 exactλ_ hw=>(p3 (hinM zm) (hw))
 rintro _ _ (⟨h,-⟩|⟨b,Y,hb,rfl,hbi,rfl⟩)
 ·cases h
 have hab:a.gw=b.gw:=Tz (ha.symm.trans hb)
 have p6:=λ{H':List HP}{w:World}(hai:a.In B w0 H') (hbi:b.In B w0 H') (hw:St B w0 H' w)=>Ydd a b hab hai hbi hw
 unfold GwM.val at p6⊢
 repeat'(first|(apply Ye T;exact rfl;exact zm;exact rfl;exact zv;exact rfl;exact rfl)|refine zgc ?_|(refine zgh ?_;intro _)|fail)
 apply YG [0,1,2,3,4,5,6,7,8,9,11,10,12,13,14,15] [] [true,true,true,true,true,true,true]
 kernel_rfl
 kernel_rfl
 exact zy
 (simp only[Yh,nthO];rfl)
 exact rfl
 repeat'(first|(apply Ye T;exact rfl;exact zm;exact rfl;exact zv;exact rfl;exact rfl)|((first|apply Ya en22|apply Yb en22);exact za;exact rfl;exactλ_ hw=>(p6 (hai.inX zm) (hbi.inX zm) hw))|((first|apply Ya en23|apply Yb en23);exact za;exact rfl;exactλ_ hw=>(p4 (hgM zm) hw))|((first|apply Ya en24|apply Yb en24);exact za;exact rfl;exactλ_ hw=>(p5 (hgM zm) hw))|(apply Yj;try exact zl)|refine zgd ?_|(refine zge ?_ ?_<;>intro _<;>try exact zo)|fail)
 apply Yg H
 ·intro w hw
  have h5:St B w0 [many H] w:=by
   revert w
   exact zk
  exact hop w h5
 apply Yd;exact rfl;exact rfl;exact⟨rfl,rfl⟩
end Go.Proofs.YtjlgijpmnfabcaaGreatDoor
