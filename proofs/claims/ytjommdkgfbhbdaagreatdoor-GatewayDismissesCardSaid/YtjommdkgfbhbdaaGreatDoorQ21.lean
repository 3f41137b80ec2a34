/- Lemmas. -/
import Derived.Shelf.SlSortCmp.NoneTotal
import Derived.Test.YtjommdkgfbhbdaaGreatDoorQ19
import Derived.Test.YtjommdkgfbhbdaaGreatDoorQ20
set_option maxRecDepth 100000
set_option maxHeartbeats 8000000
set_option linter.all false
namespace Go.Proofs.YtjommdkgfbhbdaaGreatDoor
open Go.RowKit Go.Eng Go.Nw Go.Rt
abbrev zerG(g:Nat):HP:=blk g (.cells (Value.agg #[.int .i64 0,.slice none 0 0,.int .i64 0,.int .i64 0,.slice none 0 0,.slice none 0 0,.slice none 0 0,.int .i64 0,.int .i64 0,.slice none 0 0,.slice none 0 0,.slice none 0 0,.slice none 0 0,.slice none 0 0]).cells 56 (0,0))
theorem Yjc{α:Type}(L:List α)(k:Nat)(x:α)(h:k<=L.length):(XY L k x).length=L.length+1:=by
 grind [XY]
theorem Ou(g:GwM)(l:Lop){S:Spl->Prop}{G:Nat->Pln->Prop}(hG:ExtG S G l)(h0:chkG g.gw=0->G 0 g.p.pln)(hS:hasL g.l l.1=false->∀(k:Nat) s,(ZJ l)[k]? =some s->(∀(j:Nat) t,j<k->(ZJ l)[j]? =some t->Wh g.p.pln l t=none)->S s){B:Nat}{w0:World}{H:List HP}{w:World}(ht:TabsB B w0)(hg:g.In B w0 H)(hw:St B w0 H w):
 CX B w0 26 [g.val,lopV l] w (O7 B w0 H (admG g.gw l)):=by
 refine Ya Tryz.func26 Tryz.ntmps26 rfl rfl hw ?_
 have hop:∀w,St B w0 [many H] w->St B w0 H w:=λw hw=>hw.perm (.openT H)
 have hgM:∀{H':List HP},many H∈H'->g.In B w0 H':=λhm=>hg.mono λw hw=>hw.inM hm
 have p1:=λ{H':List HP}{w:World}(hg:g.In B w0 H') (hw:St B w0 H' w)=>Jj g ht hg hw
 unfold GwM.val at p1
 unfold GwM.val lopV
 refine YX [many H] (λw hw=>hw.perm (.closeT H)) ?_
 have hgo:=λh:chkG g.gw=0=>JN.1 h
 unfold admG
 obtain⟨e,he⟩:∃e,chkG g.gw=e:=⟨_,rfl⟩
 rw[he]at p1 h0 hgo⊢
 by_cases he0:e=0
 rotate_left
 ·rw[To he0]
  refine YtQ ?_<;>intros
  apply Yn T (H2:=H);(iterate 3 exact rfl);(focus exact zc2);exact rfl;exact rfl
  ·intro w hw
   have h5:St B w0 [many H] w:=by
    revert w
    exact zc0
   exact hop w h5
  exact zc68
 rw[Tf (λe=>e he0)]
 subst he0
 have hok:=hgo rfl
 have h0:=h0 rfl
 clear he hgo
 obtain⟨hn,h8,hfit,hpw⟩:=Zc.1 hok.l
 have hl8:g.l.length<=8:=h8
 have hs8:g.s.length=g.l.length:=hok.len
 have hkp:posL g.l l.1<=g.l.length:=Ysf g.l l.1
 rw[show g.gw.l=g.l from rfl,show g.gw.s=g.s from rfl,show g.gw.p=g.p.pln from rfl,show g.p.pln.n.nodes=g.p.n.nodes from rfl]
 have p2:=λ{H':List HP}{w:World}(hg:g.In B w0 H') (hw:St B w0 H' w)=>US g.l l.1 hpw (by omega) (cap:=g.lcap) hg.l hw
 obtain⟨hb,hhb⟩:∃b,hasL g.l l.1=b:=⟨_,rfl⟩
 obtain⟨k,hk⟩:∃k,posL g.l l.1=k:=⟨_,rfl⟩
 rw[hhb,hk]at p2
 rw[hhb,hk]
 rw[hk]at hkp
 cases hb with
 |true=>
  rw[To rfl]
  refine Yjh ?_<;>intros
  apply Yn T (H2:=H);(iterate 3 exact rfl);(focus exact zc2);exact rfl;exact rfl
  ·intro w hw
   have h5:St B w0 [many H] w:=by
    revert w
    exact zc0
   exact hop w h5
  exact zc68
 |false=>
 rw[Tf (by decide)]
 have p3:=λ{H':List HP}{w:World}(hg:g.In B w0 H') (hw:St B w0 H' w)=>Yja g.l k l hkp (by omega) hg.lc hg.l hw
 obtain⟨W,hW⟩:∃W,XY g.l k l=W:=⟨_,rfl⟩
 have hWl:W.length=g.l.length+1:=by rw[<-hW];exact Yjc _ _ _ hkp
 rw[hW]at p3⊢
 unfold lopV at p3
 have p4:=λ{A:Option Addr}{cap:Nat}{H':List HP}{w:World}(hr:Rd B w0 H' A (W.flatMap lopF)) (hw:St B w0 H' w)=>WL g.p.n.nodes W (by omega) (cap:=cap) hr hw
 have hlo:=@Zc g.p.n.nodes W
 obtain⟨⟨li,le⟩,hL⟩:∃R,XD g.p.n.nodes W=R:=⟨_,rfl⟩
 rw[hL]at p4 hlo⊢
 dsimp only at p4 hlo⊢
 by_cases hle:le=0
 rotate_left
 ·rw[To hle]
  refine YtR ?_<;>intros
  apply Yg _ YsC
  exact za
  exact rfl
  exactλ_ hw=>(p3 (hgM (by(focus exact zc2))) (hw))
  rintro _ _ ⟨A1,c1,rfl,hc1,rfl⟩
  repeat'(first|refine Yi T ?_|((apply Yb YoU);exact za;exact rfl;exactλ_ hw=>(p4 (Rd.sl zm) hw))|refine zgd ?_|(refine zge ?_ ?_<;>intro _<;>try exact zo)|fail)
  apply Yn T (H2:=H);(iterate 3 exact rfl);(focus exact zc2);exact rfl;exact rfl
  ·intro w hw
   have h5:St B w0 [many H] w:=by
    revert w
    exact zc0
   exact hop w h5
  exact zc68
 rw[Tf (λe=>e hle)]
 subst hle
 have h32:lopE 32 l=0:=YxY ((hlo.1 rfl).2.2.1 l (by rw[<-hW];unfold XY;simp)) hn.2
 have p5:=λ{H':List HP}{w:World}(hw:St B w0 H' w)=>Yf6 l hw
 have hse:YiZ l=ZJ l:=by unfold YiZ;rw[Tf (λe=>e h32)]
 rw[hse,h32]at p5
 unfold lopV at p5
 have hfits:∀s∈ZJ l,Xc l s=0:=λs hs=>YkT h32 hs
 have hspl:(ZJ l).length<=1000:=by
  have h1:=(ZF h32).2.1
  unfold ZJ sumS
  rw[Tu,List.length_range]
  omega
 obtain⟨L,hLs⟩:∃L,ZJ l=L:=⟨_,rfl⟩
 have hS:=hS hhb
 rw[hLs]at hS
 rw[hLs]at p5 hfits hspl⊢
 refine YtR ?_<;>intros
 rename_i gg gl gz _
 apply Yg _ YsC
 exact za
 exact rfl
 exactλ_ hw=>(p3 (hgM (by(focus exact zc2))) (hw))
 rintro _ _ ⟨A1,c1,rfl,hc1,rfl⟩
 repeat'(first|refine Yi T ?_|((apply Yb YoU);exact za;exact rfl;exactλ_ hw=>(p4 (Rd.sl zm) hw))|refine zgc ?_|(refine zge ?_ ?_<;>intro _<;>try exact zo)|fail)
 apply Yg _ Yv1
 exact za
 exact rfl
 exactλ_ hw=>(p5 (hw))
 rintro _ _ ⟨A2,c2,rfl,rfl⟩
 by_cases hL0:L=[]
 ·rw[To hL0]
  have hLz:L.length=0:=by rw[hL0];rfl
  refine zX50 ?_<;>intros
  apply Yn T (H2:=H);(iterate 3 exact rfl);(focus exact zc2);exact rfl;exact rfl
  ·intro w hw
   have h5:St B w0 [many H] w:=by
    revert w
    exact zc0
   exact hop w h5
  exact zc68
 rw[Tf hL0]
 have hLp:0<L.length:=NB.2 hL0
 have p6:=λ(k':Nat) (s:Spl) {H':List HP}{w:World}(hg:g.In B w0 H') (hw:St B w0 H' w)=>Yjb g.s k s (by omega) (by omega) hg.sc hg.s hw
 unfold splV at p6
 repeat'(first|(apply zg29;(apply Yu;exact za;exact rfl))|refine zgc ?_|(refine zge ?_ ?_<;>intro _<;>try exact zo)|(refine zgh ?_;intro _)|fail)
 rename Nat=>gp
 apply ZV (zerB gp::lopA gl l::gwyA gg g::spls A2 c2 L::lops A1 c1 W::zerG gz::[many H])
 ·intro w hw
  have h5:St B w0 (zerA gp::lopA gl l::gwyA gg g::spls A2 c2 L::lops A1 c1 W::zerG gz::[many H]) w:=by
   revert w
   exact zc0
  exact h5
 apply XK [zerB gp,lopA gl l,gwyA gg g] _ Yv3
 exact za
 try exact zl
 exact zp
 exact rfl
 exactλ_ hw=>(Yh0 g l L gl gg gp hG h0 hS hfits (by omega) ht (hgM (by(focus exact zc2))).p (Rd.sl (by(focus exact zc2))) hw)
 rintro _ _ hO
 rcases hO with⟨hb,rfl,rfl⟩|⟨j,s,q,X,hjs,hb,rfl,hq,rfl⟩
 ·rw[hb]
  refine zX50 ?_<;>intros
  apply Yn T (H2:=H);(iterate 3 exact rfl);(focus exact zc2);exact rfl;exact rfl
  ·intro w hw
   have h5:St B w0 [many H] w:=by
    revert w
    exact zc0
   exact hop w h5
  exact zc68
 ·rw[hb]
  have p7:=λ{H':List HP}{w:World}(hg:g.In B w0 H') (hw:St B w0 H' w)=>p6 j s hg hw
  clear p6
  have hjl:=(Tj.1 hjs).1
  have hWS:(XY g.s k s).length=g.s.length+1:=Yjc _ _ _ (by omega)
  obtain⟨WS,hW0⟩:∃WS,XY g.s k s=WS:=⟨_,rfl⟩
  rw[hW0]at hWS p7
  repeat'(first|refine Yi T ?_|refine zga ?_|(refine zge ?_ ?_<;>intro _<;>try exact zo)|fail)
  apply YC [0,1,2,3,4,5,6,7,8,9,10,11,12] [] [true,true,true,true,true,true,false,true]
  kernel_rfl
  kernel_rfl
  exact zy
  (simp only[Yd,nthO];rfl)
  exact rfl
  refine Z0 ?_
  apply Yg _ Yv4
  exact za
  exact rfl
  exactλ_ hw=>(p7 (hgM (by(focus exact zc2))) (hw))
  rintro _ _ ⟨A3,c3,rfl,hc3,rfl⟩
  refine QY ?_
  apply Yn T (H2:=many [many X,lops A1 c1 W,spls A3 c3 WS]::H);(iterate 3 exact rfl);(focus exact zc2);exact rfl;exact rfl
  ·intro w hw
   have h5:St B w0 (many X::lops A1 c1 W::spls A3 c3 WS::[many H]) w:=by
    revert w
    exact zc0
   exact Yuy
  have hin:GwM.In B w0 [many X,lops A1 c1 W,spls A3 c3 WS] ⟨q,A1,c1,W,A3,c3,WS⟩:=⟨hq.inX (.head _),Rd.sl (.tail _ (.head _)),Rd.sl (.tail _ (.tail _ (.head _))),by show W.length<=_;omega,by show WS.length<=_;omega,hc1,hc3⟩
  exact .inr ⟨⟨q,A1,c1,W,A3,c3,WS⟩,_,by rw[<-hW0];rfl,rfl,hin.mono λw hw=>hw.perm (.open_ [_,_,_] []),rfl⟩
theorem YpI(n:Net):∃m:NetM,m.net=n:=⟨⟨n.nodes,none,0,n.power.map λr=>⟨none,0,r⟩,n.noise,n.thr,none,0,n.links,none,0,n.margin⟩,by
 unfold NetM.net
 simp only[Ny]
 congr 1
 exact(List.map_congr_left λr _=>rfl).trans (List.map_id _)⟩
theorem Yqb(s:Sch):∃m:SchM,m.sch=s:=⟨⟨s.len,s.off,none,0,s.cells⟩,rfl⟩
theorem YpC:∀(l:List Int) (a:Int),l.foldl (λx y=>if y<x then y else x) a<=a/\∀z∈l,l.foldl (λx y=>if y<x then y else x) a<=z
 |[],a=>⟨RP _,λz hz=>by cases hz⟩
 |y::l,a=>by
  obtain⟨h1,h2⟩:=YpC l (if y<a then y else a)
  grind
theorem Yvk{p:Pln}(h:chkP p=0){x:Rqs}(hx:x∈p.q):∃b,bndE p.c x.1.1=(b,true)/\1<=b/\b<=x.1.2.2.2.2.2:=by
 have hok:=Yce h
 obtain⟨n,hn⟩:=YpI p.n
 obtain⟨s,hs⟩:=Yqb p.s
 have hc:=hok.cert
 have hpc:=hok.c
 rw[<-hn,<-hs]at hc hpc
 have hsv:=Ynz hc
 rw[YbA hc]at hpc
 refine⟨minI (clmE n.net s.sch x).bounds,by rw[hpc];exact hsv.bnd x hx,?_⟩
 have hw:=(ZD.1 hc).2 x hx
 unfold Yba at hw
 rw[Tq,Tm]at hw
 have hl:=hw.2
 simp only[RO]at hl
 have hr:∀r∈x.2,1<=(YY n.net s.sch x.1 r).1.1/\(YY n.net s.sch x.1 r).1.1<=x.1.2.2.2.2.2:=λr hr=>by
  obtain⟨h1,h2⟩:=YbD hl hr
  obtain⟨b,h3,h4,h5,-⟩:=Ux h1
  simp_all
 obtain⟨f,l⟩:=x
 cases l with
 |nil=>simp_all
 |cons r l=>
  obtain⟨h1,h2⟩:=hr r (by simp)
  refine⟨Ydc _ _ h1 λz hz=>?_,NQ (YpC _ _).1 h2⟩
  grind
def ageG(g:Gwy)(id:Int):Int×Int:=
 if chkG g≠0 then(0,chkG g)else if hasL g.l id=false then(0,7)
 else((XS g.l (posL g.l id)).2.2.2.2.1+(g.s.getD (posL g.l id) (0,0)).1+(bndE g.p.c (2*id+1)).1-1,0)
variable {g:Gwy}{i:Nat}{l:Lop}{s:Spl}
theorem Yrp(hg:GwOk g)(hl:g.l[i]? =some l)(hs:g.s[i]? =some s):
 ∃x∈g.p.q,x.1=Zi l s/\ageG g l.1=(l.2.2.2.2.1+s.1+(bndE g.p.c x.1.1).1-1,0)/\1<=(bndE g.p.c x.1.1).1/\(bndE g.p.c x.1.1).1<=s.2/\Xc l s=0:=by
 obtain⟨-,-,-,hpw⟩:=Zc.1 hg.l
 have hat:=YbG hpw (Tc hl)
 have hi:posL g.l l.1=i:=by
  rw[TT]at hpw
  grind
 obtain⟨y,hy,-,f2,-⟩:=YeQ hg.len hl
 obtain rfl:y=s:=Tz (hy.symm.trans hs)
 rw[hg.fl]at f2
 obtain⟨x,hx,e⟩:=Un.1 f2
 obtain⟨b,b1,b2,b3⟩:=Yvk hg.p hx
 refine⟨x,hx,e,?_⟩
 rw[b1]
 rw[e]at b1 b3
 refine⟨?_,b2,b3,?_⟩
 ·unfold ageG
  rw[Tf (λe=>e (JN.2 hg)),Tf (by rw[show hasL g.l l.1=true from TM.2 ⟨l,Tc hl,Ti rfl⟩];simp),hi,show(bndE g.p.c (2*l.1+1))=(b,true) from b1]
  grind [XS]
 ·have h1:=hg.fit
  have hlen:(g.l.take i).length=(g.s.take i).length:=by grind
  rw[JY hl,JY hs,Ua hlen]at h1
  simp_all [badS]
theorem Yov(hg:GwOk g)(hl:g.l[i]? =some l)(hs:g.s[i]? =some s):
 ∃b,ageG g l.1=(l.2.2.2.2.1+s.1+b-1,0)/\1<=b/\b<=s.2/\Xc l s=0:=by
 obtain⟨x,-,-,h⟩:=Yrp hg hl hs
 simp_all
theorem Ylz{g:Gwy}{id:Int}(hg:GwOk g)(h:hasL g.l id=true):∃l s,l.1=id/\g.l[posL g.l id]? =some l/\g.s[posL g.l id]? =some s/\0<=id/\id<=127:=by
 obtain⟨l,hl,he⟩:=TM.1 h
 obtain rfl:=TI he
 obtain⟨-,-,hfit,hpw⟩:=Zc.1 hg.l
 have hat:=YbG hpw hl
 have hk:=(Tj.1 hat).1
 have hn:=(ZF (hfit l hl)).1
 exact⟨l,_,rfl,hat,Ta (by rw[hg.len];exact hk),hn.1,hn.2⟩
variable {B:Nat}{w0 w:World}{H:List HP}
theorem YaB(g:GwM)(id:Int)(hage:GwOk g.gw->∀(i:Nat) (l:Lop) (s:Spl),g.l[i]? =some l->g.s[i]? =some s->∃b,ageG g.gw l.1=(l.2.2.2.2.1+s.1+b-1,0)/\1<=b/\b<=s.2/\Xc l s=0)(ht:TabsB B w0)(hg:g.In B w0 H)(hw:St B w0 H w):
 CX B w0 31 [g.val,.int .i64 id] w λv K=>v=.tuple #[.int .i64 (ageG g.gw id).1,.int .i64 (ageG g.gw id).2]/\K=H:=by
 refine Ya Tryz.func31 Tryz.ntmps31 rfl rfl hw ?_
 have hop:∀w,St B w0 [many H] w->St B w0 H w:=λw hw=>hw.perm (.openT H)
 have hgM:∀{H':List HP},many H∈H'->g.In B w0 H':=λhm=>hg.mono λw hw=>hw.inM hm
 have p1:=λ{H':List HP}{w:World}(hg:g.In B w0 H') (hw:St B w0 H' w)=>Jj g ht hg hw
 unfold GwM.val at p1
 unfold GwM.val
 refine YX [many H] (λw hw=>hw.perm (.closeT H)) ?_
 have hgo:=λh:chkG g.gw=0=>JN.1 h
 unfold ageG at hage⊢
 obtain⟨e,he⟩:∃e,chkG g.gw=e:=⟨_,rfl⟩
 rw[he]at p1 hgo hage⊢
 by_cases he0:e=0
 rotate_left
 ·rw[To he0]
  refine YtS ?_<;>intros
  apply Yf H
  ·intro w hw
   have h5:St B w0 [many H] w:=by
    revert w
    exact zc0
   exact hop w h5
  exact zc4
 rw[Tf (λe=>e he0)]
 subst he0
 have hok:=hgo rfl
 obtain⟨hn,h8,hfit,hpw⟩:=Zc.1 hok.l
 have h8:g.l.length<=8:=h8
 have hgat:=λh:hasL g.l id=true=>Ylz hok h
 have p2:=λ{H':List HP}{w:World}(hg:g.In B w0 H') (hw:St B w0 H' w)=>US g.l id hpw (by omega) (cap:=g.lcap) hg.l hw
 rw[show g.gw.l=g.l from rfl,show g.gw.s=g.s from rfl,show g.gw.p=g.p.pln from rfl]at hage⊢
 rw[show g.gw.l=g.l from rfl,show g.gw.s=g.s from rfl]at hgat
 obtain⟨hb,hhb⟩:∃b,hasL g.l id=b:=⟨_,rfl⟩
 rw[hhb]at p2 hgat⊢
 cases hb with
 |false=>
  rw[To rfl]
  refine Yjh ?_<;>intros
  apply Yf H
  ·intro w hw
   have h5:St B w0 [many H] w:=by
    revert w
    exact zc0
   exact hop w h5
  exact zc4
 |true=>
 obtain⟨l,s,hid,hl,hs,hid1,hid2⟩:=hgat rfl
 obtain⟨b,hb,hb1,hb2,hr⟩:=hage hok _ l s hl hs
 subst hid
 obtain⟨h32,hs1,hs2,-⟩:=Vz hr
 have hP:=(ZF h32).2.1
 rw[Tf (by decide)]
 rw[Tf (λe=>e rfl),hhb,Tf (by decide)]at hb
 have p3:=λ{H':List HP}{w:World}(hg:g.In B w0 H') (hw:St B w0 H' w)=>Yhg g.p.c (2*l.1+1) (cap:=g.p.ccap) hg.p.c hw
 rw[show g.p.pln.c=g.p.c.map ClM.clm from rfl]at hb⊢
 obtain⟨⟨u,ok⟩,hu⟩:∃R,bndE (g.p.c.map ClM.clm) (2*l.1+1)=R:=⟨_,rfl⟩
 rw[hu]at p3 hb⊢
 rw[hb]
 have hu2:u=b:=by
  have h1:XS g.l (posL g.l l.1)=l:=by unfold XS;rw[TB,hl];rfl
  have h2:g.s.getD (posL g.l l.1) (0,0)=s:=by rw[TB,hs];rfl
  have h3:=TA Prod.fst hb
  rw[h1,h2]at h3
  dsimp only at h3
  omega
 subst hu2
 clear hb hage
 obtain⟨k,hk⟩:∃k,posL g.l l.1=k:=⟨_,rfl⟩
 rw[hk]at p2 hl hs
 have hkl:=(Tj.1 hl).1
 have hks:=(Tj.1 hs).1
 repeat'(first|refine Yi T ?_|((apply Yb en98);exact za;exact rfl;exactλ_ hw=>(p1 (hgM zm) hw))|((apply Yb en99);exact za;exact rfl;exactλ_ hw=>(p2 (hgM zm) hw))|((apply Yb Yv8);exact za;exact rfl;exactλ_ hw=>(p3 (hgM zm) hw))|refine zgd ?_|(refine zge ?_ ?_<;>intro _<;>try exact zo)|(refine zgh ?_;intro _)|fail)
 rename Nat=>g1
 have hrl:=(hgM (H':=[gwyA g1 g,many H]) (.tail _ (.head _))).l
 have hrs:=(hgM (H':=[gwyA g1 g,many H]) (.tail _ (.head _))).s
 refine Z0 ?_
 apply Yf H
 ·intro w hw
  have h5:St B w0 [many H] w:=by
   revert w
   exact zc0
  exact hop w h5
 exact zc4
theorem YjB(g:GwM)(id:Int)(ht:TabsB B w0)(hg:g.In B w0 H)(hw:St B w0 H w):
 CX B w0 31 [g.val,.int .i64 id] w λv K=>v=.tuple #[.int .i64 (ageG g.gw id).1,.int .i64 (ageG g.gw id).2]/\K=H:=
 YaB g id (λh _ _ _ h1 h2=>Yov (g:=g.gw) h h1 h2) ht hg hw
theorem Ybl(g:GwM)(id:Int)(hk:chkG g.gw=0)(hno:hasL g.l id=false)(ht:TabsB B w0)(hg:g.In B w0 H)(hw:St B w0 H w):
 CX B w0 29 [g.val,.int .i64 id] w λv K=>v=.tuple #[Vg,.int .i64 7]/\K=H:=by
 refine Ya Tryz.func29 Tryz.ntmps29 rfl rfl hw ?_
 have hgM:∀{H':List HP},many H∈H'->g.In B w0 H':=λhm=>hg.mono λw hw=>hw.inM hm
 have p1:=λ{H':List HP}{w:World}(hg:g.In B w0 H') (hw:St B w0 H' w)=>Jj g ht hg hw
 obtain⟨-,h8,-,hpw⟩:=Zc.1 (JN.1 hk).l
 have h8:g.l.length<=8:=h8
 have p2:=λ{H':List HP}{w:World}(hg:g.In B w0 H') (hw:St B w0 H' w)=>US g.l id hpw (by omega) (cap:=g.lcap) hg.l hw
 rw[hk]at p1
 rw[hno]at p2
 unfold GwM.val at p1⊢
 refine YX [many H] (λw hw=>hw.perm (.closeT H)) ?_
 refine Yjh ?_<;>intros
 apply Yn T (H2:=H);(iterate 3 exact rfl);(focus exact zc2);exact rfl;exact rfl
 ·intro w hw
  have h5:St B w0 [many H] w:=by
   revert w
   exact zc0
  exact W5
 exact Q3
theorem Ycm(g:GwM)(id:Int)(ht:TabsB B w0)(hg:g.In B w0 H)(hw:St B w0 H w):
 CX B w0 29 [g.val,.int .i64 id] w (O7 B w0 H (disG g.gw id)):=by
 refine Ya Tryz.func29 Tryz.ntmps29 rfl rfl hw ?_
 have hop:∀w,St B w0 [many H] w->St B w0 H w:=λw hw=>hw.perm (.openT H)
 have hgM:∀{H':List HP},many H∈H'->g.In B w0 H':=λhm=>hg.mono λw hw=>hw.inM hm
 have p1:=λ{H':List HP}{w:World}(hg:g.In B w0 H') (hw:St B w0 H' w)=>Jj g ht hg hw
 unfold GwM.val at p1
 unfold GwM.val
 refine YX [many H] (λw hw=>hw.perm (.closeT H)) ?_
 have hgo:=λh:chkG g.gw=0=>JN.1 h
 have hdis:=λ(h:GwOk g.gw) (h1:hasL g.gw.l id=true)=>YoQ h h1
 unfold disG at hdis⊢
 obtain⟨e,he⟩:∃e,chkG g.gw=e:=⟨_,rfl⟩
 rw[he]at p1 hgo hdis⊢
 by_cases he0:e=0
 rotate_left
 ·rw[To he0]
  refine YtQ ?_<;>intros
  apply Yn T (H2:=H);(iterate 3 exact rfl);(focus exact zc2);exact rfl;exact rfl
  ·intro w hw
   have h5:St B w0 [many H] w:=by
    revert w
    exact zc0
   exact hop w h5
  exact zc68
 rw[Tf (λe=>e he0)]
 subst he0
 have hok:=hgo rfl
 obtain⟨hn,h8,hfit,hpw⟩:=Zc.1 hok.l
 have h8:g.l.length<=8:=h8
 have hsl:g.s.length=g.l.length:=hok.len
 have hgat:=λh:hasL g.l id=true=>Ylz hok h
 have p2:=λ{H':List HP}{w:World}(hg:g.In B w0 H') (hw:St B w0 H' w)=>US g.l id hpw (by omega) (cap:=g.lcap) hg.l hw
 rw[show g.gw.l=g.l from rfl,show g.gw.s=g.s from rfl,show g.gw.p=g.p.pln from rfl]at hdis⊢
 rw[show g.gw.l=g.l from rfl,show g.gw.s=g.s from rfl]at hgat
 obtain⟨hb,hhb⟩:∃b,hasL g.l id=b:=⟨_,rfl⟩
 rw[hhb]at p2 hgat hdis⊢
 cases hb with
 |false=>
  rw[To rfl]
  refine Yjh ?_<;>intros
  apply Yn T (H2:=H);(iterate 3 exact rfl);(focus exact zc2);exact rfl;exact rfl
  ·intro w hw
   have h5:St B w0 [many H] w:=by
    revert w
    exact zc0
   exact hop w h5
  exact zc68
 |true=>
 obtain⟨l,s,-,hl,hs,hid1,hid2⟩:=hgat rfl
 obtain⟨q1,q2,w1,w2,c1,-,-,hd,-⟩:=hdis hok rfl
 rw[Tf (λe=>e rfl),Tf (by decide)]at hd
 rw[Tf (by decide),hd]
 clear hd hdis
 obtain⟨k,hk⟩:∃k,posL g.l id=k:=⟨_,rfl⟩
 rw[hk]at p2 hl hs⊢
 have hkl:=(Tj.1 hl).1
 have p3:=λ{H':List HP}{w:World}(hg:g.In B w0 H') (hw:St B w0 H' w)=>Wq g.p (2*id) ht hg.p hw
 rw[w1]at p3
 have p4:=λ{H':List HP}{w:World}(hg:g.In B w0 H') (hw:St B w0 H' w)=>Yh9 g.l k hkl (by omega) hg.lc hg.l hw
 have p5:=λ{H':List HP}{w:World}(hg:g.In B w0 H') (hw:St B w0 H' w)=>Yia g.s k (by omega) (by omega) hg.sc hg.s hw
 have hL:(YW g.l k).length<=8:=by have:=Uq hkl;omega
 have hS:(YW g.s k).length<=8:=by have:=Uq (l:=g.s) (k:=k) (by omega);omega
 obtain⟨L,hL0⟩:∃L,YW g.l k=L:=⟨_,rfl⟩
 obtain⟨S,hS0⟩:∃S,YW g.s k=S:=⟨_,rfl⟩
 rw[hL0]at p4 hL
 rw[hS0]at p5 hS
 rw[hL0,hS0]
 unfold Yav PnM.val at p3
 dsimp only at p3
 refine Yjh ?_<;>intros
 rename_i g1 g2 _
 apply Yg _ en16
 exact za
 exact rfl
 exactλ_ hw=>(p3 (hgM (by(focus exact zc2))) (hw))
 rintro _ _ (⟨h,-⟩|⟨u1,X1,hu1,rfl,hi1,rfl⟩)
 ·cases h
 obtain rfl:q1=u1.pln:=Tz hu1
 have p6:=λ{H':List HP}{w:World}(hp:u1.In B w0 H') (hw:St B w0 H' w)=>Wq u1 (2*id+1) ht hp hw
 rw[w2]at p6
 unfold Yav PnM.val at p6
 dsimp only at p6
 refine zX26 ?_<;>intros
 rename Nat=>g3
 apply Yg _ en16
 exact za
 exact rfl
 exactλ_ hw=>(p6 (hi1.inX (by(focus exact zc2))) (hw))
 rintro _ _ (⟨h,-⟩|⟨u2,X2,hu2,rfl,hi2,rfl⟩)
 ·cases h
 obtain rfl:q2=u2.pln:=Tz hu2
 refine zX11 ?_
 apply YX [plnB g3 u2,many X2,gwyA g1 g,zerG g2,many H]
 ·exact zc0
 apply YC [0,1,2,3,5,6,7,4,8,9,10,11] [] [true,true,true,false,true]
 kernel_rfl
 kernel_rfl
 exact zy
 (simp only[Yd,nthO];rfl)
 exact rfl
 refine Z0 ?_
 apply Yg _ Yv6
 exact za
 exact rfl
 exactλ_ hw=>(p4 (hgM (by(focus exact zc2))) (hw))
 rintro _ _ ⟨A1,c3,rfl,hc3,rfl⟩
 refine QY ?_
 apply Yg _ Yv7
 exact za
 exact rfl
 exactλ_ hw=>(p5 (hgM (by(focus exact zc2))) (hw))
 rintro _ _ ⟨A2,c4,rfl,hc4,rfl⟩
 refine QY ?_
 apply Yn T (H2:=many [many X2,lops A1 c3 L,spls A2 c4 S]::H);(iterate 3 exact rfl);(focus exact zc2);exact rfl;exact rfl
 ·intro w hw
  have h5:St B w0 (many X2::lops A1 c3 L::spls A2 c4 S::[many H]) w:=by
   revert w
   exact zc0
  exact Yuy
 have hin:GwM.In B w0 [many X2,lops A1 c3 L,spls A2 c4 S] ⟨u2,A1,c3,L,A2,c4,S⟩:=⟨hi2.inX (.head _),Rd.sl (.tail _ (.head _)),Rd.sl (.tail _ (.tail _ (.head _))),by show L.length<=_;omega,by show S.length<=_;omega,hc3,hc4⟩
 exact .inr ⟨⟨u2,A1,c3,L,A2,c4,S⟩,_,rfl,rfl,hin.mono λw hw=>hw.perm (.open_ [_,_,_] []),rfl⟩
theorem YoC{l:List Lop}{s:List Spl}{k:Nat}{a:Lop}{b:Spl}(hl:s.length=l.length)(ha:l[k]? =some a)(hb:s[k]? =some b)(h:badS l s=false):Xc a b=0:=TQ.1 λhne=>by
 rw[(Yby hl ha hb).2.1 hne]at h;cases h
variable {B:Nat}{w0 w:World}{H:List HP}
theorem Yei(g:GwM)(hlen:g.s.length=g.l.length)(hbad:badS g.l g.s=false)(hg:g.In B w0 H)(hw:St B w0 H w):
 CX B w0 200 [g.val] w λv K=>∃A cap,v=.slice A (YU g.l g.s).length cap/\K=flws A cap (YU g.l g.s)::H:=by
 refine Ya Tryz.func200 Tryz.ntmps200 rfl rfl hw ?_
 have hop:∀w,St B w0 [many H] w->St B w0 H w:=λw hw=>hw.perm (.openT H)
 have hgM:∀{H':List HP},many H∈H'->g.In B w0 H':=λhm=>hg.mono λw hw=>hw.inM hm
 have hll:=hg.ll
 unfold GwM.val
 refine YX [many H] (λw hw=>hw.perm (.closeT H)) ?_
 refine zX72 ?_<;>intros
 rename Nat=>g1
 refine XI 45 6 ?_
 refine Ye (λz:FlM=>[(4,.int .i64 (z.i:Nat)),(3,.slice z.A (YU (g.l.take z.i) (g.s.take z.i)).length z.cap),(1,.pointer (some ⟨g1,0,none⟩))])
  (λz=>flws z.A z.cap (YU (g.l.take z.i) (g.s.take z.i))::gwyA g1 g::[many H]) (λz=>z.i<=g.l.length) (λz=>g.l.length-z.i) ⟨0,none,0⟩ (Td _) ?_ ?_ ?_
 ·exact zc1
 ·intro w hw
  have h5:St B w0 (sl 45 6 none 0 0 []::gwyA g1 g::[many H]) w:=by
   revert w
   exact zc0
  exact h5
 rintro⟨i,A1,c1⟩ hi K hK
 dsimp only at hi⊢
 have hfl:=UV (g.l.take i) (g.s.take i)
 rw[TO]at hfl
 by_cases hlt:i<g.l.length
 ·obtain⟨a,ha⟩:∃a,g.l[i]? =some a:=⟨_,Ta hlt⟩
  obtain⟨b,hb2⟩:∃b,g.s[i]? =some b:=⟨_,Ta (by omega)⟩
  have hst:=(Yby hlen ha hb2).1
  have p4:=λ{H':List HP}{w:World}(hw:St B w0 H' w)=>Yd9 a b (YoC hlen ha hb2 hbad) hw
  unfold lopV splV at p4
  have hra:=(hgM (H':=flws A1 c1 (YU (g.l.take i) (g.s.take i))::gwyA g1 g::[many H]) (.tail _ (.tail _ (.head _)))).l
  have hrb:=(hgM (H':=flws A1 c1 (YU (g.l.take i) (g.s.take i))::gwyA g1 g::[many H]) (.tail _ (.tail _ (.head _)))).s
  obtain⟨m,hm⟩:∃m,[Zz a b,Zi a b]=m:=⟨_,rfl⟩
  have hml:2=m.length:=by rw[<-hm];rfl
  rw[hm]at hst p4
  rw[hml]at p4
  generalize YU (g.l.take i) (g.s.take i)=L at hst hfl hra hrb⊢
  refine YlW ?_<;>intros
  apply YC [0,1,2,3,4,5,6,7,8,9,10,11,12,13,14,15] [] [true,true,true]
  kernel_rfl
  kernel_rfl
  exact zy
  (simp only[Yd,nthO];rfl)
  exact rfl
  refine Z0 ?_
  apply Yg _ YwE
  exact za
  exact rfl
  exactλ_ hw=>(p4 (hw))
  rintro _ _ ⟨A3,rfl,rfl⟩
  unfold flws
  repeat'(first|(apply YI T (f:=flwF) (l2:=m) (e:=45) (size:=6) (xs:=L.flatMap flwF);(iterate 3 exact rfl);exact Rd.sl zm;exact(λ_=>rfl);exact(λ_=>rfl);exact rfl;(intro _ _;exact zd);omega;intro A4 c4)|(apply Yh;try exact zl)|refine zgd ?_|fail)
  apply hK ⟨i+1,A4,c4⟩
  ·exact Ybf
  ·exact zc73
  ·dsimp only
   rw[hst,Tt]
   exact zc1
  ·intro w hw
   dsimp only
   unfold flws
   rw[hst,Tt,Rj]
   revert w
   exact zc0
 obtain rfl:i=g.l.length:=by omega
 rw[TC,TE (l:=g.s) (by omega)]
 clear hK
 generalize YU g.l g.s=L
 refine zX1 ?_<;>intros
 apply Yf (flws A1 c1 L::H)
 ·intro w hw
  have h5:St B w0 (flws A1 c1 L::[many H]) w:=by
   revert w
   exact zc0
  exact zc43
 exact zc38
theorem V3(g:GwM)(hg:g.In B w0 H)(hw:St B w0 H w):
 CX B w0 107 [g.val] w λv K=>v=.int .i64 (chkG g.gw)/\K=H:=by
 refine Ya Tryz.func107 Tryz.ntmps107 rfl rfl hw ?_
 have hop:∀w,St B w0 [many H] w->St B w0 H w:=λw hw=>hw.perm (.openT H)
 have hgM:∀{H':List HP},many H∈H'->g.In B w0 H':=λhm=>hg.mono λw hw=>hw.inM hm
 have p1:=λ{H':List HP}{w:World}(hg:g.In B w0 H') (hw:St B w0 H' w)=>OG g.p hg.p hw
 have p2:=λ{H':List HP}{w:World}(hg:g.In B w0 H') (hw:St B w0 H' w)=>Yap g.p.n.nodes g.l (TX hg.ll (by decide)) (cap:=g.lcap) hg.l hw
 have p3:=λ(a:Lop) (b:Spl) {H':List HP}{w:World}(hw:St B w0 H' w)=>Yea a b hw
 have hll:=hg.ll
 have hsl:=hg.sl
 unfold GwM.val
 unfold PnM.val at p1
 unfold chkG
 rw[show g.gw.p=g.p.pln from rfl,show g.gw.l=g.l from rfl,show g.gw.s=g.s from rfl,show g.p.pln.n.nodes=g.p.n.nodes from rfl]
 refine YX [many H] (λw hw=>hw.perm (.closeT H)) ?_
 by_cases hk:chkP g.p.pln=0
 rotate_left
 ·rw[To hk]
  refine YlX ?_<;>intros
  apply Yb en23
  exact za
  exact rfl
  exactλ_ hw=>(p1 (hgM (by(focus exact zc2))) hw)
  refine zX0 ?_<;>intros
  apply Yf H
  ·intro w hw
   have h5:St B w0 [many H] w:=by
    revert w
    exact zc0
   exact hop w h5
  exact zc3
 rw[Tf (λe=>e hk)]
 rw[hk]at p1
 obtain⟨⟨li,le⟩,hL⟩:∃R,XD g.p.n.nodes g.l=R:=⟨_,rfl⟩
 rw[hL]at p2⊢
 dsimp only at p2⊢
 by_cases hle:le=0
 rotate_left
 ·rw[To hle]
  refine YqD ?_<;>intros
  apply Yf H
  ·intro w hw
   have h5:St B w0 [many H] w:=by
    revert w
    exact zc0
   exact hop w h5
  exact zc3
 rw[Tf (λe=>e hle)]
 subst hle
 by_cases hlen:g.s.length=g.l.length
 rotate_left
 ·rw[To hlen]
  refine YqD ?_<;>intros
  apply Yf H
  ·intro w hw
   have h5:St B w0 [many H] w:=by
    revert w
    exact zc0
   exact hop w h5
  exact zc3
 rw[Tf (λe=>e hlen)]
 refine YqD ?_<;>intros
 rename Nat=>g1
 clear p1 p2
 refine Ye (λi:Nat=>[(6,.int .i64 (i:Nat)),(1,.pointer (some ⟨g1,0,none⟩))]) (λ_=>gwyA g1 g::[many H]) (λi=>i<=g.l.length/\badS (g.l.take i) (g.s.take i)=false) (λi=>g.l.length-i) 0 ⟨Td _,by rw[Ns];rfl⟩ ?_ ?_ ?_
 ·exact zc1
 ·exact zc0
 rintro i ⟨hi,hb⟩ K hK
 by_cases hlt:i<g.l.length
 ·obtain⟨a,ha⟩:∃a,g.l[i]? =some a:=⟨_,Ta hlt⟩
  obtain⟨b,hb2⟩:∃b,g.s[i]? =some b:=⟨_,Ta (by omega)⟩
  obtain⟨-,hbad,hnext⟩:=Yby hlen ha hb2
  have p4:=λ{H':List HP}{w:World}(hw:St B w0 H' w)=>p3 a b hw
  unfold lopV splV at p4
  have hra:=(hgM (H':=gwyA g1 g::[many H]) (.tail _ (.head _))).l
  have hrb:=(hgM (H':=gwyA g1 g::[many H]) (.tail _ (.head _))).s
  by_cases hr:Xc a b=0
  rotate_left
  ·rw[To (hbad hr)]
   refine YlW ?_<;>intros
   apply YC [0,1,2,3,4,5,6,7,8,9,10,11,12,13,14,15] [] [true,true]
   kernel_rfl
   kernel_rfl
   exact zy
   (simp only[Yd,nthO];rfl)
   exact rfl
   refine Z0 ?_
   apply Yg _ YsY
   exact za
   exact rfl
   exactλ_ hw=>(p4 (hw))
   rintro _ _ ⟨⟨z,rfl⟩,rfl⟩
   refine zX95 ?_<;>intros
   apply Yf H
   ·intro w hw
    have h5:St B w0 [many H] w:=by
     revert w
     exact zc0
    exact hop w h5
   exact zc3
  rw[hr]at p4
  have hnb:=hnext hb hr
  refine YlW ?_<;>intros
  apply YC [0,1,2,3,4,5,6,7,8,9,10,11,12,13,14,15] [] [true,true]
  kernel_rfl
  kernel_rfl
  exact zy
  (simp only[Yd,nthO];rfl)
  exact rfl
  refine Z0 ?_
  apply Yg _ YsY
  exact za
  exact rfl
  exactλ_ hw=>(p4 (hw))
  rintro _ _ ⟨⟨z,rfl⟩,rfl⟩
  refine zX95 ?_<;>intros
  apply hK (i+1)
  ·exact⟨by omega,hnb⟩
  ·omega
  ·exact zc1
  ·exact zc0
 obtain rfl:i=g.l.length:=by omega
 rw[TC,TE (by omega)]at hb
 rw[Tf (show¬badS g.l g.s=true by rw[hb];decide)]
 have hfq:YG g.p.pln.q=RqM.fl g.p.q:=YuM
 rw[hfq]
 clear hK p3
 have hLl:(YU g.l g.s).length<=2000:=by have h5:=UV g.l g.s;omega
 have p5:=λ{H':List HP}{w:World}(hg:g.In B w0 H') (hw:St B w0 H' w)=>Yei g hlen hb hg hw
 have p6:=λ{H':List HP}{w:World}(hg:g.In B w0 H') (hw:St B w0 H' w)=>VW g.p.q (cap:=g.p.qcap) hg.p.q.ln hg.p.q.rd hw
 unfold GwM.val at p5
 generalize YU g.l g.s=L at hLl p5⊢
 generalize RqM.fl g.p.q=F at p6⊢
 refine QX ?_<;>intros
 apply Yg _ YwC
 exact za
 exact rfl
 exactλ_ hw=>(p5 (hgM (by(focus exact zc2))) (hw))
 rintro _ _ ⟨A1,c1,rfl,rfl⟩
 repeat'(first|refine Yi T ?_|refine zgb ?_|fail)
 apply Yg _ en70
 exact za
 exact rfl
 exactλ_ hw=>(p6 (hgM (by(focus exact zc2))) (hw))
 rintro _ _ ⟨A2,c2,rfl,rfl⟩
 by_cases hn:L.length=F.length
 rotate_left
 ·rw[To (λe=>hn (by rw[e]))]
  refine zX0 ?_<;>intros
  apply Yf H
  ·intro w hw
   have h5:St B w0 [many H] w:=by
    revert w
    exact zc0
   exact hop w h5
  exact zc3
 refine zX0 ?_<;>intros
 have hr1:Rd B w0 (flws A2 c2 F::flws A1 c1 L::[many H]) A1 (L.flatMap flwF):=Rd.sl (.tail _ (.head _))
 have hr2:Rd B w0 (flws A2 c2 F::flws A1 c1 L::[many H]) A2 (F.flatMap flwF):=Rd.sl (.head _)
 refine Ye (λk:Nat=>[(11,.int .i64 (k:Nat)),(9,.slice A1 L.length c1),(10,.slice A2 F.length c2)]) (λ_=>flws A2 c2 F::flws A1 c1 L::[many H]) (λk=>k<=L.length/\L.take k=F.take k) (λk=>L.length-k) 0 ⟨Td _,by simp⟩ ?_ ?_ ?_
 ·exact zc1
 ·exact zc0
 rintro k ⟨hk2,hi⟩ K hK
 by_cases hlt:k<L.length
 ·obtain⟨a,ha⟩:∃a,L[k]? =some a:=⟨_,Ta hlt⟩
  obtain⟨b,hb⟩:∃b,F[k]? =some b:=⟨_,Ta (by omega)⟩
  repeat'(first|(apply UG (xs:=flwF a) (ys:=flwF b);(iterate 3 exact rfl);kernel_rfl;kernel_rfl;all_goals intro _)|refine zgd ?_|(refine zge ?_ ?_<;>intro _<;>try exact zo)|fail)
  ·rename_i h
   rw[To (λe=>by rw[e,hb]at ha;exact h (by rw[Tz ha]))]
   apply Yf H
   ·intro w hw
    have h5:St B w0 [many H] w:=by
     revert w
     exact zc0
    exact hop w h5
   exact zc3
  ·rename_i h
   apply hK (k+1)
   ·exact⟨by omega,by rw[TD,TD,ha,hb,hi,YhQ h]⟩
   ·omega
   ·exact zc1
   exact zc18
 rw[TE (by omega),TE (by omega)]at hi
 rw[Tf (λe=>e hi)]
 refine zX1 ?_<;>intros
 apply Yf H
 ·intro w hw
  have h5:St B w0 [many H] w:=by
   revert w
   exact zc0
  exact hop w h5
 exact zc3
variable {B:Nat}{w0 w:World}{H:List HP}
theorem YkQ(hw:St B w0 H w):
 CX B w0 125 [.slice none 0 0,.func (.func 126) #[] #[]] w λv K=>v=.tuple #[]/\K=H:=by
 refine(AnyF.slices_SortFunc_none Tryz.sortCels none 0 (.func (.func 126) #[] #[]) w).mono ?_
 rintro e w' ⟨rfl,rfl⟩
 exact⟨_,_,rfl,hw,rfl,rfl⟩
theorem Yd3(hw:St B w0 H w):
 CX B w0 127 [.slice none 0 0] w λv K=>v=.slice none 0 0/\K=H:=by
 refine Ya Tryz.func127 Tryz.ntmps127 rfl rfl hw ?_
 repeat'(first|(refine zs9 ?_)|(apply(zs17 ?_ ?_)<;>intro _<;>try(omega))|(refine zs71 ?_)|refine zgb ?_|fail)
 exact zc9
theorem nilQ:QIn B w0 H none []:=⟨Rd.nil,λx h=>(by cases h),Td _⟩
abbrev bld0(g:Nat)(n:NetM)(len off:Int):HP:=blk g (.cells #[.int .i64 n.nodes,.slice n.pA n.rows.length n.pcap,.int .i64 n.noise,.int .i64 n.thr,.slice n.lA n.links.length n.lcap,.slice n.mA n.margin.length n.mcap,.slice none 0 0,.int .i64 len,.int .i64 off,.slice none 0 0,.slice none 0 0,.slice none 0 0,.int .i64 0] 80 (0,0))
def mt(len off:Int):Sch:=⟨len,off,[]⟩
def newP(n:Net)(len off:Int):Option Pln×Int:=
 if Yo n≠0 then(none,1)else if len<1\/512<len\/off<1\/16<off then(none,2)else(some ⟨n,[],mt len off,[],XT (mt len off)⟩,0)
variable {n:Net}
theorem Uu(h:Yo n=0):Yt n.nodes []=(-1,0):=by
 have h0:=(YP h).n0
 have h1:=(YP h).n1
 unfold Yt
 rw[Tf (show¬(n.nodes<2\/32<n.nodes) by omega),Tf (by decide)];rfl
theorem YlD(h:Yo n=0):rqsE n []=(-1,0):=by
 unfold rqsE
 rw[Tf (λe=>e h),show YG []=[] from rfl,Uu h,Tf (by decide)];rfl
variable {off:Int}
theorem Yde{len:Int}(h:Yo n=0)(hs:1<=len/\len<=512/\1<=off/\off<=16):YD n [] (mt len off)=([],(-1,0)):=by
 have hz:Zf (mt len off)=true:=Ti hs
 have hw:Xv n [] (mt len off)=0:=by
  unfold Xv
  rw[Tf (λe=>e h),Uu h,Tf (by decide),Tf (by simp_all),Tf (by simp),Tf (show¬512<(mt len off).cells.length from Re _)]
 have hsc:(schE n (YG []) (mt len off)).2=0:=by
  unfold schE
  rw[show YG []=[] from rfl,Tf (λe=>e hw)];rfl
 unfold YD
 rw[YlD h,Tf (by decide),Tf (λe=>e hsc)];rfl
theorem YrZ{len:Int}(h:Yo n=0)(hs:1<=len/\len<=512/\1<=off/\off<=16):finE n [] (mt len off) 0=(some ⟨n,[],mt len off,[],XT (mt len off)⟩,0):=by
 have hf:Xh (mt len off)=true:=by
  grind [Zf,mt,Xh]
 have hfr:Y9 (mt len off)=(XT (mt len off),0):=by simp_all [Y9]
 have he:WI n [] (mt len off) 0=0:=by
  unfold WI
  rw[Tf (by decide),Yde h hs,hfr];rfl
 simp_all [finE,Yde]
theorem Ygq(n:NetM)(hck:Yo n.net=0)(hin:n.In B w0 H)(hw:St B w0 H w):
 CX B w0 42 [n.val,.slice none 0 0] w λv K=>v=.tuple #[.slice none 0 0,.int .i64 (-1),.int .i64 0]/\K=H:=by
 refine Ya Tryz.func42 Tryz.ntmps42 rfl rfl hw ?_
 have p1:=λ{H':List HP}{w:World}(hin:n.In B w0 H') (hw:St B w0 H' w)=>Ju n hin hw
 have p2:=λ{H':List HP}{w:World}(hw:St B w0 H' w)=>Y3 n.nodes [] (Td _) (A:=none) (cap:=0) Rd.nil hw
 rw[Ti hck]at p1
 rw[show Yt n.nodes []=(-1,0) from Uu hck]at p2
 unfold NetM.val at p1⊢
 (apply Y5;apply YL;apply Yx;exact rfl;exact rfl;intro g)
 repeat'(first|((apply Yb en38);exact za;exact rfl;exactλ_ hw=>(p1 hin.cons hw))|((apply Yb en39);exact za;exact rfl;exactλ_ hw=>(p2 hw))|refine zgd ?_|(refine zge ?_ ?_<;>intro _<;>try exact zo)|fail)
 refine Ye (λ_:Unit=>[(30,.int .i64 0),(29,.int .i64 0),(9,.slice none 0 0)]) (λ_=>H) (λ_=>True) (λ_=>0) () trivial ?_ ?_ ?_
 ·exact zc1
 ·exact zc0
 rintro⟨⟩-K hK
 clear hK
 refine zX1 ?_<;>intros
 apply Jh;(iterate 4 exact rfl);simp_all
theorem Ymy(n:NetM)(hck:Yo n.net=0)(len off:Int)(hs:1<=len/\len<=512/\1<=off/\off<=16)(ht:TabsB B w0)(hin:n.In B w0 H)(hw:St B w0 H w):
 CX B w0 121 [n.val,.slice none 0 0,.int .i64 len,.int .i64 off] w λv K=>v=.tuple #[.agg #[.int .i64 len,.int .i64 off,.slice none 0 0],.slice none 0 0,.int .i64 0]/\K=H:=by
 refine Ya Tryz.func121 Tryz.ntmps121 rfl rfl hw ?_
 have p1:=λ{H':List HP}{w:World}(hin:n.In B w0 H') (hw:St B w0 H' w)=>Xa n hin hw
 have p2:=λ{H':List HP}{w:World}(hin:n.In B w0 H') (hw:St B w0 H' w)=>YaJ n [] (A:=none) (cap:=0) ht hin nilQ hw
 rw[hck]at p1
 rw[Nv,YeN (q:=[]) hck,show decide ((rqsE n.net []).2≠0)=false from by grind [YlD]]at p2
 have hop:∀w,St B w0 [many H] w->St B w0 H w:=λw hw=>hw.perm (.openT H)
 have hin:=hin.mono hop
 unfold NetM.val at*
 refine YX [many H] (λw hw=>hw.perm (.closeT H)) ?_
 refine Yjg ?_<;>intros
 rename_i g4 g6 g8
 apply Yb XQ
 exact za
 exact rfl
 exactλ_ hw=>(p1 hin.cons.cons.cons hw)
 refine zX1 ?_<;>intros
 apply Yb YsM
 exact za
 exact rfl
 exactλ_ hw=>(p2 hin.cons.cons.cons hw)
 refine YtT ?_<;>intros
 apply Yb YsL
 exact za
 exact rfl
 exactλ_ hw=>(WC (λ_=>true) [] 214 [.pointer (some ⟨g6,0,none⟩)] YwJ (Td _) (A:=none) (cap:=0) Rd.nil (λa ha=>(by cases ha)) hw)
 rw[show([].any λ_:RqM=>true)=false from rfl]
 refine zX26 ?_<;>intros
 rename Nat=>g11
 refine Ye (λ_:Unit=>[(54,.int .i64 0),(53,.int .i64 0),(13,.slice none 0 0),(11,.pointer (some ⟨g11,0,none⟩)),(8,.pointer (some ⟨g8,0,none⟩))]) (λ_=>[blk g11 (.cells #[.int .i64 len,.int .i64 off,.slice none 0 0] 33 (0,0)),blk g8 (.cells #[.int .i64 0,.int .i64 0,.slice none 0 0] 33 (0,0)),many H]) (λ_=>True) (λ_=>0) () trivial ?_ ?_ ?_
 ·exact zc1
 ·intro w hw
  have h5:St B w0 [blk g11 (.cells #[.int .i64 len,.int .i64 off,.slice none 0 0] 33 (0,0)),blk g8 (.cells (Value.agg #[.int .i64 0,.int .i64 0,.slice none 0 0]).cells 33 (0,0)),many H] w:=by
   revert w
   exact zc0
  exact h5
 rintro⟨⟩-K hK
 clear hK
 refine zX1 ?_<;>intros
 apply Ymt T (H2:=H);(iterate 4 exact rfl);(focus exact zc2);exact rfl;exact rfl
 ·intro w hw
  have h5:St B w0 [many H] w:=by
   revert w
   exact zc0
  simp_all
 simp_all
theorem YkX(n:NetM)(hck:Yo n.net=0)(len off:Int)(hs:1<=len/\len<=512/\1<=off/\off<=16)(ht:TabsB B w0)(hin:n.In B w0 H)(hw:St B w0 H w):
 CX B w0 46 [n.val,.slice none 0 0,.agg #[.int .i64 len,.int .i64 off,.slice none 0 0]] w λv K=>v=.tuple #[.agg #[.int .i64 len,.int .i64 off,.slice none 0 0],.int .i64 0]/\K=H:=by
 refine Ya Tryz.func46 Tryz.ntmps46 rfl rfl hw ?_
 have hop:∀w,St B w0 [many H] w->St B w0 H w:=λw hw=>hw.perm (.openT H)
 have hinM:∀{H':List HP},many H∈H'->n.In B w0 H':=λhm=>hin.mono λw hw=>hw.inM hm
 have p1:=λ{H':List HP}{w:World}(hin:n.In B w0 H') (hw:St B w0 H' w)=>Ya4 n [] ⟨len,off,none,0,[]⟩ (A:=none) (cap:=0) ht hin nilQ Rd.nil (Td _) hw
 rw[Nv,show(⟨len,off,none,0,[]⟩:SchM).sch=mt len off from rfl,Yde hck hs]at p1
 unfold NetM.val SchM.val at p1
 unfold NetM.val
 refine YX [many H] (λw hw=>hw.perm (.closeT H)) ?_
 refine zX72 ?_<;>intros
 rename_i g3 g5 g6
 apply Yb YsG
 exact za
 exact rfl
 exactλ_ hw=>(p1 (hinM (by simp_all)) hw)
 refine zX3 ?_
 refine Ye (λ_:Unit=>[(21,.int .i64 0),(20,.int .i64 0),(8,.slice none 0 0),(6,.pointer (some ⟨g6,0,none⟩)),(5,.pointer (some ⟨g5,0,none⟩))]) (λ_=>[blk g6 (.cells #[.int .i64 0,.int .i64 0,.slice none 0 0] 33 (0,0)),blk g5 (.cells #[.int .i64 len,.int .i64 off,.slice none 0 0] 33 (0,0)),many H]) (λ_=>True) (λ_=>0) () trivial ?_ ?_ ?_
 ·exact zc1
 ·intro w hw
  have h5:St B w0 [blk g6 (.cells (Value.agg #[.int .i64 0,.int .i64 0,.slice none 0 0]).cells 33 (0,0)),blk g5 (.cells #[.int .i64 len,.int .i64 off,.slice none 0 0] 33 (0,0)),many H] w:=by
   revert w
   exact zc0
  exact h5
 rintro⟨⟩-K hK
 clear hK
 repeat'(first|((apply Yb Ywd);exact za;exact rfl;exactλ_ hw=>(YkQ hw))|((apply Yb Ywe);exact za;exact rfl;exactλ_ hw=>(Yd3 hw))|refine zgd ?_|(refine zge ?_ ?_<;>intro _<;>try exact zo)|fail)
 apply Yn T (H2:=H);(iterate 3 exact rfl);(focus exact zc2);exact rfl;exact rfl
 ·intro w hw
  have h5:St B w0 [many H] w:=by
   revert w
   exact zc0
  simp_all
 simp_all
theorem Yj6(n:NetM)(hck:Yo n.net=0)(len off:Int)(hs:1<=len/\len<=512/\1<=off/\off<=16)(g:Nat)(ht:TabsB B w0)(hin:n.In B w0 H)(hw:St B w0 (bld0 g n 0 0::H) w):
 CX B w0 43 [.pointer (some ⟨g,0,none⟩),.int .i64 len,.int .i64 off] w λv K=>v=.tuple #[.slice none 0 0,.bool true]/\K=bld0 g n len off::H:=by
 refine Ya Tryz.func43 Tryz.ntmps43 rfl rfl hw ?_
 have hop:∀w,St B w0 [many H] w->St B w0 H w:=λw hw=>hw.perm (.openT H)
 have hin:=hin.mono hop
 have p1:=λ{H':List HP}{w:World}(hin:n.In B w0 H') (hw:St B w0 H' w)=>Ymy n hck len off hs ht hin hw
 have p2:∀{H':List HP}{w:World},St B w0 (bld0 g n 0 0::H') w->CX B w0 45 [.pointer (some ⟨g,0,none⟩),.int .i64 0] w λv K=>v=.tuple #[]/\K=bld0 g n 0 0::H':=λhw=>YaH ⟨n,none,0,[],⟨0,0,none,0,[]⟩,none,0,[],none,0,[],0⟩ g 0 hw
 unfold NetM.val at p1
 refine YX (bld0 g n 0 0::[many H]) (λw hw=>hw.perm (.cons _ (.closeT H))) ?_
 iterate 6 (first|refine zga ?_|fail)
 apply Y5
 refine Z1 (λg8:Nat=>[(8,.pointer (some ⟨g8,0,none⟩)),(9,.slice none 0 0),(10,.int .i64 0),(0,.pointer (some ⟨g,0,none⟩))])
  (λg8=>[blk g8 (.cells #[.int .i64 len,.int .i64 off,.slice none 0 0] 33 (0,0)),bld0 g n 0 0,many H]) ?_ ?_
 ·intro K hK
  repeat'(first|refine Yi T ?_|fail)
  apply J7 (.n1 0 (.n1 1 (.n1 2 (.n1 3 (.n1 4 (.n1 5 (.n1 6 (.n1 7 (.n1 8 (.n1 9 (.n1 10 (.n1 11 (.n2 12 (.n1 13 (.n1 14 (.n1 15 (.n1 16 (.n1 17 (.n1 18 (.n1 19 (.n1 20 .done)))))))) 17 (.n1 12 (.n1 13 (.n1 14 (.n1 15 (.n1 16 (.n1 18 (.n1 19 (.n1 20 .done))))))))))))))))))))) [] [true,true]
  kernel_rfl
  kernel_rfl
  exact zy
  exact rfl
  repeat'(first|refine Yi T ?_|((apply Yb Ywc);exact za;exact rfl;exactλ_ hw=>(p1 (hin.mono zk) hw))|(apply Yh;try exact zl)|apply(zs91 ?_ ?_)|(apply Xo;try exact zl)|refine zgd ?_|(refine zgh ?_;intro _)|fail)
  all_goals(
   rename Nat=>gA
   apply hK gA
   ·exact zu
   ·exact zk)
 intro g8
 refine zX2 ?_
 apply XK [bld0 g n 0 0] _ en45
 exact za
 try exact zl
 exact zp
 exact rfl
 exactλ_ hw=>(p2 hw)
 rintro _ _ ⟨rfl,rfl⟩
 refine zX50 ?_<;>intros
 apply Yf (bld0 g n len off::H)
 ·intro w hw
  have h5:St B w0 (bld0 g n len off::[many H]) w:=by
   revert w
   exact zc0
  exact zc43
 exact YqN
theorem YpE(n:NetM)(hck:Yo n.net=0)(len off:Int)(hs:1<=len/\len<=512/\1<=off/\off<=16)(ht:TabsB B w0)(hin:n.In B w0 H)(hw:St B w0 H w):
 CX B w0 10 [n.val,.slice none 0 0,.int .i64 len,.int .i64 off] w (Yav B w0 H (some ⟨n.net,[],mt len off,[],XT (mt len off)⟩,0)):=by
 refine Ya Tryz.func10 Tryz.ntmps10 rfl rfl hw ?_
 have p1:=λ{H':List HP}{w:World}(hin:n.In B w0 H') (hw:St B w0 H' w)=>Ju n hin hw
 have p2:=λ{H':List HP}{w:World}(hw:St B w0 H' w)=>Y3 n.nodes [] (Td _) (A:=none) (cap:=0) Rd.nil hw
 have p3:=λ{H':List HP}{w:World}(hin:n.In B w0 H') (hw:St B w0 H' w)=>Ygq n hck hin hw
 have p5:=λ{H':List HP}{w:World}(hin:n.In B w0 H') (hw:St B w0 H' w)=>YkX n hck len off hs ht hin hw
 have p6:∀(g:Nat) {H':List HP}{w:World},n.In B w0 H'->St B w0 (bld0 g n len off::H') w->CX B w0 47 [.pointer (some ⟨g,0,none⟩)] w (YsA B w0 H' ⟨len,off,none,0,[]⟩ (some ⟨n.net,[],mt len off,[],XT (mt len off)⟩,0)):=λg {H' w} hin hw=>by
  have h:=VZ ⟨n,none,0,[],⟨len,off,none,0,[]⟩,none,0,[],none,0,[],0⟩ g ht hin nilQ Rd.nil (Td _) hw
  dsimp only at h
  rw[Nv,show(⟨len,off,none,0,[]⟩:SchM).sch=mt len off from rfl,YrZ hck hs]at h
  exact h
 rw[Ti hck]at p1
 rw[show Yt n.nodes []=(-1,0) from Uu hck]at p2
 have hinM:∀{H':List HP},many H∈H'->n.In B w0 H':=λhm=>hin.mono λw hw=>hw.inM hm
 unfold NetM.val at p1 p3 p5⊢
 refine YX [many H] (λw hw=>hw.perm (.closeT H)) ?_
 refine Yjg ?_<;>intros
 rename_i g4 g6 g8
 apply Yb en38
 exact za
 exact rfl
 exactλ_ hw=>(p1 (hinM (by simp_all)) hw)
 refine zX3 ?_
 apply Yb en39
 exact za
 exact rfl
 exactλ_ hw=>(p2 hw)
 refine YtT ?_<;>intros
 apply Yb en40
 exact za
 exact rfl
 exactλ_ hw=>(WB (λ_=>true) [] 41 [.pointer (some ⟨g6,0,none⟩)] en41 (Td _) (A:=none) (cap:=0) Rd.nil (λa ha=>(by cases ha)) hw)
 rw[show([].any λ_:Flw=>true)=false from rfl]
 refine zX11 ?_
 apply Yb en42
 exact za
 exact rfl
 exactλ_ hw=>(p3 (hinM (by simp_all)) hw)
 refine zX45 ?_<;>intros
 rename Nat=>g15
 apply XK [bld0 g15 n 0 0] _ en43
 exact za
 try exact zl
 exact zp
 exact rfl
 exactλ_ hw=>(Yj6 n hck len off hs g15 ht (hinM (by simp_all)) hw)
 rintro _ _ ⟨rfl,rfl⟩
 refine zX71 ?_<;>intros
 apply YX [bld0 g15 n len off,netA g4 n,blk g8 (.cells (Value.agg #[.int .i64 0,.slice none 0 0,.int .i64 0,.int .i64 0,.slice none 0 0,.slice none 0 0,.slice none 0 0,.int .i64 0,.int .i64 0,.slice none 0 0,.slice none 0 0,.slice none 0 0]).cells 38 (0,0)),many H]
 ·exact zc0
 apply V5 [1,0,2,3,4,5,6,7,8,9,10,11,12,13,14,16,15,17,18,19] [0,1,16,20,21,22,23] [20,21,22,23] [true,true,true,true]
 kernel_rfl
 kernel_rfl
 exact zy
 (simp only[Yd,nthO];rfl)
 (simp only[Yd,nthO];rfl)
 refine Z0 ?_
 apply Yb en46
 exact za
 exact rfl
 exactλ_ hw=>(p5 (hinM (by simp_all)) hw)
 refine QY ?_
 apply XK [bld0 g15 n len off] _ en47
 exact za
 try exact zl
 exact zp
 exact rfl
 exactλ_ hw=>(p6 g15 (hinM (by simp_all)) hw)
 rintro _ _ hO
 rcases hO with⟨h1,-⟩|⟨p,X,h1,rfl,hp,rfl⟩
 ·cases h1
 unfold PnM.val
 refine zX11 ?_
 apply Yn T (H2:=many X::H);(iterate 3 exact rfl);(focus exact zc2);exact rfl;exact rfl
 ·intro w hw
  have h5:St B w0 (many X::[many H]) w:=by
   revert w
   exact zc0
  exact zc43
 exact .inr ⟨p,X,h1,rfl,hp [] Rd.nil,rfl⟩
theorem YpD(n:NetM)(len off:Int)(ht:TabsB B w0)(hin:n.In B w0 H)(hw:St B w0 H w):
 CX B w0 10 [n.val,.slice none 0 0,.int .i64 len,.int .i64 off] w (Yav B w0 H (newP n.net len off)):=by
 have p1:=λ{H':List HP}{w:World}(hin:n.In B w0 H') (hw:St B w0 H' w)=>Ju n hin hw
 have p2:=λ{H':List HP}{w:World}(hw:St B w0 H' w)=>Y3 n.nodes [] (Td _) (A:=none) (cap:=0) Rd.nil hw
 have hop:∀w,St B w0 [many H] w->St B w0 H w:=λw hw=>hw.perm (.openT H)
 have hinM:∀{H':List HP},many H∈H'->n.In B w0 H':=λhm=>hin.mono λw hw=>hw.inM hm
 unfold newP
 by_cases hck:Yo n.net=0
 rotate_left
 ·rw[To hck]
  rw[Tn hck]at p1
  refine Ya Tryz.func10 Tryz.ntmps10 rfl rfl hw ?_
  unfold NetM.val at p1⊢
  refine YX [many H] (λw hw=>hw.perm (.closeT H)) ?_
  refine Yjg ?_<;>intros
  apply Yb en38
  exact za
  exact rfl
  exactλ_ hw=>(p1 (hinM (by simp_all)) hw)
  refine zX3 ?_
  apply Yn T (H2:=H);(iterate 3 exact rfl);(focus exact zc2);exact rfl;exact rfl
  ·intro w hw
   have h5:St B w0 [many H] w:=by
    revert w
    exact zc0
   simp_all
  exact zc68
 rw[Tf (λe=>e hck)]
 by_cases hr:len<1\/512<len\/off<1\/16<off
 rotate_left
 ·simp_all [if_neg,YpE]
 rw[To hr]
 rw[Ti hck]at p1
 rw[show Yt n.nodes []=(-1,0) from Uu hck]at p2
 refine Ya Tryz.func10 Tryz.ntmps10 rfl rfl hw ?_
 unfold NetM.val at p1⊢
 refine YX [many H] (λw hw=>hw.perm (.closeT H)) ?_
 repeat'(first|((apply Yb en38);exact za;exact rfl;exactλ_ hw=>(p1 (hinM zm) hw))|((apply Yb en39);exact za;exact rfl;exactλ_ hw=>(p2 hw))|(apply zg23;first|(refine zs52 ?_;intro _)|(refine zs53 ?_;intro _))|refine zgd ?_|(refine zgf ?_ ?_<;>intro _<;>try exact zo)|(refine zgh ?_;intro _)|fail)
 all_goals try exact zo
 all_goals(
  apply Yn T (H2:=H);(iterate 3 exact rfl);exact zm;exact rfl;exact rfl
  ·intro w hw
   have h5:St B w0 [many H] w:=by
    revert w
    exact zk
   exact hop w h5
  exact .inl ⟨rfl,rfl,rfl⟩)
def newG(n:Net)(len off:Int):Option Gwy×Int:=
 match newP n len off with
 |(some p,_)=>(some ⟨p,[],[]⟩,0)
 |(none,e)=>(none,e)
theorem Ykq(n:Net)(len off:Int):(∃p,newP n len off=(some p,0))\/∃e,newP n len off=(none,e)/\e≠0:=by
 unfold newP
 split
 ·simp_all
 split
 all_goals simp_all
theorem Ynk(n:NetM)(len off:Int)(ht:TabsB B w0)(hin:n.In B w0 H)(hw:St B w0 H w):
 CX B w0 96 [n.val,.int .i64 len,.int .i64 off] w (O7 B w0 H (newG n.net len off)):=by
 refine Ya Tryz.func96 Tryz.ntmps96 rfl rfl hw ?_
 have hop:∀w,St B w0 [many H] w->St B w0 H w:=λw hw=>hw.perm (.openT H)
 have hinM:∀{H':List HP},many H∈H'->n.In B w0 H':=λhm=>hin.mono λw hw=>hw.inM hm
 have p1:=λ{H':List HP}{w:World}(hin:n.In B w0 H') (hw:St B w0 H' w)=>YpD n len off ht hin hw
 unfold Yav PnM.val NetM.val at p1
 unfold NetM.val newG
 refine YX [many H] (λw hw=>hw.perm (.closeT H)) ?_
 rcases Ykq n.net len off with⟨P,hP⟩|⟨e,hP,he⟩
 ·rw[hP]at p1⊢
  dsimp only at p1⊢
  refine zX72 ?_<;>intros
  apply Yg _ en10
  exact za
  exact rfl
  exactλ_ hw=>(p1 (hinM (by simp_all)) (hw))
  rintro _ _ (⟨h,-⟩|⟨p,X,hp,rfl,hpi,rfl⟩)
  ·cases h
  obtain rfl:P=p.pln:=Tz hp
  refine YdS ?_<;>intros
  apply Yn T (H2:=many X::H);(iterate 3 exact rfl);(focus exact zc2);exact rfl;exact rfl
  ·intro w hw
   have h5:St B w0 (many X::[many H]) w:=by
    revert w
    exact zc0
   exact zc43
  exact .inr ⟨⟨p,none,0,[],none,0,[]⟩,X,rfl,rfl,⟨hpi,Rd.nil,Rd.nil,Td _,Td _,Td _,Td _⟩,rfl⟩
 ·rw[hP]at p1⊢
  dsimp only at p1⊢
  refine zX72 ?_<;>intros
  apply Yg _ en10
  exact za
  exact rfl
  exactλ_ hw=>(p1 (hinM (by simp_all)) (hw))
  rintro _ _ (⟨-,rfl,rfl⟩|⟨p,X,h,-⟩)
  rotate_left
  ·cases h
  unfold zeroPnV
  refine YdS ?_<;>intros
  apply Yn T (H2:=H);(iterate 3 exact rfl);(focus exact zc2);exact rfl;exact rfl
  ·intro w hw
   have h5:St B w0 [many H] w:=by
    revert w
    exact zc0
   simp_all
  exact zc68
def popX(a:Int):Int:=
 let m1:Int:=6148914691236517205
 let m2:Int:=3689348814741910323
 let m4:Int:=1085102592571150095
 let b:=IntKind.u64.wrap (bits .and .u64 (a/2) m1+bits .and .u64 a m1)
 let c:=IntKind.u64.wrap (bits .and .u64 (b/4) m2+bits .and .u64 b m2)
 let d:=bits .and .u64 (IntKind.u64.wrap (c/16+c)) m4
 let e:=IntKind.u64.wrap (d+d/256)
 let f:=IntKind.u64.wrap (e+e/65536)
 let g:=IntKind.u64.wrap (f+f/4294967296)
 bits .and .i64 (IntKind.i64.wrap g) 127
variable {B:Nat}{w0 w:World}{H:List HP}
theorem Yit(a:Int)(hw:St B w0 H w):
 CX B w0 208 [.int .u64 a] w λv K=>v=.int .i64 (popX a)/\K=H:=by
 refine Ya Tryz.func208 Tryz.ntmps208 rfl rfl hw ?_
 repeat'(first|(apply YgL;(iterate 3 exact rfl))|refine zgd ?_|fail)
 exact zc3
theorem Ynn(a:Int)(hw:St B w0 H w):
 CX B w0 116 [.int .u64 a] w λv K=>v=.int .i64 (popX a)/\K=H:=by
 refine Ya Tryz.func116 Tryz.ntmps116 rfl rfl hw ?_
 repeat'(first|((apply Yb YwG);exact za;exact rfl;exactλ_ hw=>(Yit a hw))|refine zga ?_|fail)
 apply Yc;exact rfl;exact rfl;exact⟨rfl,rfl⟩
theorem YpY(x:Int):0<=popX x/\popX x<=127:=by
 have key:∀v:Int,0<=bits .and .i64 v 127/\bits .and .i64 v 127<=127:=λv=>by
  have h1:(BitVec.ofInt 64 v).toNat&&&(BitVec.ofInt 64 (127:Int)).toNat<=(BitVec.ofInt 64 (127:Int)).toNat:=Nat.and_le_right
  show 0<=IntKind.i64.wrap ((BitVec.ofInt 64 v&&&BitVec.ofInt 64 (127:Int)).toNat:Int)/\IntKind.i64.wrap ((BitVec.ofInt 64 v&&&BitVec.ofInt 64 (127:Int)).toNat:Int)<=127
  grind [Go.IntKind.wrap_i64]
 exact key _
def sumP:List Int->Int
 |[]=>0
 |x::l=>popX (IntKind.u64.wrap x)+sumP l
theorem Yfp:∀(l:List Int) (x:Int),sumP (l++[x])=sumP l+popX (IntKind.u64.wrap x)
 |[],x=>by simp[sumP]
 |y::l,x=>by
  simp only[TJ,sumP,Yfp l x]
  omega
theorem YlR:∀l:List Int,0<=sumP l/\sumP l<=127*l.length
 |[]=>⟨RP _,RP _⟩
 |x::l=>by
  have h1:=YpY (IntKind.u64.wrap x)
  have h2:=YlR l
  grind [sumP]
def Qr(g:Gwy):Int×Int:=if chkG g≠0 then(0,chkG g)else(sumP g.p.f,0)
theorem Ypj{g:Gwy}(h:GwOk g):g.p.f.length<=512:=by
 have hok:=Yce h.p
 have hf:=hok.f
 have hfr:=hok.free
 unfold Y9 at hf hfr
 split at hfr
 ·cases hfr
 have h2:1<=g.p.s.len/\g.p.s.len<=512/\1<=g.p.s.off/\g.p.s.off<=16:=TI (Xm.1 (by simp_all)).sized
 grind [XT,Zd]
theorem YaO(g:GwM)(ht:TabsB B w0)(hg:g.In B w0 H)(hw:St B w0 H w):
 CX B w0 33 [g.val] w λv K=>v=.tuple #[.int .i64 (Qr g.gw).1,.int .i64 (Qr g.gw).2]/\K=H:=by
 refine Ya Tryz.func33 Tryz.ntmps33 rfl rfl hw ?_
 have hop:∀w,St B w0 [many H] w->St B w0 H w:=λw hw=>hw.perm (.openT H)
 have hgM:∀{H':List HP},many H∈H'->g.In B w0 H':=λhm=>hg.mono λw hw=>hw.inM hm
 have p1:=λ{H':List HP}{w:World}(hg:g.In B w0 H') (hw:St B w0 H' w)=>Jj g ht hg hw
 unfold GwM.val at p1
 unfold GwM.val
 refine YX [many H] (λw hw=>hw.perm (.closeT H)) ?_
 have hgo:=λh:chkG g.gw=0=>Ypj (JN.1 h)
 unfold Qr
 obtain⟨e,he⟩:∃e,chkG g.gw=e:=⟨_,rfl⟩
 rw[he]at p1 hgo⊢
 by_cases he0:e=0
 rotate_left
 ·rw[To he0]
  refine YtS ?_<;>intros
  apply Yf H
  ·intro w hw
   have h5:St B w0 [many H] w:=by
    revert w
    exact zc0
   simp_all
  exact zc28
 rw[Tf (λe=>e he0)]
 subst he0
 have hfl:=hgo rfl
 rw[show g.gw.p.f=g.p.f from rfl]at hfl⊢
 have hrM:∀{H':List HP},many H∈H'->Rd B w0 H' g.p.fA (g.p.f.flatMap numF):=λhm=>(hgM hm).p.f
 repeat'(first|refine Yi T ?_|((apply Yb en98);exact za;exact rfl;exactλ_ hw=>(p1 (hgM zm) hw))|refine zgb ?_|(refine zge ?_ ?_<;>intro _<;>try exact zo)|(refine zgh ?_;intro _)|fail)
 rename_i g1
 refine Ye (λk:Nat=>[(17,.int .i64 k),(16,.int .i64 g.p.f.length),(15,.slice g.p.fA g.p.f.length g.p.fcap),(5,.int .i64 (sumP (g.p.f.take k)))]) (λ_=>[many H]) (λk=>k<=g.p.f.length) (λk=>g.p.f.length-k) 0 (Td _) ?_ ?_ ?_
 ·exact zc1
 ·exact zc0
 rintro k hk K hK
 by_cases hlt:k<g.p.f.length
 ·obtain⟨a,ha⟩:∃a,g.p.f[k]? =some a:=⟨_,Ta hlt⟩
  have hst:sumP (g.p.f.take (k+1))=sumP (g.p.f.take k)+popX (IntKind.u64.wrap a):=by rw[TD,ha];exact Yfp _ _
  have h1:=YpY (IntKind.u64.wrap a)
  have h2:=YlR (g.p.f.take k)
  rw[TO]at h2
  have p2:=λ{H':List HP}{w:World}(hw:St B w0 H' w)=>Ynn (IntKind.u64.wrap a) hw
  have hrd:=hrM (H':=[many H]) (.head _)
  repeat'(first|((apply Yb Ywa);exact za;exact rfl;exactλ_ hw=>(p2 hw))|refine zgd ?_|(refine zge ?_ ?_<;>intro _<;>try exact zo)|fail)
  apply hK (k+1)
  ·omega
  ·omega
  ·rw[hst];exact zc1
  ·exact zc0
 ·obtain rfl:k=g.p.f.length:=by omega
  rw[TC]
  refine zX1 ?_<;>intros
  apply Yf H
  ·intro w hw
   have h5:St B w0 [many H] w:=by
    revert w
    exact zc0
   exact hop w h5
  exact zc4
theorem Ysv{p q:Pln}{id:Int}(h:wdrP p id=(some q,0)):chkP p=0/\0<=idQ p.q id/\Xh p.s=true/\(YD p.n (delQ p.q (idQ p.q id).toNat) (ZY p.s id)).2.2=0/\
 q=⟨p.n,delQ p.q (idQ p.q id).toNat,ZY p.s id,(YD p.n (delQ p.q (idQ p.q id).toNat) (ZY p.s id)).1,(Y9 (ZY p.s id)).1⟩:=by
 unfold wdrP at h
 split at h
 ·cases h
 rename_i h1
 split at h
 ·cases h
 rename_i h2
 unfold finE at h
 split at h
 ·cases h
 rename_i h3
 have h3:=TQ.1 h3
 have hf:Xh p.s=true:=SC λe=>by
  unfold WI Ui at h3
  rw[Bool.not_eq_true]at e
  rw[To e]at h3
  cases h3
 have hd:Ui p.s id=(ZY p.s id,0):=by unfold Ui;rw[Tf (by rw[hf];decide)]
 rw[hd]at h h3
 unfold WI YaI at h3
 rw[Tf (λe=>e rfl)]at h3
 refine⟨TQ.1 h1,by omega,hf,?_,?_⟩
 ·split at h3
  ·rename_i h4;exact h4
  ·exact h3
 ·exact(Tz (TA Prod.fst h)).symm
variable {B:Nat}{w0 w:World}{H:List HP}
theorem YfA{P:Program}{n:Shp}{ops:Array Oper}{Q:Exit->Act->World->Prop}{env:Env}{l:List Oper}{e size k cap:Nat}{A:Option Addr}{xs:List Value}(hm:sl e size A k cap xs∈H)(h:k<=cap->VL P none n B w0 ops Q l env H):VL P none n B w0 ops Q l env H:=by
 refine⟨λa ha w hw=>?_⟩
 have hkc:k<=cap:=by
  rcases(hw.sl hm).2 with⟨e1,e2⟩|⟨g,c,cur,e1,_,_,e4,_⟩
  ·omega
  ·injection e1 with _ _ e3;omega
 exact(h hkc).run a ha w hw
theorem Ygn(s:SchM)(id:Int)(hf:Xh s.sch=true)(hr:Rd B w0 H s.A (s.cells.flatMap celF))(hw:St B w0 H w):
 CX B w0 79 [s.val,.int .i64 id] w (OutS H (ZY s.sch id,0)):=by
 refine Ya Tryz.func79 Tryz.ntmps79 rfl rfl hw ?_
 have hl:s.cells.length<=1000:=by
  have:=(Xm.1 hf).few
  have e:s.sch.cells=s.cells:=rfl
  rw[e]at this
  omega
 have hrM:∀{H':List HP},many H∈H'->Rd B w0 H' s.A (s.cells.flatMap celF):=λhm=>hr.mono λw hw=>hw.inM hm
 have hr:=hr.tail
 have p1:=λ{H':List HP}{w:World}(hr:Rd B w0 H' s.A (s.cells.flatMap celF)) (hw:St B w0 H' w)=>U7 s hr (by omega) hw
 rw[hf]at p1
 unfold SchM.val at p1⊢
 have hds:ZY s.sch id=⟨s.len,s.off,s.cells.filter λx=>decide (Y6 x≠id)⟩:=rfl
 rw[hds]
 refine YX [many H] (λw hw=>hw.perm (.closeT H)) ?_
 repeat'(first|((apply Yb YeG);exact za;exact rfl;exactλ_ hw=>(p1 (hrM zm) hw))|refine zgd ?_|(refine zgh ?_;intro _)|fail)
 rename_i gs gr gO
 refine Ye (λ(z:Nat×Option Addr×Nat)=>[(7,.int .i64 z.1),(2,.pointer (some ⟨gs,0,none⟩)),(1,.int .i64 id),(4,.pointer (some ⟨gr,0,none⟩)),(6,.pointer (some ⟨gO,0,none⟩))])
  (λz=>blk gO (.cells #[.int .i64 s.len,.int .i64 s.off,.slice z.2.1 ((s.cells.take z.1).filter λx=>decide (Y6 x≠id)).length z.2.2] 33 (0,0))::cels z.2.1 z.2.2 ((s.cells.take z.1).filter λx=>decide (Y6 x≠id))::blk gr (.cells #[.int .i64 0,.int .i64 0,.slice none 0 0] 33 (0,0))::blk gs (.cells #[.int .i64 s.len,.int .i64 s.off,.slice s.A s.cells.length s.cap] 33 (0,0))::[many H])
  (λz=>z.1<=s.cells.length) (λz=>s.cells.length-z.1) (0,none,0) (Td _) ?_ (λw hw=>?_) ?_
 ·exact zu
 ·exact(hw.nilSlice 162 5).perm (.swap _ _ _)
 rintro⟨i,A,cap⟩ hi K hK
 dsimp only at hi⊢
 have hM:=YeO (p:=λx:Cel=>decide (Y6 x≠id)) (l:=s.cells) (i:=i)
 by_cases hlt:i<s.cells.length
 ·have hget:s.cells[i]? =some (Yl s.sch i):=YS (s:=s.sch) hlt
  have hE:=YaL (p:=λx:Cel=>decide (Y6 x≠id)) hget
  obtain⟨M,hMe⟩:∃M,((s.cells.take i).filter λx=>decide (Y6 x≠id))=M:=⟨_,rfl⟩
  obtain⟨x,hx⟩:∃x,Yl s.sch i=x:=⟨_,rfl⟩
  rw[hx]at hget hE
  rw[hMe]at hM hE⊢
  unfold cels
  by_cases hxc:x.2.2.2.2=id
  ·rw[Tf (show¬decide (Y6 x≠id)=true fromλh=>TI h hxc),Ru]at hE
   repeat'(first|refine zgd ?_|(refine zge ?_ ?_<;>intro _<;>try exact zo)|fail)
   apply hK (i+1,A,cap)
   ·show i+1<=_
    omega
   ·show _-(i+1)<_-i
    omega
   ·exact zu
   ·dsimp only
    rw[hE]
    exactλw hw=>hw
  ·rw[To (Ti (p:=Y6 x≠id) hxc)]at hE
   repeat'(first|refine zgd ?_|(refine zge ?_ ?_<;>intro _<;>try exact zo)|fail)
   refine YX (blk gO (.cells #[.int .i64 s.len,.int .i64 s.off,.slice A (M).length cap] 33 (0,0))::sl 162 5 A (M).length cap ((M).flatMap celF)::blk gr (.cells #[.int .i64 0,.int .i64 0,.slice none 0 0] 33 (0,0))::blk gs (.cells #[.int .i64 s.len,.int .i64 s.off,.slice s.A s.cells.length s.cap] 33 (0,0))::[many H]) ?_ ?_
   ·intro w hw
    revert w
    exact zk
   apply Ws [0,1,2,3,4,5,6,7] [8,9,10] [true,false,false,true,true]
   kernel_rfl
   kernel_rfl
   exact zy
   (simp only[Yd,nthO];rfl)
   (simp only[Yd,nthO];rfl)
   repeat'(first|(apply YbX T;exact rfl;exact zm;(iterate 3 exact rfl))|(apply Yh;try exact zl)|refine zgd ?_|(refine zgh ?_;intro _)|(refine zgi ?_;intro _ _)|fail)
   rename_i A9 cap9
   apply hK (i+1,A9,cap9)
   ·show i+1<=_
    omega
   ·show _-(i+1)<_-i
    omega
   ·exact zu
   ·intro w hw
    dsimp only
    rw[hE]
    rw[Z7,Yc3 M x]at hw
    revert w
    exact zk
 ·obtain rfl:i=s.cells.length:=by omega
  rw[TC]
  repeat'(first|refine zgc ?_|(refine zge ?_ ?_<;>intro _<;>try exact zo)|fail)
  apply Yn T (H2:=cels A cap (s.cells.filter λx=>decide (Y6 x≠id))::H);(iterate 3 exact rfl);exact zm;exact rfl;exact rfl
  ·intro w hw
   have h5:St B w0 (cels A cap (s.cells.filter λx=>decide (Y6 x≠id))::[many H]) w:=by
    revert w
    exact zk
   exact h5.perm (.cons _ (.openT H))
  ·exact⟨A,cap,rfl,rfl⟩
def Yk8(B:Nat)(w0:World)(H:List HP)(p:PnM)(R:Option Pln×Int)(v:Value)(K:List HP):Prop:=
 (R.1=none/\v=.tuple #[zeroPnV,.int .i64 R.2]/\K=H)\/∃(q:PnM) (X:List HP),R=(some q.pln,0)/\v=.tuple #[q.val,.int .i64 0]/\(∀H',p.In B w0 H'->q.In B w0 (many X::H'))/\q.q.length<=q.qcap/\K=many X::H
theorem Uz(p:PnM)(id:Int)(hqc:p.q.length<=p.qcap)(hS:chkP p.pln=0->0<=idQ p.pln.q id->∃q,wdrP p.pln id=(some q,0))(hp:p.In B w0 H)(hw:St B w0 H w):
 CX B w0 17 [p.val,.int .i64 id] w (Yk8 B w0 H p (wdrP p.pln id)):=by
 refine Ya Tryz.func17 Tryz.ntmps17 rfl rfl hw ?_
 have p1:=λ{H':List HP}{w:World}(hp:p.In B w0 H') (hw:St B w0 H' w)=>OG p hp hw
 have hop:∀w,St B w0 [many H] w->St B w0 H w:=λw hw=>hw.perm (.openT H)
 have hpM:∀{H':List HP},many H∈H'->p.In B w0 H':=λhm=>hp.mono λw hw=>hw.inM hm
 unfold Yk8
 obtain⟨n,qA,qcap,q,s,cA,ccap,c,fA,fcap,f⟩:=p
 have hinM:∀{H':List HP},many H∈H'->n.In B w0 H':=λhm=>(hpM hm).n
 have hqM:∀{H':List HP},many H∈H'->QIn B w0 H' qA q:=λhm=>(hpM hm).q
 have hrsM:∀{H':List HP},many H∈H'->Rd B w0 H' s.A (s.cells.flatMap celF):=λhm=>(hpM hm).s
 have hsl:s.cells.length<=1000000000000:=hp.sl
 unfold PnM.val at p1⊢
 have hpl:(⟨n,qA,qcap,q,s,cA,ccap,c,fA,fcap,f⟩:PnM).pln=⟨n.net,q.map RqM.rq,s.sch,c.map ClM.clm,f⟩:=rfl
 rw[hpl]at p1 hS⊢
 obtain⟨R,hR⟩:∃R,wdrP ⟨n.net,q.map RqM.rq,s.sch,c.map ClM.clm,f⟩ id=R:=⟨_,rfl⟩
 have hR2:=hR
 unfold wdrP at hR2
 have hidx:idQ (q.map RqM.rq) id=Yp (λy:RqM=>decide (y.f.1=id)) q 0:=YbB _ _ _ _
 have hidf:Zr (RqM.fl q) id=idQ (q.map RqM.rq) id:=by rw[hidx];exact YbB _ _ _ _
 rw[hR]at hS⊢
 dsimp only at p1 hS hR2⊢
 refine YX [many H] (λw hw=>hw.perm (.closeT H)) ?_
 by_cases hk:chkP ⟨n.net,q.map RqM.rq,s.sch,c.map ClM.clm,f⟩=0
 rotate_left
 ·rw[To hk]at hR2
  subst hR2
  repeat'(first|refine zgb ?_|(refine zgh ?_;intro _)|fail)
  apply Yb en23
  exact za
  exact rfl
  exactλ_ hw=>(p1 (hpM zm) hw)
  repeat'(first|refine zgd ?_|(refine zge ?_ ?_<;>intro _<;>try exact zo)|fail)
  apply Yn T (H2:=H);(iterate 3 exact rfl);exact zm;exact rfl;exact rfl
  ·intro w hw
   have h5:St B w0 [many H] w:=by
    revert w
    exact zk
   exact hop w h5
  exact .inl ⟨rfl,rfl,rfl⟩
 have hq16:q.length<=16:=by
  have:=(YbI (Qh (Qi hk))).1
  rwa [Tu]at this
 have hfl:(RqM.fl q).length=q.length:=by unfold RqM.fl;rw[Tu]
 rw[Tf (λe=>e hk)]at hR2
 rw[hk]at p1
 have p2:=λ{H':List HP}{w:World}(hq:QIn B w0 H' qA q) (hw:St B w0 H' w)=>VW q (cap:=qcap) hq.ln hq.rd hw
 have p3:=λ{A:Option Addr}{cap:Nat}{H':List HP}{w:World}(hr:Rd B w0 H' A ((RqM.fl q).flatMap flwF)) (hw:St B w0 H' w)=>Ya1 (RqM.fl q) id (by omega) (cap:=cap) hr hw
 rw[hidf]at p3
 have hil:=Ykd (λy:RqM=>decide (y.f.1=id)) q 0 (by omega)
 rw[<-hidx]at hil
 have hS:=hS hk
 have hwf:=λq2 (h:R=(some q2,0))=>Ysv (hR.trans h)
 dsimp only at hwf
 generalize idQ (q.map RqM.rq) id=k at hil p3 hR2 hS hwf
 obtain⟨L,hL⟩:∃L,RqM.fl q=L:=⟨_,rfl⟩
 rw[hL]at p2 p3 hfl
 by_cases hk0:k<0
 ·rw[To hk0]at hR2
  subst hR2
  repeat'(first|refine zgb ?_|(refine zgh ?_;intro _)|fail)
  apply Yb en23
  exact za
  exact rfl
  exactλ_ hw=>(p1 (hpM zm) hw)
  repeat'(first|refine Yi T ?_|refine zgb ?_|(refine zge ?_ ?_<;>intro _<;>try exact zo)|fail)
  apply Yg _ en70
  exact za
  exact rfl
  exactλ_ hw=>(p2 (hqM zm) (hw))
  rintro _ _ ⟨A2,c2,rfl,rfl⟩
  repeat'(first|refine zga ?_|fail)
  apply Yb en71
  exact za
  exact rfl
  exactλ_ hw=>(p3 (Rd.sl zm) hw)
  repeat'(first|refine zgd ?_|(refine zge ?_ ?_<;>intro _<;>try exact zo)|fail)
  apply Yn T (H2:=H);(iterate 3 exact rfl);exact zm;exact rfl;exact rfl
  ·intro w hw
   have h5:St B w0 [many H] w:=by
    revert w
    exact zk
   exact hop w h5
  exact .inl ⟨rfl,rfl,rfl⟩
 obtain⟨q2,rfl⟩:=hS (by omega)
 obtain⟨-,-,hf,hc,hq2⟩:=hwf q2 rfl
 obtain⟨j,rfl⟩:∃j:Nat,k=j:=⟨k.toNat,by omega⟩
 have hj:j<q.length:=by omega
 rw[Rm]at hc hq2
 have hdel:delQ (q.map RqM.rq) j=(q.eraseIdx j).map RqM.rq:=by
  unfold delQ
  rw[S0,TY,NP,Ni]
 rw[hdel]at hc hq2
 have p4:=λ{H':List HP}{w:World}(hr:Rd B w0 H' s.A (s.cells.flatMap celF)) (hw:St B w0 H' w)=>Ygn s id hf hr hw
 have hdc:(ZY s.sch id).cells.length<=s.cells.length:=Sj _ _
 unfold OutS SchM.val at p4
 obtain⟨t,ht⟩:∃t,ZY s.sch id=t:=⟨_,rfl⟩
 rw[ht]at p4 hdc hc hq2
 dsimp only at p4
 have htl:t.cells.length<=1000000000000:=TX hdc hsl
 clear hS hwf hR2 hR
 have hqc:q.length<=qcap:=hqc
 obtain⟨qa,hqa⟩:∃l,q.take j=l:=⟨_,rfl⟩
 obtain⟨qb,hqb⟩:∃l,q.drop (j+1)=l:=⟨_,rfl⟩
 have hqal:qa.length=j:=by rw[<-hqa,TO];omega
 have hqbl:qb.length=q.length-(j+1):=by rw[<-hqb,TZ]
 have hqe:qa++qb=q.eraseIdx j:=by rw[<-hqa,<-hqb,S0]
 have hra:∀{H':List HP},many H∈H'->Rd B w0 H' qA (qa.flatMap rqF):=λhm=>by rw[<-hqa];exact(hqM hm).rd.take (q:=7) j (λ_=>rfl)
 have hrb:∀{H':List HP},many H∈H'->Rd B w0 H' (subA qA (j+1) qcap 7) (qb.flatMap rqF):=λhm=>by
  have h3:=(hqM hm).rd.sub (f:=rqF) (q:=7) (o:=j+1) (k:=q.length-(j+1)) (λ_=>rfl) hqc
  rwa [TE (by rw[TZ];omega),hqb]at h3
 repeat'(first|refine zgb ?_|(refine zgh ?_;intro _)|fail)
 apply Yb en23
 exact za
 exact rfl
 exactλ_ hw=>(p1 (hpM zm) hw)
 repeat'(first|refine Yi T ?_|refine zgb ?_|(refine zge ?_ ?_<;>intro _<;>try exact zo)|fail)
 apply Yg _ en70
 exact za
 exact rfl
 exactλ_ hw=>(p2 (hqM zm) (hw))
 rintro _ _ ⟨A2,c2,rfl,rfl⟩
 repeat'(first|refine zga ?_|fail)
 apply Yb en71
 exact za
 exact rfl
 exactλ_ hw=>(p3 (Rd.sl zm) hw)
 repeat'(first|refine zga ?_|(refine zge ?_ ?_<;>intro _<;>try exact zo)|fail)
 apply YC [1,2,3,4,6,7,8,9,10,0,5,11,12] [] [true,true,true,true]
 kernel_rfl
 kernel_rfl
 exact zy
 (simp only[Yd,nthO];rfl)
 exact rfl
 repeat'(first|(apply Xf T (l:=q) (n':=qa.length);(iterate 4 exact rfl);omega;exact hqc;omega;rw[Zm])|(apply Yq T (j+1) qb.length;(iterate 5 exact rfl);exact hj;exact hqbl.symm)|(apply Yw T;exact rfl;exact rfl;intro g7)|(apply YI T (f:=rqF) (l2:=qa) (e:=93) (size:=7) (xs:=[]);(iterate 3 exact rfl);exact hra zm;exact(λ_=>rfl);exact(λ_=>rfl);exact rfl;(intro _ _;exact zd);omega;intro A5 c5)|(apply YI T (f:=rqF) (l2:=qb) (e:=93) (size:=7) (xs:=[]++qa.flatMap rqF);(iterate 3 exact rfl);exact hrb zm;exact(λ_=>rfl);exact(λ_=>rfl);exact rfl;(intro _ _;exact zd);omega;intro A1 c1)|(apply Yh;try exact zl)|refine zgd ?_|fail)
 have e0:sl 93 7 A1 (0+qa.length+qb.length) c1 ([]++qa.flatMap rqF++qb.flatMap rqF)=rqs A1 c1 (q.eraseIdx j):=by
  unfold rqs
  rw[Rl,TF,<-Rj,<-Tt,hqe]
 have e1:0+qa.length+qb.length=(q.eraseIdx j).length:=by rw[Rl,<-Tt,hqe]
 rw[e0,e1]
 have hqn:∀{H':List HP},many H∈H'->rqs A1 c1 (q.eraseIdx j)∈H'->QIn B w0 H' A1 (q.eraseIdx j):=λh1 h2=>⟨Ygl h2,λx hx=>(hqM h1).x x (List.mem_of_mem_eraseIdx hx),by have:=List.length_eraseIdx_le q j;omega⟩
 have hpn:∀{H':List HP},(PnM.mk n qA qcap q s cA ccap c fA fcap f).In B w0 H'->rqs A1 c1 (q.eraseIdx j)∈H'->QIn B w0 H' A1 (q.eraseIdx j):=λh1 h2=>⟨Ygl h2,λx hx=>h1.q.x x (List.mem_of_mem_eraseIdx hx),by have:=List.length_eraseIdx_le q j;omega⟩
 repeat'(first|refine Yi T ?_|refine zga ?_|fail)
 apply Yg _ en79
 exact za
 exact rfl
 exactλ_ hw=>(p4 (hrsM zm) (hw))
 rintro _ _ ⟨A4,c4,rfl,rfl⟩
 repeat'(first|refine Yi T ?_|refine zgc ?_|(refine zgh ?_;intro _)|fail)
 unfold rqs
 refine YfA (e:=93) (size:=7) (k:=(q.eraseIdx j).length) (cap:=c1) (A:=A1) zm λhcap=>?_
 apply Yg _ en54
 exact za
 exact rfl
 exactλ_ hw=>(Ydq n (q.eraseIdx j) ⟨t.len,t.off,A4,c4,t.cells⟩ hc (cap:=c1) (hinM zm) (hqn zm (by unfold rqs;exact zm)) (Om (cap:=c4) zm) htl (hw))
 rintro _ _ ⟨pn,X,rfl,⟨hpn2,hpq,hpc⟩,hpi,rfl⟩
 unfold PnM.val
 repeat'(first|refine zgc ?_|fail)
 apply Yn T (H2:=many [many X,cels A4 c4 t.cells,rqs A1 c1 (q.eraseIdx j)]::H);(iterate 3 exact rfl);exact zm;exact rfl;exact rfl
 ·intro w hw
  have h5:St B w0 (many X::cels A4 c4 t.cells::rqs A1 c1 (q.eraseIdx j)::[many H]) w:=by
   unfold rqs
   revert w
   exact zk
  exact(h5.perm (.cons _ (.cons _ (.cons _ (.openT H))))).perm (.close [_,_,_] H)
 refine .inr ⟨pn,_,by rw[hq2,hpn2];rfl,rfl,λH' hp'=>?_,by rw[hpq,hpc];exact hcap,rfl⟩
 have h6:=hpi (cels A4 c4 t.cells::rqs A1 c1 (q.eraseIdx j)::H') (hpn hp'.cons.cons (.tail _ (.head _))) (Om (cap:=c4) (.head _))
 exact h6.mono λw hw=>hw.perm (.open_ [_,_,_] H')
def popN:Nat->Nat->Nat
 |0,_=>0
 |k+1,n=>n%2+popN k (n/2)
variable {a d:Nat}
theorem YfP{b:Nat}(ha:a<18446744073709551616)(hb:b<18446744073709551616):bits .and .u64 (a:Int) (b:Int)=((a&&&b:Nat):Int):=by
 have e1:(BitVec.ofInt 64 (a:Int)).toNat=a:=by rw[SY,Nh];exact SL ha
 have e2:(BitVec.ofInt 64 (b:Int)).toNat=b:=by rw[SY,Nh];exact SL hb
 have h2:a&&&b<=a:=Nat.and_le_left
 show IntKind.u64.wrap ((BitVec.ofInt 64 (a:Int)&&&BitVec.ofInt 64 (b:Int)).toNat:Int)=_
 rw[BitVec.toNat_and,e1,e2]
 rw[IntKind.wrap_u64]
 omega
theorem YlV{x:Nat}(h:x<18446744073709551616):IntKind.u64.wrap (x:Int)=(x:Int):=by rw[IntKind.wrap_u64];omega
def popA(m d a:Int):Int:=IntKind.u64.wrap (bits .and .u64 (a/d) m+bits .and .u64 a m)
def popB(a:Int):Int:=bits .and .u64 (IntKind.u64.wrap (a/16+a)) 1085102592571150095
def popC(d a:Int):Int:=IntKind.u64.wrap (a+a/d)
theorem YpX(a:Int):popX a=bits .and .i64 (IntKind.i64.wrap (popC 4294967296 (popC 65536 (popC 256 (popB (popA 3689348814741910323 4 (popA 6148914691236517205 2 a))))))) 127:=rfl
def qopA(m d a:Nat):Nat:=Nat.add (Nat.land (Nat.div a d) m) (Nat.land a m)
def qopB(a:Nat):Nat:=Nat.land (Nat.add (Nat.div a 16) a) 1085102592571150095
def qopC(d a:Nat):Nat:=Nat.add a (Nat.div a d)
def popQ(a:Nat):Nat:=Nat.land (qopC 4294967296 (qopC 65536 (qopC 256 (qopB (qopA 3689348814741910323 4 (qopA 6148914691236517205 2 a)))))) 127
theorem YbC(a b:Nat):Nat.land a b<=a:=Nat.and_le_left
theorem YlI{m:Nat}(hm:m<18446744073709551616)(ha:a<100000000):popA m d a=(qopA m d a:Nat)/\qopA m d a<=2*a:=by
 have h1:Nat.div a d<=a:=Nat.div_le_self a d
 have h2:=YbC (Nat.div a d) m
 have h3:=YbC a m
 have e1:bits .and .u64 ((a:Int)/(d:Int)) (m:Int)=((Nat.land (Nat.div a d) m:Nat):Int):=YfP (a:=Nat.div a d) (by omega) hm
 have e2:bits .and .u64 (a:Int) (m:Int)=((Nat.land a m:Nat):Int):=YfP (by omega) hm
 unfold popA qopA
 rw[e1,e2,<-Int.natCast_add,YlV (by omega)]
 exact⟨rfl,by show Nat.land (Nat.div a d) m+Nat.land a m<=_;omega⟩
theorem Ysc(ha:a<100000000):popB a=(qopB a:Nat)/\qopB a<=2*a:=by
 have h1:Nat.div a 16<=a:=Nat.div_le_self a 16
 have h2:=YbC (Nat.add (Nat.div a 16) a) 1085102592571150095
 have h3:Nat.add (Nat.div a 16) a=Nat.div a 16+a:=rfl
 have e1:IntKind.u64.wrap ((a:Int)/16+(a:Int))=((Nat.add (Nat.div a 16) a:Nat):Int):=YlV (x:=Nat.div a 16+a) (by omega)
 unfold popB qopB
 rw[e1]
 exact⟨YfP (b:=1085102592571150095) (by omega) (by decide),by omega⟩
theorem Ygh(ha:a<100000000):popC d a=(qopC d a:Nat)/\qopC d a<=2*a:=by
 have h1:Nat.div a d<=a:=Nat.div_le_self a d
 have h3:Nat.add a (Nat.div a d)=a+Nat.div a d:=rfl
 unfold popC qopC
 exact⟨YlV (x:=a+Nat.div a d) (by omega),by omega⟩
theorem Ysd(ha:a<65536):popX (a:Int)=(popQ a:Int):=by
 obtain⟨e1,b1⟩:=YlI (m:=6148914691236517205) (d:=2) (a:=a) (by decide) (by omega)
 obtain⟨e2,b2⟩:=YlI (m:=3689348814741910323) (d:=4) (a:=qopA 6148914691236517205 2 a) (by decide) (by omega)
 obtain⟨e3,b3⟩:=Ysc (a:=qopA 3689348814741910323 4 (qopA 6148914691236517205 2 a)) (by omega)
 obtain⟨e4,b4⟩:=Ygh (d:=256) (a:=qopB (qopA 3689348814741910323 4 (qopA 6148914691236517205 2 a))) (by omega)
 obtain⟨e5,b5⟩:=Ygh (d:=65536) (a:=qopC 256 (qopB (qopA 3689348814741910323 4 (qopA 6148914691236517205 2 a)))) (by omega)
 obtain⟨e6,b6⟩:=Ygh (d:=4294967296) (a:=qopC 65536 (qopC 256 (qopB (qopA 3689348814741910323 4 (qopA 6148914691236517205 2 a))))) (by omega)
 have e7:popX (a:Int)=bits .and .i64 (IntKind.i64.wrap ((qopC 4294967296 (qopC 65536 (qopC 256 (qopB (qopA 3689348814741910323 4 (qopA 6148914691236517205 2 a))))):Nat):Int)) 127:=by
  rw[YpX]
  exact TA (λz=>bits .and .i64 (IntKind.i64.wrap z) 127) ((TA (popC 4294967296) ((TA (popC 65536) ((TA (popC 256) ((TA popB ((TA (popA 3689348814741910323 4) e1).trans e2)).trans e3)).trans e4)).trans e5)).trans e6)
 rw[e7]
 unfold popQ
 generalize qopC 4294967296 (qopC 65536 (qopC 256 (qopB (qopA 3689348814741910323 4 (qopA 6148914691236517205 2 a)))))=z at b6⊢
 have h2:=YbC z 127
 have hz:IntKind.i64.wrap (z:Int)=(z:Int):=by rw[IntKind.wrap_i64];omega
 have ez:(BitVec.ofInt 64 (z:Int)).toNat=z:=by rw[SY,Nh];exact SL (by omega)
 rw[hz]
 show IntKind.i64.wrap ((BitVec.ofInt 64 (z:Int)&&&BitVec.ofInt 64 (127:Int)).toNat:Int)=_
 rw[BitVec.toNat_and,ez,show(BitVec.ofInt 64 (127:Int)).toNat=127 from rfl,IntKind.wrap_i64]
 show(((Nat.land z 127:Nat):Int)+9223372036854775808)%18446744073709551616-9223372036854775808=_
 omega
def bitS:Nat->Nat->Nat
 |0,_=>0
 |k+1,a=>Nat.add (Nat.mod a 2) (bitS k (Nat.div a 2))
theorem Yli:∀k a:Nat,bitS k a=popN k a
 |0,_=>rfl
 |k+1,a=>TA (Nat.add (Nat.mod a 2)) (Yli k (Nat.div a 2))
def allN(f:Nat->Bool):Nat->Bool
 |0=>true
 |n+1=>f n&&allN f n
theorem YfM{f:Nat->Bool}:∀{n:Nat},allN f n=true->∀i,i<n->f i=true
 |n+1,h,i,hi=>by
  unfold allN at h
  rw[Tq]at h
  by_cases e:i=n
  ·rw[e];exact h.1
  ·exact YfM h.2 i (by omega)
theorem Yse:allN (λh=>allN (λl=>Nat.beq (popQ (Nat.add (Nat.mul h 256) l)) (bitS 16 (Nat.add (Nat.mul h 256) l))) 256) 256=true:=by kernel_rfl
theorem Yvz(h:a<65536):popX (a:Int)=(popN 16 a:Int):=by
 have h1:=YfM (YfM Yse (a/256) (by omega)) (a%256) (by omega)
 have h2:Nat.add (Nat.mul (a/256) 256) (a%256)=a:=Nat.div_add_mod' a 256
 rw[h2]at h1
 rw[Ysd h,Nat.eq_of_beq_eq_true h1,Yli]
variable {B:Nat}{w0 w:World}{H:List HP}
theorem Yec(c:List ClM)(id:Int){A:Option Addr}{cap:Nat}(hc:CIn B w0 H A c)(hw:St B w0 H w):
 CX B w0 115 [.slice A c.length cap,.int .i64 id] w λv K=>v=.tuple #[.int .i64 (bndE (c.map ClM.clm) id).1,.bool (bndE (c.map ClM.clm) id).2]/\K=H:=by
 refine Ya Tryz.func115 Tryz.ntmps115 rfl rfl hw ?_
 have hcl:=hc.ln
 have hcr:=hc.rd
 repeat'(first|refine zgb ?_|fail)
 refine Ye (λi:Nat=>[(6,.int .i64 (i:Nat)),(0,.slice A c.length cap),(1,.int .i64 id)]) (λ_=>H) (λi=>i<=c.length/\∀y∈(c.map ClM.clm).take i,Jd id y=false) (λi=>c.length-i) 0 ⟨Td _,by simp⟩ ?_ (λw hw=>hw) ?_
 ·exact zu
 rintro i ⟨hi,hz⟩ K hK
 by_cases hlt:i<c.length
 rotate_left
 ·rw[TE (by rw[Tu];omega)]at hz
  have hb:bndE (c.map ClM.clm) id=(0,false):=by
   have h1:(c.map ClM.clm).find? (Jd id)=none:=List.find?_eq_none.2 λy hy=>by rw[hz y hy];decide
   show(match(c.map ClM.clm).find? (Jd id)with|none=>((0:Int),false)|some x=>(minI x.bounds,true))=_
   rw[h1]
  rw[hb]
  repeat'(first|refine zgc ?_|(refine zge ?_ ?_<;>intro _<;>try exact zo)|fail)
  apply YJ;(iterate 3 exact rfl);exact⟨rfl,rfl⟩
 obtain⟨x,hx⟩:∃x,c[i]? =some x:=⟨_,Ta hlt⟩
 have hxm:(c.map ClM.clm)[i]? =some x.clm:=by rw[TU,hx];rfl
 have hxi:=hc.x x (Tc hx)
 have hbl:=hxi.ln.2.1
 have hbr:=hxi.bd
 have hstep:Jd id x.clm=false->∀y∈(c.map ClM.clm).take (i+1),Jd id y=false:=λh y hy=>by
  rw[TD,hxm,Rx]at hy
  rcases T9.1 hy with h2|h2
  ·exact hz y h2
  ·rw[Ry.1 h2];exact h
 have e1:Jd id x.clm=(decide (x.flow=id)&&decide (0<x.bs.length)):=rfl
 by_cases h1:x.flow=id
 rotate_left
 ·rw[Tn h1]at e1
  repeat'(first|refine zgd ?_|(refine zge ?_ ?_<;>intro _<;>try exact zo)|fail)
  apply hK (i+1)
  ·exact⟨by omega,hstep e1⟩
  ·omega
  ·exact zu
  ·exactλw hw=>hw
 by_cases h2:0<x.bs.length
 rotate_left
 ·rw[Tn h2,Bool.and_false]at e1
  repeat'(first|refine zgd ?_|(refine zgf ?_ ?_<;>intro _<;>try exact zo)|fail)
  apply hK (i+1)
  ·exact⟨by omega,hstep e1⟩
  ·omega
  ·exact zu
  ·exactλw hw=>hw
 rw[Ti h1,Ti h2]at e1
 have hb:bndE (c.map ClM.clm) id=(minI x.bs,true):=by
  show(match(c.map ClM.clm).find? (Jd id)with|none=>((0:Int),false)|some x=>(minI x.bounds,true))=_
  rw[(Of hz hxm e1).2];rfl
 rw[hb]
 clear hK hstep e1
 obtain⟨a,ha⟩:∃a,x.bs[0]? =some a:=⟨_,Ta h2⟩
 have ha2:x.bs[(0:Int).toNat]? =some a:=ha
 have hm1:minI (x.bs.take 1)=a:=by
  obtain⟨l,hl⟩:∃l,x.bs=l:=⟨_,rfl⟩
  rw[hl]at ha⊢
  cases l with
  |nil=>cases ha
  |cons b l=>exact Tz ha
 repeat'(first|refine zgd ?_|(refine zgf ?_ ?_<;>intro _<;>try exact zo)|fail)
 refine Ye (λk:Nat=>[(8,.int .i64 (k:Nat)),(7,.int .i64 (minI (x.bs.take k))),(6,.int .i64 (i:Nat)),(0,.slice A c.length cap),(1,.int .i64 id)]) (λ_=>H) (λk=>1<=k/\k<=x.bs.length) (λk=>x.bs.length-k) 1 ⟨TS _,h2⟩ ?_ (λw hw=>hw) ?_
 ·rw[hm1]
  exact zu
 rintro k ⟨hk1,hk⟩ K hK
 by_cases hlt2:k<x.bs.length
 ·obtain⟨y,hy⟩:∃y,x.bs[k]? =some y:=⟨_,Ta hlt2⟩
  repeat'(first|(apply Yn8;(iterate 3 exact rfl))|refine zgd ?_|(refine zge ?_ ?_<;>intro _<;>try exact zo)|fail)
  apply hK (k+1)
  ·exact⟨by omega,by omega⟩
  ·omega
  ·rw[Yim hk1 hy]
   exact zu
  ·exactλw hw=>hw
 ·rw[show x.bs.take k=x.bs from TE (by omega)]
  repeat'(first|refine zgd ?_|(refine zge ?_ ?_<;>intro _<;>try exact zo)|fail)
  apply YJ;(iterate 3 exact rfl);exact⟨rfl,rfl⟩
def YcH(l:List Lop)(id:Int):Int:=if hasL l id=true then((posL l id:Nat):Int)else -1
theorem QK(g:GwM)(id:Int)(ho:g.l.Pairwise λa b=>a.1<b.1)(hg:g.In B w0 H)(hw:St B w0 H w):
 CX B w0 108 [g.val,.int .i64 id] w λv K=>v=.int .i64 (YcH g.l id)/\K=H:=by
 refine Ya Tryz.func108 Tryz.ntmps108 rfl rfl hw ?_
 have hgM:∀{H':List HP},many H∈H'->g.In B w0 H':=λhm=>hg.mono λw hw=>hw.inM hm
 have hll:=hg.ll
 unfold GwM.val
 refine YX [many H] (λw hw=>hw.perm (.closeT H)) ?_
 repeat'(first|refine zgb ?_|(refine zgh ?_;intro _)|fail)
 rename Nat=>g1
 have hra:=(hgM (H':=gwyA g1 g::[many H]) (.tail _ (.head _))).l
 refine Ye (λi:Nat=>[(5,.int .i64 (i:Nat)),(2,.pointer (some ⟨g1,0,none⟩)),(1,.int .i64 id)]) (λ_=>gwyA g1 g::[many H]) (λi=>i<=g.l.length/\∀k x,k<i->g.l[k]? =some x->x.1≠id) (λi=>g.l.length-i) 0 ⟨Td _,λk x hk=>absurd hk (Re _)⟩ ?_ ?_ ?_
 ·exact zu
 ·exact zk
 rintro i ⟨hi,hz⟩ K hK
 by_cases hlt:i<g.l.length
 rotate_left
 ·have hno:YcH g.l id= -1:=by
   unfold YcH
   rw[Tf]
   intro h
   obtain⟨x,hx,he⟩:=TM.1 h
   obtain⟨k,hk⟩:=TL.1 hx
   exact hz k x (by have:=(Tj.1 hk).1;omega) hk (TI he)
  rw[hno]
  repeat'(first|refine zgc ?_|(refine zge ?_ ?_<;>intro _<;>try exact zo)|fail)
  apply Yf H
  ·intro w hw
   have h5:St B w0 [many H] w:=by
    revert w
    exact zk
   exact h5.perm (.openT H)
  apply Yc;exact rfl;exact rfl;exact⟨rfl,rfl⟩
 obtain⟨x,hx⟩:∃x,g.l[i]? =some x:=⟨_,Ta hlt⟩
 by_cases h1:x.1=id
 ·have hyes:YcH g.l id=(i:Nat):=by
   have hxm:=Tc hx
   unfold YcH
   rw[To (show hasL g.l id=true from TM.2 ⟨x,hxm,Ti h1⟩)]
   rw[TT]at ho
   have hp:posL g.l id=i:=YkY hi (λk y hk hy=>by
    obtain⟨a1,rfl⟩:=Tj.1 hy
    obtain⟨b1,rfl⟩:=Tj.1 hx
    have:=ho k i a1 b1 hk
    omega) λy hy=>by
    rw[hx]at hy
    obtain rfl:=Tz hy
    omega
   rw[hp]
  rw[hyes]
  clear hK
  repeat'(first|refine zgd ?_|(refine zge ?_ ?_<;>intro _<;>try exact zo)|fail)
  apply Yf H
  ·intro w hw
   have h5:St B w0 [many H] w:=by
    revert w
    exact zk
   exact h5.perm (.openT H)
  apply Yc;exact rfl;exact rfl;exact⟨rfl,rfl⟩
 repeat'(first|refine zgd ?_|(refine zge ?_ ?_<;>intro _<;>try exact zo)|fail)
 apply hK (i+1)
 ·refine⟨by omega,λk y hk hy=>?_⟩
  by_cases e:k=i
  ·subst e
   rw[hx]at hy
   obtain rfl:=Tz hy
   exact h1
  ·exact hz k y (by omega) hy
 ·omega
 ·exact zu
 ·exact zk
theorem YiE(g:GwM)(id:Int)(hg:g.In B w0 H)(hw:St B w0 H w):
 CX B w0 32 [g.val,.int .i64 id] w λv K=>v=.tuple #[.int .i64 (ageG g.gw id).1,.int .i64 (ageG g.gw id).2]/\K=H:=by
 refine Ya Tryz.func32 Tryz.ntmps32 rfl rfl hw ?_
 have hage:GwOk g.gw->∀(i:Nat) (l:Lop) (s:Spl),g.l[i]? =some l->g.s[i]? =some s->∃b,ageG g.gw l.1=(l.2.2.2.2.1+s.1+b-1,0)/\1<=b/\b<=s.2/\Xc l s=0:=λh _ _ _ h1 h2=>Yov (g:=g.gw) h h1 h2
 have hop:∀w,St B w0 [many H] w->St B w0 H w:=λw hw=>hw.perm (.openT H)
 have hgM:∀{H':List HP},many H∈H'->g.In B w0 H':=λhm=>hg.mono λw hw=>hw.inM hm
 have p1:=λ{H':List HP}{w:World}(hg:g.In B w0 H') (hw:St B w0 H' w)=>V3 g hg hw
 have p2:=λ(ho:g.l.Pairwise λa b=>a.1<b.1) {H':List HP}{w:World}(hg:g.In B w0 H') (hw:St B w0 H' w)=>QK g id ho hg hw
 unfold GwM.val at p1 p2
 unfold GwM.val
 refine YX [many H] (λw hw=>hw.perm (.closeT H)) ?_
 have hgo:=λh:chkG g.gw=0=>JN.1 h
 unfold ageG at hage⊢
 obtain⟨e,he⟩:∃e,chkG g.gw=e:=⟨_,rfl⟩
 rw[he]at p1 hgo hage⊢
 by_cases he0:e=0
 rotate_left
 ·rw[To he0]
  repeat'(first|((apply Yb YaD);exact za;exact rfl;exactλ_ hw=>(p1 (hgM zm) hw))|refine zgb ?_|(refine zge ?_ ?_<;>intro _<;>try exact zo)|(refine zgh ?_;intro _)|fail)
  apply Yf H
  ·intro w hw
   have h5:St B w0 [many H] w:=by
    revert w
    exact zk
   exact hop w h5
  apply YJ;(iterate 3 exact rfl);exact⟨rfl,rfl⟩
 rw[Tf (λe=>e he0)]
 subst he0
 have hok:=hgo rfl
 obtain⟨hn,h8,hfit,hpw⟩:=Zc.1 hok.l
 have h8:g.l.length<=8:=h8
 have hgat:=λh:hasL g.l id=true=>Ylz hok h
 have p2:=λ{H':List HP}{w:World}(hg:g.In B w0 H') (hw:St B w0 H' w)=>p2 hpw hg hw
 unfold YcH at p2
 rw[show g.gw.l=g.l from rfl,show g.gw.s=g.s from rfl,show g.gw.p=g.p.pln from rfl]at hage⊢
 rw[show g.gw.l=g.l from rfl,show g.gw.s=g.s from rfl]at hgat
 obtain⟨hb,hhb⟩:∃b,hasL g.l id=b:=⟨_,rfl⟩
 rw[hhb]at p2 hgat⊢
 cases hb with
 |false=>
  rw[To rfl]
  rw[Tf (by decide)]at p2
  repeat'(first|refine Yi T ?_|((apply Yb YaD);exact za;exact rfl;exactλ_ hw=>(p1 (hgM zm) hw))|((apply Yb Yll);exact za;exact rfl;exactλ_ hw=>(p2 (hgM zm) hw))|refine zgb ?_|(refine zge ?_ ?_<;>intro _<;>try exact zo)|(refine zgh ?_;intro _)|fail)
  apply Yf H
  ·intro w hw
   have h5:St B w0 [many H] w:=by
    revert w
    exact zk
   exact hop w h5
  apply YJ;(iterate 3 exact rfl);exact⟨rfl,rfl⟩
 |true=>
 rw[To rfl]at p2
 obtain⟨l,s,hid,hl,hs,hid1,hid2⟩:=hgat rfl
 obtain⟨b,hb,hb1,hb2,hr⟩:=hage hok _ l s hl hs
 subst hid
 obtain⟨h32,hs1,hs2,-⟩:=Vz hr
 have hP:=(ZF h32).2.1
 rw[Tf (by decide)]
 rw[Tf (λe=>e rfl),hhb,Tf (by decide)]at hb
 have p3:=λ{H':List HP}{w:World}(hg:g.In B w0 H') (hw:St B w0 H' w)=>Yec g.p.c (2*l.1+1) (cap:=g.p.ccap) hg.p.c hw
 rw[show g.p.pln.c=g.p.c.map ClM.clm from rfl]at hb⊢
 obtain⟨⟨u,ok⟩,hu⟩:∃R,bndE (g.p.c.map ClM.clm) (2*l.1+1)=R:=⟨_,rfl⟩
 rw[hu]at p3 hb⊢
 rw[hb]
 have hu2:u=b:=by
  have h1:XS g.l (posL g.l l.1)=l:=by unfold XS;rw[TB,hl];rfl
  have h2:g.s.getD (posL g.l l.1) (0,0)=s:=by rw[TB,hs];rfl
  have h3:=TA Prod.fst hb
  rw[h1,h2]at h3
  dsimp only at h3
  omega
 subst hu2
 clear hb hage
 obtain⟨k,hk⟩:∃k,posL g.l l.1=k:=⟨_,rfl⟩
 rw[hk]at p2 hl hs
 have hkl:=(Tj.1 hl).1
 have hks:=(Tj.1 hs).1
 repeat'(first|refine Yi T ?_|((apply Yb YaD);exact za;exact rfl;exactλ_ hw=>(p1 (hgM zm) hw))|((apply Yb Yll);exact za;exact rfl;exactλ_ hw=>(p2 (hgM zm) hw))|((apply Yb Yv9);exact za;exact rfl;exactλ_ hw=>(p3 (hgM zm) hw))|refine zgd ?_|(refine zge ?_ ?_<;>intro _<;>try exact zo)|(refine zgh ?_;intro _)|fail)
 rename Nat=>g1
 have hrl:=(hgM (H':=[gwyA g1 g,many H]) (.tail _ (.head _))).l
 have hrs:=(hgM (H':=[gwyA g1 g,many H]) (.tail _ (.head _))).s
 repeat'(first|refine Yi T ?_|refine zgd ?_|fail)
 apply Yf H
 ·intro w hw
  have h5:St B w0 [many H] w:=by
   revert w
   exact zk
  exact hop w h5
 apply YJ;(iterate 3 exact rfl);exact⟨rfl,rfl⟩
end Go.Proofs.YtjommdkgfbhbdaaGreatDoor
namespace Go.Rt
open Go.Nw
def YjP(nodes:Nat)(l:List Lk)(to:Int)(far:List Int):Bool:=
 decide (far.length=nodes)&&decide (Yk far to=0)&&((List.range nodes).all λv:Nat=>decide (0<=Yk far v/\Yk far v<=Xy))&&
 ((List.range nodes).all λv:Nat=>decide ((v:Int)=to)||decide (¬Yk far v<Xy)||l.any λa=>decide (a.1=v/\Yk far a.2.1+a.2.2<=Yk far v))&&
 l.all λa=>decide (¬Yk far a.2.1<Xy)||decide (Yk far a.1<=Yk far a.2.1+a.2.2)
variable {l:List Lk}{to:Int}{far:List Int}
theorem YmT{nodes:Nat}(h:YjP nodes l to far=true):Dist nodes l to far:=by
 unfold YjP at h
 simp only[Tq,Rh,R7,Tm,TM,Rq]at h
 obtain⟨⟨⟨⟨h1,h2⟩,h3⟩,h4⟩,h5⟩:=h
 refine⟨h1,h2,λv h0 hn=>?_,λv h0 hn hne hlt=>?_,λa ha hlt=>?_⟩
 ·have:=h3 v.toNat (by omega)
  grind
 ·have:=h4 v.toNat (by omega)
  grind
 grind
def YoA(nodes:Nat)(l:List Lk):Bool:=l.all λa=>decide ((0<=a.1/\a.1<nodes)/\(0<=a.2.1/\a.2.1<nodes)/\(1<=a.2.2/\a.2.2<=1000000))
theorem YmD{nodes:Nat}(h:YoA nodes l=true):ArcsOk nodes l:=λa ha=>by
 have:=Rh.1 h a ha
 simp_all
theorem Ycn{nodes:Nat}(h1:YoA nodes l=true)(h:YjP nodes l to far=true):VH nodes l to=far:=Yhp (YmD h1) (YmT h)
end Go.Rt
namespace Go.Proofs.YtjommdkgfbhbdaaGreatDoor
open Go.RowKit Go.Eng Go.Nw Go.Rt
def exA5:List Lk:=[(0,1,1),(1,0,1)]
theorem Ynv{rs rs':List RowM}(h:rs.map (·.xs)=rs'.map (·.xs)):rs.length=rs'.length:=by simpa using TA List.length h
variable {B:Nat}{w0 w:World}{H:List HP}
theorem Yfh(l m:List Int)(h:l=m)(hlen:l.length<=9223372036854775807){A A2:Option Addr}{cap cap2:Nat}(hr:Rd B w0 H A (l.flatMap numF))(hr2:Rd B w0 H A2 (m.flatMap numF))(hw:St B w0 H w):
 CX B w0 142 [.slice A l.length cap,.slice A2 m.length cap2] w λu K=>u=.bool true/\K=H:=by
 refine Ya Tryz.func142 Tryz.ntmps142 rfl rfl hw ?_
 subst h
 refine zX0 ?_<;>intros
 refine Ye (λ(k:Nat)=>[(5,.int .i64 k),(0,.slice A l.length cap),(1,.slice A2 l.length cap2)]) (λ_=>H) (λk=>k<=l.length) (λk=>l.length-k) 0 (Td _) ?_ (λw hw=>hw) ?_
 ·exact zc1
 rintro k hk K hK
 by_cases hlt:k<l.length
 ·obtain⟨a,ha⟩:∃a,l[k]? =some a:=⟨_,Ta hlt⟩
  refine zX50 ?_<;>intros
  apply hK (k+1)
  ·omega
  ·omega
  ·exact zc1
  exact zc18
 ·refine zX1 ?_<;>intros
  exact zc9
theorem YkN(n m:NetM)(h:n.net=m.net)(hin:n.In B w0 H)(hin2:m.In B w0 H)(hw:St B w0 H w):
 CX B w0 55 [n.val,m.val] w λu K=>u=.bool true/\K=H:=by
 refine Ya Tryz.func55 Tryz.ntmps55 rfl rfl hw ?_
 obtain⟨hpw,hrw,hlk,hmg,hs1,hs2,hs3,hs4⟩:=id hin
 obtain⟨hpw',hrw',hlk',hmg',hs1',hs2',hs3',hs4'⟩:=id hin2
 simp only[NetM.net,Net.mk.injEq]at h
 obtain⟨e1,e2,e3,e4,e5,e6⟩:=h
 have e7:=Ynv e2
 have e8:n.links.length=m.links.length:=by rw[e5]
 have e9:n.margin.length=m.margin.length:=by rw[e6]
 (apply Y5;apply YL;apply Yx;exact rfl;exact rfl;intro g)
 apply Yx;exact rfl;exact rfl;intro g2
 refine zX1 ?_<;>intros
 refine Ye (λ(k:Nat)=>[(5,.int .i64 k),(2,.pointer (some ⟨g,0,none⟩)),(3,.pointer (some ⟨g2,0,none⟩))]) (λ_=>netB g2 m::netB g n::H) (λk=>k<=n.rows.length) (λk=>n.rows.length-k) 0 (Td _) ?_ (λw hw=>hw) ?_
 ·exact zc1
 rintro k hk K hK
 by_cases hlt:k<n.rows.length
 ·obtain⟨a,ha⟩:∃a,n.rows[k]? =some a:=⟨_,Ta hlt⟩
  obtain⟨b,hb⟩:∃b,m.rows[k]? =some b:=⟨_,Ta (by omega)⟩
  have hab:a.xs=b.xs:=by
   have h1:(n.rows.map (·.xs))[k]? =some a.xs:=by simp[ha]
   have h2:(m.rows.map (·.xs))[k]? =some b.xs:=by simp[hb]
   rw[e2,h2]at h1
   exact(Tz h1).symm
  have ham:=Tc ha
  have hbm:=Tc hb
  repeat'(first|((apply Ym VI);exact za;exact rfl;exactλ_ hw=>(Yfh a.xs b.xs hab (hs2 a ham) (hrw a ham).cons.cons (hrw' b hbm).cons.cons hw))|(apply zg28;refine zs84 ?_)|refine zgd ?_|(refine zge ?_ ?_<;>intro _<;>try exact zo)|fail)
  apply hK (k+1)
  ·omega
  ·omega
  ·exact zc1
  exact zc18
 clear hK
 refine zX1 ?_<;>intros
 refine Ye (λ(k:Nat)=>[(6,.int .i64 k),(2,.pointer (some ⟨g,0,none⟩)),(3,.pointer (some ⟨g2,0,none⟩))]) (λ_=>netB g2 m::netB g n::H) (λk=>k<=n.links.length) (λk=>n.links.length-k) 0 (Td _) ?_ (λw hw=>hw) ?_
 ·exact zc1
 rintro k hk K hK
 by_cases hlt:k<n.links.length
 ·obtain⟨a,ha⟩:∃a,n.links[k]? =some a:=⟨_,Ta hlt⟩
  have hb:m.links[k]? =some a:=by rw[<-e5];exact ha
  repeat'(first|(apply UG (xs:=lkF a) (ys:=lkF a);(iterate 3 exact rfl);kernel_rfl;kernel_rfl;(intro hne;exact absurd rfl hne);intro _)|refine zgd ?_|(refine zge ?_ ?_<;>intro _<;>try exact zo)|fail)
  apply hK (k+1)
  ·omega
  ·omega
  ·exact zc1
  exact zc18
 clear hK
 repeat'(first|((apply Yb VI);exact za;exact rfl;exactλ_ hw=>(Yfh n.margin m.margin e6 hs4 hmg.cons.cons hmg'.cons.cons hw))|refine zgc ?_|(refine zge ?_ ?_<;>intro _<;>try exact zo)|fail)
 apply Yj;apply Yj;exact zc9
end Go.Proofs.YtjommdkgfbhbdaaGreatDoor
