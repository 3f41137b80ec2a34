/- Lemmas. -/
import Derived.Test.YtjlgijpmnfabcaaGreatDoorQ21
import Derived.Test.YtjlgijpmnfabcaaGreatDoorQ22
set_option maxRecDepth 100000
set_option maxHeartbeats 8000000
set_option linter.all false
namespace Go.Proofs.YtjlgijpmnfabcaaGreatDoor
open Go.RowKit Go.Eng Go.Nw Go.Rt
theorem YeD(d:List (Int×Int×Int))(x:Int×Int×Int)(id k:Int):delT (d++[x]) id k=(delT d id k).or (if x.1=id/\x.2.1=k then some x.2.2 else none):=by
 unfold delT
 rw[List.find?_append]
 cases d.find? (YaI id k)with
 |some y=>rfl
 |none=>by_cases e:x.1=id/\x.2.1=k<;>simp[YaI,e]
theorem UC{α β:Type}{f:α->β}{l:List α}(hn:(l.map f).Nodup){x y:α}(hx:x∈l)(hy:y∈l)(e:f x=f y):x=y:=by
 induction l with
 |nil=>cases hx
 |cons a l ih=>
  rw[Ro,List.nodup_cons]at hn
  rcases Rr.1 hx with h1|h1<;>rcases Rr.1 hy with h2|h2
  ·rw[h1,h2]
  ·exact absurd (h1▸e▸RA h2) hn.1
  ·exact absurd (h2▸e▸RA h1) hn.1
  ·exact ih hn.2 h1 h2
variable {es ea eb:List (Int×Int×Nat)}
theorem YpC(hn:((iE es).map λe=>e.1).Nodup){x y:Int×Int×Nat}(hx:x∈es)(hy:y∈es)(e:x.1=y.1):x=y:=
 UC (f:=λe:Int×Int×Nat=>e.1) (by unfold iE at hn;rwa [SU]at hn) hx hy e
structure ArrI(d:List (Int×Int×Int))(id:Int)(es:List (Int×Int×Nat))(c:Nat):Prop where
 ok:MOk (iE es) c
 get:∀k,ZI es k=delT d id k
theorem ArrI.nil(id:Int):ArrI [] id [] 0:=⟨MOk.nil,λ_=>rfl⟩
variable {d:List (Int×Int×Int)}{id slots v u:Int}{c t:Nat}{e:Int×Int×Nat}
theorem ArrI.mem(h:ArrI d id es c)(he:e∈es):delT d id e.1=some e.2.1:=by
 rw[<-h.get]
 unfold ZI
 cases hf:es.find? (λx=>x.1==e.1)with
 |none=>exact absurd (SK.1 hf e he) (by simp)
 |some y=>
  have h2:y.1=e.1:=by simpa using NN hf
  rw[YpC h.ok.kn (SG hf) he h2];rfl
theorem ArrI.at_(h:ArrI d id es c){k s:Int}(hk:delT d id k=some s):∃e∈es,e.1=k/\e.2.1=s:=by
 rw[<-h.get]at hk
 unfold ZI at hk
 cases hf:es.find? (λx=>x.1==k)with
 |none=>rw[hf]at hk;cases hk
 |some y=>
  rw[hf]at hk
  exact⟨y,SG hf,by simpa using NN hf,Tn hk⟩
variable {x:Int×Int×Int}
theorem ArrI.skip(h:ArrI d id es c)(hx:x.1=id->∃s,delT d id x.2.1=some s):ArrI (d++[x]) id es c:=by
 refine⟨h.ok,λk=>?_⟩
 rw[h.get,YeD]
 by_cases e:x.1=id/\x.2.1=k
 ·obtain⟨s,hs⟩:=hx e.1
  rw[<-e.2,hs];rfl
 ·rw[Tf e,Option.or_none]
theorem ArrI.put(h:ArrI d id es c)(hx:x.1=id)(hn:delT d id x.2.1=none):ArrI (d++[x]) id (es++[(x.2.1,x.2.2,c)]) (c+1):=by
 have hno:∀e∈es,e.1≠x.2.1:=λe he e1=>by
  have:=h.mem he
  rw[e1,hn]at this;cases this
 have hie:iE (es++[(x.2.1,x.2.2,c)])=iE es++[(x.2.1,Value.int .i64 x.2.2,c)]:=by unfold iE;rw[TP];rfl
 have hmem:∀e∈iE es,∃e0∈es,e0.1=e.1:=λe he=>by
  obtain⟨e0,h0,rfl⟩:=TD.1 he
  exact⟨e0,h0,rfl⟩
 refine⟨?_,λk=>?_⟩
 ·rw[hie]
  refine⟨?_,?_,λe he=>?_⟩
  ·rw[TP]
   refine Nc.2 ⟨h.ok.nd,by simp,λa ha b hb=>?_⟩
   obtain⟨e,he,rfl⟩:=TD.1 ha
   obtain rfl:b=c:=by simpa using hb
   exact Nat.ne_of_lt (h.ok.lt e he)
  ·rw[TP]
   refine Nc.2 ⟨h.ok.kn,by simp,λa ha b hb=>?_⟩
   obtain⟨e,he,rfl⟩:=TD.1 ha
   obtain rfl:b=x.2.1:=by simpa using hb
   obtain⟨e0,h0,e1⟩:=hmem e he
   rw[<-e1]
   exact hno e0 h0
  ·rcases TJ.1 he with he|he
   ·exact Nat.lt_succ_of_lt (h.ok.lt e he)
   ·rw[TU.1 he];exact Nat.lt_succ_self _
 ·rw[YeD,Ye0 (by rw[h.get,hn])]
  by_cases e:k=x.2.1
  ·rw[Tm e,e,hn,Tm ⟨hx,rfl⟩];rfl
  ·rw[Tf e,Tf (λh=>e h.2.symm),Option.or_none,h.get]
structure CarR(es:List (Int×Int×Nat))(t r:Int):Prop where
 nn: -1<=r/\r<=1000000
 up:r= -1\/∃e∈es,e.1=r/\e.2.1<t
 lo:∀e∈es,e.2.1<t->e.1<=r
structure FrI(b:Flw)(ea eb:List (Int×Int×Nat))(slots:Int)(seen:Nat->Bool)(F:List Int):Prop where
 len:F.length=(slots+1).toNat
 nn:∀v∈F,0<=v/\v<=1000001
 up:∀(i:Nat) v,F[i]? =some v->v=0\/∃e∈eb,e.2.1+1=i/\∃x∈ea,x.1=v-1/\x.2.1<Yn b e.1
 lo:∀e∈eb,seen e.2.2=true->e.2.1+1<slots->∀v,F[(e.2.1+1).toNat]? =some v->∀x∈ea,x.2.1<Yn b e.1->x.1+1<=v
variable {b:Flw}
theorem FrI.start:FrI b ea eb slots (λ_=>false) (List.replicate (slots+1).toNat 0):=by
 refine⟨TQ,λv hv=>?_,λi v hv=>?_,λe _ h=>by cases h⟩
 ·rw[List.eq_of_mem_replicate hv];decide
 ·rw[List.getElem?_replicate]at hv
  split at hv
  ·exact .inl (Tn hv).symm
  ·cases hv
variable {seen seen':Nat->Bool}{F:List Int}
theorem FrI.skip(h:FrI b ea eb slots seen F)(hd:(eb.map λe=>e.2.2).Nodup)(he:e∈eb)(hs:slots<=e.2.1+1)(h':∀n,seen' n=true->n=e.2.2\/seen n=true):FrI b ea eb slots seen' F:=by
 refine⟨h.len,h.nn,h.up,λy hy hsn=>?_⟩
 rcases h' _ hsn with e1|e1
 ·obtain rfl:=UC hd hy he e1
  intro h1;omega
 ·exact h.lo y hy e1
theorem FrI.set(h:FrI b ea eb slots seen F)(hd:(eb.map λe=>e.2.2).Nodup)(he:e∈eb)(h0:0<=e.2.1){r:Int}{j:Nat}(hj:e.2.1+1=j)(hr:CarR ea (Yn b e.1) r)(hv:F[j]? =some v)(h':∀n,seen' n=true->n=e.2.2\/seen n=true):FrI b ea eb slots seen' (F.set j (max v (r+1))):=by
 have hjl:=(Tc.1 hv).1
 have hvn:=h.nn v (Td hv)
 have hget:∀(i:Nat) u,(F.set j (max v (r+1)))[i]? =some u->(i=j/\u=max v (r+1))\/(i≠j/\F[i]? =some u):=λi u hu=>by
  by_cases e1:i=j
  ·subst e1
   rw[Si hjl]at hu
   exact .inl ⟨rfl,(Tn hu).symm⟩
  ·rw[Ni (S5 e1)]at hu
   exact .inr ⟨e1,hu⟩
 refine⟨by rw[TT];exact h.len,λu hu=>?_,λi u hu=>?_,λy hy hsn hl u hu x hx hxl=>?_⟩
 ·rcases S8 hu with h1|rfl
  ·exact h.nn u h1
  ·have:=hr.nn;omega
 ·rcases hget i u hu with⟨rfl,rfl⟩|⟨h1,h2⟩
  ·by_cases hc:v<=r+1
   ·rw[show max v (r+1)=r+1 by omega]
    rcases hr.up with h3|⟨x,hx,h3,h4⟩
    ·exact .inl (by omega)
    ·exact .inr ⟨e,he,hj,x,hx,by omega,h4⟩
   ·rw[show max v (r+1)=v by omega]
    exact h.up _ v hv
  ·exact h.up i u h2
 ·rcases hget _ u hu with⟨h1,rfl⟩|⟨h1,h2⟩
  ·rcases h' _ hsn with e1|e1
   ·obtain rfl:=UC hd hy he e1
    have:=hr.lo x hx hxl
    omega
   ·have:=h.lo y hy e1 hl v (by rw[h1];exact hv) x hx hxl
    omega
  ·rcases h' _ hsn with e1|e1
   ·obtain rfl:=UC hd hy he e1
    exact absurd (show(y.2.1+1).toNat=j by omega) h1
   ·exact h.lo y hy e1 hl u h2 x hx hxl
structure UseI(F:List Int)(t:Nat)(u:Int):Prop where
 nn:0<=u/\u<=1000001
 up:u=0\/∃i:Nat,i<t/\F[i]? =some u
 lo:∀(i:Nat) v,i<t->F[i]? =some v->v<=u
theorem UseI.next(h:UseI F t u)(hv:F[t]? =some v)(hn:0<=v/\v<=1000001):UseI F (t+1) (max u v):=by
 refine⟨by have:=h.nn;omega,?_,λi y hi hy=>?_⟩
 ·by_cases hc:u<=v
  ·rw[show max u v=v by omega];exact .inr ⟨t,by omega,hv⟩
  ·rw[show max u v=u by omega]
   rcases h.up with h1|⟨i,h1,h2⟩
   ·exact .inl h1
   ·exact .inr ⟨i,by omega,h2⟩
 ·by_cases e:i=t
  ·subst e
   rw[hv]at hy
   have:=Tn hy
   omega
  ·have:=h.lo i y (by omega) hy;omega
theorem Ysq{a:Flw}{ca cb:Nat}(hA:ArrI d a.1 ea ca)(hB:ArrI d b.1 eb cb)(h:FrI b ea eb slots seen F)(hall:∀e∈eb,seen e.2.2=true)
 (h0:∀e∈eb,0<=e.2.1) (ht:(t:Int)<slots) (hu:UseI F (t+1) u):AgeR a b d t u:=by
 refine⟨hu.nn.1,?_,λm s n s' hm hs hn hl=>?_⟩
 ·rcases hu.up with h1|⟨i,h1,h2⟩
  ·exact .inl h1
  ·rcases h.up i u h2 with h3|⟨e,he,h3,x,hx,h4,h5⟩
   ·exact .inl h3
   ·exact .inr ⟨e.1,e.2.1,x.2.1,hB.mem he,by omega,by rw[<-h4];exact hA.mem hx,h5⟩
 ·obtain⟨e,he,rfl,rfl⟩:=hB.at_ hm
  obtain⟨x,hx,rfl,rfl⟩:=hA.at_ hn
  have h1:=h0 e he
  have hlen:=h.len
  obtain⟨v,hv⟩:∃v,F[(e.2.1+1).toNat]? =some v:=⟨_,Ta (by omega)⟩
  have h2:=h.lo e he (hall e he) (by omega) v hv x hx hl
  have h3:=hu.lo _ v (by omega) hv
  omega
abbrev zerG(g:Nat):HP:=blk g (.cells (Value.agg #[.int .i64 0,.slice none 0 0,.int .i64 0,.int .i64 0,.slice none 0 0,.slice none 0 0,.slice none 0 0,.int .i64 0,.int .i64 0,.slice none 0 0,.slice none 0 0,.slice none 0 0,.slice none 0 0,.slice none 0 0]).cells 54 (0,0))
theorem Yi9{α:Type}(L:List α)(k:Nat)(x:α)(h:k<=L.length):(XL L k x).length=L.length+1:=by
 unfold XL;rw[Tt,TZ,TK,Rk];omega
theorem Ot(g:GwM)(l:Lop){S:Spl->Prop}{G:Nat->Pln->Prop}(hG:ExtG S G l)(h0:chkG g.gw=0->G 0 g.p.pln)(hS:hasL g.l l.1=false->∀(k:Nat) s,(Zj l)[k]? =some s->(∀(j:Nat) t,j<k->(Zj l)[j]? =some t->Wg g.p.pln l t=none)->S s){B:Nat}{w0:World}{H:List HP}{w:World}(ht:TabsB B w0)(hg:g.In B w0 H)(hw:St B w0 H w):
 CX B w0 52 [g.val,lopV l] w (YbP B w0 H (admG g.gw l)):=by
 refine Ya Tryz.func52 Tryz.ntmps52 rfl rfl hw ?_
 have hop:∀w,St B w0 [many H] w->St B w0 H w:=λw hw=>hw.perm (.openT H)
 have hgM:∀{H':List HP},many H∈H'->g.In B w0 H':=λhm=>hg.mono λw hw=>hw.inM hm
 have p1:=λ{H':List HP}{w:World}(hg:g.In B w0 H') (hw:St B w0 H' w)=>Ji g ht hg hw
 unfold GwM.val at p1
 unfold GwM.val lopV
 refine Y8 [many H] (λw hw=>hw.perm (.closeT H)) ?_
 have hgo:=λh:chkG g.gw=0=>UQ.1 h
 unfold admG
 obtain⟨e,he⟩:∃e,chkG g.gw=e:=⟨_,rfl⟩
 rw[he]at p1 h0 hgo⊢
 by_cases he0:e=0
 rotate_left
 ·rw[Tm he0]
  repeat'(first|((first|apply Yb en23|apply Yc en23);exact za;exact rfl;exactλ_ hw=>(p1 (hgM zm) hw))|refine zgd ?_|(refine zge ?_ ?_<;>intro _<;>try exact zo)|(refine zgh ?_;intro _)|fail)
  apply Yv T (H2:=H);(iterate 3 exact rfl);exact zm;exact rfl;exact rfl
  ·intro w hw
   have h5:St B w0 [many H] w:=by
    revert w
    exact zk
   exact hop w h5
  exact .inl ⟨rfl,rfl,rfl⟩
 rw[Tf (λe=>e he0)]
 subst he0
 have hok:=hgo rfl
 have h0:=h0 rfl
 clear he hgo
 obtain⟨hn,h8,hfit,hpw⟩:=Vi.1 hok.l
 have hl8:g.l.length<=8:=h8
 have hs8:g.s.length=g.l.length:=hok.len
 have hkp:posL g.l l.1<=g.l.length:=Ysb g.l l.1
 rw[show g.gw.l=g.l from rfl,show g.gw.s=g.s from rfl,show g.gw.p=g.p.pln from rfl,show g.p.pln.n.nodes=g.p.n.nodes from rfl]
 have p2:=λ{H':List HP}{w:World}(hg:g.In B w0 H') (hw:St B w0 H' w)=>OQ g.l l.1 hpw (by omega) (cap:=g.lcap) hg.l hw
 obtain⟨hb,hhb⟩:∃b,hasL g.l l.1=b:=⟨_,rfl⟩
 obtain⟨k,hk⟩:∃k,posL g.l l.1=k:=⟨_,rfl⟩
 rw[hhb,hk]at p2
 rw[hhb,hk]
 rw[hk]at hkp
 cases hb with
 |true=>
  rw[Tm rfl]
  repeat'(first|(apply Yf T;exact rfl;exact zm;exact rfl;exact zv;exact rfl;exact rfl)|((first|apply Yb en23|apply Yc en23);exact za;exact rfl;exactλ_ hw=>(p1 (hgM zm) hw))|((first|apply Yb en74|apply Yc en74);exact za;exact rfl;exactλ_ hw=>(p2 (hgM zm) hw))|refine zgd ?_|(refine zge ?_ ?_<;>intro _<;>try exact zo)|(refine zgh ?_;intro _)|fail)
  apply Yv T (H2:=H);(iterate 3 exact rfl);exact zm;exact rfl;exact rfl
  ·intro w hw
   have h5:St B w0 [many H] w:=by
    revert w
    exact zk
   exact hop w h5
  exact .inl ⟨rfl,rfl,rfl⟩
 |false=>
 rw[Tf (by decide)]
 have p3:=λ{H':List HP}{w:World}(hg:g.In B w0 H') (hw:St B w0 H' w)=>Yi7 g.l k l hkp (by omega) hg.lc hg.l hw
 obtain⟨W,hW⟩:∃W,XL g.l k l=W:=⟨_,rfl⟩
 have hWl:W.length=g.l.length+1:=by rw[<-hW];exact Yi9 _ _ _ hkp
 rw[hW]at p3⊢
 unfold lopV at p3
 have p4:=λ{A:Option Addr}{cap:Nat}{H':List HP}{w:World}(hr:Rd B w0 H' A (W.flatMap lopF)) (hw:St B w0 H' w)=>WN g.p.n.nodes W (by omega) (cap:=cap) hr hw
 have hlo:=@Vi g.p.n.nodes W
 obtain⟨⟨li,le⟩,hL⟩:∃R,ZZ g.p.n.nodes W=R:=⟨_,rfl⟩
 rw[hL]at p4 hlo⊢
 dsimp only at p4 hlo⊢
 by_cases hle:le=0
 rotate_left
 ·rw[Tm hle]
  repeat'(first|(apply Yf T;exact rfl;exact zm;exact rfl;exact zv;exact rfl;exact rfl)|((first|apply Yb en23|apply Yc en23);exact za;exact rfl;exactλ_ hw=>(p1 (hgM zm) hw))|((first|apply Yb en74|apply Yc en74);exact za;exact rfl;exactλ_ hw=>(p2 (hgM zm) hw))|refine zgc ?_|(refine zge ?_ ?_<;>intro _<;>try exact zo)|(refine zgh ?_;intro _)|fail)
  apply Yg _ YsA
  exact za
  exact rfl
  exactλ_ hw=>(p3 (hgM zm) (hw))
  rintro _ _ ⟨A1,c1,rfl,hc1,rfl⟩
  repeat'(first|(apply Yf T;exact rfl;exact zm;exact rfl;exact zv;exact rfl;exact rfl)|((first|apply Yb en57|apply Yc en57);exact za;exact rfl;exactλ_ hw=>(p4 (Rd.sl zm) hw))|refine zgd ?_|(refine zge ?_ ?_<;>intro _<;>try exact zo)|fail)
  apply Yv T (H2:=H);(iterate 3 exact rfl);exact zm;exact rfl;exact rfl
  ·intro w hw
   have h5:St B w0 [many H] w:=by
    revert w
    exact zk
   exact hop w h5
  exact .inl ⟨rfl,rfl,rfl⟩
 rw[Tf (λe=>e hle)]
 subst hle
 have h32:lopE 32 l=0:=YwU ((hlo.1 rfl).2.2.1 l (by rw[<-hW];unfold XL;simp)) hn.2
 have p5:=λ{H':List HP}{w:World}(hw:St B w0 H' w)=>Ygi l hw
 have hse:YiT l=Zj l:=by unfold YiT;rw[Tf (λe=>e h32)]
 rw[hse,h32]at p5
 unfold lopV at p5
 have hfits:∀s∈Zj l,Xm l s=0:=λs hs=>YkK h32 hs
 have hspl:(Zj l).length<=1000:=by
  have h1:=(Jn h32).2.1
  unfold Zj sumS
  rw[Tv,List.length_range]
  omega
 obtain⟨L,hLs⟩:∃L,Zj l=L:=⟨_,rfl⟩
 have hS:=hS hhb
 rw[hLs]at hS
 rw[hLs]at p5 hfits hspl⊢
 repeat'(first|(apply Yf T;exact rfl;exact zm;exact rfl;exact zv;exact rfl;exact rfl)|((first|apply Yb en23|apply Yc en23);exact za;exact rfl;exactλ_ hw=>(p1 (hgM zm) hw))|((first|apply Yb en74|apply Yc en74);exact za;exact rfl;exactλ_ hw=>(p2 (hgM zm) hw))|refine zgc ?_|(refine zge ?_ ?_<;>intro _<;>try exact zo)|(refine zgh ?_;intro _)|fail)
 rename_i gg gl gz _
 apply Yg _ YsA
 exact za
 exact rfl
 exactλ_ hw=>(p3 (hgM zm) (hw))
 rintro _ _ ⟨A1,c1,rfl,hc1,rfl⟩
 repeat'(first|(apply Yf T;exact rfl;exact zm;exact rfl;exact zv;exact rfl;exact rfl)|((first|apply Yb en57|apply Yc en57);exact za;exact rfl;exactλ_ hw=>(p4 (Rd.sl zm) hw))|refine zgc ?_|(refine zge ?_ ?_<;>intro _<;>try exact zo)|fail)
 apply Yg _ YvL
 exact za
 exact rfl
 exactλ_ hw=>(p5 (hw))
 rintro _ _ ⟨A2,c2,rfl,rfl⟩
 by_cases hL0:L=[]
 ·rw[Tm hL0]
  have hLz:L.length=0:=by rw[hL0];rfl
  repeat'(first|refine zgd ?_|(refine zgf ?_ ?_<;>intro _<;>try exact zo)|fail)
  apply Yv T (H2:=H);(iterate 3 exact rfl);exact zm;exact rfl;exact rfl
  ·intro w hw
   have h5:St B w0 [many H] w:=by
    revert w
    exact zk
   exact hop w h5
  exact .inl ⟨rfl,rfl,rfl⟩
 rw[Tf hL0]
 have hLp:0<L.length:=NI.2 hL0
 have p6:=λ(k':Nat) (s:Spl) {H':List HP}{w:World}(hg:g.In B w0 H') (hw:St B w0 H' w)=>Yi8 g.s k s (by omega) (by omega) hg.sc hg.s hw
 unfold splV at p6
 repeat'(first|(apply zg29;(apply Ys;exact za;exact rfl))|refine zgc ?_|(refine zgf ?_ ?_<;>intro _<;>try exact zo)|(refine zgh ?_;intro _)|fail)
 rename Nat=>gp
 apply Zn (zerB gp::lopA gl l::gwyA gg g::spls A2 c2 L::lops A1 c1 W::zerG gz::[many H])
 ·intro w hw
  have h5:St B w0 (zerA gp::lopA gl l::gwyA gg g::spls A2 c2 L::lops A1 c1 W::zerG gz::[many H]) w:=by
   revert w
   exact zk
  exact h5
 apply XQ [zerB gp,lopA gl l,gwyA gg g] _ YvO
 exact za
 try exact zl
 exact zp
 exact rfl
 exactλ_ hw=>(Yh7 g l L gl gg gp hG h0 hS hfits (by omega) ht (hgM zm).p (Rd.sl zm) hw)
 rintro _ _ hO
 rcases hO with⟨hb,rfl,rfl⟩|⟨j,s,q,X,hjs,hb,rfl,hq,rfl⟩
 ·rw[hb]
  repeat'(first|refine zgd ?_|(refine zge ?_ ?_<;>intro _<;>try exact zo)|fail)
  apply Yv T (H2:=H);(iterate 3 exact rfl);exact zm;exact rfl;exact rfl
  ·intro w hw
   have h5:St B w0 [many H] w:=by
    revert w
    exact zk
   exact hop w h5
  exact .inl ⟨rfl,rfl,rfl⟩
 ·rw[hb]
  have p7:=λ{H':List HP}{w:World}(hg:g.In B w0 H') (hw:St B w0 H' w)=>p6 j s hg hw
  clear p6
  have hjl:=(Tc.1 hjs).1
  have hWS:(XL g.s k s).length=g.s.length+1:=Yi9 _ _ _ (by omega)
  obtain⟨WS,hW0⟩:∃WS,XL g.s k s=WS:=⟨_,rfl⟩
  rw[hW0]at hWS p7
  repeat'(first|(apply Yf T;exact rfl;exact zm;exact rfl;exact zv;exact rfl;exact rfl)|refine zga ?_|(refine zge ?_ ?_<;>intro _<;>try exact zo)|fail)
  apply Yz [0,1,2,3,4,5,6,7,8,9,10,11,12] [] [true,true,true,true,true,true,false,true]
  kernel_rfl
  kernel_rfl
  exact zy
  (simp only[Ye,nthO];rfl)
  exact rfl
  repeat'(first|(apply Yf T;exact rfl;exact zm;exact rfl;exact zv;exact rfl;exact rfl)|refine zgd ?_|fail)
  apply Yg _ YvP
  exact za
  exact rfl
  exactλ_ hw=>(p7 (hgM zm) (hw))
  rintro _ _ ⟨A3,c3,rfl,hc3,rfl⟩
  repeat'(first|(apply Yf T;exact rfl;exact zm;exact rfl;exact zv;exact rfl;exact rfl)|(apply Yj;try exact zl)|refine zgd ?_|fail)
  apply Yv T (H2:=many [many X,lops A1 c1 W,spls A3 c3 WS]::H);(iterate 3 exact rfl);exact zm;exact rfl;exact rfl
  ·intro w hw
   have h5:St B w0 (many X::lops A1 c1 W::spls A3 c3 WS::[many H]) w:=by
    revert w
    exact zk
   exact(h5.perm (.cons _ (.cons _ (.cons _ (.openT H))))).perm (.close [_,_,_] H)
  have hin:GwM.In B w0 [many X,lops A1 c1 W,spls A3 c3 WS] ⟨q,A1,c1,W,A3,c3,WS⟩:=⟨hq.inX (.head _),Rd.sl (.tail _ (.head _)),Rd.sl (.tail _ (.tail _ (.head _))),by show W.length<=_;omega,by show WS.length<=_;omega,hc1,hc3⟩
  exact .inr ⟨⟨q,A1,c1,W,A3,c3,WS⟩,_,by rw[<-hW0];rfl,rfl,hin.mono λw hw=>hw.perm (.open_ [_,_,_] []),rfl⟩
variable {B c:Nat}{w0 w:World}{H:List HP}
theorem V9(f:Flw)(k:Int)(hf:YX 32 f=0)(hk:0<=k/\k<=1000000)(hw:St B w0 H w):
 CX B w0 159 [flwV f,.int .i64 k] w λv K=>v=.int .i64 (Yn f k)/\K=H:=by
 refine Ya Tryz.func159 Tryz.ntmps159 rfl rfl hw ?_
 have p1:=λ{H':List HP}{w:World}(hw:St B w0 H' w)=>Yi6 f k hf hk hw
 unfold flwV at p1⊢
 repeat'(first|((first|apply Yb Ys1|apply Yc Ys1);exact za;exact rfl;exactλ_ hw=>(p1 hw))|refine zgc ?_|(refine zgh ?_;intro _)|fail)
 apply Yh H
 ·exact zk
 apply Yd;exact rfl;exact rfl;exact⟨rfl,rfl⟩
def DelOk(f:Flw)(d:List (Int×Int×Int)):Prop:=∀x∈d,x.1=f.1->(0<=x.2.1/\x.2.1<=1000000)/\(0<=Yn f x.2.1/\Yn f x.2.1<=x.2.2)/\x.2.2<=1000000
theorem Qj(f:Flw)(d:List (Int×Int×Int))(hf:YX 32 f=0)(hd:DelOk f d)(hlen:d.length<=1000000){A:Option Addr}{cap:Nat}(hr:Rd B w0 H A (d.flatMap delF))(hw:St B w0 H w):
 CX B w0 157 [flwV f,.slice A d.length cap] w λv K=>∃g es c,v=.map (some g)/\ArrI d f.1 es c/\K=blk g (mobj (iE es) c)::H:=by
 refine Ya Tryz.func157 Tryz.ntmps157 rfl rfl hw ?_
 unfold flwV
 repeat'(first|(apply UM;exact rfl;intro _)|refine zgb ?_|(refine zgh ?_;intro _)|fail)
 rename_i gf gm
 refine Yi (λz:Nat×List (Int×Int×Nat)×Nat=>[(13,.int .i64 (z.1:Nat)),(12,.int .i64 d.length),(11,.slice A d.length cap),(5,.map (some gm)),(2,.pointer (some ⟨gf,0,none⟩))])
  (λz=>blk gm (mobj (iE z.2.1) z.2.2)::blk gf (.cells #[.int .i64 f.1,.int .i64 f.2.1,.int .i64 f.2.2.1,.int .i64 f.2.2.2.1,.int .i64 f.2.2.2.2.1,.int .i64 f.2.2.2.2.2] 66 (0,0))::H)
  (λz=>z.1<=d.length/\ArrI (d.take z.1) f.1 z.2.1 z.2.2) (λz=>d.length-z.1) (0,[],0) ⟨Ti _,ArrI.nil _⟩ ?_ ?_ ?_
 ·exact zu
 ·exactλw hw=>hw
 rintro⟨i,es,c⟩ ⟨hi,hI⟩ K hK
 dsimp only at hi hI⊢
 by_cases hlt:i<d.length
 rotate_left
 ·obtain rfl:i=d.length:=by omega
  rw[TL]at hI
  clear hK
  repeat'(first|refine zgc ?_|(refine zge ?_ ?_<;>intro _<;>try exact zo)|fail)
  apply Yh (blk gm (mobj (iE es) c)::H)
  ·exact zk
  apply Yd;exact rfl;exact rfl;exact⟨gm,es,c,rfl,hI,rfl⟩
 obtain⟨x,hx⟩:∃x,d[i]? =some x:=⟨_,Ta hlt⟩
 have htk:d.take (i+1)=d.take i++[x]:=by rw[TF,hx];rfl
 by_cases h1:x.1=f.1
 rotate_left
 ·repeat'(first|(apply zg28;refine zs84 ?_)|refine zgd ?_|(refine zge ?_ ?_<;>intro _<;>try exact zo)|(refine zgh ?_;intro _)|fail)
  apply hK (i+1,es,c)
  ·exact⟨by omega,by rw[htk];exact hI.skip λe=>absurd e h1⟩
  ·dsimp only;omega
  ·exact zu
  ·exact zk
 obtain⟨h2,h3,h4⟩:=hd x (Td hx) h1
 have p1:=λ{H':List HP}{w:World}(hw:St B w0 H' w)=>V9 f x.2.1 hf h2 hw
 have hmg:=Ygk es x.2.1
 rw[hI.get]at hmg
 unfold flwV at p1
 obtain⟨o,ho⟩:∃o,Yn f x.2.1=o:=⟨_,rfl⟩
 rw[ho]at p1 h3
 cases hg:delT (d.take i) f.1 x.2.1 with
 |some s=>
  rw[hg,RP]at hmg
  repeat'(first|((first|apply Yb YaL|apply Yc YaL);exact za;exact rfl;exactλ_ hw=>(p1 hw))|(apply Zv (kt:=3) (et:=3);exact rfl;exact rfl;exact zm;kernel_rfl;exact rfl;exact hmg)|(apply zg28;refine zs84 ?_)|refine zgd ?_|(refine zge ?_ ?_<;>intro _<;>try exact zo)|(refine zgh ?_;intro _)|fail)
  apply hK (i+1,es,c)
  ·exact⟨by omega,by rw[htk];exact hI.skip λ_=>⟨s,hg⟩⟩
  ·dsimp only;omega
  ·exact zu
  ·exact zk
 |none=>
  rw[hg,Option.map_none]at hmg
  have hie:iE (es++[(x.2.1,x.2.2,c)])=iE es++[(x.2.1,Value.int .i64 x.2.2,c)]:=by unfold iE;rw[TP];rfl
  repeat'(first|((first|apply Yb YaL|apply Yc YaL);exact za;exact rfl;exactλ_ hw=>(p1 hw))|(apply Jd (kt:=3) (et:=3);exact rfl;exact rfl;exact zm;kernel_rfl;exact rfl;exact hmg;exact Ws)|(apply Q3 (kt:=3) (et:=3);(iterate 3 exact rfl);kernel_rfl;exact zd;exact hmg)|(apply zg28;refine zs84 ?_)|refine zgd ?_|(refine zge ?_ ?_<;>intro _<;>try exact zo)|(refine zgh ?_;intro _)|fail)
  apply hK (i+1,es++[(x.2.1,x.2.2,c)],c+1)
  ·exact⟨by omega,by rw[htk];exact hI.put h1 hg⟩
  ·dsimp only;omega
  ·exact zu
  ·dsimp only
   rw[hie]
   exact zk
variable {es:List (Int×Int×Nat)}
theorem Ypr(h:MOk (iE es) c):(es.map λe=>e.2.2).Nodup:=by
 have:=h.nd
 unfold iE at this
 rwa [SU]at this
theorem Yf1(es:List (Int×Int×Nat))(c g:Nat)(t:Int)(hok:MOk (iE es) c)(hb:∀e∈es,(0<=e.1/\e.1<=1000000)/\0<=e.2.1/\e.2.1<=1000000)(hm:blk g (mobj (iE es) c)∈H)(hw:St B w0 H w):
 CX B w0 158 [.map (some g),.int .i64 t] w λv K=>∃r,v=.int .i64 r/\CarR es t r/\K=H:=by
 refine Ya Tryz.func158 Tryz.ntmps158 rfl rfl hw ?_
 repeat'(first|(apply YbV (kt:=3) (et:=3) (g:=g);exact rfl;exact hm;kernel_rfl;exact rfl;intro _)|refine zgb ?_|fail)
 rename Nat=>it
 refine Yi (λz:Array Nat×Int=>[(9,.pointer (some ⟨it,0,none⟩)),(5,.int .i64 z.2),(1,.int .i64 t)]) (λz=>blk it (.mapIter (some g) c z.1 c)::H)
  (λz=>(-1<=z.2/\z.2<=1000000)/\(z.2= -1\/∃e∈es,e.1=z.2/\e.2.1<t)/\∀e∈es,z.1.contains e.2.2=true->e.2.1<t->e.1<=z.2) (λz=>((iE es).filter λx=>!z.1.contains x.2.2).length) (#[],-1) ⟨by decide,.inl rfl,λe _ h=>by simp at h⟩ ?_ (λw hw=>hw) ?_
 ·exact zu
 rintro⟨seen,r⟩ ⟨h1,h2,h3⟩ K hK
 dsimp only at h1 h2 h3⊢
 repeat'(first|apply Y7|apply Wu|apply YM|fail)
 apply YfN (g:=g)
 ·exact rfl
 ·exact TE _ hm
 ·exact rfl
 ·intro _;exact zd
 ·exact hok.lt
 ·exact TM _
 ·intro hall
  clear hK
  repeat'(first|refine zgc ?_|fail)
  apply Yh H
  ·exactλw hw=>hw.tail
  apply Yd;exact rfl;exact rfl
  exact⟨r,rfl,⟨h1,h2,λe he=>h3 e he (hall (e.1,.int .i64 e.2.1,e.2.2) (RA he))⟩,rfl⟩
 ·intro e0 he0 hs
  obtain⟨e,he,rfl⟩:=TD.1 he0
  dsimp only at hs⊢
  have hbe:=hb e he
  have hls:=Yau (seen:=seen) he0 hs
  have hnx:∀y∈es,(seen.push e.2.2).contains y.2.2=true->y=e\/seen.contains y.2.2=true:=λy hy h=>by
   rw[NK]at h
   rcases RJ _ _▸h with h|h
   ·exact .inr h
   ·exact .inl (UC (Ypr hok) hy he (by simpa using h))
  have hme:blk g (mobj (iE es) c)∈blk it (.mapIter (some g) c (seen.push e.2.2) c)::H:=TE _ hm
  by_cases ht:e.2.1<t
  ·skip
   repeat'(first|(apply Wx (g:=g) (e:=(e.1,.int .i64 e.2.1,e.2.2));exact rfl;exact hme;exact zm;exact rfl;exact he0;exact hok.nd)|(apply Qb;(iterate 3 exact rfl))|refine zgc ?_|(refine zge ?_ ?_<;>intro _<;>try exact zo)|fail)
   apply hK (seen.push e.2.2,max r e.1)
   ·refine⟨by dsimp only;omega,?_,λy hy hc hyt=>?_⟩
    ·dsimp only
     by_cases hc:r<=e.1
     ·rw[show max r e.1=e.1 by omega];exact .inr ⟨e,he,rfl,ht⟩
     ·rw[show max r e.1=r by omega];exact h2
    ·dsimp only at hc⊢
     rcases hnx y hy hc with rfl|h
     ·omega
     ·have:=h3 y hy h hyt;omega
   ·exact hls
   ·exact zu
   ·exactλw hw=>hw
  ·skip
   repeat'(first|(apply Wx (g:=g) (e:=(e.1,.int .i64 e.2.1,e.2.2));exact rfl;exact hme;exact zm;exact rfl;exact he0;exact hok.nd)|refine zgc ?_|(refine zge ?_ ?_<;>intro _<;>try exact zo)|fail)
   apply hK (seen.push e.2.2,r)
   ·refine⟨h1,h2,λy hy hc hyt=>?_⟩
    dsimp only at hc⊢
    rcases hnx y hy hc with rfl|h
    ·exact absurd hyt ht
    ·exact h3 y hy h hyt
   ·exact hls
   ·exact zu
   ·exactλw hw=>hw
abbrev flwX(g:Nat)(f:Flw):HP:=blk g (.cells #[.int .i64 f.1,.int .i64 f.2.1,.int .i64 f.2.2.1,.int .i64 f.2.2.2.1,.int .i64 f.2.2.2.2.1,.int .i64 f.2.2.2.2.2] 66 (0,0))
abbrev frsX(g n:Nat)(F:List Int):HP:=sl 3 1 (some ⟨g,0,none⟩) n n (F.flatMap numF)
theorem DelOk.ents{f:Flw}{d:List (Int×Int×Int)}(h:DelOk f d)(hI:ArrI d f.1 es c){e:Int×Int×Nat}(he:e∈es):(0<=e.1/\e.1<=1000000)/\(0<=Yn f e.1/\Yn f e.1<=e.2.1)/\e.2.1<=1000000:=h _ (Ycl (hI.mem he)) rfl
def Yn5(l:Lop)(s:Spl)(d:List (Int×Int×Int))(slots:Int)(out:List Int):Prop:=
 out.length=slots.toNat/\∀(i:Nat) v,out[i]? =some v->∃u,AgeR (Y6 l s) (Xk l s) d i u/\v=if u=0 then -1 else(i:Int)-Yn (Y6 l s) (u-1)
structure OuM where
 t:Nat
 u:Int
 A:Option Addr
 cap:Nat
 out:List Int
theorem Ymx(l:Lop)(s:Spl)(hr:Xm l s=0)(hfa:YX 32 (Y6 l s)=0)(hfb:YX 32 (Xk l s)=0)(d:List (Int×Int×Int))(hda:DelOk (Y6 l s) d)(hdb:DelOk (Xk l s) d)(hlen:d.length<=1000)(slots:Int)(hsl:0<=slots/\slots<=1000){dA:Option Addr}{dc:Nat}(hd:Rd B w0 H dA (d.flatMap delF))(hw:St B w0 H w):
 CX B w0 77 [lopV l,splV s,.slice dA d.length dc,.int .i64 slots] w λv K=>∃A cap out,v=.slice A (List.length out) cap/\Yn5 l s d slots out/\K=nrs A cap out::H:=by
 refine Ya Tryz.func77 Tryz.ntmps77 rfl rfl hw ?_
 have hop:∀w,St B w0 [many H] w->St B w0 H w:=λw hw=>hw.perm (.openT H)
 have hdM:∀{H':List HP},many H∈H'->Rd B w0 H' dA (d.flatMap delF):=λhm=>hd.mono λw hw=>hw.inM hm
 unfold Yn5
 have p1:=λ{H':List HP}{w:World}(hw:St B w0 H' w)=>Ya4 l s hr hw
 obtain⟨a,ha⟩:∃a,Y6 l s=a:=⟨_,rfl⟩
 obtain⟨b,hb⟩:∃b,Xk l s=b:=⟨_,rfl⟩
 rw[ha]at hfa hda p1⊢
 rw[hb]at hfb hdb p1⊢
 have p2:=λ{H':List HP}{w:World}(hd:Rd B w0 H' dA (d.flatMap delF)) (hw:St B w0 H' w)=>Qj a d hfa hda (by omega) (cap:=dc) hd hw
 have p3:=λ{H':List HP}{w:World}(hd:Rd B w0 H' dA (d.flatMap delF)) (hw:St B w0 H' w)=>Qj b d hfb hdb (by omega) (cap:=dc) hd hw
 unfold lopV splV at p1⊢
 unfold flwV at p1 p2 p3
 refine Y8 [many H] (λw hw=>hw.perm (.closeT H)) ?_
 obtain⟨n,hn⟩:∃n:Nat,slots+1=n:=⟨(slots+1).toNat,by omega⟩
 repeat'(first|((first|apply Yb Ylj|apply Yc Ylj);exact za;exact rfl;exactλ_ hw=>(p1 hw))|refine zgc ?_|(refine zgh ?_;intro _)|fail)
 rename_i ga gb
 apply Yg _ YsJ
 exact za
 exact rfl
 exactλ_ hw=>(p2 (hdM zm) (hw))
 rintro _ _ ⟨gA,ea,ca,rfl,hA,rfl⟩
 repeat'(first|(apply YbT T;(iterate 3 exact rfl);exact zi3;(iterate 3 exact rfl);omega;intro _)|refine zgc ?_|fail)
 rename_i gF
 apply Yg _ YsJ
 exact za
 exact rfl
 exactλ_ hw=>(p3 (hdM zm) (hw))
 rintro _ _ ⟨gB,eb,cb,rfl,hB,rfl⟩
 rw[hn,Rq,Yjk]
 repeat'(first|(apply YbV (kt:=3) (et:=3) (g:=gB);exact rfl;exact zm;kernel_rfl;exact rfl;intro _)|refine zgb ?_|fail)
 rename Nat=>it
 refine Yi (λz:Array Nat×List Int=>[(33,.pointer (some ⟨it,0,none⟩)),(12,.slice (some ⟨gF,0,none⟩) n n),(11,.map (some gA)),(10,.pointer (some ⟨gb,0,none⟩)),(9,.pointer (some ⟨ga,0,none⟩)),(3,.int .i64 slots)])
  (λz=>blk it (.mapIter (some gB) cb z.1 cb)::frsX gF n z.2::blk gB (mobj (iE eb) cb)::blk gA (mobj (iE ea) ca)::flwX gb b::flwX ga a::[many H])
  (λz=>FrI b ea eb slots (λk=>z.1.contains k) z.2) (λz=>((iE eb).filter λx=>!z.1.contains x.2.2).length) (#[],List.replicate n 0) (by have h:=FrI.start (b:=b) (ea:=ea) (eb:=eb) (slots:=slots);rw[hn,Rq]at h;exact⟨h.len,h.nn,h.up,λe _ h=>by simp at h⟩) ?_ ?_ ?_
 ·exact zu
 ·exact zk
 rintro⟨seen,F⟩ hF K hK
 dsimp only at hF⊢
 have hFl:F.length=n:=by have:=hF.len;omega
 repeat'(first|apply Y7|apply Wu|apply YM|fail)
 apply YfN (g:=gB)
 ·exact rfl
 ·exact zm
 ·exact rfl
 ·intro _;exact zd
 ·exact hB.ok.lt
 ·exact TM _
 ·intro hall
  clear hK
  have hall:∀e∈eb,(λk=>seen.contains k) e.2.2=true:=λe he=>hall (e.1,.int .i64 e.2.1,e.2.2) (RA he)
  repeat'(first|refine zgc ?_|fail)
  refine Xf 3 1 ?_
  refine Yi (λz:OuM=>[(60,.int .i64 (z.t:Nat)),(59,.int .i64 slots),(16,.int .i64 z.u),(15,.slice z.A z.out.length z.cap),(12,.slice (some ⟨gF,0,none⟩) n n),(9,.pointer (some ⟨ga,0,none⟩))])
   (λz=>nrs z.A z.cap z.out::frsX gF n F::flwX ga a::[many H])
   (λz=>(z.t:Int)<=slots/\UseI F z.t z.u/\z.out.length=z.t/\∀(i:Nat) v,z.out[i]? =some v->∃u,AgeR a b d i u/\v=if u=0 then -1 else(i:Int)-Yn a (u-1)) (λz=>slots.toNat-z.t) ⟨0,0,none,0,[]⟩ ⟨hsl.1,⟨by decide,.inl rfl,λi v h=>absurd h (RD _)⟩,rfl,λi v h=>by cases h⟩ ?_ ?_ ?_
  ·exact zu
  ·intro w hw
   have h5:St B w0 (sl 3 1 none 0 0 []::frsX gF n F::flwX ga a::[many H]) w:=by
    revert w
    exact zk
   exact h5
  rintro⟨t,u,A,cap,out⟩ ⟨h1,h2,h3,h4⟩ K hK
  dsimp only at h1 h2 h3 h4⊢
  by_cases hlt:(t:Int)<slots
  rotate_left
  ·clear hK
   repeat'(first|refine zgc ?_|(refine zge ?_ ?_<;>intro _<;>try exact zo)|fail)
   apply Yh (nrs A cap out::H)
   ·intro w hw
    have h5:St B w0 (nrs A cap out::[many H]) w:=by
     revert w
     exact zk
    exact h5.perm (.cons _ (.openT H))
   apply Yd;exact rfl;exact rfl
   exact⟨A,cap,out,rfl,⟨by omega,h4⟩,rfl⟩
  obtain⟨v,hv⟩:∃v,F[t]? =some v:=⟨_,Ta (by omega)⟩
  have hvn:=hF.nn v (Td hv)
  have hu:=h2.next hv hvn
  have hag:=Ysq hA hB hF hall (λe he=>by have:=(hdb.ents hB he).2.1;omega) hlt hu
  have hun:=hu.nn
  obtain⟨u',hu'⟩:∃u',max u v=u':=⟨_,rfl⟩
  rw[hu']at hu hag hun
  have hnew:∀y,(y=if u'=0 then -1 else(t:Int)-Yn a (u'-1))->∀(i:Nat) v,(out++[y])[i]? =some v->∃u,AgeR a b d i u/\v=if u=0 then -1 else(i:Int)-Yn a (u-1):=λy hy i v hi=>by
   rcases RZ i out.length with c|c|c
   ·rw[S7 c]at hi
    exact h4 i v hi
   ·subst c
    rw[R7 (TM _),NG]at hi
    rw[h3]
    exact⟨u',hag,by rw[<-hy];exact(Tn hi).symm⟩
   ·rw[List.getElem?_eq_none (by rw[Tt];simp only[TO];omega)]at hi
    cases hi
  by_cases hu0:u'=0
  ·skip
   repeat'(first|(apply Qb;(iterate 3 exact rfl);rw[hu'])|refine zgd ?_|(refine zgf ?_ ?_<;>intro _<;>try exact zo)|(refine zgh ?_;intro _)|(refine zgi ?_;intro _ _)|fail)
   rename_i A' cap'
   have e5:sl 3 1 A' (out.length+1) cap' (out.flatMap numF++#[Value.int .i64 (-1)].toList)=nrs A' cap' (out++[(-1)]):=by simp[nrs,List.flatMap_append,numF]
   rw[e5]
   apply hK ⟨t+1,u',A',cap',out++[(-1)]⟩
   ·exact⟨by dsimp only;omega,hu,by dsimp only;rw[Tt,h3];rfl,hnew _ (by rw[Tm hu0])⟩
   ·dsimp only;omega
   ·dsimp only
    rw[show(out++[(-1:Int)]).length=out.length+1 by simp]
    exact zu
   ·exact zk
  ·have p4:=λ{H':List HP}{w:World}(hw:St B w0 H' w)=>V9 a (u'-1) hfa (by omega) hw
   obtain⟨o,ho⟩:∃o,Yn a (u'-1)=o:=⟨_,rfl⟩
   have hob:0<=o/\o<=600000000:=by
    have h6:=YcH hfa (k:=u'-1) (by omega)
    have h7:=Zz hfa
    rw[<-ho]
    unfold Yn phaF perF
    omega
   rw[ho]at p4
   unfold flwV at p4
   repeat'(first|(apply Qb;(iterate 3 exact rfl);rw[hu'])|((first|apply Yb YaL|apply Yc YaL);exact za;exact rfl;exactλ_ hw=>(p4 hw))|refine zgd ?_|(refine zgf ?_ ?_<;>intro _<;>try exact zo)|(refine zgh ?_;intro _)|(refine zgi ?_;intro _ _)|fail)
   rename_i A' cap'
   have e5:sl 3 1 A' (out.length+1) cap' (out.flatMap numF++#[Value.int .i64 ((t:Int)-o)].toList)=nrs A' cap' (out++[((t:Int)-o)]):=by simp[nrs,List.flatMap_append,numF]
   rw[e5]
   apply hK ⟨t+1,u',A',cap',out++[((t:Int)-o)]⟩
   ·exact⟨by dsimp only;omega,hu,by dsimp only;rw[Tt,h3];rfl,hnew _ (by rw[Tf hu0,ho])⟩
   ·dsimp only;omega
   ·dsimp only
    rw[show(out++[((t:Int)-o)]).length=out.length+1 by simp]
    exact zu
   ·exact zk
 ·intro e0 he0 hs
  obtain⟨e,he,rfl⟩:=TD.1 he0
  dsimp only at hs⊢
  have hbe:=hdb.ents hB he
  have hls:=Yau (seen:=seen) he0 hs
  have hnx:∀k,(seen.push e.2.2).contains k=true->k=e.2.2\/seen.contains k=true:=λk h=>by
   rw[NK]at h
   rcases RJ _ _▸h with h|h
   ·exact .inr h
   ·exact .inl (by simpa using h)
  by_cases ht:e.2.1+1<slots
  rotate_left
  ·skip
   repeat'(first|(apply Wx (g:=gB) (e:=(e.1,.int .i64 e.2.1,e.2.2));exact rfl;exact zm;exact zm;exact rfl;exact he0;exact hB.ok.nd)|refine zgc ?_|(refine zge ?_ ?_<;>intro _<;>try exact zo)|fail)
   apply hK (seen.push e.2.2,F)
   ·exact hF.skip (Ypr hB.ok) he (by omega) hnx
   ·exact hls
   ·exact zu
   ·exact zk
  obtain⟨v,hv⟩:∃v,F[(e.2.1+1).toNat]? =some v:=⟨_,Ta (by omega)⟩
  have hvn:=hF.nn v (Td hv)
  have p4:=λ{H':List HP}{w:World}(hw:St B w0 H' w)=>V9 b e.1 hfb hbe.1 hw
  have p5:=λ{H':List HP}{w:World}(hm:blk gA (mobj (iE ea) ca)∈H') (hw:St B w0 H' w)=>Yf1 ea ca gA (Yn b e.1) hA.ok (λe he=>by have:=hda.ents hA he;exact⟨this.1,by omega⟩) hm hw
  have hset:=λr hr=>hF.set (Ypr hB.ok) he (by omega) (r:=r) (j:=(e.2.1+1).toNat) (by omega) hr hv hnx
  obtain⟨o,ho⟩:∃o,Yn b e.1=o:=⟨_,rfl⟩
  rw[ho]at p4 p5 hset hbe
  unfold flwV at p4
  repeat'(first|(apply Wx (g:=gB) (e:=(e.1,.int .i64 e.2.1,e.2.2));exact rfl;exact zm;exact zm;exact rfl;exact he0;exact hB.ok.nd)|refine zgc ?_|(refine zge ?_ ?_<;>intro _<;>try exact zo)|fail)
  apply Yz [0,1,2,3,4,5,6,7,8,9,10,11,12,13,14,15] [16] [true,true,true,true,true,true,true]
  kernel_rfl
  kernel_rfl
  exact zy
  (simp only[Ye,nthO];rfl)
  (simp only[Ye,nthO];rfl)
  repeat'(first|((first|apply Yb YaL|apply Yc YaL);exact za;exact rfl;exactλ_ hw=>(p4 hw))|(apply Yj;try exact zl)|refine zgd ?_|fail)
  apply Yg _ YvW
  exact za
  exact rfl
  exactλ_ hw=>(p5 zm (hw))
  rintro _ _ ⟨r,rfl,hr,rfl⟩
  have hrn:=hr.nn
  repeat'(first|(apply Qb;(iterate 3 exact rfl))|(apply V8 T;(iterate 4 exact rfl);omega)|(apply Xo T (f:=numF) (l:=F) (i:=(e.2.1+1).toNat) (a:=max v (r+1));(iterate 3 exact rfl);exact zd;exact rfl;exactλ_=>rfl;exact rfl;omega)|(apply Yj;try exact zl)|refine zgd ?_|fail)
  apply hK (seen.push e.2.2,F.set (e.2.1+1).toNat (max v (r+1)))
  ·exact hset r hr
  ·exact hls
  ·exact zu
  ·exact zk
theorem YwT{g:Gwy}{id:Int}(hg:GwOk g)(h:hasL g.l id=true):∃l s,l.1=id/\g.l[posL g.l id]? =some l/\g.s[posL g.l id]? =some s/\0<=id/\id<=127:=by
 obtain⟨l,hl,he⟩:=Rf.1 h
 obtain rfl:=TV he
 obtain⟨-,-,hfit,hpw⟩:=Vi.1 hg.l
 have hat:=Ygy hpw hl
 have hk:=(Tc.1 hat).1
 have hn:=(Jn (hfit l hl)).1
 exact⟨l,_,rfl,hat,Ta (by rw[hg.len];exact hk),hn.1,hn.2⟩
variable {B:Nat}{w0 w:World}{H:List HP}
theorem YaG(g:GwM)(id:Int)(hage:GwOk g.gw->∀(i:Nat) (l:Lop) (s:Spl),g.l[i]? =some l->g.s[i]? =some s->∃b,ageG g.gw l.1=(l.2.2.2.2.1+s.1+b-1,0)/\1<=b/\b<=s.2/\Xm l s=0)(ht:TabsB B w0)(hg:g.In B w0 H)(hw:St B w0 H w):
 CX B w0 27 [g.val,.int .i64 id] w λv K=>v=.tuple #[.int .i64 (ageG g.gw id).1,.int .i64 (ageG g.gw id).2]/\K=H:=by
 refine Ya Tryz.func27 Tryz.ntmps27 rfl rfl hw ?_
 have hop:∀w,St B w0 [many H] w->St B w0 H w:=λw hw=>hw.perm (.openT H)
 have hgM:∀{H':List HP},many H∈H'->g.In B w0 H':=λhm=>hg.mono λw hw=>hw.inM hm
 have p1:=λ{H':List HP}{w:World}(hg:g.In B w0 H') (hw:St B w0 H' w)=>Ji g ht hg hw
 unfold GwM.val at p1
 unfold GwM.val
 refine Y8 [many H] (λw hw=>hw.perm (.closeT H)) ?_
 have hgo:=λh:chkG g.gw=0=>UQ.1 h
 unfold ageG at hage⊢
 obtain⟨e,he⟩:∃e,chkG g.gw=e:=⟨_,rfl⟩
 rw[he]at p1 hgo hage⊢
 by_cases he0:e=0
 rotate_left
 ·rw[Tm he0]
  repeat'(first|((first|apply Yb en23|apply Yc en23);exact za;exact rfl;exactλ_ hw=>(p1 (hgM zm) hw))|refine zgb ?_|(refine zge ?_ ?_<;>intro _<;>try exact zo)|(refine zgh ?_;intro _)|fail)
  apply Yh H
  ·intro w hw
   have h5:St B w0 [many H] w:=by
    revert w
    exact zk
   exact hop w h5
  apply Yu;(iterate 3 exact rfl);exact⟨rfl,rfl⟩
 rw[Tf (λe=>e he0)]
 subst he0
 have hok:=hgo rfl
 obtain⟨hn,h8,hfit,hpw⟩:=Vi.1 hok.l
 have h8:g.l.length<=8:=h8
 have hgat:=λh:hasL g.l id=true=>YwT hok h
 have p2:=λ{H':List HP}{w:World}(hg:g.In B w0 H') (hw:St B w0 H' w)=>OQ g.l id hpw (by omega) (cap:=g.lcap) hg.l hw
 rw[show g.gw.l=g.l from rfl,show g.gw.s=g.s from rfl,show g.gw.p=g.p.pln from rfl]at hage⊢
 rw[show g.gw.l=g.l from rfl,show g.gw.s=g.s from rfl]at hgat
 obtain⟨hb,hhb⟩:∃b,hasL g.l id=b:=⟨_,rfl⟩
 rw[hhb]at p2 hgat⊢
 cases hb with
 |false=>
  rw[Tm rfl]
  repeat'(first|(apply Yf T;exact rfl;exact zm;exact rfl;exact zv;exact rfl;exact rfl)|((first|apply Yb en23|apply Yc en23);exact za;exact rfl;exactλ_ hw=>(p1 (hgM zm) hw))|((first|apply Yb en74|apply Yc en74);exact za;exact rfl;exactλ_ hw=>(p2 (hgM zm) hw))|refine zgd ?_|(refine zge ?_ ?_<;>intro _<;>try exact zo)|(refine zgh ?_;intro _)|fail)
  apply Yh H
  ·intro w hw
   have h5:St B w0 [many H] w:=by
    revert w
    exact zk
   exact hop w h5
  apply Yu;(iterate 3 exact rfl);exact⟨rfl,rfl⟩
 |true=>
 obtain⟨l,s,hid,hl,hs,hid1,hid2⟩:=hgat rfl
 obtain⟨b,hb,hb1,hb2,hr⟩:=hage hok _ l s hl hs
 subst hid
 obtain⟨h32,hs1,hs2,-⟩:=U5 hr
 have hP:=(Jn h32).2.1
 rw[Tf (by decide)]
 rw[Tf (λe=>e rfl),hhb,Tf (by decide)]at hb
 have p3:=λ{H':List HP}{w:World}(hg:g.In B w0 H') (hw:St B w0 H' w)=>YhA g.p.c (2*l.1+1) (cap:=g.p.ccap) hg.p.c hw
 rw[show g.p.pln.c=g.p.c.map ClM.clm from rfl]at hb⊢
 obtain⟨⟨u,ok⟩,hu⟩:∃R,bndE (g.p.c.map ClM.clm) (2*l.1+1)=R:=⟨_,rfl⟩
 rw[hu]at p3 hb⊢
 rw[hb]
 have hu2:u=b:=by
  have h1:Z9 g.l (posL g.l l.1)=l:=by unfold Z9;rw[Tz,hl];rfl
  have h2:g.s.getD (posL g.l l.1) (0,0)=s:=by rw[Tz,hs];rfl
  have h3:=TA Prod.fst hb
  rw[h1,h2]at h3
  dsimp only at h3
  omega
 subst hu2
 clear hb hage
 obtain⟨k,hk⟩:∃k,posL g.l l.1=k:=⟨_,rfl⟩
 rw[hk]at p2 hl hs
 have hkl:=(Tc.1 hl).1
 have hks:=(Tc.1 hs).1
 repeat'(first|(apply Yf T;exact rfl;exact zm;exact rfl;exact zv;exact rfl;exact rfl)|((first|apply Yb en23|apply Yc en23);exact za;exact rfl;exactλ_ hw=>(p1 (hgM zm) hw))|((first|apply Yb en74|apply Yc en74);exact za;exact rfl;exactλ_ hw=>(p2 (hgM zm) hw))|((first|apply Yb en75|apply Yc en75);exact za;exact rfl;exactλ_ hw=>(p3 (hgM zm) hw))|refine zgd ?_|(refine zge ?_ ?_<;>intro _<;>try exact zo)|(refine zgh ?_;intro _)|fail)
 rename Nat=>g1
 have hrl:=(hgM (H':=[gwyA g1 g,many H]) (.tail _ (.head _))).l
 have hrs:=(hgM (H':=[gwyA g1 g,many H]) (.tail _ (.head _))).s
 repeat'(first|(apply Yf T;exact rfl;exact zm;exact rfl;exact zv;exact rfl;exact rfl)|refine zgd ?_|fail)
 apply Yh H
 ·intro w hw
  have h5:St B w0 [many H] w:=by
   revert w
   exact zk
  exact hop w h5
 apply Yu;(iterate 3 exact rfl);exact⟨rfl,rfl⟩
theorem Yjy(g:GwM)(id:Int)(ht:TabsB B w0)(hg:g.In B w0 H)(hw:St B w0 H w):
 CX B w0 27 [g.val,.int .i64 id] w λv K=>v=.tuple #[.int .i64 (ageG g.gw id).1,.int .i64 (ageG g.gw id).2]/\K=H:=
 YaG g id (λh _ _ _ h1 h2=>YoC (g:=g.gw) h h1 h2) ht hg hw
theorem Ybt(g:GwM)(id:Int)(hk:chkG g.gw=0)(hno:hasL g.l id=false)(ht:TabsB B w0)(hg:g.In B w0 H)(hw:St B w0 H w):
 CX B w0 54 [g.val,.int .i64 id] w λv K=>v=.tuple #[QY,.int .i64 7]/\K=H:=by
 refine Ya Tryz.func54 Tryz.ntmps54 rfl rfl hw ?_
 have hgM:∀{H':List HP},many H∈H'->g.In B w0 H':=λhm=>hg.mono λw hw=>hw.inM hm
 have p1:=λ{H':List HP}{w:World}(hg:g.In B w0 H') (hw:St B w0 H' w)=>Ji g ht hg hw
 obtain⟨-,h8,-,hpw⟩:=Vi.1 (UQ.1 hk).l
 have h8:g.l.length<=8:=h8
 have p2:=λ{H':List HP}{w:World}(hg:g.In B w0 H') (hw:St B w0 H' w)=>OQ g.l id hpw (by omega) (cap:=g.lcap) hg.l hw
 rw[hk]at p1
 rw[hno]at p2
 unfold GwM.val at p1⊢
 refine Y8 [many H] (λw hw=>hw.perm (.closeT H)) ?_
 repeat'(first|(apply Yf T;exact rfl;exact zm;exact rfl;exact zv;exact rfl;exact rfl)|((first|apply Yb en23|apply Yc en23);exact za;exact rfl;exactλ_ hw=>(p1 (hgM zm) hw))|((first|apply Yb en74|apply Yc en74);exact za;exact rfl;exactλ_ hw=>(p2 (hgM zm) hw))|refine zgd ?_|(refine zge ?_ ?_<;>intro _<;>try exact zo)|(refine zgh ?_;intro _)|fail)
 apply Yv T (H2:=H);(iterate 3 exact rfl);exact zm;exact rfl;exact rfl
 ·intro w hw
  have h5:St B w0 [many H] w:=by
   revert w
   exact zk
  exact h5.perm (.openT H)
 exact⟨rfl,rfl⟩
end Go.Proofs.YtjlgijpmnfabcaaGreatDoor
namespace Go.Rt
open Go.Nw
def YjM(nodes:Nat)(l:List Lk)(to:Int)(far:List Int):Bool:=
 decide (far.length=nodes)&&decide (Yk far to=0)&&((List.range nodes).all λv:Nat=>decide (0<=Yk far v/\Yk far v<=Xl))&&
 ((List.range nodes).all λv:Nat=>decide ((v:Int)=to)||decide (¬Yk far v<Xl)||l.any λa=>decide (a.1=v/\Yk far a.2.1+a.2.2<=Yk far v))&&
 l.all λa=>decide (¬Yk far a.2.1<Xl)||decide (Yk far a.1<=Yk far a.2.1+a.2.2)
variable {l:List Lk}{to:Int}{far:List Int}
theorem YmR{nodes:Nat}(h:YjM nodes l to far=true):Dist nodes l to far:=by
 unfold YjM at h
 simp only[To,Ri,RJ,Tq,Rf,Ru]at h
 obtain⟨⟨⟨⟨h1,h2⟩,h3⟩,h4⟩,h5⟩:=h
 refine⟨h1,h2,λv h0 hn=>?_,λv h0 hn hne hlt=>?_,λa ha hlt=>?_⟩
 ·have:=h3 v.toNat (by omega)
  grind
 ·have:=h4 v.toNat (by omega)
  grind
 grind
def YoG(nodes:Nat)(l:List Lk):Bool:=l.all λa=>decide ((0<=a.1/\a.1<nodes)/\(0<=a.2.1/\a.2.1<nodes)/\(1<=a.2.2/\a.2.2<=1000000))
theorem YmD{nodes:Nat}(h:YoG nodes l=true):ArcsOk nodes l:=λa ha=>by
 have:=Ri.1 h a ha
 simp_all
theorem Ycn{nodes:Nat}(h1:YoG nodes l=true)(h:YjM nodes l to far=true):J3 nodes l to=far:=Qq (YmD h1) (YmR h)
end Go.Rt
namespace Go.Proofs.YtjlgijpmnfabcaaGreatDoor
open Go.RowKit Go.Eng Go.Nw Go.Rt
def exA5:List Lk:=[(0,1,1),(1,0,1)]
def popX(a:Int):Int:=
 let m1:Int:=6148914691236517205
 let m2:Int:=3689348814741910323
 let m4:Int:=1085102592571150095
 let b:=IntKind.u64.wrap (bits .and .u64 (a/2) m1+bits .and .u64 a m1)
 let c:=IntKind.u64.wrap (bits .and .u64 (b/4) m2+bits .and .u64 b m2)
 let d:=bits .and .u64 (IntKind.u64.wrap (c/16+c)) m4
 let e:=IntKind.u64.wrap (d+d/256)
 let f:=IntKind.u64.wrap (e+e/65536)
 let g:=IntKind.u64.wrap (f+f/4294967296)
 bits .and .i64 (IntKind.i64.wrap g) 127
variable {B:Nat}{w0 w:World}{H:List HP}
theorem Yiu(a:Int)(hw:St B w0 H w):
 CX B w0 211 [.int .u64 a] w λv K=>v=.int .i64 (popX a)/\K=H:=by
 refine Ya Tryz.func211 Tryz.ntmps211 rfl rfl hw ?_
 repeat'(first|(apply Yg3;(iterate 3 exact rfl))|refine zgd ?_|fail)
 apply Yd;exact rfl;exact rfl;exact⟨rfl,rfl⟩
theorem YnA(a:Int)(hw:St B w0 H w):
 CX B w0 117 [.int .u64 a] w λv K=>v=.int .i64 (popX a)/\K=H:=by
 refine Ya Tryz.func117 Tryz.ntmps117 rfl rfl hw ?_
 repeat'(first|((first|apply Yb Ys0|apply Yc Ys0);exact za;exact rfl;exactλ_ hw=>(Yiu a hw))|refine zga ?_|fail)
 apply Yd;exact rfl;exact rfl;exact⟨rfl,rfl⟩
theorem Yp8(x:Int):0<=popX x/\popX x<=127:=by
 have key:∀v:Int,0<=bits .and .i64 v 127/\bits .and .i64 v 127<=127:=λv=>by
  have h1:(BitVec.ofInt 64 v).toNat&&&(BitVec.ofInt 64 (127:Int)).toNat<=(BitVec.ofInt 64 (127:Int)).toNat:=Nat.and_le_right
  rw[show(BitVec.ofInt 64 (127:Int)).toNat=127 from rfl]at h1
  show 0<=IntKind.i64.wrap ((BitVec.ofInt 64 v&&&BitVec.ofInt 64 (127:Int)).toNat:Int)/\IntKind.i64.wrap ((BitVec.ofInt 64 v&&&BitVec.ofInt 64 (127:Int)).toNat:Int)<=127
  rw[BitVec.toNat_and,IntKind.wrap_i64,show(BitVec.ofInt 64 (127:Int)).toNat=127 from rfl]
  omega
 exact key _
def sumP:List Int->Int
 |[]=>0
 |x::l=>popX (IntKind.u64.wrap x)+sumP l
theorem YfA:∀(l:List Int) (x:Int),sumP (l++[x])=sumP l+popX (IntKind.u64.wrap x)
 |[],x=>by simp[sumP]
 |y::l,x=>by
  simp only[TB,sumP,YfA l x]
  omega
theorem Yl4:∀l:List Int,0<=sumP l/\sumP l<=127*l.length
 |[]=>⟨RB _,RB _⟩
 |x::l=>by
  have h1:=Yp8 (IntKind.u64.wrap x)
  have h2:=Yl4 l
  simp only[sumP,TZ]
  omega
def Yh2(g:Gwy):Int×Int:=if chkG g≠0 then(0,chkG g)else(sumP g.p.f,0)
theorem Ypm{g:Gwy}(h:GwOk g):g.p.f.length<=512:=by
 have hok:=Ycf h.p
 have hf:=hok.f
 have hfr:=hok.free
 unfold ZH at hf hfr
 split at hfr
 ·cases hfr
 rename_i h1
 rw[Tf h1]at hf
 have h2:1<=g.p.s.len/\g.p.s.len<=512/\1<=g.p.s.off/\g.p.s.off<=16:=TV (Jl.1 (by simpa using h1)).sized
 rw[hf]
 unfold ZP
 rw[Vj,TQ]
 omega
theorem Yh1(g:GwM)(ht:TabsB B w0)(hg:g.In B w0 H)(hw:St B w0 H w):
 CX B w0 53 [g.val] w λv K=>v=.tuple #[.int .i64 (Yh2 g.gw).1,.int .i64 (Yh2 g.gw).2]/\K=H:=by
 refine Ya Tryz.func53 Tryz.ntmps53 rfl rfl hw ?_
 have hop:∀w,St B w0 [many H] w->St B w0 H w:=λw hw=>hw.perm (.openT H)
 have hgM:∀{H':List HP},many H∈H'->g.In B w0 H':=λhm=>hg.mono λw hw=>hw.inM hm
 have p1:=λ{H':List HP}{w:World}(hg:g.In B w0 H') (hw:St B w0 H' w)=>Ji g ht hg hw
 unfold GwM.val at p1
 unfold GwM.val
 refine Y8 [many H] (λw hw=>hw.perm (.closeT H)) ?_
 have hgo:=λh:chkG g.gw=0=>Ypm (UQ.1 h)
 unfold Yh2
 obtain⟨e,he⟩:∃e,chkG g.gw=e:=⟨_,rfl⟩
 rw[he]at p1 hgo⊢
 by_cases he0:e=0
 rotate_left
 ·rw[Tm he0]
  repeat'(first|((first|apply Yb en23|apply Yc en23);exact za;exact rfl;exactλ_ hw=>(p1 (hgM zm) hw))|refine zgb ?_|(refine zge ?_ ?_<;>intro _<;>try exact zo)|(refine zgh ?_;intro _)|fail)
  apply Yh H
  ·intro w hw
   have h5:St B w0 [many H] w:=by
    revert w
    exact zk
   exact hop w h5
  apply Yu;(iterate 3 exact rfl);exact⟨rfl,rfl⟩
 rw[Tf (λe=>e he0)]
 subst he0
 have hfl:=hgo rfl
 rw[show g.gw.p.f=g.p.f from rfl]at hfl⊢
 have hrM:∀{H':List HP},many H∈H'->Rd B w0 H' g.p.fA (g.p.f.flatMap numF):=λhm=>(hgM hm).p.f
 repeat'(first|(apply Yf T;exact rfl;exact zm;exact rfl;exact zv;exact rfl;exact rfl)|((first|apply Yb en23|apply Yc en23);exact za;exact rfl;exactλ_ hw=>(p1 (hgM zm) hw))|refine zgb ?_|(refine zge ?_ ?_<;>intro _<;>try exact zo)|(refine zgh ?_;intro _)|fail)
 rename_i g1
 refine Yi (λk:Nat=>[(17,.int .i64 k),(16,.int .i64 g.p.f.length),(15,.slice g.p.fA g.p.f.length g.p.fcap),(5,.int .i64 (sumP (g.p.f.take k)))]) (λ_=>[many H]) (λk=>k<=g.p.f.length) (λk=>g.p.f.length-k) 0 (Ti _) ?_ ?_ ?_
 ·exact zu
 ·exact zk
 rintro k hk K hK
 by_cases hlt:k<g.p.f.length
 ·obtain⟨a,ha⟩:∃a,g.p.f[k]? =some a:=⟨_,Ta hlt⟩
  have hst:sumP (g.p.f.take (k+1))=sumP (g.p.f.take k)+popX (IntKind.u64.wrap a):=by rw[TF,ha];exact YfA _ _
  have h1:=Yp8 (IntKind.u64.wrap a)
  have h2:=Yl4 (g.p.f.take k)
  rw[TK]at h2
  have p2:=λ{H':List HP}{w:World}(hw:St B w0 H' w)=>YnA (IntKind.u64.wrap a) hw
  have hrd:=hrM (H':=[many H]) (.head _)
  repeat'(first|((first|apply Yb YsB|apply Yc YsB);exact za;exact rfl;exactλ_ hw=>(p2 hw))|refine zgd ?_|(refine zge ?_ ?_<;>intro _<;>try exact zo)|fail)
  apply hK (k+1)
  ·omega
  ·omega
  ·rw[hst];exact zu
  ·exact zk
 ·obtain rfl:k=g.p.f.length:=by omega
  rw[TL]
  repeat'(first|refine zgc ?_|(refine zge ?_ ?_<;>intro _<;>try exact zo)|fail)
  apply Yh H
  ·intro w hw
   have h5:St B w0 [many H] w:=by
    revert w
    exact zk
   exact hop w h5
  apply Yu;(iterate 3 exact rfl);exact⟨rfl,rfl⟩
def exN6:Net:=⟨2,[[0,40],[40,0]],1,2000,[(0,1,0),(1,0,0)],[20,20]⟩
def exL6:Lop:=(2,1,0,1,8,0,15)
def exP6:Pln:=⟨exN6,[],⟨8,1,[]⟩,[],[1,1,1,1,1,1,1,1]⟩
def exFa:Flw:=(4,1,0,8,0,1)
def exFb:Flw:=(5,0,1,8,1,7)
def exQa:Pln:=⟨exN6,[(exFa,[[1,0]])],⟨8,1,[(0,0,1,0,4)]⟩,[⟨4,[[1,0]],[1],[0],[[0]]⟩],[0,1,1,1,1,1,1,1]⟩
def exQb:Pln:=⟨exN6,[(exFa,[[1,0]]),(exFb,[[0,1]])],⟨8,1,[(0,0,1,0,4),(1,0,0,1,5)]⟩,[⟨4,[[1,0]],[1],[0],[[0]]⟩,⟨5,[[0,1]],[1],[1],[[0]]⟩],[0,0,1,1,1,1,1,1]⟩
theorem Qr:JO exN6=exA5:=by decide
theorem Ycu:Vo 100000 exN6 1 0=some (none,17):=by
 have h:(Ou 100000 2 exA5 0 1 0 (λ_=>false)).map (λr=>r.2.1)=some false:=by decide
 have hp:Yba 100000 2 exA5 1 0=some none:=by
  unfold Yba
  cases hb:Ou 100000 2 exA5 0 1 0 (λ_=>false)with
  |none=>rw[hb]at h;cases h
  |some r=>
   rw[hb]at h
   obtain⟨x,ok,es⟩:=r
   simp only[RP,RO]at h
   subst h
   rfl
 unfold Vo
 rw[Tf (by decide),Qr,show exN6.nodes.toNat=2 from rfl,hp]
theorem YeQ:Jr exN6 exFa=(none,17):=by
 unfold Jr
 rw[show exFa.2.1=1 from rfl,show exFa.2.2.1=0 from rfl,Ycu];rfl
theorem Ypf:Vo 100000 exN6 exFa.2.1 exFa.2.2.1=some (Jr exN6 exFa):=by
 rw[YeQ];exact Ycu
theorem Ycv:reqE exN6 exFa=((exFa,[[1,0]]),0):=by
 have hr:U7 exN6 1 0=[1,0]:=by
  unfold U7
  rw[Qr,show exN6.nodes.toNat=2 from rfl,Ycn (far:=[0,34]) (by decide) (by decide)]
  decide
 have hs:Zi exN6 1 0=([1,0],0):=by
  unfold Zi
  rw[hr]
  decide
 unfold reqE
 rw[YeQ]
 unfold J8
 rw[show exFa.2.1=1 from rfl,show exFa.2.2.1=0 from rfl,hs]
 rfl
theorem YjO:J1 exN6 [exFa]=([(exFa,[[1,0]])],(-1,0)):=by
 have h1:Ydq exN6 [exFa]=(-1,0):=by
  unfold Ydq
  show YG (λi=>(reqE exN6 (Y1 [exFa] i)).2) 1 0=_
  unfold YG YG
  rw[show Y1 [exFa] 0=exFa from rfl,Ycv]
  rfl
 unfold J1
 rw[h1,Tf (by decide),Tf (by decide),Tf (by decide),Ro,Nh,Ycv]
theorem YhO:extP exP6 exFa=(some exQa,0):=by
 unfold extP
 rw[Tf (by decide),Tf (by decide),Tf (by decide),Tf (by decide)]
 rw[show(exP6).n=exN6 from rfl,YjO,Tf (by decide),Ycv,Tm (by decide)]
 rfl
theorem Ycw:Vo 100000 exN6 0 1=some (none,17):=by
 have h:(Ou 100000 2 exA5 0 0 1 (λ_=>false)).map (λr=>r.2.1)=some false:=by decide
 have hp:Yba 100000 2 exA5 0 1=some none:=by
  unfold Yba
  cases hb:Ou 100000 2 exA5 0 0 1 (λ_=>false)with
  |none=>rw[hb]at h;cases h
  |some r=>
   rw[hb]at h
   obtain⟨x,ok,es⟩:=r
   simp only[RP,RO]at h
   subst h
   rfl
 unfold Vo
 rw[Tf (by decide),Qr,show exN6.nodes.toNat=2 from rfl,hp]
theorem YeR:Jr exN6 exFb=(none,17):=by
 unfold Jr
 rw[show exFb.2.1=0 from rfl,show exFb.2.2.1=1 from rfl,Ycw];rfl
theorem Ypg:Vo 100000 exN6 exFb.2.1 exFb.2.2.1=some (Jr exN6 exFb):=by
 rw[YeR];exact Ycw
theorem Ycx:reqE exN6 exFb=((exFb,[[0,1]]),0):=by
 have hr:U7 exN6 0 1=[0,1]:=by
  unfold U7
  rw[Qr,show exN6.nodes.toNat=2 from rfl,Ycn (far:=[34,0]) (by decide) (by decide)]
  decide
 have hs:Zi exN6 0 1=([0,1],0):=by
  unfold Zi
  rw[hr]
  decide
 unfold reqE
 rw[YeR]
 unfold J8
 rw[show exFb.2.1=0 from rfl,show exFb.2.2.1=1 from rfl,hs]
 rfl
theorem YjP:J1 exN6 [exFb]=([(exFb,[[0,1]])],(-1,0)):=by
 have h1:Ydq exN6 [exFb]=(-1,0):=by
  unfold Ydq
  show YG (λi=>(reqE exN6 (Y1 [exFb] i)).2) 1 0=_
  unfold YG YG
  rw[show Y1 [exFb] 0=exFb from rfl,Ycx]
  rfl
 unfold J1
 rw[h1,Tf (by decide),Tf (by decide),Tf (by decide),Ro,Nh,Ycx]
theorem YhP:extP exQa exFb=(some exQb,0):=by
 unfold extP
 rw[Tf (by decide),Tf (by decide),Tf (by decide),Tf (by decide)]
 rw[show(exQa).n=exN6 from rfl,YjP,Tf (by decide),Ycx,Tm (by decide)]
 rfl
def exG6:Gwy:=⟨exP6,[],[]⟩
def exH6:Gwy:=⟨exQb,[exL6],[(1,7)]⟩
theorem YhN:Wg exP6 exL6 (1,7)=some exQb:=by
 unfold Wg
 rw[show Y6 exL6 (1,7)=exFa from rfl,show Xk exL6 (1,7)=exFb from rfl,YhO]
 simp only
 rw[YhP]
 rfl
theorem Yrx:chkG exG6=0:=by decide
theorem Yrw:admG exG6 exL6=(some exH6,0):=by
 unfold admG
 rw[Tf (by decide),Tf (by decide),Tf (by decide),Tf (by decide)]
 rw[show Zj exL6=(1,7)::(Zj exL6).tail from rfl]
 unfold tryG
 rw[show(exG6).p=exP6 from rfl,YhN]
 rfl
theorem YmV:admG exH6 exL6=(none,6):=by
 unfold admG
 rw[Tf (by decide),Tm (by decide)]
theorem YlL:ageG exH6 2=(9,0):=by
 unfold ageG
 rw[Tf (by decide),Tf (by decide)]
 decide
variable {B:Nat}{w0 w:World}{H:List HP}
theorem GwM.In.inX{X:List HP}{g:GwM}(h:g.In B w0 [many X])(hm:many X∈H):g.In B w0 H:=h.mono λ_ hw=>(hw.inM hm).perm (.closeT X)
theorem Ypd:Yh2 exH6=(6,0):=by
 unfold Yh2
 rw[Tf (by decide)]
 decide+kernel
variable {s:Spl}
theorem Ypc{i:Nat}{l:Lop}(h1:exH6.l[i]? =some l)(h2:exH6.s[i]? =some s):∃b,ageG exH6 l.1=(l.2.2.2.2.1+s.1+b-1,0)/\1<=b/\b<=s.2/\Xm l s=0:=by
 cases i with
 |zero=>
  obtain rfl:exL6=l:=Tn h1
  obtain rfl:(1,7)=s:=Tn h2
  exact⟨1,YlL,by decide,by decide,by decide⟩
 |succ i=>cases h1
theorem YjQ(hw:St B w0 H w):
 CX B w0 51 [] w λv K=>∃(n:NetM) (X:List HP),v=n.val/\n.net=exN6/\n.In B w0 [many X]/\K=many X::H:=by
 refine Ya Tryz.func51 Tryz.ntmps51 rfl rfl hw ?_
 repeat'(first|refine zgd ?_|(refine zgh ?_;intro _)|fail)
 rename_i g0 r1 r2 gp gl gm
 apply Yhk T (H2:=many [blk gm (.cells #[.int .i64 20,.int .i64 20] 3 (0,0)),blk gl (.cells #[.int .i64 0,.int .i64 1,.int .i64 0,.int .i64 1,.int .i64 0,.int .i64 0] 145 (0,0)),blk gp (.cells #[.slice (some ⟨r1,0,none⟩) 2 2,.slice (some ⟨r2,0,none⟩) 2 2] 24 (0,0)),blk r2 (.cells #[.int .i64 40,.int .i64 0] 3 (0,0)),blk r1 (.cells #[.int .i64 0,.int .i64 40] 3 (0,0))]::H);exact rfl;exact rfl;exact zm;exact rfl;exact rfl
 ·intro w hw
  have h5:St B w0 (blk gm (.cells #[.int .i64 20,.int .i64 20] 3 (0,0))::blk gl (.cells #[.int .i64 0,.int .i64 1,.int .i64 0,.int .i64 1,.int .i64 0,.int .i64 0] 145 (0,0))::blk gp (.cells #[.slice (some ⟨r1,0,none⟩) 2 2,.slice (some ⟨r2,0,none⟩) 2 2] 24 (0,0))::blk r2 (.cells #[.int .i64 40,.int .i64 0] 3 (0,0))::blk r1 (.cells #[.int .i64 0,.int .i64 40] 3 (0,0))::H) w:=by
   revert w
   exact zk
  exact h5.perm (.close [_,_,_,_,_] H)
 refine⟨⟨2,(some ⟨gp,0,none⟩),2,[⟨(some ⟨r1,0,none⟩),2,[0,40]⟩,⟨(some ⟨r2,0,none⟩),2,[40,0]⟩],1,2000,(some ⟨gl,0,none⟩),2,[(0,1,0),(1,0,0)],(some ⟨gm,0,none⟩),2,[20,20]⟩,_,rfl,rfl,?_,rfl⟩
 refine NetM.In.mono (H:=[_,_,_,_,_]) ?_ λw hw=>hw.perm (.open_ [_,_,_,_,_] [])
 refine⟨Rd.blk (cs:=#[.slice (some ⟨r1,0,none⟩) 2 2,.slice (some ⟨r2,0,none⟩) 2 2]) (t:=24) (fr:=(0,0)) zm,λr hr=>?_,Rd.blk (cs:=#[.int .i64 0,.int .i64 1,.int .i64 0,.int .i64 1,.int .i64 0,.int .i64 0]) (t:=145) (fr:=(0,0)) zm,Rd.blk (cs:=#[.int .i64 20,.int .i64 20]) (t:=3) (fr:=(0,0)) zm,by show 2<=_;omega,λr hr=>?_,by show 2<=_;omega,by show 2<=_;omega⟩
 ·simp only[Rr,RN,NZ]at hr
  rcases hr with rfl|rfl
  ·exact Rd.blk (cs:=#[.int .i64 0,.int .i64 40]) (t:=3) (fr:=(0,0)) zm
  ·exact Rd.blk (cs:=#[.int .i64 40,.int .i64 0]) (t:=3) (fr:=(0,0)) zm
 ·simp only[Rr,RN,NZ]at hr
  rcases hr with rfl|rfl<;>(show 2<=_;omega)
def exS(s:Spl):Prop:=s=(1,7)
def exG(i:Nat)(q:Pln):Prop:=(i=0/\q=exP6)\/(i=1/\q=exQa)\/(i=2/\q=exQb)
theorem YwQ:ExtG exS exG exL6 where
 le:=by rintro i q (⟨-,rfl⟩|⟨-,rfl⟩|⟨-,rfl⟩)<;>decide
 st:=by
  rintro i q s f (⟨rfl,rfl⟩|⟨rfl,rfl⟩|⟨rfl,rfl⟩) rfl _ hf
  ·obtain rfl:exFa=f:=Tn hf
   exact .inr ⟨_,YhO,.inr (.inl ⟨rfl,rfl⟩)⟩
  ·obtain rfl:exFb=f:=Tn hf
   exact .inr ⟨_,YhP,.inr (.inr ⟨rfl,rfl⟩)⟩
  ·cases hf
 rn:=by
  rintro i q s f (⟨rfl,rfl⟩|⟨rfl,rfl⟩|⟨rfl,rfl⟩) rfl _ hf
  ·obtain rfl:exFa=f:=Tn hf
   exact Ypf
  ·obtain rfl:exFb=f:=Tn hf
   exact Ypg
  ·cases hf
theorem YwR{k:Nat}(h:(Zj exL6)[k]? =some s)(hf:∀(j:Nat) t,j<k->(Zj exL6)[j]? =some t->Wg exP6 exL6 t=none):exS s:=by
 have h0:(Zj exL6)[0]? =some (1,7):=by decide
 rcases Su k with rfl|hk
 ·exact(Tn (h0.symm.trans h)).symm
 ·have h1:=hf 0 _ hk h0
  rw[YhN]at h1;cases h1
theorem Ype:ExtG (λ_=>False) (λ_ q=>q.s.len<=24) exL6 where
 le:=λ_ _ h=>h
 st:=λ_ _ _ _ _ h=>h.elim
 rn:=λ_ _ _ _ _ h=>h.elim
theorem V7(ht:TabsB B w0)(hw:St B w0 H w):
 CX B w0 17 [] w λv K=>v=.bool true/\K=H:=by
 refine Ya Tryz.func17 Tryz.ntmps17 rfl rfl hw ?_
 refine Y8 [many H] (λw hw=>hw.perm (.closeT H)) ?_
 repeat'(first|refine zga ?_|fail)
 apply Yg _ en51
 exact za
 exact rfl
 exactλ_ hw=>(YjQ (hw))
 rintro _ _ ⟨n,X0,rfl,hn,hin,rfl⟩
 have hinX:∀{H':List HP},many X0∈H'->n.In B w0 H':=λhm=>hin.mono λ_ hw=>(hw.inM hm).perm (.closeT X0)
 have p0:=λ{H':List HP}{w:World}(hin:n.In B w0 H') (hw:St B w0 H' w)=>Ynw n 8 1 ht hin hw
 rw[hn,show newG exN6 8 1=(some exG6,0) from rfl]at p0
 unfold YbP NetM.val at p0
 unfold NetM.val
 repeat'(first|fail)
 apply Yg _ en20
 exact za
 exact rfl
 exactλ_ hw=>(p0 (hinX zm) (hw))
 rintro _ _ (⟨h,-⟩|⟨g,X1,hg,rfl,hgi,rfl⟩)
 ·cases h
 have hg:g.gw=exG6:=(Tn hg).symm
 have hg24:g.p.s.len<=24:=by
  have h1:g.gw.p.s.len=8:=by rw[hg];rfl
  have h2:g.gw.p.s.len=g.p.s.len:=rfl
  omega
 have p1:∀{H':List HP}{w:World},g.In B w0 H'->St B w0 H' w->CX B w0 52 [g.val,lopV exL6] w (YbP B w0 H' (some exH6,0)):=λhgi hw=>by
  have h:=Ot g exL6 YwQ (λ_=>.inl ⟨rfl,TA Gwy.p hg⟩) (λ_ k s h1 h2=>YwR h1 λj t hj ht=>by have h3:=h2 j t hj ht;rwa [show g.p.pln=exP6 from TA Gwy.p hg]at h3) ht hgi hw
  rw[hg,Yrw]at h
  exact h
 have p2:∀{H':List HP}{w:World},g.In B w0 H'->St B w0 H' w->CX B w0 54 [g.val,.int .i64 2] w λv K=>v=.tuple #[QY,.int .i64 7]/\K=H':=λhgi hw=>
  Ybt g 2 (by rw[hg];exact Yrx) (by rw[show g.l=exG6.l from TA Gwy.l hg];rfl) ht hgi hw
 unfold YbP at p1
 unfold GwM.val at p1 p2⊢
 unfold lopV exL6 at p1
 dsimp only at p1 p2
 repeat'(first|refine zgd ?_|(refine zgh ?_;intro _)|fail)
 apply Yg _ en52
 exact za
 exact rfl
 exactλ_ hw=>(p1 (hgi.inX zm) (hw))
 rintro _ _ (⟨h,-⟩|⟨a,X2,ha,rfl,hai,rfl⟩)
 ·cases h
 have ha:exH6=a.gw:=Tn ha
 have has:a.s=[(1,7)]:=by have:=TA Gwy.s ha;exact this.symm
 have hal:a.s.length=1:=by rw[has];rfl
 have ha24:a.p.s.len<=24:=by
  have h1:a.gw.p.s.len=8:=by rw[<-ha];rfl
  have h2:a.gw.p.s.len=a.p.s.len:=rfl
  omega
 have p3:∀{H':List HP}{w:World},a.In B w0 H'->St B w0 H' w->CX B w0 27 [a.val,.int .i64 2] w λv K=>v=.tuple #[.int .i64 9,.int .i64 0]/\K=H':=λhai hw=>by
  have h:=YaG a 2 (λ_ i l s h1 h2=>by rw[show a.l=exH6.l from(TA Gwy.l ha).symm]at h1;rw[show a.s=exH6.s from(TA Gwy.s ha).symm]at h2;rw[<-ha];exact Ypc h1 h2) ht hai hw
  rw[<-ha,YlL]at h
  exact h
 have p4:∀{H':List HP}{w:World},a.In B w0 H'->St B w0 H' w->CX B w0 53 [a.val] w λv K=>v=.tuple #[.int .i64 6,.int .i64 0]/\K=H':=λhai hw=>by
  have h:=Yh1 a ht hai hw
  rw[<-ha,Ypd]at h
  exact h
 have p5:∀{H':List HP}{w:World},a.In B w0 H'->St B w0 H' w->CX B w0 52 [a.val,lopV exL6] w (YbP B w0 H' (none,6)):=λhai hw=>by
  have h:=Ot a exL6 Ype (λ_=>ha24) (λh1=>by rw[show a.l=exH6.l from(TA Gwy.l ha).symm]at h1;exact absurd h1 (by decide)) ht hai hw
  rw[<-ha,YmV]at h
  exact h
 have hrs:=λ{H':List HP}(hm:many X2∈H')=>(hai.inX hm).s
 unfold YbP at p5
 unfold GwM.val at p3 p4 p5
 unfold lopV exL6 at p5
 dsimp only at p5
 rw[hal]at p3 p4 p5⊢
 rw[has]at hrs
 repeat'(first|(apply Yf T;exact rfl;exact zm;exact rfl;exact zv;exact rfl;exact rfl)|((first|apply Yb en27|apply Yc en27);exact za;exact rfl;exactλ_ hw=>(p3 (hai.inX zm) hw))|((first|apply Yb en53|apply Yc en53);exact za;exact rfl;exactλ_ hw=>(p4 (hai.inX zm) hw))|refine zgc ?_|(refine zgh ?_;intro _)|fail)
 apply Yg _ en52
 exact za
 exact rfl
 exactλ_ hw=>(p5 (hai.inX zm) (hw))
 rintro _ _ (⟨-,rfl,rfl⟩|⟨b,X3,h,-⟩)
 rotate_left
 ·cases h
 unfold QY
 repeat'(first|refine zgc ?_|(refine zgh ?_;intro _)|fail)
 apply Yg _ en54
 exact za
 exact rfl
 exactλ_ hw=>(p2 (hgi.inX zm) (hw))
 rintro _ _ ⟨rfl,rfl⟩
 unfold QY
 have hsp:[((1:Int),(7:Int))][(0:Int).toNat]? =some (1,7):=rfl
 repeat'(first|(apply Yf T;exact rfl;exact zm;exact rfl;exact zv;exact rfl;exact rfl)|(apply XZ T (l:=[((1:Int),(7:Int))]) (f:=splF);exact rfl;exact rfl;exact hrs zm;exact rfl;exactλ_=>rfl;exact rfl;exact rfl;exact⟨by decide,by decide⟩)|(apply Wy T (l:=[((1:Int),(7:Int))]) (f:=splF);exact rfl;exact hrs zm;exact hsp;exactλ_=>rfl;(iterate 3 exact rfl))|(apply Yq5 (xs:=[.int .i64 1,.int .i64 7]) (ys:=[.int .i64 1,.int .i64 7]);(iterate 3 exact rfl);kernel_rfl;kernel_rfl;rotate_left;(intro hne;exact absurd rfl hne);intro _)|refine zgd ?_|(refine zgf ?_ ?_<;>intro _<;>try exact zo)|(refine zgh ?_;intro _)|fail)
 apply Yh H
 ·intro w hw
  have h5:St B w0 [many H] w:=by
   revert w
   exact zk
  exact h5.perm (.openT H)
 apply Yd;exact rfl;exact rfl;exact⟨rfl,rfl⟩
theorem PnM.Bg.mono{B:Nat}{w0:World}{H H':List HP}{p:PnM}(h:p.Bg B w0 H)(hH:∀w,St B w0 H' w->St B w0 H w):p.Bg B w0 H':=⟨h.n.mono hH,h.q.mono hH,h.s.mono hH,h.sl,h.c.mono5 hH,h.f.mono hH,h.fl⟩
structure GwM.Bg(B:Nat)(w0:World)(H:List HP)(g:GwM):Prop where
 p:g.p.Bg B w0 H
 l:Rd B w0 H g.lA (g.l.flatMap lopF)
 s:Rd B w0 H g.sA (g.s.flatMap splF)
 ll:g.l.length<=9223372036854775807
 sl:g.s.length<=9223372036854775807
 lc:g.l.length<=g.lcap
 sc:g.s.length<=g.scap
def FewG(g:GwM):Prop:=FewP g.p/\g.l.length<=9/\g.s.length<=10
variable {B:Nat}{w0:World}{H:List HP}{g:GwM}
theorem GwM.Bg.small(h:g.Bg B w0 H)(hf:FewG g):g.In B w0 H:=
 ⟨h.p.small hf.1,h.l,h.s,by have:=hf.2.1;omega,by have:=hf.2.2;omega,h.lc,h.sc⟩
theorem GwM.Bg.mono{H':List HP}(h:g.Bg B w0 H)(hH:∀w,St B w0 H' w->St B w0 H w):g.Bg B w0 H':=⟨h.p.mono hH,h.l.mono hH,h.s.mono hH,h.ll,h.sl,h.lc,h.sc⟩
theorem YjU(g:GwM){w:World}(hg:g.Bg B w0 H)(hw:St B w0 H w):
 CX B w0 19 [g.val] w λv K=>(∃b,v=.bool b/\(b=true->FewG g))/\K=H:=by
 refine Ya Tryz.func19 Tryz.ntmps19 rfl rfl hw ?_
 have p1:=λ{H':List HP}{w:World}(hp:g.p.Bg B w0 H') (hw:St B w0 H' w)=>YjT g.p hp hw
 have hll:=hg.ll
 have hsl:=hg.sl
 unfold GwM.val
 unfold PnM.val at p1
 (apply Y7;apply YM;apply YO;exact rfl;exact rfl;intro g)
 repeat'(first|(apply Yf T;exact rfl;exact zm;exact rfl;exact zv;exact rfl;exact rfl)|refine zgb ?_|fail)
 apply Yg _ en7
 exact za
 exact rfl
 exactλ_ hw=>(p1 (hg.p.mono zk) (hw))
 rintro _ _ ⟨⟨b,rfl,hb⟩,hK⟩
 rw[hK]
 cases b with
 |false=>
  repeat'(first|(apply Yf T;exact rfl;exact zm;exact rfl;exact zv;exact rfl;exact rfl)|refine zgc ?_|fail)
  apply Yl;apply Yd;exact rfl;exact rfl;exact⟨⟨_,rfl,λh=>by cases h⟩,rfl⟩
 |true=>
 repeat'(first|(apply Yf T;exact rfl;exact zm;exact rfl;exact zv;exact rfl;exact rfl)|refine zgc ?_|(refine zgf ?_ ?_<;>intro _<;>try exact zo)|fail)
 all_goals(
  apply Yl
  apply Yd;exact rfl;exact rfl
  exact⟨⟨_,rfl,λh=>by first|(exact absurd h (by decide))|exact⟨hb rfl,by omega,by omega⟩⟩,rfl⟩)
variable {B:Nat}{w0 w:World}{H:List HP}
theorem Yj6(l:Lop)(s:Spl)(hr:Xm l s=0)(hfa:YX 32 (Y6 l s)=0)(hfb:YX 32 (Xk l s)=0)(d:List (Int×Int×Int))(hda:DelOk (Y6 l s) d)(hdb:DelOk (Xk l s) d)(hlen:d.length<=1000)(slots:Int)(hsl:0<=slots/\slots<=1000){dA:Option Addr}{dc:Nat}(hd:Rd B w0 H dA (d.flatMap delF))(hw:St B w0 H w):
 CX B w0 28 [lopV l,splV s,.slice dA d.length dc,.int .i64 slots] w λv K=>∃A cap out,v=.tuple #[.slice A (List.length out) cap,.int .i64 0]/\Yn5 l s d slots out/\K=nrs A cap out::H:=by
 refine Ya Tryz.func28 Tryz.ntmps28 rfl rfl hw ?_
 have hdM:∀{H':List HP},many H∈H'->Rd B w0 H' dA (d.flatMap delF):=λhm=>hd.mono λw hw=>hw.inM hm
 have p1:∀{H':List HP}{w:World},St B w0 H' w->CX B w0 76 [lopV l,splV s,.slice dA d.length dc,.int .i64 slots] w λv K=>v=.int .i64 0/\K=H':=λ{H'}{w} hw=>by
  refine Ya Tryz.func76 Tryz.ntmps76 rfl rfl hw ?_
  have p1:=λ{H':List HP}{w:World}(hw:St B w0 H' w)=>Ya6 l s hw
  rw[hr]at p1
  unfold lopV splV at p1⊢
  repeat'(first|((first|apply Yb YeG|apply Yc YeG);exact za;exact rfl;exactλ_ hw=>(p1 hw))|refine zgc ?_|(refine zge ?_ ?_<;>intro _<;>try exact zo)|(refine zgh ?_;intro _)|fail)
  apply Yh H'
  ·exact zk
  apply Yd;exact rfl;exact rfl;exact⟨rfl,rfl⟩
 have p2:=λ{H':List HP}{w:World}(hd:Rd B w0 H' dA (d.flatMap delF)) (hw:St B w0 H' w)=>Ymx l s hr hfa hfb d hda hdb hlen slots hsl (dc:=dc) hd hw
 unfold lopV splV at p1 p2⊢
 refine Y8 [many H] (λw hw=>hw.perm (.closeT H)) ?_
 repeat'(first|((first|apply Yb en76|apply Yc en76);exact za;exact rfl;exactλ_ hw=>(p1 hw))|refine zgb ?_|(refine zge ?_ ?_<;>intro _<;>try exact zo)|(refine zgh ?_;intro _)|fail)
 apply Yg _ en77
 exact za
 exact rfl
 exactλ_ hw=>(p2 (hdM zm) (hw))
 rintro _ _ ⟨A,cap,out,rfl,ho,rfl⟩
 repeat'(first|refine zga ?_|fail)
 apply Yh (nrs A cap out::H)
 ·intro w hw
  have h5:St B w0 (nrs A cap out::[many H]) w:=by
   revert w
   exact zk
  exact h5.perm (.cons _ (.openT H))
 apply Yu;(iterate 3 exact rfl);exact⟨A,cap,out,rfl,ho,rfl⟩
theorem Yph{g:GwM}(h:FewG g)(hk:chkG g.gw=0):g.p.s.len<=24:=by
 rcases h.1.2.2.2 with h1|h1
 ·exact h1
 ·have hok:=Ycf (UQ.1 hk).p
  have h2:g.p.s.len<=512:=(TV (JW (Vg.1 (Jh.1 hok.cert).1).whole).2.2.1).2.1
  omega
theorem Ym4(q:List RqM):YE (q.map RqM.rq)=RqM.fl q:=by
 show(q.map RqM.rq).map Prod.fst=q.map (·.f)
 rw[SU];rfl
theorem Yts(g:GwM)(xs:List RuM)(slots:Int){xA:Option Addr}{xc:Nat}(ht:TabsB B w0)(hg:g.Bg B w0 H)(hx:XIn B w0 H xA xs)(hxl:xs.length<=9223372036854775807)(hw:St B w0 H w):
 CX B w0 5 [g.val,.slice xA xs.length xc,.int .i64 slots] w λv K=>v=.bool true/\K=H:=by
 refine Ya Tryz.func5 Tryz.ntmps5 rfl rfl hw ?_
 have p0:=λ{H':List HP}{w:World}(hg:g.Bg B w0 H') (hw:St B w0 H' w)=>YjU g hg hw
 have p1:=λ{H':List HP}{w:World}(hg:g.In B w0 H') (hw:St B w0 H' w)=>Ji g ht hg hw
 have p2:=λ(l:Lop) {H':List HP}{w:World}(hg:g.In B w0 H') (hw:St B w0 H' w)=>Yjy g l.1 ht hg hw
 have hop:∀w,St B w0 [many H] w->St B w0 H w:=λw hw=>hw.perm (.openT H)
 have hbM:∀{H':List HP},many H∈H'->g.Bg B w0 H':=λhm=>hg.mono λw hw=>hw.inM hm
 have hx:=hx.mono hop
 unfold GwM.val at p0 p1 p2
 unfold GwM.val
 refine Y8 [many H] (λw hw=>hw.perm (.closeT H)) ?_
 repeat'(first|refine zga ?_|(refine zgh ?_;intro _)|fail)
 first|apply Yb en17|apply Yc en17
 exact za
 exact rfl
 exactλ_ hw=>(V7 ht hw)
 repeat'(first|refine zgd ?_|fail)
 apply Yg _ en19
 exact za
 exact rfl
 exactλ_ hw=>(p0 (hbM zm) (hw))
 rintro _ _ ⟨⟨b,rfl,hfew⟩,hK0⟩
 rw[hK0]
 cases b with
 |false=>
  repeat'(first|((first|apply Yb en17|apply Yc en17);exact za;exact rfl;exactλ_ hw=>(V7 ht hw))|refine zgd ?_|fail)
  apply Yh H
  ·intro w hw
   have h5:St B w0 [many H] w:=by
    revert w
    exact zk
   exact hop w h5
  apply Yd;exact rfl;exact rfl;exact⟨rfl,rfl⟩
 |true=>
 have hfew:=hfew rfl
 have hgM:∀{H':List HP},many H∈H'->g.In B w0 H':=λhm=>(hbM hm).small hfew
 by_cases hk:xs.length<=40/\(0<=slots/\slots<=100)/\chkG g.gw=0
 rotate_left
 ·by_cases hk1:xs.length<=40/\0<=slots/\slots<=100
  ·have hk2:chkG g.gw≠0:=λe=>hk ⟨hk1.1,hk1.2,e⟩
   repeat'(first|((first|apply Yb en17|apply Yc en17);exact za;exact rfl;exactλ_ hw=>(V7 ht hw))|((first|apply Yb en23|apply Yc en23);exact za;exact rfl;exactλ_ hw=>(p1 (hgM zm) hw))|refine zgd ?_|(refine zge ?_ ?_<;>intro _<;>try exact zo)|fail)
   apply Yh H
   ·intro w hw
    have h5:St B w0 [many H] w:=by
     revert w
     exact zk
    exact hop w h5
   apply Yd;exact rfl;exact rfl;exact⟨rfl,rfl⟩
  ·clear p1
   repeat'(first|((first|apply Yb en17|apply Yc en17);exact za;exact rfl;exactλ_ hw=>(V7 ht hw))|refine zgd ?_|(refine zge ?_ ?_<;>intro _<;>try exact zo)|fail)
   all_goals(
    apply Yh H
    ·intro w hw
     have h5:St B w0 [many H] w:=by
      revert w
      exact zk
     exact hop w h5
    apply Yd;exact rfl;exact rfl;exact⟨rfl,rfl⟩)
 obtain⟨hx40,hsl,hk⟩:=hk
 rw[hk]at p1
 have hok:=UQ.1 hk
 have hpk:=hok.p
 have h24:=Yph hfew hk
 have hl9:=hfew.2.1
 have hsl2:g.s.length=g.l.length:=hok.len
 have hcert:=(Ycf hpk).cert
 have hsch:=(Jh.1 hcert).1
 obtain⟨hnc,-,hsz,-,-⟩:=JW (Vg.1 hsch).whole
 have hfq:YE g.gw.p.q=RqM.fl g.p.q:=Ym4 g.p.q
 have hlen1:1<=g.p.s.len:=(TV (show Zs _=true from hsz)).1
 have hq16:=hfew.1.1.1
 have hc30:g.p.s.cells.length<=1000:=by
  have:=hfew.1.1.2.1
  omega
 have hfl:∀q:List RqM,(RqM.fl q).length=q.length:=λq=>by unfold RqM.fl;rw[Tv]
 have pp:=λ(A4:Option Addr) (cap4:Nat) {H':List HP}{w:World}(hr:Rd B w0 H' A4 ((RqM.fl g.p.q).flatMap flwF)) (hs:Rd B w0 H' g.p.s.A (g.p.s.cells.flatMap celF)) (hx:XIn B w0 H' xA xs) (hw:St B w0 H' w)=>Ykt (PlC.mk A4 cap4 (RqM.fl g.p.q) g.p.s xA xc xs) slots (by dsimp only;rw[hfl];omega) hc30 (by dsimp only;omega) ht hr hs hx hw
 unfold SchM.val at pp
 dsimp only at pp
 repeat'(first|((first|apply Yb en23|apply Yc en23);exact za;exact rfl;exactλ_ hw=>(p1 (hgM zm) hw))|(apply Yf T;exact rfl;exact zm;exact rfl;exact zv;exact rfl;exact rfl)|refine zgd ?_|(refine zge ?_ ?_<;>intro _<;>try exact zo)|fail)
 rename Nat=>g1
 clear p1
 refine Xf 66 6 ?_
 refine Yi (λz:FlM=>[(51,.int .i64 (z.i:Nat)),(50,.int .i64 g.p.q.length),(49,.slice g.p.qA g.p.q.length g.p.qcap),(7,.slice z.A (RqM.fl (g.p.q.take z.i)).length z.cap),(3,.pointer (some ⟨g1,0,none⟩)),(1,.slice xA xs.length xc),(2,.int .i64 slots)])
  (λz=>flws z.A z.cap (RqM.fl (g.p.q.take z.i))::gwyA g1 g::[many H]) (λz=>z.i<=g.p.q.length) (λz=>g.p.q.length-z.i) ⟨0,none,0⟩ (Ti _) ?_ ?_ ?_
 ·exact zu
 ·intro w hw
  have h5:St B w0 (sl 66 6 none 0 0 []::gwyA g1 g::[many H]) w:=by
   revert w
   exact zk
  exact h5
 rintro⟨i,A2,c2⟩ hi K hK
 dsimp only at hi⊢
 have hrd:=(hgM (H':=flws A2 c2 (RqM.fl (g.p.q.take i))::gwyA g1 g::[many H]) (.tail _ (.tail _ (.head _)))).p.q.rd
 have hlen:(RqM.fl (g.p.q.take i)).length=i:=by rw[hfl,TK];omega
 by_cases hlt:i<g.p.q.length
 ·obtain⟨x,hx⟩:∃x,g.p.q[i]? =some x:=⟨_,Ta hlt⟩
  have hst:RqM.fl (g.p.q.take (i+1))=RqM.fl (g.p.q.take i)++[x.f]:=by unfold RqM.fl;rw[TF,hx,RE,TP];rfl
  repeat'(first|(apply Yf T;exact rfl;exact zm;exact rfl;exact zv;exact rfl;exact rfl)|refine zgd ?_|(refine zge ?_ ?_<;>intro _<;>try exact zo)|(refine zgh ?_;intro _)|(refine zgi ?_;intro _ _)|fail)
  rename_i A' cap'
  rw[Uu,<-hst,show(RqM.fl (g.p.q.take i)).length+1=(RqM.fl (g.p.q.take (i+1))).length from by rw[hst];simp]
  apply hK ⟨i+1,A',cap'⟩
  ·show i+1<=_
   omega
  ·dsimp only;omega
  ·exact zu
  ·exact zk
 obtain rfl:i=g.p.q.length:=by omega
 rw[TL]
 clear hK hrd
 repeat'(first|(apply Yf T;exact rfl;exact zm;exact rfl;exact zv;exact rfl;exact rfl)|refine zgc ?_|(refine zge ?_ ?_<;>intro _<;>try exact zo)|fail)
 apply Yg _ en25
 exact za
 exact rfl
 exactλ_ hw=>(pp A2 c2 (Rd.sl zm) (hgM zm).p.s (hx.mono zk) (hw))
 rintro _ _ ⟨tA,tc,atts,dA,dc,dels,e,rfl,hpo,rfl⟩
 by_cases he:e=0
 rotate_left
 ·repeat'(first|refine zgc ?_|(refine zge ?_ ?_<;>intro _<;>try exact zo)|(refine zgh ?_;intro _)|fail)
  apply Yh H
  ·intro w hw
   have h5:St B w0 [many H] w:=by
    revert w
    exact zk
   exact hop w h5
  apply Yd;exact rfl;exact rfl;exact⟨rfl,rfl⟩
 subst he
 obtain⟨⟨ss,hP⟩,hal,hf32,-,-⟩:=hpo rfl
 have hf32:(Yx 32 (YE g.gw.p.q)).2=0:=by rw[hfq];exact hf32
 have pb:=λ{H':List HP}{w:World}(hin:g.p.n.In B w0 H') (hr:Rd B w0 H' tA (atts.flatMap attF)) (hw:St B w0 H' w)=>Yd1 g.p.n atts hal dA dels.length dc (tc:=tc) hin hr hw
 unfold NetM.val at pb
 repeat'(first|(apply Yf T;exact rfl;exact zm;exact rfl;exact zv;exact rfl;exact rfl)|refine zgc ?_|(refine zge ?_ ?_<;>intro _<;>try exact zo)|(refine zgh ?_;intro _)|fail)
 rename Nat=>g2
 apply Yg _ en26
 exact za
 exact rfl
 exactλ_ hw=>(pb (hgM zm).p.n (.sl zm) (hw))
 rintro _ _ ⟨out,A5,cap5,rfl,hol,hbr,rfl⟩
 by_cases hz:out=[]/\dels.length<=100
 rotate_left
 ·by_cases hz1:out=[]
  ·have hz2:out.length=0:=by rw[hz1];rfl
   have hz3:¬dels.length<=100:=λh=>hz ⟨hz1,h⟩
   have hdl:=hP.dl
   repeat'(first|(apply Yf T;exact rfl;exact zm;exact rfl;exact zv;exact rfl;exact rfl)|refine zgc ?_|(refine zge ?_ ?_<;>intro _<;>try exact zo)|fail)
   apply Yh H
   ·intro w hw
    have h5:St B w0 [many H] w:=by
     revert w
     exact zk
    exact hop w h5
   apply Yd;exact rfl;exact rfl;exact⟨rfl,rfl⟩
  ·have hz2:=NI.2 hz1
   repeat'(first|refine zgc ?_|(refine zge ?_ ?_<;>intro _<;>try exact zo)|fail)
   apply Yh H
   ·intro w hw
    have h5:St B w0 [many H] w:=by
     revert w
     exact zk
    exact hop w h5
   apply Yd;exact rfl;exact rfl;exact⟨rfl,rfl⟩
 obtain⟨rfl,hdl⟩:=hz
 have hbr:=hbr hnc
 have hno:∀(k:KL) b,WU g.gw.p.n k=some b->brO b (osK atts k) 0=true->False:=λk b h h'=>by
  obtain⟨x,hx,-⟩:=hbr k b h h'
  cases hx
 have hpl:=hP.pl
 rw[<-hfq]at hpl
 obtain⟨hgd,hid⟩:=UV hf32
 have hrel:=Yp7 (λf hf=>Ygc (hgd f hf)) hid hpl
 have hdok:∀f∈YE g.gw.p.q,DelOk f dels:=λf hf x hx hxf=>by
  have h1:=hrel f hf x hx hxf
  have h2:=Zz (hgd f hf)
  have h3:=RH h2.1.1 h1.1
  have h4:0<=x.2.1*f.2.2.2.1:=SD h1.1 (by omega)
  have h5:=h1.2.1
  unfold Yn phaF perF at h5⊢
  omega
 have hlen0:([]:List BrM).length=0:=rfl
 repeat'(first|(apply Yf T;exact rfl;exact zm;exact rfl;exact zv;exact rfl;exact rfl)|refine zgc ?_|(refine zge ?_ ?_<;>intro _<;>try exact zo)|fail)
 refine Yi (λi:Nat=>[(91,.int .i64 (i:Nat)),(90,.int .i64 g.l.length),(89,.slice g.lA g.l.length g.lcap),(10,.pointer (some ⟨g2,0,none⟩)),(3,.pointer (some ⟨g1,0,none⟩)),(2,.int .i64 slots)])
  (λ_=>gwyA g1 g::blk g2 (.cells #[.slice tA atts.length tc,.slice dA dels.length dc] 73 (0,0))::plD dA dc dels::[many H]) (λi=>i<=g.l.length) (λi=>g.l.length-i) 0 (Ti _) ?_ ?_ ?_
 ·exact zu
 ·exact zk
 rintro i hi K hK
 dsimp only at hi⊢
 by_cases hlt:i<g.l.length
 rotate_left
 ·repeat'(first|refine zgc ?_|(refine zge ?_ ?_<;>intro _<;>try exact zo)|fail)
  apply Yh H
  ·intro w hw
   have h5:St B w0 [many H] w:=by
    revert w
    exact zk
   exact hop w h5
  apply Yd;exact rfl;exact rfl;exact⟨rfl,rfl⟩
 obtain⟨l,hl⟩:∃l,g.l[i]? =some l:=⟨_,Ta hlt⟩
 obtain⟨s,hs⟩:∃s,g.s[i]? =some s:=⟨_,Ta (by omega)⟩
 obtain⟨b,hb,hb1,hb2,hr⟩:=YoC (g:=g.gw) hok hl hs
 obtain⟨h32,hs1,hs2,hs3,hs4⟩:=U5 hr
 obtain⟨-,hP,hph,hA⟩:=Jn h32
 obtain⟨y,hy,f1,f2,-⟩:=Yaf (show g.gw.s.length=g.gw.l.length from hok.len) hl
 obtain rfl:y=s:=Tn (hy.symm.trans hs)
 rw[hok.fl]at f1 f2
 have hkeep:=λ{t u:Int}(ht:t<slots) (hu:AgeR (Y6 l y) (Xk l y) dels t u)=>Yng hok hl hs hpl hf32 hlen1 hno ht hu
 rw[hb]at hkeep
 dsimp only at hkeep
 have p3:=λ{H':List HP}{w:World}(hg:g.In B w0 H') (hw:St B w0 H' w)=>p2 l hg hw
 have p4:=λ{H':List HP}{w:World}(hd:Rd B w0 H' dA (dels.flatMap delF)) (hw:St B w0 H' w)=>Yj6 l y hr (hgd _ f1) (hgd _ f2) dels (hdok _ f1) (hdok _ f2) (by omega) slots (by omega) (dc:=dc) hd hw
 rw[hb]at p3
 unfold lopV splV at p4
 have hrl:=(hgM (H':=gwyA g1 g::blk g2 (.cells #[.slice tA atts.length tc,.slice dA dels.length dc] 73 (0,0))::plD dA dc dels::[many H]) (.tail _ (.tail _ (.tail _ (.head _))))).l
 have hrs:=(hgM (H':=gwyA g1 g::blk g2 (.cells #[.slice tA atts.length tc,.slice dA dels.length dc] 73 (0,0))::plD dA dc dels::[many H]) (.tail _ (.tail _ (.tail _ (.head _))))).s
 have hsi:i<g.s.length:=by omega
 repeat'(first|(apply Yf T;exact rfl;exact zm;exact rfl;exact zv;exact rfl;exact rfl)|((first|apply Yb en27|apply Yc en27);exact za;exact rfl;exactλ_ hw=>(p3 (hgM zm) hw))|refine zgd ?_|(refine zge ?_ ?_<;>intro _<;>try exact zo)|(refine zgh ?_;intro _)|fail)
 rename_i gl gs
 apply Yg _ en28
 exact za
 exact rfl
 exactλ_ hw=>(p4 (.sl zm) (hw))
 rintro _ _ ⟨A6,cap6,out,rfl,⟨ho1,ho2⟩,rfl⟩
 obtain⟨most,hmost⟩:∃m,l.2.2.2.2.1+y.1+b-1=m:=⟨_,rfl⟩
 rw[hmost]at hkeep⊢
 repeat'(first|refine zgc ?_|(refine zge ?_ ?_<;>intro _<;>try exact zo)|fail)
 refine Yi (λj:Nat=>[(125,.int .i64 (j:Nat)),(124,.int .i64 out.length),(123,.slice A6 out.length cap6),(15,.int .i64 most),(13,.pointer (some ⟨gl,0,none⟩)),(14,.pointer (some ⟨gs,0,none⟩)),(91,.int .i64 (i:Nat)),(90,.int .i64 g.l.length),(89,.slice g.lA g.l.length g.lcap),(10,.pointer (some ⟨g2,0,none⟩)),(3,.pointer (some ⟨g1,0,none⟩)),(2,.int .i64 slots)])
  (λ_=>nrs A6 cap6 out::lopA gl l::blk gs (.cells #[.int .i64 y.1,.int .i64 y.2] 81 (0,0))::gwyA g1 g::blk g2 (.cells #[.slice tA atts.length tc,.slice dA dels.length dc] 73 (0,0))::plD dA dc dels::[many H]) (λj=>j<=out.length) (λj=>out.length-j) 0 (Ti _) ?_ ?_ ?_
 ·exact zu
 ·exact zk
 rintro j hj K2 hK2
 dsimp only at hj⊢
 by_cases hlt2:j<out.length
 rotate_left
 ·clear hK2
  repeat'(first|refine zgc ?_|(refine zge ?_ ?_<;>intro _<;>try exact zo)|fail)
  apply hK (i+1)
  ·omega
  ·omega
  ·exact zu
  ·exact zk
 obtain⟨v,hv⟩:∃v,out[j]? =some v:=⟨_,Ta hlt2⟩
 obtain⟨u,hu,hvu⟩:=ho2 j v hv
 have hfin:=hkeep (by omega) hu
 have hok2:v<=most/\(0<=v\/(j:Int)<l.2.2.2.2.2.1+y.1+y.2):=by
  by_cases hu0:u=0
  ·rw[Tm hu0]at hvu
   have:=hfin.1 hu0
   omega
  ·rw[Tf hu0]at hvu
   have:=hfin.2 hu0
   omega
 clear hfin hkeep hvu hu ho2 hK
 repeat'(first|refine zgd ?_|(refine zgf ?_ ?_<;>intro _<;>try exact zo)|fail)
 all_goals(
  apply hK2 (j+1)
  ·omega
  ·omega
  ·exact zu
  ·exact zk)
open Go.ChangeShapes Go.WideShapes Go.ChangeAt Go.RowKit Go.Eng Go.Nw Go.Rt
def gwF(g:GwM):List Value:=plnF g.p++[.slice g.lA g.l.length g.lcap,.slice g.sA g.s.length g.scap]
section
variable {H:Type}{enc:TypeId×Value->H}{W:World}{spare:Nat->Bool}{held:Bool}
abbrev LopG(l:Lop):Prop:=I64 l.1/\I64 l.2.1/\I64 l.2.2.1/\I64 l.2.2.2.1/\I64 l.2.2.2.2.1/\I64 l.2.2.2.2.2.1/\I64 l.2.2.2.2.2.2
structure GwG(W:World)(g:GwM):Prop where
 p:PlnG W g.p
 l:SlG W lopF LopG ⟨g.lA,g.lcap,g.l⟩
 s:SlG W splF (λs:Spl=>I64 s.1/\I64 s.2) ⟨g.sA,g.scap,g.s⟩
theorem Yr3:Opn enc Tryz.prog W spare held 79 lopF LopG:=
 Jo (XJ (ts:=[3,3,3,3,3,3,3]) (by kernel_rfl) (Yo op_i (Yo op_i (Yo op_i (Yo op_i (Yo op_i (Yo op_i (Yo op_i ZS)))))))) (λx=>(x.1,x.2.1,x.2.2.1,x.2.2.2.1,x.2.2.2.2.1,x.2.2.2.2.2.1,x.2.2.2.2.2.2.1)) (λ_=>rfl) (λ_ h=>⟨h.1,h.2.1,h.2.2.1,h.2.2.2.1,h.2.2.2.2.1,h.2.2.2.2.2.1,h.2.2.2.2.2.2.1⟩)
theorem Yp2:Opn enc Tryz.prog W spare held 81 splF (λs:Spl=>I64 s.1/\I64 s.2):=
 Jo (XJ (ts:=[3,3]) (by kernel_rfl) (Yo op_i (Yo op_i ZS))) (λx=>(x.1,x.2.1)) (λ_=>rfl) (λ_ h=>⟨h.1,h.2.1⟩)
theorem Ykn:Opn enc Tryz.prog W spare held 54 gwF (GwG W):=
 Jo (XJ (ts:=[35,51,52]) (by kernel_rfl) (Yo Yr4 (Yo (XV (q:=7) Tryz.underlying51 (by kernel_rfl) (by decide) Yr3) (Yo (XV (q:=2) Tryz.underlying52 (by kernel_rfl) (by decide) Yp2) ZS))))
  (λx=>⟨x.1,x.2.1.A,x.2.1.cap,x.2.1.xs,x.2.2.1.A,x.2.2.1.cap,x.2.2.1.xs⟩) (λx=>by simp[gwF,SlM.val]) (λx h=>⟨h.1,h.2.1,h.2.2.1⟩)
theorem YwW{r:Reach}{b0:Nat}{v:Value}{d:DataW H}{p:List MemPlace}(hv:Value.okWide Tryz.prog W r b0 54 v)(h:DataW.Trod enc Tryz.prog W 0 spare held 54 v d p):∃n:GwM,v=n.val/\GwG W n:=by
 obtain⟨cs,rfl,_⟩:=okWide_struct Tryz.underlying54 hv
 obtain⟨fuel,hf⟩:=h
 obtain⟨n,h1,h2⟩:=Ykn fuel _ _ hf
 refine⟨n,?_,h2⟩
 have:cs=(gwF n).toArray:=by rw[<-h1];simp[Value.cells]
 rw[this];rfl
theorem GwG.bg{g:GwM}{K:List HP}(h:GwG W g):g.Bg W.heap.size W K:=
 ⟨h.p.bg,h.l.old.rd,h.s.old.rd,TY h.l.len maxL,TY h.s.len maxL,h.l.cap,h.s.cap⟩
end
end Go.Proofs.YtjlgijpmnfabcaaGreatDoor
