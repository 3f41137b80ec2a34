/- Lemmas. -/
import Derived.Shelf.SlSortCmp.NoneTotal
import Derived.Test.YtambgjgljcadlaaGreatDoorQ22
set_option maxRecDepth 100000
set_option maxHeartbeats 8000000
set_option linter.all false
namespace Go.Proofs.YtambgjgljcadlaaGreatDoor
open Go.RowKit Go.Eng Go.Nw Go.Rt
theorem Yau:∀{l:List Lop}{x:Lop},(l.Pairwise λa b=>a.1<b.1)->x∈l->l[posL l x.1]? =some x
 |y::l,x,hp,hx=>by
  obtain⟨h1,h2⟩:=Si.1 hp
  unfold posL
  by_cases hy:y.1<x.1
  ·rw[List.takeWhile_cons_of_pos (by simpa using hy),TG,SV]
   rcases TI.1 hx with rfl|hx
   ·exact absurd hy (Nk _)
   ·exact Yau h2 hx
  ·rw[List.takeWhile_cons_of_neg (by simpa using hy)]
   rcases TI.1 hx with rfl|hx
   ·rfl
   ·exact absurd (h1 x hx) hy
variable {α:Type}{k:Nat}
theorem JO{l:List α}{x:α}(h:l[k]? =some x):l=l.take k++x::l.drop (k+1):=by
 obtain⟨hk,rfl⟩:=Tc.1 h
 rw[<-Rm hk,Rk]
variable {q:List Rqs}{x:Rqs}
theorem Ypw{i:Nat}(hp:(Ys q).Pairwise λa b=>a.1<b.1)(hi:q[i]? =some x)(y:Rqs):y∈delQ q i↔y∈q/\y.1.1≠x.1.1:=by
 have hs:=JO hi
 unfold Ys at hp
 rw[Nb,hs]at hp
 obtain⟨-,h2,h3⟩:=Ns.1 hp
 obtain⟨h4,-⟩:=Si.1 h2
 unfold delQ
 constructor
 ·intro h
  have hy:y∈q:=by
   rw[hs,TJ,TI]
   rcases TJ.1 h with h|h
   ·exact .inl h
   ·exact .inr (.inr h)
  refine⟨hy,?_⟩
  rcases TJ.1 h with h|h
  ·have:=h3 y h x (by simp);omega
  ·have:=h4 y h;omega
 ·rintro⟨h,hne⟩
  rw[hs,TJ,TI]at h
  rcases h with h|rfl|h
  ·exact RL _ h
  ·exact absurd rfl hne
  ·exact TS _ h
variable {p:Pln}{id:Int}
theorem Wh{q:Pln}(h:chkP p=0)(hw:wdrP p id=(some q,0)):chkP q=0/\q.n=p.n/\q.s=Jz p.s id/\∀y,y∈q.q↔y∈p.q/\y.1.1≠id:=by
 rcases Ybf h id with⟨-,h1⟩|⟨i,x,q',h1,rfl,h2,h3,h4,-⟩
 ·rw[hw]at h1;cases h1
 ·obtain rfl:q'=q:=by rw[hw]at h2;exact(Tv (TE Prod.fst h2)).symm
  refine⟨h3.chk,by rw[h4],by rw[h4],λy=>?_⟩
  rw[show q'.q=delQ p.q i by rw[h4]]
  exact Ypw (YcP h) h1 y
theorem Ymy(h:chkP p=0)(hx:x∈p.q):∃q,wdrP p x.1.1=(some q,0):=by
 rcases Ybf h x.1.1 with⟨h1,-⟩|⟨i,y,q,-,-,h2,-⟩
 ·exact absurd rfl (h1 x hx)
 ·exact⟨q,h2⟩
variable {f:Flw}
theorem U5:f∈Ys q↔∃y∈q,y.1=f:=by unfold Ys;exact TD
theorem Ys3{g:Flw}(h:chkP p=0)(hf:f∈Ys p.q)(hg:g∈Ys p.q)(h1:f.1=2*id)(h2:g.1=2*id+1):
 ∃q1 q2,wdrP p (2*id)=(some q1,0)/\wdrP q1 (2*id+1)=(some q2,0)/\chkP q2=0/\q2.n=p.n/\q2.s=Jz (Jz p.s (2*id)) (2*id+1)/\∀y,y∈q2.q↔y∈p.q/\y.1.1≠2*id/\y.1.1≠2*id+1:=by
 obtain⟨x,hx,rfl⟩:=U5.1 hf
 obtain⟨z,hz,rfl⟩:=U5.1 hg
 obtain⟨q1,w1⟩:=Ymy h hx
 rw[h1]at w1
 obtain⟨c1,n1,s1,m1⟩:=Wh h w1
 obtain⟨q2,w2⟩:=Ymy (x:=z) c1 ((m1 z).2 ⟨hz,by omega⟩)
 rw[h2]at w2
 obtain⟨c2,n2,s2,m2⟩:=Wh c1 w2
 refine⟨q1,q2,w1,w2,c2,n2.trans n1,by rw[s2,s1],λy=>?_⟩
 rw[m2,m1,and_assoc]
theorem Yfk{l:List Lop}{s:List Spl}(hl:s.length=l.length){x:Lop}(h:l[k]? =some x):∃y,s[k]? =some y/\JV x y∈YS l s/\JW x y∈YS l s/\YS l s=YS (l.take k) (s.take k)++JV x y::JW x y::YS (l.drop (k+1)) (s.drop (k+1)):=by
 have hk:=(Tc.1 h).1
 obtain⟨y,hy⟩:∃y,s[k]? =some y:=⟨_,Ta (by omega)⟩
 have hlen:(l.take k).length=(s.take k).length:=by rw[TA,TA,hl]
 have he:YS l s=YS (l.take k) (s.take k)++JV x y::JW x y::YS (l.drop (k+1)) (s.drop (k+1)):=by
  have h1:YS l s=YS (l.take k++x::l.drop (k+1)) (s.take k++y::s.drop (k+1)):=by rw[<-JO h,<-JO hy]
  rw[h1,J6 hlen];rfl
 refine⟨y,hy,?_,?_,he⟩<;>(rw[he];simp)
theorem Yai{l:List α}(h:k<l.length):(Y4 l k).length+1=l.length:=by
 unfold Y4;rw[Tq,TA,TZ];omega
theorem Ygq{g:Gwy}(hg:GwOk g)(hh:hasL g.l id=true):∃q1 q2,wdrP g.p (2*id)=(some q1,0)/\wdrP q1 (2*id+1)=(some q2,0)/\chkP q1=0/\GwOk ⟨q2,Y4 g.l (posL g.l id),Y4 g.s (posL g.l id)⟩/\(Y4 g.l (posL g.l id)).length+1=g.l.length/\
 disG g id=(some ⟨q2,Y4 g.l (posL g.l id),Y4 g.s (posL g.l id)⟩,0)/\q2.s=Jz (Jz g.p.s (2*id)) (2*id+1)/\q2.n=g.p.n/\∀y,y∈q2.q↔y∈g.p.q/\y.1.1≠2*id/\y.1.1≠2*id+1:=by
 obtain⟨hn,h8,hfit,hpw⟩:=Zw.1 hg.l
 unfold hasL at hh
 obtain⟨x,hx,he⟩:=TR.1 hh
 obtain rfl:=TY he
 have hat:=Yau hpw hx
 have hk:=(Tc.1 hat).1
 obtain⟨y,hy,f1,f2,hfl⟩:=Yfk hg.len hat
 rw[hg.fl]at f1 f2
 obtain⟨q1,q2,w1,w2,c2,n2,s2,m2⟩:=Ys3 (id:=x.1) hg.p f1 f2 rfl rfl
 have hsp:=JO hat
 have hpw2:=hpw
 rw[hsp]at hpw2
 obtain⟨-,p2,p3⟩:=Ns.1 hpw2
 obtain⟨p4,-⟩:=Si.1 p2
 have hlen:(g.l.take (posL g.l x.1)).length=(g.s.take (posL g.l x.1)).length:=by rw[TA,TA,hg.len]
 have hsub:(Y4 g.l (posL g.l x.1)).Sublist g.l:=by
  unfold Y4
  have h1:(g.l.take (posL g.l x.1)++g.l.drop (posL g.l x.1+1)).Sublist (g.l.take (posL g.l x.1)++x::g.l.drop (posL g.l x.1+1)):=List.Sublist.append (List.Sublist.refl _) (List.sublist_cons_self _ _)
  rwa [<-hsp]at h1
 have hlk:=Yai hk
 have hls:=Yai (l:=g.s) (k:=posL g.l x.1) (by rw[hg.len];exact hk)
 have hgw:GwOk ⟨q2,Y4 g.l (posL g.l x.1),Y4 g.s (posL g.l x.1)⟩:=by
  refine⟨c2,?_,?_,?_,?_⟩
  ·show(ZP q2.n.nodes _).2=0
   rw[n2]
   exact Zw.2 ⟨hn,by show(Y4 g.l _).length<=8;omega,λf hf=>hfit f (hsub.subset hf),hpw.sublist hsub⟩
  ·show(Y4 g.s _).length=(Y4 g.l _).length
   have:=hg.len
   omega
  ·show badS (Y4 g.l _) (Y4 g.s _)=false
   have h1:=hg.fit
   rw[hsp,JO hy,Vi hlen]at h1
   unfold Y4
   rw[Vi hlen]
   simp only[badS,Nv]at h1
   rw[h1.1,h1.2.2];rfl
  ·refine Qc (k:=λf:Flw=>f.1) (YaV (hpw.sublist hsub)) (YcP c2) λf=>?_
   show f∈YS (Y4 g.l _) (Y4 g.s _)↔_
   have hm:f∈Ys q2.q↔f∈Ys g.p.q/\f.1≠2*x.1/\f.1≠2*x.1+1:=by
    rw[U5,U5]
    constructor
    ·rintro⟨z,hz,rfl⟩
     obtain⟨z1,z2⟩:=(m2 z).1 hz
     exact⟨⟨z,z1,rfl⟩,z2⟩
    ·rintro⟨⟨z,hz,rfl⟩,h2⟩
     exact⟨z,(m2 z).2 ⟨hz,h2⟩,rfl⟩
   rw[hm,<-hg.fl,hfl]
   unfold Y4
   rw[J6 hlen]
   simp only[TJ,TI]
   have hA:f∈YS (g.l.take (posL g.l x.1)) (g.s.take (posL g.l x.1))->f.1≠2*x.1/\f.1≠2*x.1+1:=λh=>by
    obtain⟨z,hz,e⟩:=O1 h
    have:=p3 z hz x (by simp)
    omega
   have hB:f∈YS (g.l.drop (posL g.l x.1+1)) (g.s.drop (posL g.l x.1+1))->f.1≠2*x.1/\f.1≠2*x.1+1:=λh=>by
    obtain⟨z,hz,e⟩:=O1 h
    have:=p4 z hz
    omega
   constructor
   ·rintro(h|h)
    ·exact⟨.inl h,hA h⟩
    ·exact⟨.inr (.inr (.inr h)),hB h⟩
   ·rintro⟨h|rfl|rfl|h,h1,h2⟩
    ·exact .inl h
    ·exact absurd rfl h1
    ·exact absurd rfl h2
    ·exact .inr h
 refine⟨q1,q2,w1,w2,(Wh hg.p w1).1,hgw,hlk,?_,s2,n2,m2⟩
 unfold disG
 rw[Td (λe=>e (XO.2 hg)),Td (by unfold hasL;rw[hh];simp),w1]
 show(some (Gwy.mk (YkQ (wdrP q1 (2*x.1+1)) Yrx) _ _),(0:Int))=_
 rw[w2];rfl
structure GwM where
 p:PnM
 lA:Option Addr
 lcap:Nat
 l:List Lop
 sA:Option Addr
 scap:Nat
 s:List Spl
def GwM.val(g:GwM):Value:=.agg #[.int .i64 g.p.n.nodes,.slice g.p.n.pA g.p.n.rows.length g.p.n.pcap,.int .i64 g.p.n.noise,.int .i64 g.p.n.thr,.slice g.p.n.lA g.p.n.links.length g.p.n.lcap,.slice g.p.n.mA g.p.n.margin.length g.p.n.mcap,.slice g.p.qA g.p.q.length g.p.qcap,.int .i64 g.p.s.len,.int .i64 g.p.s.off,.slice g.p.s.A g.p.s.cells.length g.p.s.cap,.slice g.p.cA g.p.c.length g.p.ccap,.slice g.p.fA g.p.f.length g.p.fcap,.slice g.lA g.l.length g.lcap,.slice g.sA g.s.length g.scap]
def GwM.gw(g:GwM):Gwy:=⟨g.p.pln,g.l,g.s⟩
structure GwM.In(B:Nat)(w0:World)(H:List HP)(g:GwM):Prop where
 p:g.p.In B w0 H
 l:Rd B w0 H g.lA (g.l.flatMap lopF)
 s:Rd B w0 H g.sA (g.s.flatMap splF)
 ll:g.l.length<=1000
 sl:g.s.length<=1000
 lc:g.l.length<=g.lcap
 sc:g.s.length<=g.scap
abbrev gwyA(g:Nat)(m:GwM):HP:=blk g (.cells #[.int .i64 m.p.n.nodes,.slice m.p.n.pA m.p.n.rows.length m.p.n.pcap,.int .i64 m.p.n.noise,.int .i64 m.p.n.thr,.slice m.p.n.lA m.p.n.links.length m.p.n.lcap,.slice m.p.n.mA m.p.n.margin.length m.p.n.mcap,.slice m.p.qA m.p.q.length m.p.qcap,.int .i64 m.p.s.len,.int .i64 m.p.s.off,.slice m.p.s.A m.p.s.cells.length m.p.s.cap,.slice m.p.cA m.p.c.length m.p.ccap,.slice m.p.fA m.p.f.length m.p.fcap,.slice m.lA m.l.length m.lcap,.slice m.sA m.s.length m.scap] 75 (0,0))
variable {B:Nat}{w0 w:World}{H:List HP}
theorem GwM.In.mono{H':List HP}{g:GwM}(h:g.In B w0 H)(hH:∀w,St B w0 H' w->St B w0 H w):g.In B w0 H':=⟨h.p.mono hH,h.l.mono hH,h.s.mono hH,h.ll,h.sl,h.lc,h.sc⟩
theorem YpT{a b:Flw}(h:flwF a=flwF b):a=b:=by
 obtain⟨a1,a2,a3,a4,a5,a6⟩:=a
 obtain⟨b1,b2,b3,b4,b5,b6⟩:=b
 simpa [flwF]using h
theorem Yic(l m:List Flw)(hlen:l.length<=1000000000000){A A2:Option Addr}{cap cap2:Nat}(hr:Rd B w0 H A (l.flatMap flwF))(hr2:Rd B w0 H A2 (m.flatMap flwF))(hw:St B w0 H w):
 CX B w0 59 [.slice A l.length cap,.slice A2 m.length cap2] w λu K=>u=.bool (decide (l=m))/\K=H:=by
 refine Yc Tryz.func59 Tryz.ntmps59 rfl rfl hw ?_
 by_cases hll:l.length=m.length
 rotate_left
 ·repeat'(first|refine zgb ?_|(refine zge ?_ ?_<;>intro _<;>try exact zo)|fail)
  apply Yd;exact rfl;exact rfl
  exact⟨by rw[Tn λe=>hll (by rw[e])],rfl⟩
 repeat'(first|refine zgb ?_|(refine zge ?_ ?_<;>intro _<;>try exact zo)|fail)
 refine Yj (λ(k:Nat)=>[(13,.int .i64 k),(12,.int .i64 l.length),(0,.slice A l.length cap),(1,.slice A2 m.length cap2)]) (λ_=>H) (λk=>k<=l.length/\l.take k=m.take k) (λk=>l.length-k) 0 ⟨Tj _,by simp⟩ ?_ (λw hw=>hw) ?_
 ·exact zu
 rintro k ⟨hk,hi⟩ K hK
 by_cases hlt:k<l.length
 ·obtain⟨a,ha⟩:∃a,l[k]? =some a:=⟨_,Ta hlt⟩
  obtain⟨b,hb⟩:∃b,m[k]? =some b:=⟨_,Ta (by omega)⟩
  repeat'(first|(apply OS (xs:=flwF a) (ys:=flwF b);(iterate 3 exact rfl);kernel_rfl;kernel_rfl;all_goals intro _)|refine zgd ?_|(refine zge ?_ ?_<;>intro _<;>try exact zo)|fail)
  ·rename_i h
   apply Yd;exact rfl;exact rfl
   exact⟨by rw[Tn λe=>by rw[e,hb]at ha;exact h (by rw[Tv ha])],rfl⟩
  ·rename_i h
   apply hK (k+1)
   ·exact⟨by omega,by rw[TM,TM,ha,hb,hi,YpT h]⟩
   ·omega
   ·exact zu
   ·exactλw hw=>hw
 ·repeat'(first|refine zgc ?_|(refine zge ?_ ?_<;>intro _<;>try exact zo)|fail)
  apply Yd;exact rfl;exact rfl
  rw[TL (by omega),TL (by omega)]at hi
  exact⟨by rw[Ti hi],rfl⟩
theorem Ydf:∀(l:List Lop) (s:List Spl),(YS l s).length<=2*l.length
 |_::l,_::s=>by
  have:=Ydf l s
  simp only[YS,TG]
  omega
 |[],_=>by simp[YS]
 |_::_,[]=>by simp[YS]
theorem YrX{l:List Lop}{s:List Spl}{k:Nat}{a:Lop}{b:Spl}(hl:s.length=l.length)(ha:l[k]? =some a)(hb:s[k]? =some b):
 YS (l.take (k+1)) (s.take (k+1))=YS (l.take k) (s.take k)++[JV a b,JW a b]/\(XW a b≠0->badS l s=true)/\(badS (l.take k) (s.take k)=false->XW a b=0->badS (l.take (k+1)) (s.take (k+1))=false):=by
 have hlen:(l.take k).length=(s.take k).length:=by rw[TA,TA,hl]
 rw[TM,TM,ha,hb,RY,RY]
 refine⟨by rw[J6 hlen];rfl,λh=>?_,λh1 h2=>?_⟩
 ·rw[JO ha,JO hb,Vi hlen]
  simp[badS,h]
 ·rw[Vi hlen,h1]
  simp[badS,h2]
theorem XC(g:GwM)(ht:TabsB B w0)(hg:g.In B w0 H)(hw:St B w0 H w):
 CX B w0 23 [g.val] w λv K=>v=.int .i64 (chkG g.gw)/\K=H:=by
 refine Yc Tryz.func23 Tryz.ntmps23 rfl rfl hw ?_
 have hop:∀w,St B w0 [many H] w->St B w0 H w:=λw hw=>hw.perm (.openT H)
 have hgM:∀{H':List HP},many H∈H'->g.In B w0 H':=λhm=>hg.mono λw hw=>hw.inM hm
 have p1:=λ{H':List HP}{w:World}(hg:g.In B w0 H') (hw:St B w0 H' w)=>VJ g.p ht hg.p hw
 have p2:=λ{H':List HP}{w:World}(hg:g.In B w0 H') (hw:St B w0 H' w)=>Ow g.p.n.nodes g.l (Rh hg.ll (by decide)) (cap:=g.lcap) hg.l hw
 have p3:=λ(a:Lop) (b:Spl) {H':List HP}{w:World}(hw:St B w0 H' w)=>YbE a b hw
 have hll:=hg.ll
 have hsl:=hg.sl
 unfold GwM.val
 unfold PnM.val at p1
 unfold chkG
 rw[show g.gw.p=g.p.pln from rfl,show g.gw.l=g.l from rfl,show g.gw.s=g.s from rfl,show g.p.pln.n.nodes=g.p.n.nodes from rfl]
 refine Xf [many H] (λw hw=>hw.perm (.closeT H)) ?_
 by_cases hk:chkP g.p.pln=0
 rotate_left
 ·rw[Tm hk]
  repeat'(first|(apply Ye T;exact rfl;exact zm;exact rfl;exact zv;exact rfl;exact rfl)|refine zgb ?_|(refine zgh ?_;intro _)|fail)
  first|apply Ya en9|apply Yb en9
  exact za
  exact rfl
  exactλ_ hw=>(p1 (hgM zm) hw)
  repeat'(first|refine zgb ?_|(refine zge ?_ ?_<;>intro _<;>try exact zo)|fail)
  apply Yi H
  ·intro w hw
   have h5:St B w0 [many H] w:=by
    revert w
    exact zk
   exact hop w h5
  apply Yd;exact rfl;exact rfl;exact⟨rfl,rfl⟩
 rw[Td (λe=>e hk)]
 rw[hk]at p1
 obtain⟨⟨li,le⟩,hL⟩:∃R,ZP g.p.n.nodes g.l=R:=⟨_,rfl⟩
 rw[hL]at p2⊢
 dsimp only at p2⊢
 by_cases hle:le=0
 rotate_left
 ·rw[Tm hle]
  repeat'(first|(apply Ye T;exact rfl;exact zm;exact rfl;exact zv;exact rfl;exact rfl)|((first|apply Ya en9|apply Yb en9);exact za;exact rfl;exactλ_ hw=>(p1 (hgM zm) hw))|((first|apply Ya en57|apply Yb en57);exact za;exact rfl;exactλ_ hw=>(p2 (hgM zm) hw))|refine zgc ?_|(refine zge ?_ ?_<;>intro _<;>try exact zo)|(refine zgh ?_;intro _)|fail)
  apply Yi H
  ·intro w hw
   have h5:St B w0 [many H] w:=by
    revert w
    exact zk
   exact hop w h5
  apply Yd;exact rfl;exact rfl;exact⟨rfl,rfl⟩
 rw[Td (λe=>e hle)]
 subst hle
 by_cases hlen:g.s.length=g.l.length
 rotate_left
 ·rw[Tm hlen]
  repeat'(first|(apply Ye T;exact rfl;exact zm;exact rfl;exact zv;exact rfl;exact rfl)|((first|apply Ya en9|apply Yb en9);exact za;exact rfl;exactλ_ hw=>(p1 (hgM zm) hw))|((first|apply Ya en57|apply Yb en57);exact za;exact rfl;exactλ_ hw=>(p2 (hgM zm) hw))|refine zgc ?_|(refine zge ?_ ?_<;>intro _<;>try exact zo)|(refine zgh ?_;intro _)|fail)
  apply Yi H
  ·intro w hw
   have h5:St B w0 [many H] w:=by
    revert w
    exact zk
   exact hop w h5
  apply Yd;exact rfl;exact rfl;exact⟨rfl,rfl⟩
 rw[Td (λe=>e hlen)]
 have hq16:g.p.q.length<=16:=by
  have h1:(g.p.q.map RqM.rq).length<=16:=(YgZ (YcL (YcO hk))).1
  rwa [TC]at h1
 repeat'(first|(apply Ye T;exact rfl;exact zm;exact rfl;exact zv;exact rfl;exact rfl)|((first|apply Ya en9|apply Yb en9);exact za;exact rfl;exactλ_ hw=>(p1 (hgM zm) hw))|((first|apply Ya en57|apply Yb en57);exact za;exact rfl;exactλ_ hw=>(p2 (hgM zm) hw))|refine zgc ?_|(refine zge ?_ ?_<;>intro _<;>try exact zo)|(refine zgh ?_;intro _)|fail)
 rename Nat=>g1
 clear p1 p2
 refine XT 53 6 ?_
 refine Yj (λz:FlM=>[(42,.int .i64 (z.i:Nat)),(41,.int .i64 g.l.length),(40,.slice g.lA g.l.length g.lcap),(6,.slice z.A (YS (g.l.take z.i) (g.s.take z.i)).length z.cap),(7,.slice none 0 0),(1,.pointer (some ⟨g1,0,none⟩))])
  (λz=>flws z.A z.cap (YS (g.l.take z.i) (g.s.take z.i))::gwyA g1 g::[many H]) (λz=>z.i<=g.l.length/\badS (g.l.take z.i) (g.s.take z.i)=false) (λz=>g.l.length-z.i) ⟨0,none,0⟩ ⟨Tj _,by rw[ND];rfl⟩ ?_ ?_ ?_
 ·exact zu
 ·intro w hw
  have h5:St B w0 (sl 53 6 none 0 0 []::gwyA g1 g::[many H]) w:=by
   revert w
   exact zk
  exact h5
 rintro⟨i,A1,c1⟩ ⟨hi,hb⟩ K hK
 dsimp only at hi hb⊢
 have hfl:=Ydf (g.l.take i) (g.s.take i)
 rw[TA]at hfl
 by_cases hlt:i<g.l.length
 ·obtain⟨a,ha⟩:∃a,g.l[i]? =some a:=⟨_,Ta hlt⟩
  obtain⟨b,hb2⟩:∃b,g.s[i]? =some b:=⟨_,Ta (by omega)⟩
  obtain⟨hst,hbad,hnext⟩:=YrX hlen ha hb2
  have p4:=λ{H':List HP}{w:World}(hw:St B w0 H' w)=>p3 a b hw
  unfold lopV splV at p4
  have hra:=(hgM (H':=flws A1 c1 (YS (g.l.take i) (g.s.take i))::gwyA g1 g::[many H]) (.tail _ (.tail _ (.head _)))).l
  have hrb:=(hgM (H':=flws A1 c1 (YS (g.l.take i) (g.s.take i))::gwyA g1 g::[many H]) (.tail _ (.tail _ (.head _)))).s
  by_cases hr:XW a b=0
  rotate_left
  ·rw[Tm (hbad hr)]
   repeat'(first|(apply Ye T;exact rfl;exact zm;exact rfl;exact zv;exact rfl;exact rfl)|refine zgd ?_|(refine zge ?_ ?_<;>intro _<;>try exact zo)|(refine zgh ?_;intro _)|fail)
   apply YK [0,1,2,3,4,5,6,7,8,9,10,11] [] [true,true,true,true]
   kernel_rfl
   kernel_rfl
   exact zy
   (simp only[Yg,nthO];rfl)
   exact rfl
   repeat'(first|(apply Ye T;exact rfl;exact zm;exact rfl;exact zv;exact rfl;exact rfl)|refine zgd ?_|fail)
   apply Yf _ en58
   exact za
   exact rfl
   exactλ_ hw=>(p4 (hw))
   rintro _ _ ⟨A3,rfl,rfl⟩
   repeat'(first|(apply Yk;try exact zl)|refine zgd ?_|(refine zge ?_ ?_<;>intro _<;>try exact zo)|fail)
   apply Yi H
   ·intro w hw
    have h5:St B w0 [many H] w:=by
     revert w
     exact zk
    exact hop w h5
   apply Yd;exact rfl;exact rfl;exact⟨rfl,rfl⟩
  obtain⟨m,hm⟩:∃m,[JV a b,JW a b]=m:=⟨_,rfl⟩
  have hml:m.length=2:=by rw[<-hm];rfl
  rw[show flsS a b=m from by unfold flsS;rw[Td (λe=>e hr)];exact hm,hr]at p4
  rw[hm]at hst
  have hnb:=hnext hb hr
  generalize YS (g.l.take i) (g.s.take i)=L at hst hfl hra hrb⊢
  repeat'(first|(apply Ye T;exact rfl;exact zm;exact rfl;exact zv;exact rfl;exact rfl)|refine zgd ?_|(refine zge ?_ ?_<;>intro _<;>try exact zo)|(refine zgh ?_;intro _)|fail)
  apply YK [0,1,2,3,4,5,6,7,8,9,10,11] [] [true,true,true,true]
  kernel_rfl
  kernel_rfl
  exact zy
  (simp only[Yg,nthO];rfl)
  exact rfl
  repeat'(first|(apply Ye T;exact rfl;exact zm;exact rfl;exact zv;exact rfl;exact rfl)|refine zgd ?_|fail)
  apply Yf _ en58
  exact za
  exact rfl
  exactλ_ hw=>(p4 (hw))
  rintro _ _ ⟨A3,rfl,rfl⟩
  unfold flws
  repeat'(first|(apply Xs T (f:=flwF) (l2:=m) (e:=53) (size:=6) (xs:=L.flatMap flwF);(iterate 3 exact rfl);exact Rd.sl zm;exact(λ_=>rfl);exact(λ_=>rfl);exact rfl;(intro _ _;exact zd);omega;intro A4 c4)|(apply Yk;try exact zl)|refine zgd ?_|(refine zge ?_ ?_<;>intro _<;>try exact zo)|fail)
  rename_i A4 c4
  apply hK ⟨i+1,A4,c4⟩
  ·exact⟨by show i+1<=_;omega,hnb⟩
  ·dsimp only;omega
  ·dsimp only
   rw[hst,Tq]
   exact zu
  ·intro w hw
   dsimp only
   unfold flws
   rw[hst,Tq,Rw]
   revert w
   exact zk
 obtain rfl:i=g.l.length:=by omega
 rw[TQ,TL (by omega)]at hb hfl
 rw[TQ,TL (l:=g.s) (by omega)]
 rw[Td (show¬badS g.l g.s=true by rw[hb];decide)]
 have hfq:Ys g.p.pln.q=RqM.fl g.p.q:=by
  show(g.p.q.map RqM.rq).map (·.1)=g.p.q.map _
  rw[NI];rfl
 rw[hfq]
 clear hK
 generalize YS g.l g.s=L at hfl⊢
 have hrq:∀{H':List HP},many H∈H'->Rd B w0 H' g.p.qA (g.p.q.flatMap rqF):=λhm=>(hgM hm).p.q.rd
 repeat'(first|(apply Ye T;exact rfl;exact zm;exact rfl;exact zv;exact rfl;exact rfl)|refine zgc ?_|(refine zge ?_ ?_<;>intro _<;>try exact zo)|fail)
 refine XT 53 6 ?_
 refine Yj (λz:FlM=>[(67,.int .i64 (z.i:Nat)),(66,.int .i64 g.p.q.length),(65,.slice g.p.qA g.p.q.length g.p.qcap),(7,.slice z.A (RqM.fl (g.p.q.take z.i)).length z.cap),(6,.slice A1 L.length c1)])
  (λz=>flws z.A z.cap (RqM.fl (g.p.q.take z.i))::flws A1 c1 L::[many H]) (λz=>z.i<=g.p.q.length) (λz=>g.p.q.length-z.i) ⟨0,none,0⟩ (Tj _) ?_ ?_ ?_
 ·exact zu
 ·intro w hw
  have h5:St B w0 (sl 53 6 none 0 0 []::flws A1 c1 L::[many H]) w:=by
   revert w
   exact zk
  exact h5
 rintro⟨i,A2,c2⟩ hi K hK
 dsimp only at hi⊢
 have hrd:=hrq (H':=flws A2 c2 (RqM.fl (g.p.q.take i))::flws A1 c1 L::[many H]) (.tail _ (.tail _ (.head _)))
 have hlen:(RqM.fl (g.p.q.take i)).length=i:=by unfold RqM.fl;rw[TC,TA];omega
 by_cases hlt:i<g.p.q.length
 ·obtain⟨x,hx⟩:∃x,g.p.q[i]? =some x:=⟨_,Ta hlt⟩
  have hst:RqM.fl (g.p.q.take (i+1))=RqM.fl (g.p.q.take i)++[x.f]:=by unfold RqM.fl;rw[TM,hx,RY,Rl];rfl
  repeat'(first|(apply Ye T;exact rfl;exact zm;exact rfl;exact zv;exact rfl;exact rfl)|refine zgd ?_|(refine zge ?_ ?_<;>intro _<;>try exact zo)|(refine zgh ?_;intro _)|(refine zgi ?_;intro _ _)|fail)
  rename_i A' cap'
  rw[O2,<-hst,show(RqM.fl (g.p.q.take i)).length+1=(RqM.fl (g.p.q.take (i+1))).length from by rw[hst];simp]
  apply hK ⟨i+1,A',cap'⟩
  ·show i+1<=_
   omega
  ·dsimp only;omega
  ·exact zu
  ·exact zk
 obtain rfl:i=g.p.q.length:=by omega
 rw[TQ]
 clear hK hrd
 have p5:=λ{H':List HP}{w:World}(h1:Rd B w0 H' A1 (L.flatMap flwF)) (h2:Rd B w0 H' A2 ((RqM.fl g.p.q).flatMap flwF)) (hw:St B w0 H' w)=>Yic L (RqM.fl g.p.q) (by omega) (cap:=c1) (cap2:=c2) h1 h2 hw
 by_cases heq:L=RqM.fl g.p.q
 ·rw[Ti heq]at p5
  rw[Td (λe=>e heq)]
  repeat'(first|((first|apply Ya en59|apply Yb en59);exact za;exact rfl;exactλ_ hw=>(p5 (Rd.sl zm) (Rd.sl zm) hw))|refine zgd ?_|(refine zge ?_ ?_<;>intro _<;>try exact zo)|fail)
  apply Yi H
  ·intro w hw
   have h5:St B w0 [many H] w:=by
    revert w
    exact zk
   exact hop w h5
  apply Yd;exact rfl;exact rfl;exact⟨rfl,rfl⟩
 ·rw[Tn heq]at p5
  rw[Tm heq]
  repeat'(first|((first|apply Ya en59|apply Yb en59);exact za;exact rfl;exactλ_ hw=>(p5 (Rd.sl zm) (Rd.sl zm) hw))|refine zgd ?_|(refine zge ?_ ?_<;>intro _<;>try exact zo)|fail)
  apply Yi H
  ·intro w hw
   have h5:St B w0 [many H] w:=by
    revert w
    exact zk
   exact hop w h5
  apply Yd;exact rfl;exact rfl;exact⟨rfl,rfl⟩
noncomputable def Yc6(p:Pln):List Flw->Option Pln
 |[]=>some p
 |f::fs=>match extP p f with
  |(some q,0)=>Yc6 q fs
  |_=>none
theorem YaR(p:Pln)(f:Flw)(fs:List Flw):Yc6 p (f::fs)=match extP p f with
 |(some q,0)=>Yc6 q fs
 |_=>none:=rfl
theorem Yq5(p:Pln)(l:Lop)(s:Spl)(ss:List Spl):tryG p l (s::ss)=match Og p l s with
 |some q=>some (s,q)
 |none=>tryG p l ss:=rfl
theorem Ym9(p:Pln)(l:Lop)(s:Spl):Og p l s=Yc6 p [JV l s,JW l s]:=by
 unfold Og
 rw[YaR]
 split
 ·rename_i q h
  rw[h]
  show _=Yc6 q _
  rw[YaR];rfl
 ·rename_i h
  split
  ·rename_i q h2;exact absurd h2 (h q)
  ·rfl
variable {p:Pln}{f:Flw}
theorem Ysa{q:Pln}(hp:chkP p=0)(h:extP p f=(some q,0)):q.s.len=p.s.len:=by
 obtain⟨a1,-,-,a4⟩:=Yaa hp h
 have:=(Wh a1 a4).2.2.1
 rw[this];rfl
theorem Ysb(hp:chkP p=0){q:Option Pln}{e:Int}(h:extP p f=(q,e)):(q=none/\e≠0)\/∃r,q=some r/\e=0:=by
 rcases Yid (f:=f) hp with⟨h1,h2⟩|⟨r,h1,-⟩
 ·rw[h]at h1 h2;exact .inl ⟨h1,h2⟩
 ·rw[h]at h1;exact .inr ⟨r,TE Prod.fst h1,TE Prod.snd h1⟩
def VS:Value:=.agg #[.int .i64 0,.slice none 0 0,.int .i64 0,.int .i64 0,.slice none 0 0,.slice none 0 0,.slice none 0 0,.int .i64 0,.int .i64 0,.slice none 0 0,.slice none 0 0,.slice none 0 0,.slice none 0 0,.slice none 0 0]
def UP(B:Nat)(w0:World)(H:List HP)(R:Option Gwy×Int)(v:Value)(K:List HP):Prop:=
 (R.1=none/\v=.tuple #[VS,.int .i64 R.2]/\K=H)\/∃(g:GwM) (X:List HP),R.1=some g.gw/\v=.tuple #[g.val,.int .i64 R.2]/\g.In B w0 [many X]/\K=many X::H
abbrev plnB(g:Nat)(p:PnM):HP:=plnA g p.n p.qA p.qcap p.q p.s p.cA p.ccap p.c p.fA p.fcap p.f
abbrev zerB(g:Nat):HP:=blk g (.cells #[.int .i64 0,.slice none 0 0,.int .i64 0,.int .i64 0,.slice none 0 0,.slice none 0 0,.slice none 0 0,.int .i64 0,.int .i64 0,.slice none 0 0,.slice none 0 0,.slice none 0 0] 35 (0,0))
abbrev lopA(g:Nat)(l:Lop):HP:=blk g (.cells #[.int .i64 l.1,.int .i64 l.2.1,.int .i64 l.2.2.1,.int .i64 l.2.2.2.1,.int .i64 l.2.2.2.2.1,.int .i64 l.2.2.2.2.2.1,.int .i64 l.2.2.2.2.2.2] 77 (0,0))
structure TrM where
 i:Nat
 q:PnM
 X:List HP
structure TrOk(B:Nat)(w0:World)(H:List HP)(p:Pln)(fs:List Flw)(z:TrM):Prop where
 i:z.i<=fs.length
 yin:∀{H':List HP},many z.X∈H'->many H∈H'->z.q.In B w0 H'
 new:z.i≠0->z.q.In B w0 [many z.X]
 chk:chkP z.q.pln=0
 len:z.q.s.len=p.s.len
 ex:Yc6 p fs=Yc6 z.q.pln (fs.drop z.i)
variable {B:Nat}{w0 w:World}{H:List HP}
theorem Yld(g:GwM)(l:Lop)(s:Spl)(gl gg gp:Nat)(hk:chkP g.p.pln=0)(h24:g.p.s.len<=24)(hr:XW l s=0)(ht:TabsB B w0)(hg:g.p.In B w0 H)(hw:St B w0 (zerB gp::lopA gl l::gwyA gg g::H) w):
 CX B w0 63 [splV s,.pointer (some ⟨gl,0,none⟩),.pointer (some ⟨gg,0,none⟩),.pointer (some ⟨gp,0,none⟩)] w λv K=>
  (Og g.p.pln l s=none/\v=.bool false/\K=zerB gp::lopA gl l::gwyA gg g::H)\/∃q X,Og g.p.pln l s=some (PnM.pln q)/\v=.bool true/\q.In B w0 [many X]/\K=plnB gp q::many X::lopA gl l::gwyA gg g::H:=by
 refine Yc Tryz.func63 Tryz.ntmps63 rfl rfl hw ?_
 have hop:∀w,St B w0 [many H] w->St B w0 H w:=λw hw=>hw.perm (.openT H)
 have hgM:∀{H':List HP},many H∈H'->g.p.In B w0 H':=λhm=>hg.mono λw hw=>hw.inM hm
 have p1:=λ{H':List HP}{w:World}(hw:St B w0 H' w)=>YbE l s hw
 have hfs:flsS l s=[JV l s,JW l s]:=by unfold flsS;rw[Td (λe=>e hr)]
 rw[hfs,hr,show [JV l s,JW l s].length=2 from rfl]at p1
 rw[Ym9]
 obtain⟨fs,hfe⟩:∃fs,[JV l s,JW l s]=fs:=⟨_,rfl⟩
 have hfl:fs.length=2:=by rw[<-hfe];rfl
 rw[hfe]at p1⊢
 rw[<-hfl]at p1
 unfold lopV splV at p1
 unfold splV
 refine Xf (zerB gp::lopA gl l::gwyA gg g::[many H]) (λw hw=>hw.perm (.cons _ (.cons _ (.cons _ (.closeT H))))) ?_
 repeat'(first|refine zgb ?_|(refine zgh ?_;intro _)|fail)
 apply Yf _ en58
 exact za
 exact rfl
 exactλ_ hw=>(p1 (hw))
 rintro _ _ ⟨A3,rfl,rfl⟩
 repeat'(first|(apply Ye T;exact rfl;exact zm;exact rfl;exact zv;exact rfl;exact rfl)|refine zgc ?_|fail)
 refine Yj (λz:TrM=>[(21,.int .i64 (z.i:Nat)),(20,.int .i64 fs.length),(19,.slice A3 fs.length fs.length),(3,.pointer (some ⟨gp,0,none⟩))])
  (λz=>plnB gp z.q::many z.X::flws A3 fs.length fs::lopA gl l::gwyA gg g::[many H]) (TrOk B w0 H g.p.pln fs) (λz=>fs.length-z.i) ⟨0,g.p,[]⟩ ⟨Tj _,λ_ h=>hgM h,λh=>absurd rfl h,hk,rfl,rfl⟩ ?_ ?_ ?_
 ·exact zu
 ·intro w hw
  have h5:St B w0 (plnB gp g.p::flws A3 fs.length fs::lopA gl l::gwyA gg g::[many H]) w:=by
   revert w
   exact zk
  exact h5.perm (.cons _ (.close [] _))
 rintro⟨i,q,X⟩ ⟨hi,hin,hnew,hck,hln,hex⟩ K hK
 dsimp only at hi hin hnew hck hln hex⊢
 by_cases hlt:i<fs.length
 ·obtain⟨f,hf⟩:∃f,fs[i]? =some f:=⟨_,Ta hlt⟩
  have hdr:fs.drop i=f::fs.drop (i+1):=by
   obtain⟨h1,rfl⟩:=Tc.1 hf
   exact Rm h1
  rw[hdr,YaR]at hex
  have p2:=λ{H':List HP}{w:World}(hq:q.In B w0 H') (hw:St B w0 H' w)=>YeE q f (.inl (by rw[hln];exact h24)) ht hq hw
  have hsn:=λ(R:Option Pln) (e:Int) (h:extP q.pln f=(R,e))=>Ysb hck h
  have hmo:=λ(r:Pln) (h:extP q.pln f=(some r,0))=>And.intro (Yaa hck h) (Ysa hck h)
  obtain⟨⟨R,e⟩,hR⟩:∃R,extP q.pln f=R:=⟨_,rfl⟩
  rw[hR]at p2 hex
  unfold Ybh PnM.val flwV at p2
  dsimp only at p2
  repeat'(first|refine zgd ?_|(refine zge ?_ ?_<;>intro _<;>try exact zo)|(refine zgh ?_;intro _)|fail)
  apply Yf _ en64
  exact za
  exact rfl
  exactλ_ hw=>(p2 (hin zm zm) (hw))
  rintro _ K1 (⟨h,rfl,rfl⟩|⟨q2,X2,hq2,rfl,hq2in,rfl⟩)
  ·obtain⟨-,he⟩:R=none/\e≠0:=by
    rcases hsn _ _ hR with h1|⟨r,h1,-⟩
    ·exact h1
    ·rw[h]at h1;cases h1
   subst h
   unfold zeroPnV
   repeat'(first|refine zgd ?_|(refine zge ?_ ?_<;>intro _<;>try exact zo)|fail)
   apply Yi (zerB gp::lopA gl l::gwyA gg g::H)
   ·intro w hw
    have h5:St B w0 (zerB gp::lopA gl l::gwyA gg g::[many H]) w:=by
     revert w
     exact zk
    exact h5.perm (.cons _ (.cons _ (.cons _ (.openT H))))
   apply Yd;exact rfl;exact rfl
   exact .inl ⟨hex,rfl,rfl⟩
  ·obtain rfl:e=0:=by
    rcases hsn _ _ hR with⟨h1,-⟩|⟨r,-,h1⟩
    ·rw[hq2]at h1;cases h1
    ·exact h1
   subst hq2
   obtain⟨⟨hc2,-,-,-⟩,hl2⟩:=hmo _ hR
   repeat'(first|refine zgc ?_|(refine zge ?_ ?_<;>intro _<;>try exact zo)|fail)
   apply hK ⟨i+1,q2,X2⟩
   ·exact⟨by show i+1<=_;omega,λh _=>hq2in.inX h,λ_=>hq2in,hc2,hl2.trans hln,hex⟩
   ·dsimp only;omega
   ·exact zu
   ·exact zk
 ·obtain rfl:i=fs.length:=by omega
  rw[SR]at hex
  have hnew:=hnew (by omega)
  repeat'(first|refine zgc ?_|(refine zge ?_ ?_<;>intro _<;>try exact zo)|fail)
  apply Yi (plnB gp q::many X::lopA gl l::gwyA gg g::H)
  ·intro w hw
   have h5:St B w0 (plnB gp q::many X::lopA gl l::gwyA gg g::[many H]) w:=by
    revert w
    exact zk
   exact h5.perm (.cons _ (.cons _ (.cons _ (.cons _ (.openT H)))))
  apply Yd;exact rfl;exact rfl
  exact .inr ⟨q,X,hex,rfl,hnew,rfl⟩
theorem Ykq(g:GwM)(l:Lop)(L:List Spl)(gl gg gp:Nat)(hk:chkP g.p.pln=0)(h24:g.p.s.len<=24)(hL:∀s∈L,XW l s=0)(hlen:L.length<=1000000){A:Option Addr}{cap:Nat}(ht:TabsB B w0)(hg:g.p.In B w0 H)(hr:Rd B w0 H A (L.flatMap splF))(hw:St B w0 (zerB gp::lopA gl l::gwyA gg g::H) w):
 CX B w0 65 [.slice A L.length cap,.func (.func 63) #[] #[.pointer (some ⟨gl,0,none⟩),.pointer (some ⟨gg,0,none⟩),.pointer (some ⟨gp,0,none⟩)]] w λv K=>
  (tryG g.p.pln l L=none/\v=.int .i64 (-1)/\K=zerB gp::lopA gl l::gwyA gg g::H)\/∃k s q X,L[k]? =some s/\tryG g.p.pln l L=some (s,PnM.pln q)/\v=.int .i64 ((k:Nat):Int)/\q.In B w0 [many X]/\K=plnB gp q::many X::lopA gl l::gwyA gg g::H:=by
 refine Yc Tryz.func65 Tryz.ntmps65 rfl rfl hw ?_
 have hr:=((hr.cons (X:=gwyA gg g)).cons (X:=lopA gl l)).cons (X:=zerB gp)
 have p1:=λ(s:Spl) (hs:XW l s=0) {w:World}(hw:St B w0 (zerB gp::lopA gl l::gwyA gg g::H) w)=>Yld g l s gl gg gp hk h24 hs ht hg hw
 repeat'(first|refine zgb ?_|fail)
 refine Yj (λ(k:Nat)=>[(8,.int .i64 k),(7,.int .i64 L.length),(0,.slice A L.length cap),(1,.func (.func 63) #[] #[.pointer (some ⟨gl,0,none⟩),.pointer (some ⟨gg,0,none⟩),.pointer (some ⟨gp,0,none⟩)])]) (λ_=>zerB gp::lopA gl l::gwyA gg g::H) (λk=>k<=L.length/\tryG g.p.pln l L=tryG g.p.pln l (L.drop k)) (λk=>L.length-k) 0 ⟨Tj _,by simp⟩ ?_ (λw hw=>hw) ?_
 ·exact zu
 rintro k ⟨hk1,hi⟩ K hK
 by_cases hlt:k<L.length
 ·obtain⟨a,ha⟩:∃a,L[k]? =some a:=⟨_,Ta hlt⟩
  have hdr:L.drop k=a::L.drop (k+1):=by
   obtain⟨h1,rfl⟩:=Tc.1 ha
   exact Rm h1
  rw[hdr,Yq5]at hi
  have p2:=λ{w:World}(hw:St B w0 (zerB gp::lopA gl l::gwyA gg g::H) w)=>p1 a (hL a (Tf ha)) hw
  unfold splV at p2
  repeat'(first|refine zgd ?_|(refine zge ?_ ?_<;>intro _<;>try exact zo)|fail)
  apply Yhq _ (cs:=[.pointer (some ⟨gl,0,none⟩),.pointer (some ⟨gg,0,none⟩),.pointer (some ⟨gp,0,none⟩)])
  exact rfl
  exact en63
  exact za
  exact rfl
  exactλ_ hw=>p2 hw
  rintro _ _ (⟨hb,rfl,rfl⟩|⟨q,X,hb,rfl,hq,rfl⟩)
  ·rw[hb]at hi
   repeat'(first|refine zgc ?_|fail)
   apply hK (k+1)
   ·exact⟨by omega,hi⟩
   ·omega
   ·exact zu
   ·exactλw hw=>hw
  ·rw[hb]at hi
   repeat'(first|refine zgd ?_|fail)
   apply Yd;exact rfl;exact rfl
   exact .inr ⟨k,a,q,X,ha,hi,rfl,hq,rfl⟩
 ·repeat'(first|refine zgc ?_|(refine zge ?_ ?_<;>intro _<;>try exact zo)|fail)
  apply Yd;exact rfl;exact rfl
  rw[hi,RI (by omega)]
  exact .inl ⟨rfl,rfl,rfl⟩
variable {B:Nat}{w0 w:World}{H:List HP}
theorem Yk6(hw:St B w0 H w):
 CX B w0 146 [.slice none 0 0,.func (.func 147) #[] #[]] w λv K=>v=.tuple #[]/\K=H:=by
 refine(AnyF.slices_SortFunc_none Tryz.sortCels none 0 (.func (.func 147) #[] #[]) w).mono ?_
 rintro e w' ⟨rfl,rfl⟩
 exact⟨_,_,rfl,hw,rfl,rfl⟩
theorem YeC(hw:St B w0 H w):
 CX B w0 148 [.slice none 0 0] w λv K=>v=.slice none 0 0/\K=H:=by
 refine Yc Tryz.func148 Tryz.ntmps148 rfl rfl hw ?_
 repeat'(first|refine zgb ?_|(refine zge ?_ ?_<;>intro _<;>try exact zo)|fail)
 apply Yd;exact rfl;exact rfl;exact⟨rfl,rfl⟩
theorem nilQ:QIn B w0 H none []:=⟨Rd.nil,λx h=>(by cases h),Tj _⟩
abbrev bld0(g:Nat)(n:NetM)(len off:Int):HP:=blk g (.cells #[.int .i64 n.nodes,.slice n.pA n.rows.length n.pcap,.int .i64 n.noise,.int .i64 n.thr,.slice n.lA n.links.length n.lcap,.slice n.mA n.margin.length n.mcap,.slice none 0 0,.int .i64 len,.int .i64 off,.slice none 0 0,.slice none 0 0,.slice none 0 0,.int .i64 0] 164 (0,0))
def mt(len off:Int):Sch:=⟨len,off,[]⟩
def newP(n:Net)(len off:Int):Option Pln×Int:=
 if Yo n≠0 then(none,1)else if len<1\/512<len\/off<1\/16<off then(none,2)else(some ⟨n,[],mt len off,[],Zp (mt len off)⟩,0)
variable {n:Net}
theorem Wb(h:Yo n=0):Yy n.nodes []=(-1,0):=by
 have h0:=(YN h).n0
 have h1:=(YN h).n1
 unfold Yy
 rw[Td (show¬(n.nodes<2\/32<n.nodes) by omega),Td (by decide)];rfl
theorem Ymi(h:Yo n=0):rqsE n []=(-1,0):=by
 unfold rqsE
 rw[Td (λe=>e h),show Ys []=[] from rfl,Wb h,Td (by decide)];rfl
variable {off:Int}
theorem YdJ{len:Int}(h:Yo n=0)(hs:1<=len/\len<=512/\1<=off/\off<=16):YM n [] (mt len off)=([],(-1,0)):=by
 have hz:ZD (mt len off)=true:=Ti hs
 have hw:Zg n [] (mt len off)=0:=by
  unfold Zg
  rw[Td (λe=>e h),Wb h,Td (by decide),Td (by rw[hz];decide),Td (by simp),Td (show¬512<(mt len off).cells.length from R9 _)]
 have hsc:(schE n (Ys []) (mt len off)).2=0:=by
  unfold schE
  rw[show Ys []=[] from rfl,Td (λe=>e hw)];rfl
 unfold YM
 rw[Ymi h,Td (by decide),Td (λe=>e hsc)];rfl
theorem YsA{len:Int}(h:Yo n=0)(hs:1<=len/\len<=512/\1<=off/\off<=16):finE n [] (mt len off) 0=(some ⟨n,[],mt len off,[],Zp (mt len off)⟩,0):=by
 have hf:Xm (mt len off)=true:=by
  have hz:ZD (mt len off)=true:=Ti hs
  unfold Xm;rw[hz];rfl
 have hfr:XZ (mt len off)=(Zp (mt len off),0):=by unfold XZ;rw[hf,Td (by decide)]
 have he:QG n [] (mt len off) 0=0:=by
  unfold QG
  rw[Td (by decide),YdJ h hs,hfr];rfl
 unfold finE
 rw[he,Td (by decide),YdJ h hs,hfr]
theorem YgY(n:NetM)(hck:Yo n.net=0)(hin:n.In B w0 H)(hw:St B w0 H w):
 CX B w0 77 [n.val,.slice none 0 0] w λv K=>v=.tuple #[.slice none 0 0,.int .i64 (-1),.int .i64 0]/\K=H:=by
 refine Yc Tryz.func77 Tryz.ntmps77 rfl rfl hw ?_
 have p1:=λ{H':List HP}{w:World}(hin:n.In B w0 H') (hw:St B w0 H' w)=>JQ n hin hw
 have p2:=λ{H':List HP}{w:World}(hw:St B w0 H' w)=>Y0 n.nodes [] (Tj _) (A:=none) (cap:=0) Rd.nil hw
 rw[Ti hck]at p1
 rw[show Yy n.nodes []=(-1,0) from Wb hck]at p2
 unfold NetM.val at p1⊢
 (apply Xi;apply YU;apply YB;exact rfl;exact rfl;intro g)
 repeat'(first|((first|apply Ya en37|apply Yb en37);exact za;exact rfl;exactλ_ hw=>(p1 hin.cons hw))|((first|apply Ya en74|apply Yb en74);exact za;exact rfl;exactλ_ hw=>(p2 hw))|refine zgd ?_|(refine zge ?_ ?_<;>intro _<;>try exact zo)|fail)
 refine Yj (λ_:Unit=>[(30,.int .i64 0),(29,.int .i64 0),(9,.slice none 0 0)]) (λ_=>H) (λ_=>True) (λ_=>0) () trivial ?_ ?_ ?_
 ·exact zu
 ·exact zk
 rintro⟨⟩-K hK
 clear hK
 repeat'(first|refine zgc ?_|(refine zge ?_ ?_<;>intro _<;>try exact zo)|fail)
 apply Ur;(iterate 4 exact rfl);exact⟨rfl,rfl⟩
theorem YmZ(n:NetM)(hck:Yo n.net=0)(len off:Int)(hs:1<=len/\len<=512/\1<=off/\off<=16)(ht:TabsB B w0)(hin:n.In B w0 H)(hw:St B w0 H w):
 CX B w0 142 [n.val,.slice none 0 0,.int .i64 len,.int .i64 off] w λv K=>v=.tuple #[.agg #[.int .i64 len,.int .i64 off,.slice none 0 0],.slice none 0 0,.int .i64 0]/\K=H:=by
 refine Yc Tryz.func142 Tryz.ntmps142 rfl rfl hw ?_
 have p1:=λ{H':List HP}{w:World}(hin:n.In B w0 H') (hw:St B w0 H' w)=>Y9 n hin hw
 have p2:=λ{H':List HP}{w:World}(hin:n.In B w0 H') (hw:St B w0 H' w)=>Ybu n [] (A:=none) (cap:=0) ht hin nilQ hw
 rw[hck]at p1
 rw[Nj,Yfj (q:=[]) hck,show decide ((rqsE n.net []).2≠0)=false from by rw[Ymi hck];rfl]at p2
 have hop:∀w,St B w0 [many H] w->St B w0 H w:=λw hw=>hw.perm (.openT H)
 have hin:=hin.mono hop
 unfold NetM.val at*
 refine Xf [many H] (λw hw=>hw.perm (.closeT H)) ?_
 repeat'(first|(apply zg23;first|(refine zs52 ?_;intro _)|(refine zs53 ?_;intro _))|refine zgb ?_|(refine zgh ?_;intro _)|fail)
 rename_i g4 g6 g8
 first|apply Ya en44|apply Yb en44
 exact za
 exact rfl
 exactλ_ hw=>(p1 hin.cons.cons.cons hw)
 repeat'(first|refine zgc ?_|(refine zge ?_ ?_<;>intro _<;>try exact zo)|fail)
 first|apply Ya YlS|apply Yb YlS
 exact za
 exact rfl
 exactλ_ hw=>(p2 hin.cons.cons.cons hw)
 repeat'(first|(apply zg29;(apply Yp;exact za;exact rfl))|refine zgc ?_|(refine zgf ?_ ?_<;>intro _<;>try exact zo)|fail)
 first|apply Ya YlR|apply Yb YlR
 exact za
 exact rfl
 exactλ_ hw=>(Ol (λ_=>true) [] 223 [.pointer (some ⟨g6,0,none⟩)] Ywg (Tj _) (A:=none) (cap:=0) Rd.nil (λa ha=>(by cases ha)) hw)
 rw[show([].any λ_:RqM=>true)=false from rfl]
 repeat'(first|refine zgd ?_|(refine zgh ?_;intro _)|fail)
 rename Nat=>g11
 refine Yj (λ_:Unit=>[(54,.int .i64 0),(53,.int .i64 0),(13,.slice none 0 0),(11,.pointer (some ⟨g11,0,none⟩)),(8,.pointer (some ⟨g8,0,none⟩))]) (λ_=>[blk g11 (.cells #[.int .i64 len,.int .i64 off,.slice none 0 0] 30 (0,0)),blk g8 (.cells #[.int .i64 0,.int .i64 0,.slice none 0 0] 30 (0,0)),many H]) (λ_=>True) (λ_=>0) () trivial ?_ ?_ ?_
 ·exact zu
 ·intro w hw
  have h5:St B w0 [blk g11 (.cells #[.int .i64 len,.int .i64 off,.slice none 0 0] 30 (0,0)),blk g8 (.cells (Value.agg #[.int .i64 0,.int .i64 0,.slice none 0 0]).cells 30 (0,0)),many H] w:=by
   revert w
   exact zk
  exact h5
 rintro⟨⟩-K hK
 clear hK
 repeat'(first|refine zgc ?_|(refine zge ?_ ?_<;>intro _<;>try exact zo)|fail)
 apply YmT T (H2:=H);(iterate 4 exact rfl);exact zm;exact rfl;exact rfl
 ·intro w hw
  have h5:St B w0 [many H] w:=by
   revert w
   exact zk
  exact hop w h5
 exact⟨rfl,rfl⟩
theorem Ylc(n:NetM)(hck:Yo n.net=0)(len off:Int)(hs:1<=len/\len<=512/\1<=off/\off<=16)(ht:TabsB B w0)(hin:n.In B w0 H)(hw:St B w0 H w):
 CX B w0 81 [n.val,.slice none 0 0,.agg #[.int .i64 len,.int .i64 off,.slice none 0 0]] w λv K=>v=.tuple #[.agg #[.int .i64 len,.int .i64 off,.slice none 0 0],.int .i64 0]/\K=H:=by
 refine Yc Tryz.func81 Tryz.ntmps81 rfl rfl hw ?_
 have hop:∀w,St B w0 [many H] w->St B w0 H w:=λw hw=>hw.perm (.openT H)
 have hinM:∀{H':List HP},many H∈H'->n.In B w0 H':=λhm=>hin.mono λw hw=>hw.inM hm
 have p1:=λ{H':List HP}{w:World}(hin:n.In B w0 H') (hw:St B w0 H' w)=>YbQ n [] ⟨len,off,none,0,[]⟩ (A:=none) (cap:=0) ht hin nilQ Rd.nil (Tj _) hw
 rw[Nj,show(⟨len,off,none,0,[]⟩:SchM).sch=mt len off from rfl,YdJ hck hs]at p1
 unfold NetM.val SchM.val at p1
 unfold NetM.val
 refine Xf [many H] (λw hw=>hw.perm (.closeT H)) ?_
 repeat'(first|refine zgb ?_|(refine zgh ?_;intro _)|fail)
 rename_i g3 g5 g6
 first|apply Ya YlL|apply Yb YlL
 exact za
 exact rfl
 exactλ_ hw=>(p1 (hinM zm) hw)
 repeat'(first|refine zgd ?_|fail)
 refine Yj (λ_:Unit=>[(21,.int .i64 0),(20,.int .i64 0),(8,.slice none 0 0),(6,.pointer (some ⟨g6,0,none⟩)),(5,.pointer (some ⟨g5,0,none⟩))]) (λ_=>[blk g6 (.cells #[.int .i64 0,.int .i64 0,.slice none 0 0] 30 (0,0)),blk g5 (.cells #[.int .i64 len,.int .i64 off,.slice none 0 0] 30 (0,0)),many H]) (λ_=>True) (λ_=>0) () trivial ?_ ?_ ?_
 ·exact zu
 ·intro w hw
  have h5:St B w0 [blk g6 (.cells (Value.agg #[.int .i64 0,.int .i64 0,.slice none 0 0]).cells 30 (0,0)),blk g5 (.cells #[.int .i64 len,.int .i64 off,.slice none 0 0] 30 (0,0)),many H] w:=by
   revert w
   exact zk
  exact h5
 rintro⟨⟩-K hK
 clear hK
 repeat'(first|((first|apply Ya YtB|apply Yb YtB);exact za;exact rfl;exactλ_ hw=>(Yk6 hw))|((first|apply Ya YtD|apply Yb YtD);exact za;exact rfl;exactλ_ hw=>(YeC hw))|refine zgd ?_|(refine zge ?_ ?_<;>intro _<;>try exact zo)|fail)
 apply Yq T (H2:=H);(iterate 3 exact rfl);exact zm;exact rfl;exact rfl
 ·intro w hw
  have h5:St B w0 [many H] w:=by
   revert w
   exact zk
  exact hop w h5
 exact⟨rfl,rfl⟩
theorem Ykl(n:NetM)(hck:Yo n.net=0)(len off:Int)(hs:1<=len/\len<=512/\1<=off/\off<=16)(g:Nat)(ht:TabsB B w0)(hin:n.In B w0 H)(hw:St B w0 (bld0 g n 0 0::H) w):
 CX B w0 78 [.pointer (some ⟨g,0,none⟩),.int .i64 len,.int .i64 off] w λv K=>v=.tuple #[.slice none 0 0,.bool true]/\K=bld0 g n len off::H:=by
 refine Yc Tryz.func78 Tryz.ntmps78 rfl rfl hw ?_
 have hop:∀w,St B w0 [many H] w->St B w0 H w:=λw hw=>hw.perm (.openT H)
 have hin:=hin.mono hop
 have p1:=λ{H':List HP}{w:World}(hin:n.In B w0 H') (hw:St B w0 H' w)=>YmZ n hck len off hs ht hin hw
 have p2:∀{H':List HP}{w:World},St B w0 (bld0 g n 0 0::H') w->CX B w0 80 [.pointer (some ⟨g,0,none⟩),.int .i64 0] w λv K=>v=.tuple #[]/\K=bld0 g n 0 0::H':=λhw=>Ybt ⟨n,none,0,[],⟨0,0,none,0,[]⟩,none,0,[],none,0,[],0⟩ g 0 hw
 unfold NetM.val at p1
 refine Xf (bld0 g n 0 0::[many H]) (λw hw=>hw.perm (.cons _ (.closeT H))) ?_
 iterate 6 (first|refine zga ?_|fail)
 apply Xi
 refine ZV (λg8:Nat=>[(8,.pointer (some ⟨g8,0,none⟩)),(9,.slice none 0 0),(10,.int .i64 0),(0,.pointer (some ⟨g,0,none⟩))])
  (λg8=>[blk g8 (.cells #[.int .i64 len,.int .i64 off,.slice none 0 0] 30 (0,0)),bld0 g n 0 0,many H]) ?_ ?_
 ·intro K hK
  repeat'(first|(apply Ye T;exact rfl;exact zm;exact rfl;exact zv;exact rfl;exact rfl)|fail)
  apply Up (.n1 0 (.n1 1 (.n1 2 (.n1 3 (.n1 4 (.n1 5 (.n1 6 (.n1 7 (.n1 8 (.n1 9 (.n1 10 (.n1 11 (.n2 12 (.n1 13 (.n1 14 (.n1 15 (.n1 16 (.n1 17 (.n1 18 (.n1 19 (.n1 20 .done)))))))) 17 (.n1 12 (.n1 13 (.n1 14 (.n1 15 (.n1 16 (.n1 18 (.n1 19 (.n1 20 .done))))))))))))))))))))) [] [true,true]
  kernel_rfl
  kernel_rfl
  exact zy
  exact rfl
  repeat'(first|(apply Ye T;exact rfl;exact zm;exact rfl;exact zv;exact rfl;exact rfl)|((first|apply Ya YtA|apply Yb YtA);exact za;exact rfl;exactλ_ hw=>(p1 (hin.mono zk) hw))|(apply Yk;try exact zl)|apply(zs91 ?_ ?_)|(apply Xa;try exact zl)|refine zgd ?_|(refine zgh ?_;intro _)|fail)
  all_goals(
   rename Nat=>gA
   apply hK gA
   ·exact zu
   ·exact zk)
 intro g8
 repeat'(first|refine zga ?_|fail)
 apply XI [bld0 g n 0 0] _ en80
 exact za
 try exact zl
 exact zp
 exact rfl
 exactλ_ hw=>(p2 hw)
 rintro _ _ ⟨rfl,rfl⟩
 repeat'(first|refine zgd ?_|(refine zge ?_ ?_<;>intro _<;>try exact zo)|fail)
 apply Yi (bld0 g n len off::H)
 ·intro w hw
  have h5:St B w0 (bld0 g n len off::[many H]) w:=by
   revert w
   exact zk
  exact h5.perm (.cons _ (.openT H))
 apply Yx;(iterate 3 exact rfl)
 exact⟨rfl,rfl⟩
theorem Yqg(n:NetM)(hck:Yo n.net=0)(len off:Int)(hs:1<=len/\len<=512/\1<=off/\off<=16)(ht:TabsB B w0)(hin:n.In B w0 H)(hw:St B w0 H w):
 CX B w0 31 [n.val,.slice none 0 0,.int .i64 len,.int .i64 off] w (Ybh B w0 H (some ⟨n.net,[],mt len off,[],Zp (mt len off)⟩,0)):=by
 refine Yc Tryz.func31 Tryz.ntmps31 rfl rfl hw ?_
 have p1:=λ{H':List HP}{w:World}(hin:n.In B w0 H') (hw:St B w0 H' w)=>JQ n hin hw
 have p2:=λ{H':List HP}{w:World}(hw:St B w0 H' w)=>Y0 n.nodes [] (Tj _) (A:=none) (cap:=0) Rd.nil hw
 have p3:=λ{H':List HP}{w:World}(hin:n.In B w0 H') (hw:St B w0 H' w)=>YgY n hck hin hw
 have p5:=λ{H':List HP}{w:World}(hin:n.In B w0 H') (hw:St B w0 H' w)=>Ylc n hck len off hs ht hin hw
 have p6:∀(g:Nat) {H':List HP}{w:World},n.In B w0 H'->St B w0 (bld0 g n len off::H') w->CX B w0 82 [.pointer (some ⟨g,0,none⟩)] w (Ys7 B w0 H' ⟨len,off,none,0,[]⟩ (some ⟨n.net,[],mt len off,[],Zp (mt len off)⟩,0)):=λg {H' w} hin hw=>by
  have h:=UK ⟨n,none,0,[],⟨len,off,none,0,[]⟩,none,0,[],none,0,[],0⟩ g ht hin nilQ Rd.nil (Tj _) hw
  dsimp only at h
  rw[Nj,show(⟨len,off,none,0,[]⟩:SchM).sch=mt len off from rfl,YsA hck hs]at h
  exact h
 rw[Ti hck]at p1
 rw[show Yy n.nodes []=(-1,0) from Wb hck]at p2
 have hinM:∀{H':List HP},many H∈H'->n.In B w0 H':=λhm=>hin.mono λw hw=>hw.inM hm
 unfold NetM.val at p1 p3 p5⊢
 refine Xf [many H] (λw hw=>hw.perm (.closeT H)) ?_
 repeat'(first|(apply zg23;first|(refine zs52 ?_;intro _)|(refine zs53 ?_;intro _))|refine zgb ?_|(refine zgh ?_;intro _)|fail)
 rename_i g4 g6 g8
 first|apply Ya en37|apply Yb en37
 exact za
 exact rfl
 exactλ_ hw=>(p1 (hinM zm) hw)
 repeat'(first|refine zgd ?_|fail)
 first|apply Ya en74|apply Yb en74
 exact za
 exact rfl
 exactλ_ hw=>(p2 hw)
 repeat'(first|(apply zg29;(apply Yp;exact za;exact rfl))|refine zgc ?_|(refine zgf ?_ ?_<;>intro _<;>try exact zo)|fail)
 first|apply Ya en75|apply Yb en75
 exact za
 exact rfl
 exactλ_ hw=>(Oj (λ_=>true) [] 76 [.pointer (some ⟨g6,0,none⟩)] en76 (Tj _) (A:=none) (cap:=0) Rd.nil (λa ha=>(by cases ha)) hw)
 rw[show([].any λ_:Flw=>true)=false from rfl]
 repeat'(first|refine zgc ?_|fail)
 first|apply Ya en77|apply Yb en77
 exact za
 exact rfl
 exactλ_ hw=>(p3 (hinM zm) hw)
 repeat'(first|refine zgd ?_|(refine zge ?_ ?_<;>intro _<;>try exact zo)|(refine zgh ?_;intro _)|fail)
 rename Nat=>g15
 apply XI [bld0 g15 n 0 0] _ en78
 exact za
 try exact zl
 exact zp
 exact rfl
 exactλ_ hw=>(Ykl n hck len off hs g15 ht (hinM zm) hw)
 rintro _ _ ⟨rfl,rfl⟩
 repeat'(first|(apply Ye T;exact rfl;exact zm;exact rfl;exact zv;exact rfl;exact rfl)|refine zgd ?_|(refine zge ?_ ?_<;>intro _<;>try exact zo)|fail)
 apply Xf [bld0 g15 n len off,netA g4 n,blk g8 (.cells (Value.agg #[.int .i64 0,.slice none 0 0,.int .i64 0,.int .i64 0,.slice none 0 0,.slice none 0 0,.slice none 0 0,.int .i64 0,.int .i64 0,.slice none 0 0,.slice none 0 0,.slice none 0 0]).cells 35 (0,0)),many H]
 ·exact zk
 apply UR [1,0,2,3,4,5,6,7,8,9,10,11,12,13,14,16,15,17,18,19] [0,1,16,20,21,22,23] [20,21,22,23] [true,true,true,true]
 kernel_rfl
 kernel_rfl
 exact zy
 (simp only[Yg,nthO];rfl)
 (simp only[Yg,nthO];rfl)
 repeat'(first|(apply Ye T;exact rfl;exact zm;exact rfl;exact zv;exact rfl;exact rfl)|refine zgd ?_|fail)
 first|apply Ya en81|apply Yb en81
 exact za
 exact rfl
 exactλ_ hw=>(p5 (hinM zm) hw)
 repeat'(first|(apply Ye T;exact rfl;exact zm;exact rfl;exact zv;exact rfl;exact rfl)|(apply Yk;try exact zl)|refine zgd ?_|fail)
 apply XI [bld0 g15 n len off] _ en82
 exact za
 try exact zl
 exact zp
 exact rfl
 exactλ_ hw=>(p6 g15 (hinM zm) hw)
 rintro _ _ hO
 rcases hO with⟨h1,-⟩|⟨p,X,h1,rfl,hp,rfl⟩
 ·cases h1
 unfold PnM.val
 repeat'(first|refine zgc ?_|fail)
 apply Yq T (H2:=many X::H);(iterate 3 exact rfl);exact zm;exact rfl;exact rfl
 ·intro w hw
  have h5:St B w0 (many X::[many H]) w:=by
   revert w
   exact zk
  exact h5.perm (.cons _ (.openT H))
 exact .inr ⟨p,X,h1,rfl,hp [] Rd.nil,rfl⟩
theorem Yqf(n:NetM)(len off:Int)(ht:TabsB B w0)(hin:n.In B w0 H)(hw:St B w0 H w):
 CX B w0 31 [n.val,.slice none 0 0,.int .i64 len,.int .i64 off] w (Ybh B w0 H (newP n.net len off)):=by
 have p1:=λ{H':List HP}{w:World}(hin:n.In B w0 H') (hw:St B w0 H' w)=>JQ n hin hw
 have p2:=λ{H':List HP}{w:World}(hw:St B w0 H' w)=>Y0 n.nodes [] (Tj _) (A:=none) (cap:=0) Rd.nil hw
 have hop:∀w,St B w0 [many H] w->St B w0 H w:=λw hw=>hw.perm (.openT H)
 have hinM:∀{H':List HP},many H∈H'->n.In B w0 H':=λhm=>hin.mono λw hw=>hw.inM hm
 unfold newP
 by_cases hck:Yo n.net=0
 rotate_left
 ·rw[Tm hck]
  rw[Tn hck]at p1
  refine Yc Tryz.func31 Tryz.ntmps31 rfl rfl hw ?_
  unfold NetM.val at p1⊢
  refine Xf [many H] (λw hw=>hw.perm (.closeT H)) ?_
  repeat'(first|(apply zg23;first|(refine zs52 ?_;intro _)|(refine zs53 ?_;intro _))|refine zgb ?_|(refine zgh ?_;intro _)|fail)
  first|apply Ya en37|apply Yb en37
  exact za
  exact rfl
  exactλ_ hw=>(p1 (hinM zm) hw)
  repeat'(first|refine zgd ?_|fail)
  apply Yq T (H2:=H);(iterate 3 exact rfl);exact zm;exact rfl;exact rfl
  ·intro w hw
   have h5:St B w0 [many H] w:=by
    revert w
    exact zk
   exact hop w h5
  exact .inl ⟨rfl,rfl,rfl⟩
 rw[Td (λe=>e hck)]
 by_cases hr:len<1\/512<len\/off<1\/16<off
 rotate_left
 ·rw[Td hr]
  exact Yqg n hck len off (by omega) ht hin hw
 rw[Tm hr]
 rw[Ti hck]at p1
 rw[show Yy n.nodes []=(-1,0) from Wb hck]at p2
 refine Yc Tryz.func31 Tryz.ntmps31 rfl rfl hw ?_
 unfold NetM.val at p1⊢
 refine Xf [many H] (λw hw=>hw.perm (.closeT H)) ?_
 repeat'(first|((first|apply Ya en37|apply Yb en37);exact za;exact rfl;exactλ_ hw=>(p1 (hinM zm) hw))|((first|apply Ya en74|apply Yb en74);exact za;exact rfl;exactλ_ hw=>(p2 hw))|(apply zg23;first|(refine zs52 ?_;intro _)|(refine zs53 ?_;intro _))|refine zgd ?_|(refine zgf ?_ ?_<;>intro _<;>try exact zo)|(refine zgh ?_;intro _)|fail)
 all_goals try exact zo
 all_goals(
  apply Yq T (H2:=H);(iterate 3 exact rfl);exact zm;exact rfl;exact rfl
  ·intro w hw
   have h5:St B w0 [many H] w:=by
    revert w
    exact zk
   exact hop w h5
  exact .inl ⟨rfl,rfl,rfl⟩)
def newG(n:Net)(len off:Int):Option Gwy×Int:=
 match newP n len off with
 |(some p,_)=>(some ⟨p,[],[]⟩,0)
 |(none,e)=>(none,e)
theorem YkF(n:Net)(len off:Int):(∃p,newP n len off=(some p,0))\/∃e,newP n len off=(none,e)/\e≠0:=by
 unfold newP
 split
 ·exact .inr ⟨_,rfl,by decide⟩
 split
 ·exact .inr ⟨_,rfl,by decide⟩
 ·exact .inl ⟨_,rfl⟩
theorem YnZ(n:NetM)(len off:Int)(ht:TabsB B w0)(hin:n.In B w0 H)(hw:St B w0 H w):
 CX B w0 55 [n.val,.int .i64 len,.int .i64 off] w (UP B w0 H (newG n.net len off)):=by
 refine Yc Tryz.func55 Tryz.ntmps55 rfl rfl hw ?_
 have hop:∀w,St B w0 [many H] w->St B w0 H w:=λw hw=>hw.perm (.openT H)
 have hinM:∀{H':List HP},many H∈H'->n.In B w0 H':=λhm=>hin.mono λw hw=>hw.inM hm
 have p1:=λ{H':List HP}{w:World}(hin:n.In B w0 H') (hw:St B w0 H' w)=>Yqf n len off ht hin hw
 unfold Ybh PnM.val NetM.val at p1
 unfold NetM.val newG
 refine Xf [many H] (λw hw=>hw.perm (.closeT H)) ?_
 rcases YkF n.net len off with⟨P,hP⟩|⟨e,hP,he⟩
 ·rw[hP]at p1⊢
  dsimp only at p1⊢
  repeat'(first|refine zgb ?_|(refine zgh ?_;intro _)|fail)
  apply Yf _ en31
  exact za
  exact rfl
  exactλ_ hw=>(p1 (hinM zm) (hw))
  rintro _ _ (⟨h,-⟩|⟨p,X,hp,rfl,hpi,rfl⟩)
  ·cases h
  obtain rfl:P=p.pln:=Tv hp
  repeat'(first|(apply Ye T;exact rfl;exact zm;exact rfl;exact zv;exact rfl;exact rfl)|refine zgd ?_|(refine zge ?_ ?_<;>intro _<;>try exact zo)|(refine zgh ?_;intro _)|fail)
  apply Yq T (H2:=many X::H);(iterate 3 exact rfl);exact zm;exact rfl;exact rfl
  ·intro w hw
   have h5:St B w0 (many X::[many H]) w:=by
    revert w
    exact zk
   exact h5.perm (.cons _ (.openT H))
  exact .inr ⟨⟨p,none,0,[],none,0,[]⟩,X,rfl,rfl,⟨hpi,Rd.nil,Rd.nil,Tj _,Tj _,Tj _,Tj _⟩,rfl⟩
 ·rw[hP]at p1⊢
  dsimp only at p1⊢
  repeat'(first|refine zgb ?_|(refine zgh ?_;intro _)|fail)
  apply Yf _ en31
  exact za
  exact rfl
  exactλ_ hw=>(p1 (hinM zm) (hw))
  rintro _ _ (⟨-,rfl,rfl⟩|⟨p,X,h,-⟩)
  rotate_left
  ·cases h
  unfold zeroPnV
  repeat'(first|(apply Ye T;exact rfl;exact zm;exact rfl;exact zv;exact rfl;exact rfl)|refine zgd ?_|(refine zge ?_ ?_<;>intro _<;>try exact zo)|(refine zgh ?_;intro _)|fail)
  apply Yq T (H2:=H);(iterate 3 exact rfl);exact zm;exact rfl;exact rfl
  ·intro w hw
   have h5:St B w0 [many H] w:=by
    revert w
    exact zk
   exact hop w h5
  exact .inl ⟨rfl,rfl,rfl⟩
abbrev zerG(g:Nat):HP:=blk g (.cells (Value.agg #[.int .i64 0,.slice none 0 0,.int .i64 0,.int .i64 0,.slice none 0 0,.slice none 0 0,.slice none 0 0,.int .i64 0,.int .i64 0,.slice none 0 0,.slice none 0 0,.slice none 0 0,.slice none 0 0,.slice none 0 0]).cells 75 (0,0))
theorem YjA{α:Type}(L:List α)(k:Nat)(x:α)(h:k<=L.length):(Xb L k x).length=L.length+1:=by
 unfold Xb;rw[Tq,TG,TA,TZ];omega
theorem VH(g:GwM)(l:Lop)(h24:g.p.s.len<=24\/chkG g.gw≠0){B:Nat}{w0:World}{H:List HP}{w:World}(ht:TabsB B w0)(hg:g.In B w0 H)(hw:St B w0 H w):
 CX B w0 24 [g.val,lopV l] w (UP B w0 H (admG g.gw l)):=by
 refine Yc Tryz.func24 Tryz.ntmps24 rfl rfl hw ?_
 have hop:∀w,St B w0 [many H] w->St B w0 H w:=λw hw=>hw.perm (.openT H)
 have hgM:∀{H':List HP},many H∈H'->g.In B w0 H':=λhm=>hg.mono λw hw=>hw.inM hm
 have p1:=λ{H':List HP}{w:World}(hg:g.In B w0 H') (hw:St B w0 H' w)=>XC g ht hg hw
 unfold GwM.val at p1
 unfold GwM.val lopV
 refine Xf [many H] (λw hw=>hw.perm (.closeT H)) ?_
 have hgo:=λh:chkG g.gw=0=>XO.1 h
 unfold admG
 obtain⟨e,he⟩:∃e,chkG g.gw=e:=⟨_,rfl⟩
 rw[he]at p1 h24 hgo⊢
 by_cases he0:e=0
 rotate_left
 ·rw[Tm he0]
  repeat'(first|((first|apply Ya en23|apply Yb en23);exact za;exact rfl;exactλ_ hw=>(p1 (hgM zm) hw))|refine zgd ?_|(refine zge ?_ ?_<;>intro _<;>try exact zo)|(refine zgh ?_;intro _)|fail)
  apply Yq T (H2:=H);(iterate 3 exact rfl);exact zm;exact rfl;exact rfl
  ·intro w hw
   have h5:St B w0 [many H] w:=by
    revert w
    exact zk
   exact hop w h5
  exact .inl ⟨rfl,rfl,rfl⟩
 rw[Td (λe=>e he0)]
 subst he0
 have hok:=hgo rfl
 have h24:g.p.s.len<=24:=by
  rcases h24 with h|h
  ·exact h
  ·exact absurd rfl h
 clear he hgo
 obtain⟨hn,h8,hfit,hpw⟩:=Zw.1 hok.l
 have hl8:g.l.length<=8:=h8
 have hs8:g.s.length=g.l.length:=hok.len
 have hkp:posL g.l l.1<=g.l.length:=YgS g.l l.1
 rw[show g.gw.l=g.l from rfl,show g.gw.s=g.s from rfl,show g.gw.p=g.p.pln from rfl,show g.p.pln.n.nodes=g.p.n.nodes from rfl]
 have p2:=λ{H':List HP}{w:World}(hg:g.In B w0 H') (hw:St B w0 H' w)=>QH g.l l.1 hpw (by omega) (cap:=g.lcap) hg.l hw
 obtain⟨hb,hhb⟩:∃b,hasL g.l l.1=b:=⟨_,rfl⟩
 obtain⟨k,hk⟩:∃k,posL g.l l.1=k:=⟨_,rfl⟩
 rw[hhb,hk]at p2
 rw[hhb,hk]
 rw[hk]at hkp
 cases hb with
 |true=>
  rw[Tm rfl]
  repeat'(first|(apply Ye T;exact rfl;exact zm;exact rfl;exact zv;exact rfl;exact rfl)|((first|apply Ya en23|apply Yb en23);exact za;exact rfl;exactλ_ hw=>(p1 (hgM zm) hw))|((first|apply Ya en60|apply Yb en60);exact za;exact rfl;exactλ_ hw=>(p2 (hgM zm) hw))|refine zgd ?_|(refine zge ?_ ?_<;>intro _<;>try exact zo)|(refine zgh ?_;intro _)|fail)
  apply Yq T (H2:=H);(iterate 3 exact rfl);exact zm;exact rfl;exact rfl
  ·intro w hw
   have h5:St B w0 [many H] w:=by
    revert w
    exact zk
   exact hop w h5
  exact .inl ⟨rfl,rfl,rfl⟩
 |false=>
 rw[Td (by decide)]
 have p3:=λ{H':List HP}{w:World}(hg:g.In B w0 H') (hw:St B w0 H' w)=>Yjy g.l k l hkp (by omega) hg.lc hg.l hw
 obtain⟨W,hW⟩:∃W,Xb g.l k l=W:=⟨_,rfl⟩
 have hWl:W.length=g.l.length+1:=by rw[<-hW];exact YjA _ _ _ hkp
 rw[hW]at p3⊢
 unfold lopV at p3
 have p4:=λ{A:Option Addr}{cap:Nat}{H':List HP}{w:World}(hr:Rd B w0 H' A (W.flatMap lopF)) (hw:St B w0 H' w)=>Ow g.p.n.nodes W (by omega) (cap:=cap) hr hw
 have hlo:=@Zw g.p.n.nodes W
 obtain⟨⟨li,le⟩,hL⟩:∃R,ZP g.p.n.nodes W=R:=⟨_,rfl⟩
 rw[hL]at p4 hlo⊢
 dsimp only at p4 hlo⊢
 by_cases hle:le=0
 rotate_left
 ·rw[Tm hle]
  repeat'(first|(apply Ye T;exact rfl;exact zm;exact rfl;exact zv;exact rfl;exact rfl)|((first|apply Ya en23|apply Yb en23);exact za;exact rfl;exactλ_ hw=>(p1 (hgM zm) hw))|((first|apply Ya en60|apply Yb en60);exact za;exact rfl;exactλ_ hw=>(p2 (hgM zm) hw))|refine zgc ?_|(refine zge ?_ ?_<;>intro _<;>try exact zo)|(refine zgh ?_;intro _)|fail)
  apply Yf _ en61
  exact za
  exact rfl
  exactλ_ hw=>(p3 (hgM zm) (hw))
  rintro _ _ ⟨A1,c1,rfl,hc1,rfl⟩
  repeat'(first|(apply Ye T;exact rfl;exact zm;exact rfl;exact zv;exact rfl;exact rfl)|((first|apply Ya en57|apply Yb en57);exact za;exact rfl;exactλ_ hw=>(p4 (Rd.sl zm) hw))|refine zgd ?_|(refine zge ?_ ?_<;>intro _<;>try exact zo)|fail)
  apply Yq T (H2:=H);(iterate 3 exact rfl);exact zm;exact rfl;exact rfl
  ·intro w hw
   have h5:St B w0 [many H] w:=by
    revert w
    exact zk
   exact hop w h5
  exact .inl ⟨rfl,rfl,rfl⟩
 rw[Td (λe=>e hle)]
 subst hle
 have h32:lopE 32 l=0:=Yue ((hlo.1 rfl).2.2.1 l (by rw[<-hW];unfold Xb;simp)) hn.2
 have p5:=λ{H':List HP}{w:World}(hw:St B w0 H' w)=>YgD l hw
 have hse:Yjn l=Vc l:=by unfold Yjn;rw[Td (λe=>e h32)]
 rw[hse,h32]at p5
 unfold lopV at p5
 have hfits:∀s∈Vc l,XW l s=0:=λs hs=>Yec h32 hs
 have hspl:(Vc l).length<=1000:=by
  have h1:=(JE h32).2.1
  unfold Vc sumS
  rw[TC,NN]
  omega
 obtain⟨L,hLs⟩:∃L,Vc l=L:=⟨_,rfl⟩
 rw[hLs]at p5 hfits hspl⊢
 repeat'(first|(apply Ye T;exact rfl;exact zm;exact rfl;exact zv;exact rfl;exact rfl)|((first|apply Ya en23|apply Yb en23);exact za;exact rfl;exactλ_ hw=>(p1 (hgM zm) hw))|((first|apply Ya en60|apply Yb en60);exact za;exact rfl;exactλ_ hw=>(p2 (hgM zm) hw))|refine zgc ?_|(refine zge ?_ ?_<;>intro _<;>try exact zo)|(refine zgh ?_;intro _)|fail)
 rename_i gg gl gz _
 apply Yf _ en61
 exact za
 exact rfl
 exactλ_ hw=>(p3 (hgM zm) (hw))
 rintro _ _ ⟨A1,c1,rfl,hc1,rfl⟩
 repeat'(first|(apply Ye T;exact rfl;exact zm;exact rfl;exact zv;exact rfl;exact rfl)|((first|apply Ya en57|apply Yb en57);exact za;exact rfl;exactλ_ hw=>(p4 (Rd.sl zm) hw))|refine zgc ?_|(refine zge ?_ ?_<;>intro _<;>try exact zo)|fail)
 apply Yf _ en62
 exact za
 exact rfl
 exactλ_ hw=>(p5 (hw))
 rintro _ _ ⟨A2,c2,rfl,rfl⟩
 by_cases hL0:L=[]
 ·rw[Tm hL0]
  have hLz:L.length=0:=by rw[hL0];rfl
  repeat'(first|refine zgd ?_|(refine zge ?_ ?_<;>intro _<;>try exact zo)|fail)
  apply Yq T (H2:=H);(iterate 3 exact rfl);exact zm;exact rfl;exact rfl
  ·intro w hw
   have h5:St B w0 [many H] w:=by
    revert w
    exact zk
   exact hop w h5
  exact .inl ⟨rfl,rfl,rfl⟩
 rw[Td hL0]
 have hLp:0<L.length:=List.length_pos_iff.2 hL0
 have p6:=λ(k':Nat) (s:Spl) {H':List HP}{w:World}(hg:g.In B w0 H') (hw:St B w0 H' w)=>Yjz g.s k s (by omega) (by omega) hg.sc hg.s hw
 unfold splV at p6
 repeat'(first|(apply zg29;(apply Yp;exact za;exact rfl))|refine zgc ?_|(refine zge ?_ ?_<;>intro _<;>try exact zo)|(refine zgh ?_;intro _)|fail)
 rename Nat=>gp
 apply ZE (zerB gp::lopA gl l::gwyA gg g::spls A2 c2 L::lops A1 c1 W::zerG gz::[many H])
 ·intro w hw
  have h5:St B w0 (zerA gp::lopA gl l::gwyA gg g::spls A2 c2 L::lops A1 c1 W::zerG gz::[many H]) w:=by
   revert w
   exact zk
  exact h5
 apply XI [zerB gp,lopA gl l,gwyA gg g] _ en65
 exact za
 try exact zl
 exact zp
 exact rfl
 exactλ_ hw=>(Ykq g l L gl gg gp hok.p h24 hfits (by omega) ht (hgM zm).p (Rd.sl zm) hw)
 rintro _ _ hO
 rcases hO with⟨hb,rfl,rfl⟩|⟨j,s,q,X,hjs,hb,rfl,hq,rfl⟩
 ·rw[hb]
  repeat'(first|refine zgd ?_|(refine zge ?_ ?_<;>intro _<;>try exact zo)|fail)
  apply Yq T (H2:=H);(iterate 3 exact rfl);exact zm;exact rfl;exact rfl
  ·intro w hw
   have h5:St B w0 [many H] w:=by
    revert w
    exact zk
   exact hop w h5
  exact .inl ⟨rfl,rfl,rfl⟩
 ·rw[hb]
  have p7:=λ{H':List HP}{w:World}(hg:g.In B w0 H') (hw:St B w0 H' w)=>p6 j s hg hw
  clear p6
  have hjl:=(Tc.1 hjs).1
  have hWS:(Xb g.s k s).length=g.s.length+1:=YjA _ _ _ (by omega)
  obtain⟨WS,hW0⟩:∃WS,Xb g.s k s=WS:=⟨_,rfl⟩
  rw[hW0]at hWS p7
  repeat'(first|(apply Ye T;exact rfl;exact zm;exact rfl;exact zv;exact rfl;exact rfl)|refine zga ?_|(refine zge ?_ ?_<;>intro _<;>try exact zo)|fail)
  apply YK [0,1,2,3,4,5,6,7,8,9,10,11,12] [] [true,true,true,true,true,true,false,true]
  kernel_rfl
  kernel_rfl
  exact zy
  (simp only[Yg,nthO];rfl)
  exact rfl
  repeat'(first|(apply Ye T;exact rfl;exact zm;exact rfl;exact zv;exact rfl;exact rfl)|refine zgd ?_|fail)
  apply Yf _ en66
  exact za
  exact rfl
  exactλ_ hw=>(p7 (hgM zm) (hw))
  rintro _ _ ⟨A3,c3,rfl,hc3,rfl⟩
  repeat'(first|(apply Ye T;exact rfl;exact zm;exact rfl;exact zv;exact rfl;exact rfl)|(apply Yk;try exact zl)|refine zgd ?_|fail)
  apply Yq T (H2:=many [many X,lops A1 c1 W,spls A3 c3 WS]::H);(iterate 3 exact rfl);exact zm;exact rfl;exact rfl
  ·intro w hw
   have h5:St B w0 (many X::lops A1 c1 W::spls A3 c3 WS::[many H]) w:=by
    revert w
    exact zk
   exact(h5.perm (.cons _ (.cons _ (.cons _ (.openT H))))).perm (.close [_,_,_] H)
  have hin:GwM.In B w0 [many X,lops A1 c1 W,spls A3 c3 WS] ⟨q,A1,c1,W,A3,c3,WS⟩:=⟨hq.inX (.head _),Rd.sl (.tail _ (.head _)),Rd.sl (.tail _ (.tail _ (.head _))),by show W.length<=_;omega,by show WS.length<=_;omega,hc1,hc3⟩
  exact .inr ⟨⟨q,A1,c1,W,A3,c3,WS⟩,_,by rw[<-hW0];rfl,rfl,hin.mono λw hw=>hw.perm (.open_ [_,_,_] []),rfl⟩
theorem Yqk(n:Net):∃m:NetM,m.net=n:=⟨⟨n.nodes,none,0,n.power.map λr=>⟨none,0,r⟩,n.noise,n.thr,none,0,n.links,none,0,n.margin⟩,by
 unfold NetM.net
 simp only[NI]
 congr 1
 exact(List.map_congr_left λr _=>rfl).trans (List.map_id _)⟩
theorem YqS(s:Sch):∃m:SchM,m.sch=s:=⟨⟨s.len,s.off,none,0,s.cells⟩,rfl⟩
theorem Yqd:∀(l:List Int) (a:Int),l.foldl (λx y=>if y<x then y else x) a<=a/\∀z∈l,l.foldl (λx y=>if y<x then y else x) a<=z
 |[],a=>⟨Ry _,λz hz=>by cases hz⟩
 |y::l,a=>by
  rw[R7]
  obtain⟨h1,h2⟩:=Yqd l (if y<a then y else a)
  have h3:(if y<a then y else a)<=a/\(if y<a then y else a)<=y:=by split<;>omega
  refine⟨by omega,λz hz=>?_⟩
  rcases TI.1 hz with rfl|hz
  ·omega
  ·exact h2 z hz
theorem Yvf{p:Pln}(h:chkP p=0){x:Rqs}(hx:x∈p.q):∃b,bndE p.c x.1.1=(b,true)/\1<=b/\b<=x.1.2.2.2.2.2:=by
 have hok:=UJ h
 obtain⟨n,hn⟩:=Yqk p.n
 obtain⟨s,hs⟩:=YqS p.s
 have hc:=hok.cert
 have hpc:=hok.c
 rw[<-hn,<-hs]at hc hpc
 have hsv:=Yoi hc
 rw[YlE hc]at hpc
 refine⟨minI (clmE n.net s.sch x).bounds,by rw[hpc];exact hsv.bnd x hx,?_⟩
 have hw:=(XJ.1 hc).2 x hx
 unfold W5 at hw
 rw[To,Tt]at hw
 have hl:=hw.2
 simp only[RO]at hl
 have hr:∀r∈x.2,1<=(YT n.net s.sch x.1 r).1.1/\(YT n.net s.sch x.1 r).1.1<=x.1.2.2.2.2.2:=λr hr=>by
  obtain⟨h1,h2⟩:=Ycf hl hr
  obtain⟨b,h3,h4,h5,-⟩:=Wf h1
  rw[h4]at h2⊢
  exact⟨h5,h2⟩
 obtain⟨f,l⟩:=x
 cases l with
 |nil=>exact absurd hw.1 (by intro h;rcases h with h|h<;>simp at h)
 |cons r l=>
  show 1<=(l.map λr=>(YT n.net s.sch f r).1.1).foldl _ (YT n.net s.sch f r).1.1/\(l.map λr=>(YT n.net s.sch f r).1.1).foldl _ (YT n.net s.sch f r).1.1<=_
  obtain⟨h1,h2⟩:=hr r (by simp)
  refine⟨YdI _ _ h1 λz hz=>?_,N7 (Yqd _ _).1 h2⟩
  obtain⟨y,hy,rfl⟩:=TD.1 hz
  exact(hr y (Tz _ hy)).1
def ageG(g:Gwy)(id:Int):Int×Int:=
 if chkG g≠0 then(0,chkG g)else if hasL g.l id=false then(0,7)
 else((Jr g.l (posL g.l id)).2.2.2.2.1+(g.s.getD (posL g.l id) (0,0)).1+(bndE g.p.c (2*id+1)).1-1,0)
theorem Yph{g:Gwy}(hg:GwOk g){i:Nat}{l:Lop}{s:Spl}(hl:g.l[i]? =some l)(hs:g.s[i]? =some s):
 ∃b,ageG g l.1=(l.2.2.2.2.1+s.1+b-1,0)/\1<=b/\b<=s.2/\XW l s=0:=by
 obtain⟨-,-,-,hpw⟩:=Zw.1 hg.l
 have hat:=Yau hpw (Tf hl)
 have hi:posL g.l l.1=i:=by
  obtain⟨a1,a2⟩:=Tc.1 hat
  obtain⟨b1,b2⟩:=Tc.1 hl
  rw[Re]at hpw
  rcases SI (posL g.l l.1) i with c|c|c
  ·have:=hpw _ _ a1 b1 c;rw[a2,b2]at this;exact absurd this (Nk _)
  ·exact c
  ·have:=hpw _ _ b1 a1 c;rw[a2,b2]at this;exact absurd this (Nk _)
 obtain⟨y,hy,-,f2,-⟩:=Yfk hg.len hl
 obtain rfl:y=s:=Tv (hy.symm.trans hs)
 rw[hg.fl]at f2
 obtain⟨x,hx,e⟩:=U5.1 f2
 obtain⟨b,b1,b2,b3⟩:=Yvf hg.p hx
 rw[e]at b1 b3
 refine⟨b,?_,b2,b3,?_⟩
 ·unfold ageG
  rw[Td (λe=>e (XO.2 hg)),Td (by rw[show hasL g.l l.1=true from TR.2 ⟨l,Tf hl,Ti rfl⟩];simp),hi,show(bndE g.p.c (2*l.1+1))=(b,true) from b1]
  unfold Jr
  rw[Tu,Tu,hl,hs];rfl
 ·have h1:=hg.fit
  have hlen:(g.l.take i).length=(g.s.take i).length:=by rw[TA,TA,hg.len]
  rw[JO hl,JO hs,Vi hlen]at h1
  simp only[badS,Nv,T9,TN]at h1
  exact h1.2.1
theorem Yuc{g:Gwy}{id:Int}(hg:GwOk g)(h:hasL g.l id=true):∃l s,l.1=id/\g.l[posL g.l id]? =some l/\g.s[posL g.l id]? =some s/\0<=id/\id<=127:=by
 obtain⟨l,hl,he⟩:=TR.1 h
 obtain rfl:=TY he
 obtain⟨-,-,hfit,hpw⟩:=Zw.1 hg.l
 have hat:=Yau hpw hl
 have hk:=(Tc.1 hat).1
 have hn:=(JE (hfit l hl)).1
 exact⟨l,_,rfl,hat,Ta (by rw[hg.len];exact hk),hn.1,hn.2⟩
variable {B:Nat}{w0 w:World}{H:List HP}
theorem YcC(g:GwM)(id:Int)(ht:TabsB B w0)(hg:g.In B w0 H)(hw:St B w0 H w):
 CX B w0 28 [g.val,.int .i64 id] w λv K=>v=.tuple #[.int .i64 (ageG g.gw id).1,.int .i64 (ageG g.gw id).2]/\K=H:=by
 refine Yc Tryz.func28 Tryz.ntmps28 rfl rfl hw ?_
 have hop:∀w,St B w0 [many H] w->St B w0 H w:=λw hw=>hw.perm (.openT H)
 have hgM:∀{H':List HP},many H∈H'->g.In B w0 H':=λhm=>hg.mono λw hw=>hw.inM hm
 have p1:=λ{H':List HP}{w:World}(hg:g.In B w0 H') (hw:St B w0 H' w)=>XC g ht hg hw
 unfold GwM.val at p1
 unfold GwM.val
 refine Xf [many H] (λw hw=>hw.perm (.closeT H)) ?_
 have hgo:=λh:chkG g.gw=0=>XO.1 h
 have hage:=λ(h:GwOk g.gw) (i:Nat) (l:Lop) (s:Spl) (h1:g.l[i]? =some l) (h2:g.s[i]? =some s)=>Yph (g:=g.gw) h h1 h2
 unfold ageG at hage⊢
 obtain⟨e,he⟩:∃e,chkG g.gw=e:=⟨_,rfl⟩
 rw[he]at p1 hgo hage⊢
 by_cases he0:e=0
 rotate_left
 ·rw[Tm he0]
  repeat'(first|((first|apply Ya en23|apply Yb en23);exact za;exact rfl;exactλ_ hw=>(p1 (hgM zm) hw))|refine zgb ?_|(refine zge ?_ ?_<;>intro _<;>try exact zo)|(refine zgh ?_;intro _)|fail)
  apply Yi H
  ·intro w hw
   have h5:St B w0 [many H] w:=by
    revert w
    exact zk
   exact hop w h5
  apply Yx;(iterate 3 exact rfl);exact⟨rfl,rfl⟩
 rw[Td (λe=>e he0)]
 subst he0
 have hok:=hgo rfl
 obtain⟨hn,h8,hfit,hpw⟩:=Zw.1 hok.l
 have h8:g.l.length<=8:=h8
 have hgat:=λh:hasL g.l id=true=>Yuc hok h
 have p2:=λ{H':List HP}{w:World}(hg:g.In B w0 H') (hw:St B w0 H' w)=>QH g.l id hpw (by omega) (cap:=g.lcap) hg.l hw
 rw[show g.gw.l=g.l from rfl,show g.gw.s=g.s from rfl,show g.gw.p=g.p.pln from rfl]at hage⊢
 rw[show g.gw.l=g.l from rfl,show g.gw.s=g.s from rfl]at hgat
 obtain⟨hb,hhb⟩:∃b,hasL g.l id=b:=⟨_,rfl⟩
 rw[hhb]at p2 hgat⊢
 cases hb with
 |false=>
  rw[Tm rfl]
  repeat'(first|(apply Ye T;exact rfl;exact zm;exact rfl;exact zv;exact rfl;exact rfl)|((first|apply Ya en23|apply Yb en23);exact za;exact rfl;exactλ_ hw=>(p1 (hgM zm) hw))|((first|apply Ya en60|apply Yb en60);exact za;exact rfl;exactλ_ hw=>(p2 (hgM zm) hw))|refine zgd ?_|(refine zge ?_ ?_<;>intro _<;>try exact zo)|(refine zgh ?_;intro _)|fail)
  apply Yi H
  ·intro w hw
   have h5:St B w0 [many H] w:=by
    revert w
    exact zk
   exact hop w h5
  apply Yx;(iterate 3 exact rfl);exact⟨rfl,rfl⟩
 |true=>
 obtain⟨l,s,hid,hl,hs,hid1,hid2⟩:=hgat rfl
 obtain⟨b,hb,hb1,hb2,hr⟩:=hage hok _ l s hl hs
 subst hid
 obtain⟨h32,hs1,hs2,-⟩:=WG hr
 have hP:=(JE h32).2.1
 rw[Td (by decide)]
 rw[Td (λe=>e rfl),hhb,Td (by decide)]at hb
 have p3:=λ{H':List HP}{w:World}(hg:g.In B w0 H') (hw:St B w0 H' w)=>YhX g.p.c (2*l.1+1) (cap:=g.p.ccap) hg.p.c hw
 rw[show g.p.pln.c=g.p.c.map ClM.clm from rfl]at hb⊢
 obtain⟨⟨u,ok⟩,hu⟩:∃R,bndE (g.p.c.map ClM.clm) (2*l.1+1)=R:=⟨_,rfl⟩
 rw[hu]at p3 hb⊢
 rw[hb]
 have hu2:u=b:=by
  have h1:Jr g.l (posL g.l l.1)=l:=by unfold Jr;rw[Tu,hl];rfl
  have h2:g.s.getD (posL g.l l.1) (0,0)=s:=by rw[Tu,hs];rfl
  have h3:=TE Prod.fst hb
  rw[h1,h2]at h3
  dsimp only at h3
  omega
 subst hu2
 clear hb hage
 obtain⟨k,hk⟩:∃k,posL g.l l.1=k:=⟨_,rfl⟩
 rw[hk]at p2 hl hs
 have hkl:=(Tc.1 hl).1
 have hks:=(Tc.1 hs).1
 repeat'(first|(apply Ye T;exact rfl;exact zm;exact rfl;exact zv;exact rfl;exact rfl)|((first|apply Ya en23|apply Yb en23);exact za;exact rfl;exactλ_ hw=>(p1 (hgM zm) hw))|((first|apply Ya en60|apply Yb en60);exact za;exact rfl;exactλ_ hw=>(p2 (hgM zm) hw))|((first|apply Ya en71|apply Yb en71);exact za;exact rfl;exactλ_ hw=>(p3 (hgM zm) hw))|refine zgd ?_|(refine zge ?_ ?_<;>intro _<;>try exact zo)|(refine zgh ?_;intro _)|fail)
 rename Nat=>g1
 have hrl:=(hgM (H':=[gwyA g1 g,many H]) (.tail _ (.head _))).l
 have hrs:=(hgM (H':=[gwyA g1 g,many H]) (.tail _ (.head _))).s
 repeat'(first|(apply Ye T;exact rfl;exact zm;exact rfl;exact zv;exact rfl;exact rfl)|refine zgd ?_|fail)
 apply Yi H
 ·intro w hw
  have h5:St B w0 [many H] w:=by
   revert w
   exact zk
  exact hop w h5
 apply Yx;(iterate 3 exact rfl);exact⟨rfl,rfl⟩
theorem Ub(g:GwM)(id:Int)(ht:TabsB B w0)(hg:g.In B w0 H)(hw:St B w0 H w):
 CX B w0 25 [g.val,.int .i64 id] w (UP B w0 H (disG g.gw id)):=by
 refine Yc Tryz.func25 Tryz.ntmps25 rfl rfl hw ?_
 have hop:∀w,St B w0 [many H] w->St B w0 H w:=λw hw=>hw.perm (.openT H)
 have hgM:∀{H':List HP},many H∈H'->g.In B w0 H':=λhm=>hg.mono λw hw=>hw.inM hm
 have p1:=λ{H':List HP}{w:World}(hg:g.In B w0 H') (hw:St B w0 H' w)=>XC g ht hg hw
 unfold GwM.val at p1
 unfold GwM.val
 refine Xf [many H] (λw hw=>hw.perm (.closeT H)) ?_
 have hgo:=λh:chkG g.gw=0=>XO.1 h
 have hdis:=λ(h:GwOk g.gw) (h1:hasL g.gw.l id=true)=>Ygq h h1
 unfold disG at hdis⊢
 obtain⟨e,he⟩:∃e,chkG g.gw=e:=⟨_,rfl⟩
 rw[he]at p1 hgo hdis⊢
 by_cases he0:e=0
 rotate_left
 ·rw[Tm he0]
  repeat'(first|((first|apply Ya en23|apply Yb en23);exact za;exact rfl;exactλ_ hw=>(p1 (hgM zm) hw))|refine zgd ?_|(refine zge ?_ ?_<;>intro _<;>try exact zo)|(refine zgh ?_;intro _)|fail)
  apply Yq T (H2:=H);(iterate 3 exact rfl);exact zm;exact rfl;exact rfl
  ·intro w hw
   have h5:St B w0 [many H] w:=by
    revert w
    exact zk
   exact hop w h5
  exact .inl ⟨rfl,rfl,rfl⟩
 rw[Td (λe=>e he0)]
 subst he0
 have hok:=hgo rfl
 obtain⟨hn,h8,hfit,hpw⟩:=Zw.1 hok.l
 have h8:g.l.length<=8:=h8
 have hsl:g.s.length=g.l.length:=hok.len
 have hgat:=λh:hasL g.l id=true=>Yuc hok h
 have p2:=λ{H':List HP}{w:World}(hg:g.In B w0 H') (hw:St B w0 H' w)=>QH g.l id hpw (by omega) (cap:=g.lcap) hg.l hw
 rw[show g.gw.l=g.l from rfl,show g.gw.s=g.s from rfl,show g.gw.p=g.p.pln from rfl]at hdis⊢
 rw[show g.gw.l=g.l from rfl,show g.gw.s=g.s from rfl]at hgat
 obtain⟨hb,hhb⟩:∃b,hasL g.l id=b:=⟨_,rfl⟩
 rw[hhb]at p2 hgat hdis⊢
 cases hb with
 |false=>
  rw[Tm rfl]
  repeat'(first|(apply Ye T;exact rfl;exact zm;exact rfl;exact zv;exact rfl;exact rfl)|((first|apply Ya en23|apply Yb en23);exact za;exact rfl;exactλ_ hw=>(p1 (hgM zm) hw))|((first|apply Ya en60|apply Yb en60);exact za;exact rfl;exactλ_ hw=>(p2 (hgM zm) hw))|refine zgd ?_|(refine zge ?_ ?_<;>intro _<;>try exact zo)|(refine zgh ?_;intro _)|fail)
  apply Yq T (H2:=H);(iterate 3 exact rfl);exact zm;exact rfl;exact rfl
  ·intro w hw
   have h5:St B w0 [many H] w:=by
    revert w
    exact zk
   exact hop w h5
  exact .inl ⟨rfl,rfl,rfl⟩
 |true=>
 obtain⟨l,s,-,hl,hs,hid1,hid2⟩:=hgat rfl
 obtain⟨q1,q2,w1,w2,c1,-,-,hd,-⟩:=hdis hok rfl
 rw[Td (λe=>e rfl),Td (by decide)]at hd
 rw[Td (by decide),hd]
 clear hd hdis
 obtain⟨k,hk⟩:∃k,posL g.l id=k:=⟨_,rfl⟩
 rw[hk]at p2 hl hs⊢
 have hkl:=(Tc.1 hl).1
 have p3:=λ{H':List HP}{w:World}(hg:g.In B w0 H') (hw:St B w0 H' w)=>W6 g.p (2*id) ht hg.p hw
 rw[w1]at p3
 have p4:=λ{H':List HP}{w:World}(hg:g.In B w0 H') (hw:St B w0 H' w)=>YiG g.l k hkl (by omega) hg.lc hg.l hw
 have p5:=λ{H':List HP}{w:World}(hg:g.In B w0 H') (hw:St B w0 H' w)=>YiH g.s k (by omega) (by omega) hg.sc hg.s hw
 have hL:(Y4 g.l k).length<=8:=by have:=Yai hkl;omega
 have hS:(Y4 g.s k).length<=8:=by have:=Yai (l:=g.s) (k:=k) (by omega);omega
 obtain⟨L,hL0⟩:∃L,Y4 g.l k=L:=⟨_,rfl⟩
 obtain⟨S,hS0⟩:∃S,Y4 g.s k=S:=⟨_,rfl⟩
 rw[hL0]at p4 hL
 rw[hS0]at p5 hS
 rw[hL0,hS0]
 unfold Ybh PnM.val at p3
 dsimp only at p3
 repeat'(first|(apply Ye T;exact rfl;exact zm;exact rfl;exact zv;exact rfl;exact rfl)|((first|apply Ya en23|apply Yb en23);exact za;exact rfl;exactλ_ hw=>(p1 (hgM zm) hw))|((first|apply Ya en60|apply Yb en60);exact za;exact rfl;exactλ_ hw=>(p2 (hgM zm) hw))|refine zgd ?_|(refine zge ?_ ?_<;>intro _<;>try exact zo)|(refine zgh ?_;intro _)|fail)
 rename_i g1 g2 _
 apply Yf _ en33
 exact za
 exact rfl
 exactλ_ hw=>(p3 (hgM zm) (hw))
 rintro _ _ (⟨h,-⟩|⟨u1,X1,hu1,rfl,hi1,rfl⟩)
 ·cases h
 obtain rfl:q1=u1.pln:=Tv hu1
 have p6:=λ{H':List HP}{w:World}(hp:u1.In B w0 H') (hw:St B w0 H' w)=>W6 u1 (2*id+1) ht hp hw
 rw[w2]at p6
 unfold Ybh PnM.val at p6
 dsimp only at p6
 repeat'(first|refine zgd ?_|(refine zgh ?_;intro _)|fail)
 rename Nat=>g3
 apply Yf _ en33
 exact za
 exact rfl
 exactλ_ hw=>(p6 (hi1.inX zm) (hw))
 rintro _ _ (⟨h,-⟩|⟨u2,X2,hu2,rfl,hi2,rfl⟩)
 ·cases h
 obtain rfl:q2=u2.pln:=Tv hu2
 repeat'(first|refine zgc ?_|fail)
 apply Xf [plnB g3 u2,many X2,gwyA g1 g,zerG g2,many H]
 ·exact zk
 apply YK [0,1,2,3,5,6,7,4,8,9,10,11] [] [true,true,true,false,true]
 kernel_rfl
 kernel_rfl
 exact zy
 (simp only[Yg,nthO];rfl)
 exact rfl
 repeat'(first|(apply Ye T;exact rfl;exact zm;exact rfl;exact zv;exact rfl;exact rfl)|refine zgd ?_|fail)
 apply Yf _ en67
 exact za
 exact rfl
 exactλ_ hw=>(p4 (hgM zm) (hw))
 rintro _ _ ⟨A1,c3,rfl,hc3,rfl⟩
 repeat'(first|(apply Ye T;exact rfl;exact zm;exact rfl;exact zv;exact rfl;exact rfl)|(apply Yk;try exact zl)|refine zgd ?_|fail)
 apply Yf _ en68
 exact za
 exact rfl
 exactλ_ hw=>(p5 (hgM zm) (hw))
 rintro _ _ ⟨A2,c4,rfl,hc4,rfl⟩
 repeat'(first|(apply Ye T;exact rfl;exact zm;exact rfl;exact zv;exact rfl;exact rfl)|(apply Yk;try exact zl)|refine zgd ?_|fail)
 apply Yq T (H2:=many [many X2,lops A1 c3 L,spls A2 c4 S]::H);(iterate 3 exact rfl);exact zm;exact rfl;exact rfl
 ·intro w hw
  have h5:St B w0 (many X2::lops A1 c3 L::spls A2 c4 S::[many H]) w:=by
   revert w
   exact zk
  exact(h5.perm (.cons _ (.cons _ (.cons _ (.openT H))))).perm (.close [_,_,_] H)
 have hin:GwM.In B w0 [many X2,lops A1 c3 L,spls A2 c4 S] ⟨u2,A1,c3,L,A2,c4,S⟩:=⟨hi2.inX (.head _),Rd.sl (.tail _ (.head _)),Rd.sl (.tail _ (.tail _ (.head _))),by show L.length<=_;omega,by show S.length<=_;omega,hc3,hc4⟩
 exact .inr ⟨⟨u2,A1,c3,L,A2,c4,S⟩,_,rfl,rfl,hin.mono λw hw=>hw.perm (.open_ [_,_,_] []),rfl⟩
end Go.Proofs.YtambgjgljcadlaaGreatDoor
namespace Go.Rt
open Go.Nw
def Yj4(nodes:Nat)(l:List Lk)(to:Int)(far:List Int):Bool:=
 decide (far.length=nodes)&&decide (Yh far to=0)&&((List.range nodes).all λv:Nat=>decide (0<=Yh far v/\Yh far v<=YR))&&
 ((List.range nodes).all λv:Nat=>decide ((v:Int)=to)||decide (¬Yh far v<YR)||l.any λa=>decide (a.1=v/\Yh far a.2.1+a.2.2<=Yh far v))&&
 l.all λa=>decide (¬Yh far a.2.1<YR)||decide (Yh far a.1<=Yh far a.2.1+a.2.2)
variable {l:List Lk}{to:Int}{far:List Int}
theorem Yno{nodes:Nat}(h:Yj4 nodes l to far=true):Dist nodes l to far:=by
 unfold Yj4 at h
 simp only[To,T8,Su,Tt,TR,Rf]at h
 obtain⟨⟨⟨⟨h1,h2⟩,h3⟩,h4⟩,h5⟩:=h
 refine⟨h1,h2,λv h0 hn=>?_,λv h0 hn hne hlt=>?_,λa ha hlt=>?_⟩
 ·have:=h3 v.toNat (by omega)
  grind
 ·have:=h4 v.toNat (by omega)
  grind
 grind
def Ypj(nodes:Nat)(l:List Lk):Bool:=l.all λa=>decide ((0<=a.1/\a.1<nodes)/\(0<=a.2.1/\a.2.1<nodes)/\(1<=a.2.2/\a.2.2<=1000000))
theorem Ym4{nodes:Nat}(h:Ypj nodes l=true):ArcsOk nodes l:=λa ha=>by
 have:=T8.1 h a ha
 simp_all
theorem YcX{nodes:Nat}(h1:Ypj nodes l=true)(h:Yj4 nodes l to far=true):Z7 nodes l to=far:=On (Ym4 h1) (Yno h)
end Go.Rt
namespace Go.Proofs.YtambgjgljcadlaaGreatDoor
open Go.RowKit Go.Eng Go.Nw Go.Rt
def exA5:List Lk:=[(0,1,1),(1,0,1)]
def popX(a:Int):Int:=
 let m1:Int:=6148914691236517205
 let m2:Int:=3689348814741910323
 let m4:Int:=1085102592571150095
 let b:=IntKind.u64.wrap (bits .and .u64 (a/2) m1+bits .and .u64 a m1)
 let c:=IntKind.u64.wrap (bits .and .u64 (b/4) m2+bits .and .u64 b m2)
 let d:=bits .and .u64 (IntKind.u64.wrap (c/16+c)) m4
 let e:=IntKind.u64.wrap (d+d/256)
 let f:=IntKind.u64.wrap (e+e/65536)
 let g:=IntKind.u64.wrap (f+f/4294967296)
 bits .and .i64 (IntKind.i64.wrap g) 127
variable {B:Nat}{w0 w:World}{H:List HP}
theorem YiW(a:Int)(hw:St B w0 H w):
 CX B w0 135 [.int .u64 a] w λv K=>v=.int .i64 (popX a)/\K=H:=by
 refine Yc Tryz.func135 Tryz.ntmps135 rfl rfl hw ?_
 repeat'(first|(apply Yhp;(iterate 3 exact rfl))|refine zgd ?_|fail)
 apply Yd;exact rfl;exact rfl;exact⟨rfl,rfl⟩
theorem Yn2(a:Int)(hw:St B w0 H w):
 CX B w0 70 [.int .u64 a] w λv K=>v=.int .i64 (popX a)/\K=H:=by
 refine Yc Tryz.func70 Tryz.ntmps70 rfl rfl hw ?_
 repeat'(first|((first|apply Ya Ytx|apply Yb Ytx);exact za;exact rfl;exactλ_ hw=>(YiW a hw))|refine zga ?_|fail)
 apply Yd;exact rfl;exact rfl;exact⟨rfl,rfl⟩
theorem YqA(x:Int):0<=popX x/\popX x<=127:=by
 have key:∀v:Int,0<=bits .and .i64 v 127/\bits .and .i64 v 127<=127:=λv=>by
  have h1:(BitVec.ofInt 64 v).toNat&&&(BitVec.ofInt 64 (127:Int)).toNat<=(BitVec.ofInt 64 (127:Int)).toNat:=Nat.and_le_right
  rw[show(BitVec.ofInt 64 (127:Int)).toNat=127 from rfl]at h1
  show 0<=IntKind.i64.wrap ((BitVec.ofInt 64 v&&&BitVec.ofInt 64 (127:Int)).toNat:Int)/\IntKind.i64.wrap ((BitVec.ofInt 64 v&&&BitVec.ofInt 64 (127:Int)).toNat:Int)<=127
  rw[BitVec.toNat_and,IntKind.wrap_i64,show(BitVec.ofInt 64 (127:Int)).toNat=127 from rfl]
  omega
 exact key _
def sumP:List Int->Int
 |[]=>0
 |x::l=>popX (IntKind.u64.wrap x)+sumP l
theorem YfT:∀(l:List Int) (x:Int),sumP (l++[x])=sumP l+popX (IntKind.u64.wrap x)
 |[],x=>by simp[sumP]
 |y::l,x=>by
  simp only[TF,sumP,YfT l x]
  omega
theorem Ymw:∀l:List Int,0<=sumP l/\sumP l<=127*l.length
 |[]=>⟨Ry _,Ry _⟩
 |x::l=>by
  have h1:=YqA (IntKind.u64.wrap x)
  have h2:=Ymw l
  simp only[sumP,TG]
  omega
def Ydj(g:Gwy):Int×Int:=if chkG g≠0 then(0,chkG g)else(sumP g.p.f,0)
theorem YpU{g:Gwy}(h:GwOk g):g.p.f.length<=512:=by
 have hok:=UJ h.p
 have hf:=hok.f
 have hfr:=hok.free
 unfold XZ at hf hfr
 split at hfr
 ·cases hfr
 rename_i h1
 rw[Td h1]at hf
 have h2:1<=g.p.s.len/\g.p.s.len<=512/\1<=g.p.s.off/\g.p.s.off<=16:=TY (XV.1 (by simpa using h1)).sized
 rw[hf]
 unfold Zp
 rw[V2,Rb]
 omega
theorem Ou(g:GwM)(ht:TabsB B w0)(hg:g.In B w0 H)(hw:St B w0 H w):
 CX B w0 27 [g.val] w λv K=>v=.tuple #[.int .i64 (Ydj g.gw).1,.int .i64 (Ydj g.gw).2]/\K=H:=by
 refine Yc Tryz.func27 Tryz.ntmps27 rfl rfl hw ?_
 have hop:∀w,St B w0 [many H] w->St B w0 H w:=λw hw=>hw.perm (.openT H)
 have hgM:∀{H':List HP},many H∈H'->g.In B w0 H':=λhm=>hg.mono λw hw=>hw.inM hm
 have p1:=λ{H':List HP}{w:World}(hg:g.In B w0 H') (hw:St B w0 H' w)=>XC g ht hg hw
 unfold GwM.val at p1
 unfold GwM.val
 refine Xf [many H] (λw hw=>hw.perm (.closeT H)) ?_
 have hgo:=λh:chkG g.gw=0=>YpU (XO.1 h)
 unfold Ydj
 obtain⟨e,he⟩:∃e,chkG g.gw=e:=⟨_,rfl⟩
 rw[he]at p1 hgo⊢
 by_cases he0:e=0
 rotate_left
 ·rw[Tm he0]
  repeat'(first|((first|apply Ya en23|apply Yb en23);exact za;exact rfl;exactλ_ hw=>(p1 (hgM zm) hw))|refine zgb ?_|(refine zge ?_ ?_<;>intro _<;>try exact zo)|(refine zgh ?_;intro _)|fail)
  apply Yi H
  ·intro w hw
   have h5:St B w0 [many H] w:=by
    revert w
    exact zk
   exact hop w h5
  apply Yx;(iterate 3 exact rfl);exact⟨rfl,rfl⟩
 rw[Td (λe=>e he0)]
 subst he0
 have hfl:=hgo rfl
 rw[show g.gw.p.f=g.p.f from rfl]at hfl⊢
 have hrM:∀{H':List HP},many H∈H'->Rd B w0 H' g.p.fA (g.p.f.flatMap numF):=λhm=>(hgM hm).p.f
 repeat'(first|(apply Ye T;exact rfl;exact zm;exact rfl;exact zv;exact rfl;exact rfl)|((first|apply Ya en23|apply Yb en23);exact za;exact rfl;exactλ_ hw=>(p1 (hgM zm) hw))|refine zgb ?_|(refine zge ?_ ?_<;>intro _<;>try exact zo)|(refine zgh ?_;intro _)|fail)
 rename_i g1
 refine Yj (λk:Nat=>[(17,.int .i64 k),(16,.int .i64 g.p.f.length),(15,.slice g.p.fA g.p.f.length g.p.fcap),(5,.int .i64 (sumP (g.p.f.take k)))]) (λ_=>[many H]) (λk=>k<=g.p.f.length) (λk=>g.p.f.length-k) 0 (Tj _) ?_ ?_ ?_
 ·exact zu
 ·exact zk
 rintro k hk K hK
 by_cases hlt:k<g.p.f.length
 ·obtain⟨a,ha⟩:∃a,g.p.f[k]? =some a:=⟨_,Ta hlt⟩
  have hst:sumP (g.p.f.take (k+1))=sumP (g.p.f.take k)+popX (IntKind.u64.wrap a):=by rw[TM,ha];exact YfT _ _
  have h1:=YqA (IntKind.u64.wrap a)
  have h2:=Ymw (g.p.f.take k)
  rw[TA]at h2
  have p2:=λ{H':List HP}{w:World}(hw:St B w0 H' w)=>Yn2 (IntKind.u64.wrap a) hw
  have hrd:=hrM (H':=[many H]) (.head _)
  repeat'(first|((first|apply Ya en70|apply Yb en70);exact za;exact rfl;exactλ_ hw=>(p2 hw))|refine zgd ?_|(refine zge ?_ ?_<;>intro _<;>try exact zo)|fail)
  apply hK (k+1)
  ·omega
  ·omega
  ·rw[hst];exact zu
  ·exact zk
 ·obtain rfl:k=g.p.f.length:=by omega
  rw[TQ]
  repeat'(first|refine zgc ?_|(refine zge ?_ ?_<;>intro _<;>try exact zo)|fail)
  apply Yi H
  ·intro w hw
   have h5:St B w0 [many H] w:=by
    revert w
    exact zk
   exact hop w h5
  apply Yx;(iterate 3 exact rfl);exact⟨rfl,rfl⟩
def exN6:Net:=⟨2,[[0,40],[40,0]],1,2000,[(0,1,0),(1,0,0)],[20,20]⟩
def exL6:Lop:=(2,1,0,1,8,0,15)
def exP6:Pln:=⟨exN6,[],⟨8,1,[]⟩,[],[1,1,1,1,1,1,1,1]⟩
def exFa:Flw:=(4,1,0,8,0,1)
def exFb:Flw:=(5,0,1,8,1,7)
def exQa:Pln:=⟨exN6,[(exFa,[[1,0]])],⟨8,1,[(0,0,1,0,4)]⟩,[⟨4,[[1,0]],[1],[0],[[0]]⟩],[0,1,1,1,1,1,1,1]⟩
def exQb:Pln:=⟨exN6,[(exFa,[[1,0]]),(exFb,[[0,1]])],⟨8,1,[(0,0,1,0,4),(1,0,0,1,5)]⟩,[⟨4,[[1,0]],[1],[0],[[0]]⟩,⟨5,[[0,1]],[1],[1],[[0]]⟩],[0,0,1,1,1,1,1,1]⟩
theorem Q9:YY exN6=exA5:=by decide
theorem Ykb:Un 100000 exN6 1 0=some (none,17):=by
 have h:(V9 100000 2 exA5 0 1 0 (λ_=>false)).map (λr=>r.2.1)=some false:=by decide
 have hp:OI 100000 2 exA5 1 0=some none:=by
  unfold OI
  cases hb:V9 100000 2 exA5 0 1 0 (λ_=>false)with
  |none=>rw[hb]at h;cases h
  |some r=>
   rw[hb]at h
   obtain⟨x,ok,es⟩:=r
   simp only[Sv,RE]at h
   subst h
   rfl
 unfold Un
 rw[Td (by decide),Q9,show exN6.nodes.toNat=2 from rfl,hp]
theorem Ynu:Vq exN6 exFa=(none,17):=by
 unfold Vq
 rw[show exFa.2.1=1 from rfl,show exFa.2.2.1=0 from rfl,Ykb];rfl
theorem Yc4:reqE exN6 exFa=((exFa,[[1,0]]),0):=by
 have hr:WH exN6 1 0=[1,0]:=by
  unfold WH
  rw[Q9,show exN6.nodes.toNat=2 from rfl,YcX (far:=[0,34]) (by decide) (by decide)]
  decide
 have hs:ZC exN6 1 0=([1,0],0):=by
  unfold ZC
  rw[hr]
  decide
 unfold reqE
 rw[Ynu]
 unfold VF
 rw[show exFa.2.1=1 from rfl,show exFa.2.2.1=0 from rfl,hs]
 rfl
theorem Ykc:Vy exN6 [exFa]=([(exFa,[[1,0]])],(-1,0)):=by
 have h1:YdU exN6 [exFa]=(-1,0):=by
  unfold YdU
  show YD (λi=>(reqE exN6 (Xg [exFa] i)).2) 1 0=_
  unfold YD YD
  rw[show Xg [exFa] 0=exFa from rfl,Yc4]
  rfl
 unfold Vy
 rw[h1,Td (by decide),Td (by decide),Td (by decide),Ru,Nj,Yc4]
theorem YpO:extP exP6 exFa=(some exQa,0):=by
 unfold extP
 rw[Td (by decide),Td (by decide),Td (by decide),Td (by decide)]
 rw[show(exP6).n=exN6 from rfl,Ykc,Td (by decide),Yc4,Tm (by decide)]
 rfl
theorem Ykd:Un 100000 exN6 0 1=some (none,17):=by
 have h:(V9 100000 2 exA5 0 0 1 (λ_=>false)).map (λr=>r.2.1)=some false:=by decide
 have hp:OI 100000 2 exA5 0 1=some none:=by
  unfold OI
  cases hb:V9 100000 2 exA5 0 0 1 (λ_=>false)with
  |none=>rw[hb]at h;cases h
  |some r=>
   rw[hb]at h
   obtain⟨x,ok,es⟩:=r
   simp only[Sv,RE]at h
   subst h
   rfl
 unfold Un
 rw[Td (by decide),Q9,show exN6.nodes.toNat=2 from rfl,hp]
theorem Ynv:Vq exN6 exFb=(none,17):=by
 unfold Vq
 rw[show exFb.2.1=0 from rfl,show exFb.2.2.1=1 from rfl,Ykd];rfl
theorem Yc5:reqE exN6 exFb=((exFb,[[0,1]]),0):=by
 have hr:WH exN6 0 1=[0,1]:=by
  unfold WH
  rw[Q9,show exN6.nodes.toNat=2 from rfl,YcX (far:=[34,0]) (by decide) (by decide)]
  decide
 have hs:ZC exN6 0 1=([0,1],0):=by
  unfold ZC
  rw[hr]
  decide
 unfold reqE
 rw[Ynv]
 unfold VF
 rw[show exFb.2.1=0 from rfl,show exFb.2.2.1=1 from rfl,hs]
 rfl
theorem Yke:Vy exN6 [exFb]=([(exFb,[[0,1]])],(-1,0)):=by
 have h1:YdU exN6 [exFb]=(-1,0):=by
  unfold YdU
  show YD (λi=>(reqE exN6 (Xg [exFb] i)).2) 1 0=_
  unfold YD YD
  rw[show Xg [exFb] 0=exFb from rfl,Yc5]
  rfl
 unfold Vy
 rw[h1,Td (by decide),Td (by decide),Td (by decide),Ru,Nj,Yc5]
theorem YpP:extP exQa exFb=(some exQb,0):=by
 unfold extP
 rw[Td (by decide),Td (by decide),Td (by decide),Td (by decide)]
 rw[show(exQa).n=exN6 from rfl,Yke,Td (by decide),Yc5,Tm (by decide)]
 rfl
def exG6:Gwy:=⟨exP6,[],[]⟩
def exH6:Gwy:=⟨exQb,[exL6],[(1,7)]⟩
theorem YpM:Og exP6 exL6 (1,7)=some exQb:=by
 unfold Og
 rw[show JV exL6 (1,7)=exFa from rfl,show JW exL6 (1,7)=exFb from rfl,YpO]
 simp only
 rw[YpP]
 rfl
theorem Yr7:admG exG6 exL6=(some exH6,0):=by
 unfold admG
 rw[Td (by decide),Td (by decide),Td (by decide),Td (by decide)]
 rw[show Vc exL6=(1,7)::(Vc exL6).tail from rfl]
 unfold tryG
 rw[show(exG6).p=exP6 from rfl,YpM]
 rfl
theorem Ynt:admG exH6 exL6=(none,6):=by
 unfold admG
 rw[Td (by decide),Tm (by decide)]
theorem Yr9:disG exG6 2=(none,7):=by
 unfold disG
 rw[Td (by decide),Tm (by decide)]
theorem Yr8:ageG exH6 2=(9,0):=by
 unfold ageG
 rw[Td (by decide),Td (by decide)]
 decide
end Go.Proofs.YtambgjgljcadlaaGreatDoor
