/- Lemmas for the claim, part 29. -/
import Derived.Test.YtaholidehobiiaaGreatDoorQ27
import Derived.Test.YtaholidehobiiaaGreatDoorQ28
set_option maxRecDepth 100000
set_option maxHeartbeats 8000000
set_option linter.all false
namespace Go.Proofs.YtaholidehobiiaaGreatDoor
open Go.RowKit Go.Eng Go.Nw Go.Rt
variable {B:Nat}{w0 w:World}{H:List HP}
theorem W7(n:NetM)(hin:n.In B w0 H)(hw:St B w0 H w):
 CX B w0 58 [n.val] w λv K=>v=.bool (decide (Yo n.net=0))/\K=H:=by
 refine Yc Tryz.func58 Tryz.ntmps58 rfl rfl hw ?_
 have p1:=λ{H':List HP}{w:World}(hin:n.In B w0 H') (hw:St B w0 H' w)=>Yn6 n [] (A:=none) (cap:=0) hin .nil (by decide) (by decide) hw
 have hc:(Yik n.net []).2=if Yo n.net≠0 then 1 else 9:=by
  unfold Yik
  by_cases h:Yo n.net=0
  ·rw[Tf (show¬Yo n.net≠0 fromλe=>e h),Tf (show¬Yo n.net≠0 fromλe=>e h)];rfl
  simp_all
 unfold NetM.val at p1⊢
 by_cases h:Yo n.net=0
 ·rw[Tf (λe=>e h)]at hc
  rw[hc]at p1
  rw[Td h]
  refine zX70 ?_<;>intros
  first|apply Ya Ym2|apply Yb Ym2
  exact za
  exact rfl
  exactλ_ hw=>(p1 hin.cons hw)
  refine zX1 ?_<;>intros
  apply Yi H
  ·exact zc0
  exact zc11
 ·rw[Tn h]at hc
  rw[hc]at p1
  rw[Ti h]
  refine zX70 ?_<;>intros
  first|apply Ya Ym2|apply Yb Ym2
  exact za
  exact rfl
  exactλ_ hw=>(p1 hin.cons hw)
  refine zX1 ?_<;>intros
  apply Yi H
  ·exact zc0
  exact zc4
def rqQ(x:RqM):HP:=many [sl 93 1 x.A x.rows.length x.cap (x.rows.flatMap rowF),many (x.rows.map rowQ)]
def RqM.lens(x:RqM):Prop:=x.rows.length<=1000/\∀r∈x.rows,r.xs.length<=1000/\r.xs.length<=r.cap
theorem Yr9{x:RqM}(hm:rqQ x∈H)(hl:x.lens):x.In B w0 H:=by
 have hb:∀w,St B w0 H w->St B w0 [sl 93 1 x.A x.rows.length x.cap (x.rows.flatMap rowF),many (x.rows.map rowQ)] w:=λw hw=>hw.inM hm
 refine RqM.In.mono ⟨.sl (.head _),λr hr=>?_,T9 hl.1 (by decide),λr hr=>⟨T9 (hl.2 r hr).1 (by decide),(hl.2 r hr).2⟩⟩ hb
 exact Rd.many (L:=x.rows.map rowQ) (.tail _ (.head _)) (Sr hr)
def zeroX:RqM:=⟨(0,0,0,0,0,0),none,0,[]⟩
theorem YxX(h:St B w0 H w):St B w0 (rqQ zeroX::H) w:=by
 exact((h.perm (.noMany H)).nilSlice 93 1).perm (.close [_,_] H)
def OutQ(H:List HP)(R:Rqs×Int)(v:Value)(K:List HP):Prop:=∃x:RqM,v=.tuple #[rqV x,.int .i64 R.2]/\x.rq=R.1/\x.lens/\K=rqQ x::H
theorem Yt3{R:Rqs×Int}{v:Value}(e:Int)(hR:R=(YkP,e))(hv:v=.tuple #[rqV zeroX,.int .i64 e]):OutQ H R v (rqQ zeroX::H):=⟨zeroX,by simp_all,by rw[hR];rfl,⟨Tm _,λr hr=>by cases hr⟩,rfl⟩
theorem U7(n:NetM)(f:Flw)(hin:n.In B w0 H)(hw:St B w0 H w):
 CX B w0 100 [n.val,flwV f] w (OutQ H (Zo n.net f)):=by
 refine Yc Tryz.func100 Tryz.ntmps100 rfl rfl hw ?_
 have p1:=λ{H':List HP}{w:World}(hin:n.In B w0 H') (hw:St B w0 H' w)=>Yfw n f.2.1 f.2.2.1 hin hw
 have hl9:=Ysh n.net f.2.1 f.2.2.1
 have hsing:Zo n.net f=if(XS n.net f.2.1 f.2.2.1).2≠0 then(YkP,(XS n.net f.2.1 f.2.2.1).2)else((f,[(XS n.net f.2.1 f.2.2.1).1]),0):=rfl
 rw[hsing]
 clear hsing
 generalize XS n.net f.2.1 f.2.2.1=R at*
 unfold NetM.val at p1⊢
 unfold flwV
 refine zX70 ?_<;>intros
 apply Ye _ Yxm
 exact za
 exact rfl
 exactλ_ hw=>(p1 hin.cons.cons.cons (hw))
 rintro _ _ ⟨A,cap,rfl,-,-,rfl⟩
 apply UB (e:=3) (size:=1) (k:=R.1.length) (cap:=cap) (A:=A) (xs:=R.1.flatMap numF) (by(focus exact zc2))
 intro hcap
 obtain⟨r,e⟩:=R
 dsimp only at hl9 hcap⊢
 by_cases he:e=0
 ·rw[Tf (λh=>h he)]
  refine zX48 ?_<;>intros
  rename_i gL
  apply Yq T (H2:=rqQ ⟨f,some ⟨gL,0,none⟩,1,[⟨A,cap,r⟩]⟩::H);(iterate 3 exact rfl);(focus exact zc2);exact rfl;exact rfl
  ·intro w hw
   have h5:St B w0 (blk gL (.cells #[.slice A r.length cap] 93 (0,0))::ints A cap r::H) w:=by
    revert w
    exact zc0
   have h6:=h5.blk_sl (cs:=[Value.slice A r.length cap]) (len:=1) (size:=1) rfl (by omega)
   exact(h6.perm (.cons _ (.close [_] H))).perm (.close [_,_] H)
  refine⟨_,rfl,rfl,⟨TX rfl,λx hx=>?_⟩,rfl⟩
  exact YvP
 ·rw[Tn he]
  refine zX0 ?_<;>intros
  apply Yq T (H2:=rqQ zeroX::H);(iterate 3 exact rfl);(focus exact zc2);exact rfl;exact rfl
  ·intro w hw
   have h5:St B w0 H w:=by
    revert w
    exact zc0
   exact YxX h5
  exact Yt3 e rfl rfl
theorem Yep(n:NetM)(f:Flw)(hrun:Vu 100000 n.net f.2.1 f.2.2.1=some (Jr n.net f))(hin:n.In B w0 H)(hw:St B w0 H w):
 CX B w0 60 [n.val,flwV f] w (OutQ H (reqE n.net f)):=by
 refine Yc Tryz.func60 Tryz.ntmps60 rfl rfl hw ?_
 have p1:=λ{H':List HP}{w:World}(hin:n.In B w0 H') (hw:St B w0 H' w)=>Yn9 n f.2.1 f.2.2.1 100000 (Jr n.net f) (TJ _) hrun hin hw
 have p2:=λ{H':List HP}{w:World}(hin:n.In B w0 H') (hw:St B w0 H' w)=>U7 n f hin hw
 have hreq:reqE n.net f=match(Jr n.net f).1 with|some pq=>((f,[pq.1,pq.2]),0)|none=>Zo n.net f:=rfl
 rw[hreq]
 clear hreq
 unfold NetM.val flwV at p2
 unfold NetM.val at p1⊢
 unfold flwV
 rcases YgA hrun with⟨h1,h2⟩|⟨a,b,h1⟩
 ·generalize Jr n.net f=R at*
  obtain⟨o,e⟩:=R
  dsimp only at h1 h2
  subst h1
  dsimp only at p1⊢
  refine zX70 ?_<;>intros
  first|apply Ya Yq0|apply Yb Yq0
  exact za
  exact rfl
  exactλ_ hw=>(p1 hin.cons.cons.cons hw)
  refine zX1 ?_<;>intros
  apply Ye _ YqW
  exact za
  exact rfl
  exactλ_ hw=>(p2 hin.cons.cons.cons (hw))
  rintro _ _ ⟨x,rfl,hx,hxl,rfl⟩
  unfold rqV
  refine zX11 ?_
  apply Yq T (H2:=rqQ x::H);(iterate 3 exact rfl);(focus exact zc2);exact rfl;exact rfl
  ·exact zc0
  exact⟨x,rfl,hx,hxl,rfl⟩
 ·rw[h1]at p1⊢
  dsimp only at p1⊢
  refine zX70 ?_<;>intros
  apply Ye _ Yq0
  exact za
  exact rfl
  exactλ_ hw=>(p1 hin.cons.cons.cons (hw))
  rintro _ _ ⟨g,A1,c1,A2,c2,rfl,⟨l1,l2,l3⟩,-,rfl⟩
  apply UB (e:=3) (size:=1) (k:=a.length) (cap:=c1) (A:=A1) (xs:=a.flatMap numF) (by(focus exact zc2))
  intro hc1
  apply UB (e:=3) (size:=1) (k:=b.length) (cap:=c2) (A:=A2) (xs:=b.flatMap numF) (by(focus exact zc2))
  intro hc2
  try dsimp only at l1 l2 l3
  refine zX0 ?_<;>intros
  apply Yq T (H2:=rqQ ⟨f,some ⟨g,0,none⟩,2,[⟨A1,c1,a⟩,⟨A2,c2,b⟩]⟩::H);(iterate 3 exact rfl);(focus exact zc2);exact rfl;exact rfl
  ·intro w hw
   have h5:St B w0 (sl 93 1 (some ⟨g,0,none⟩) 2 2 ([⟨A1,c1,a⟩,⟨A2,c2,b⟩].flatMap rowF)::ints A1 c1 a::ints A2 c2 b::H) w:=by
    revert w
    exact zc0
   exact(h5.perm (.cons _ (.close [_,_] H))).perm (.close [_,_] H)
  refine⟨_,rfl,rfl,⟨TX rfl,λx hx=>?_⟩,rfl⟩
  simp only[TL,RV,N3]at hx
  rcases hx with rfl|rfl
  ·exact⟨by show a.length<=_;omega,hc1⟩
  ·exact⟨by show b.length<=_;omega,hc2⟩
theorem Yd9(q:List RqM)(x:RqM)(H:List HP):Perm (rqQ x::many (q.map rqQ)::H) (many ((q++[x]).map rqQ)::H):=by
 have:=Perm.push (rqQ x) (q.map rqQ) [] H
 simp_all
def Ymy(H:List HP)(R:List Rqs×(Int×Int))(v:Value)(K:List HP):Prop:=∃A cap q,v=.tuple #[.slice A (q:List RqM).length cap,.int .i64 R.2.1,.int .i64 R.2.2]/\q.map RqM.rq=R.1/\(∀x∈q,x.lens)/\K=rqs A cap q::many (q.map rqQ)::H
variable {B:Nat}{w0 w:World}{H:List HP}
theorem YhF(h:St B w0 H w):St B w0 (rqs none 0 []::many (([]:List RqM).map rqQ)::H) w:=(h.perm (.noMany H)).nilSlice 86 7
theorem YrS{R:List Rqs×(Int×Int)}{v:Value}(i e:Int)(hR:R=([],(i,e)))(hv:v=.tuple #[.slice none 0 0,.int .i64 i,.int .i64 e]):Ymy H R v (rqs none 0 []::many (([]:List RqM).map rqQ)::H):=
 ⟨none,0,[],by simp_all,by simp_all,(λx hx=>by cases hx),rfl⟩
theorem YcQ{q:List RqM}{x:RqM}(hm:many (q.map rqQ)∈H)(hx:x∈q)(hl:x.lens):x.In B w0 H:=
 RqM.In.mono (H:=q.map rqQ) (Yr9 (Sr hx) hl) λ_ hw=>hw.inM hm
structure RtM where
 i:Nat
 A:Option Addr
 cap:Nat
 q:List RqM
theorem U6(n:NetM)(l:List Flw)(hll:l.length<=1000000000000)(hrun:∀f∈l,Vu 100000 n.net f.2.1 f.2.2.1=some (Jr n.net f)){A:Option Addr}{cap:Nat}(hin:n.In B w0 H)(hr:Rd B w0 H A (l.flatMap flwF))(hw:St B w0 H w):
 CX B w0 13 [n.val,.slice A l.length cap] w (Ymy H (Zd n.net l)):=by
 refine Yc Tryz.func13 Tryz.ntmps13 rfl rfl hw ?_
 have p1:=λ{H':List HP}{w:World}(hin:n.In B w0 H') (hw:St B w0 H' w)=>W7 n hin hw
 have p2:=λ{H':List HP}{w:World}(hr:Rd B w0 H' A (l.flatMap flwF)) (hw:St B w0 H' w)=>Xe n.nodes l (T9 hll (by decide)) (cap:=cap) hr hw
 have p3:=λ(f:Flw) (hf:f∈l) {H':List HP}{w:World}(hin:n.In B w0 H') (hw:St B w0 H' w)=>Yep n f (hrun f hf) hin hw
 have hop:∀w,St B w0 [many H] w->St B w0 H w:=λw hw=>hw.perm (.openT H)
 have hin:=hin.mono hop
 have hr:=hr.mono hop
 unfold NetM.val flwV at p3
 unfold NetM.val at p1⊢
 refine ZW [many H] (λw hw=>hw.perm (.closeT H)) ?_
 unfold Zd
 by_cases hck:Yo n.net=0
 rotate_left
 ·rw[Tn hck]
  rw[Ti hck]at p1
  refine zX70 ?_<;>intros
  first|apply Ya en58|apply Yb en58
  exact za
  exact rfl
  exactλ_ hw=>(p1 hin.cons hw)
  refine zX2 ?_
  apply Yi (rqs none 0 []::many (([]:List RqM).map rqQ)::H)
  ·intro w hw
   have h5:St B w0 [many H] w:=by
    revert w
    exact zc0
   exact YhF (hop w h5)
  exact zc68
 rw[Tf (λe=>e hck)]
 rw[Td hck]at p1
 have hnd:n.net.nodes=n.nodes:=rfl
 rw[hnd]
 obtain⟨⟨fi,fe⟩,hF⟩:∃R,Yu n.nodes l=R:=⟨_,rfl⟩
 rw[hF]at p2⊢
 dsimp only at p2⊢
 refine zX70 ?_<;>intros
 first|apply Ya en58|apply Yb en58
 exact za
 exact rfl
 exactλ_ hw=>(p1 hin.cons hw)
 refine zX2 ?_
 first|apply Ya en59|apply Yb en59
 exact za
 exact rfl
 exactλ_ hw=>(p2 hr.cons hw)
 by_cases hfe:fe=0
 rotate_left
 ·rw[Tn hfe]
  refine zX1 ?_<;>intros
  apply Yi (rqs none 0 []::many (([]:List RqM).map rqQ)::H)
  ·intro w hw
   have h5:St B w0 [many H] w:=by
    revert w
    exact zc0
   exact YhF (hop w h5)
  exact zc68
 subst hfe
 rw[Tf (λe=>e rfl)]
 have hl16:l.length<=16:=zc79
 obtain⟨F,hFd⟩:∃F,(λi=>(reqE n.net (Xj l i)).2)=F:=⟨_,rfl⟩
 have hFv:∀{i:Nat}{f:Flw},l[i]? =some f->F i=(reqE n.net f).2:=λ{i f} h=>by
  exact YvB
 unfold Ycl
 rw[hFd]
 refine zX1 ?_<;>intros
 rename_i g2 _
 refine Yg (λz:RtM=>[(30,.int .i64 (z.i:Nat)),(29,.int .i64 l.length),(28,.slice A l.length cap),(9,.slice z.A z.q.length z.cap),(2,.pointer (some ⟨g2,0,none⟩))]) (λz=>rqs z.A z.cap z.q::many (z.q.map rqQ)::netA g2 n::[many H])
  (λz=>z.i<=l.length/\z.q.map RqM.rq=(l.take z.i).map (λf=>(reqE n.net f).1)/\(∀x∈z.q,x.lens)/\∀j,0<=j->j<z.i->F j=0) (λz=>l.length-z.i) ⟨0,none,0,[]⟩ ⟨Tm _,rfl,(λx hx=>by cases hx),λj _ h=>absurd h (RL _)⟩ ?_ ?_ ?_
 ·exact zc1
 ·intro w hw
  have h5:St B w0 (netA g2 n::[many H]) w:=by
   revert w
   exact zc0
  exact YhF h5
 rintro⟨i,A1,c1,q⟩ ⟨hi,hq,hql,hz⟩ K hK
 dsimp only at hi hq hql hz⊢
 have hqn:q.length=i:=by
  have:=TE List.length hq
  exact zc92
 by_cases hlt:i<l.length
 rotate_left
 ·obtain rfl:i=l.length:=by omega
  have hfe:=Zm (f:=F) (r:=l.length) (i0:=0) λj h1 h2=>hz j h1 (by omega)
  rw[hfe,Tf (λe=>e rfl)]
  rw[TV]at hq
  clear hK
  refine zX1 ?_<;>intros
  apply Yi (rqs A1 c1 q::many (q.map rqQ)::H)
  ·intro w hw
   have h5:St B w0 (rqs A1 c1 q::many (q.map rqQ)::[many H]) w:=by
    revert w
    exact zc0
   exact zc76
  apply VW;(iterate 4 exact rfl)
  exact⟨A1,c1,q,rfl,hq,hql,rfl⟩
 obtain⟨f,hf⟩:∃f,l[i]? =some f:=⟨_,Ta hlt⟩
 have hr2:Rd B w0 (rqs A1 c1 q::many (q.map rqQ)::netA g2 n::[many H]) A (l.flatMap flwF):=hr.cons.cons.cons
 have hFi:=hFv hf
 have hst:(l.take (i+1)).map (λf=>(reqE n.net f).1)=(l.take i).map (λf=>(reqE n.net f).1)++[(reqE n.net f).1]:=by
  rw[TN,hf,Rb];rfl
 have p4:=λ{H':List HP}{w:World}(hin:n.In B w0 H') (hw:St B w0 H' w)=>p3 f (Tc hf) (H':=H') (w:=w) hin hw
 clear p3
 generalize reqE n.net f=RQ at p4 hFi hst
 obtain⟨rq,re⟩:=RQ
 dsimp only at hFi hst
 refine zX48 ?_<;>intros
 apply Ye _ en60
 exact za
 exact rfl
 exactλ_ hw=>(p4 (hin.mono zc0) (hw))
 rintro _ _ ⟨x,rfl,hx,hxl,rfl⟩
 dsimp only at hx⊢
 by_cases he:re=0
 rotate_left
 ·have hfe:=Zl (f:=F) (r:=l.length) (i0:=0) (i:=i) (λj h1 h2=>hz j h1 h2) (Tm _) (by omega) (by rw[hFi];exact he)
  rw[hfe,Tn (by rw[hFi];exact he),hFi]
  clear hK
  refine zX48 ?_<;>intros
  apply Yi (rqs none 0 []::many (([]:List RqM).map rqQ)::H)
  ·intro w hw
   have h5:St B w0 [many H] w:=by
    revert w
    exact zc0
   exact YhF (hop w h5)
  exact zc68
 subst he
 unfold rqV rqs
 refine YnW ?_<;>intros
 rename_i A2 c2
 apply hK ⟨i+1,A2,c2,q++[x]⟩
 ·refine⟨by exact zc71,?_,λy hy=>?_,λj h1 h2=>?_⟩
  ·exact Yvz
  ·rcases TI.1 hy with hy|hy
   ·exact hql y hy
   ·rw[TG.1 hy];exact hxl
  exact YvJ
 ·exact zc39
 ·rw[To]
  exact zc1
 ·intro w hw
  have h5:St B w0 (rqQ x::many (q.map rqQ)::rqs A2 c2 (q++[x])::netA g2 n::[many H]) w:=by
   rw[<-Qs]
   revert w
   exact zc0
  have h6:=h5.perm (Yd9 q x _)
  exact h6.perm (.swap _ _ _)
structure BuM where
 n:NetM
 qA:Option Addr
 qcap:Nat
 q:List RqM
 s:SchM
 cA:Option Addr
 ccap:Nat
 c:List ClM
 fA:Option Addr
 fcap:Nat
 f:List Int
 e:Int
abbrev bldA(g:Nat)(b:BuM):HP:=blk g (.cells #[.int .i64 b.n.nodes,.slice b.n.pA b.n.rows.length b.n.pcap,.int .i64 b.n.noise,.int .i64 b.n.thr,.slice b.n.lA b.n.links.length b.n.lcap,.slice b.n.mA b.n.margin.length b.n.mcap,.slice b.qA b.q.length b.qcap,.int .i64 b.s.len,.int .i64 b.s.off,.slice b.s.A b.s.cells.length b.s.cap,.slice b.cA b.c.length b.ccap,.slice b.fA b.f.length b.fcap,.int .i64 b.e] 114 (0,0))
def BuM.fail(b:BuM)(e:Int):BuM:={b with e:=XM b.e e}
theorem UK(b:BuM)(g:Nat)(e:Int){B:Nat}{w0:World}{H:List HP}{w:World}(hw:St B w0 (bldA g b::H) w):
 CX B w0 70 [.pointer (some ⟨g,0,none⟩),.int .i64 e] w λv K=>v=.tuple #[]/\K=bldA g (b.fail e)::H:=by
 refine Yc Tryz.func70 Tryz.ntmps70 rfl rfl hw ?_
 unfold BuM.fail XM
 by_cases h:b.e=0
 ·rw[Tn h]
  refine zX0 ?_<;>intros
  all_goals first|(exfalso;contradiction)|skip
  exact YkO
 ·rw[Tf h]
  refine zX0 ?_<;>intros
  all_goals first|(exfalso;contradiction)|skip
  exact YkO
variable {A:Option Addr}{cap B:Nat}{w0 w:World}{H:List HP}
theorem Ydq(l:List RowM)(hlen:l.length<=1000)(hr:Rd B w0 H A (l.flatMap rowF))(hw:St B w0 H w):
 CX B w0 166 [.slice A l.length cap] w λv K=>∃A' cap',v=.slice A' l.length cap'/\K=sl 93 1 A' l.length cap' (l.flatMap rowF)::H:=by
 cases A with
 |none=>
  have hl:l=[]:=by
   cases l with
   |nil=>rfl
   |cons x l=>
    exact zc35
  subst hl
  refine Yc Tryz.func166 Tryz.ntmps166 rfl rfl hw ?_
  refine zX7 ?_
  apply X9 93 1;exact zc36
 |some a=>
  refine Yc Tryz.func166 Tryz.ntmps166 rfl rfl hw ?_
  repeat'(first|(apply ZE;(iterate 3 exact rfl))|(apply Y1 T;exact rfl;exact rfl;intro g2)|refine zga ?_|fail)
  apply Xy T (f:=rowF) (l2:=l) (e:=93) (size:=1) (xs:=[]);(iterate 3 exact rfl);exact hr.cons;exact(λ_=>rfl);exact(λ_=>rfl);exact rfl;(intro _ _;exact zd);omega;intro A' cap'
  exact zc30
theorem Ydp(l:List Lk)(hlen:l.length<=1000)(hr:Rd B w0 H A (l.flatMap lkF))(hw:St B w0 H w):
 CX B w0 163 [.slice A l.length cap] w λv K=>∃A' cap',v=.slice A' l.length cap'/\K=sl 140 3 A' l.length cap' (l.flatMap lkF)::H:=by
 cases A with
 |none=>
  have hl:l=[]:=by
   cases l with
   |nil=>rfl
   |cons x l=>
    exact zc35
  subst hl
  refine Yc Tryz.func163 Tryz.ntmps163 rfl rfl hw ?_
  refine zX7 ?_
  apply X9 140 3;exact zc36
 |some a=>
  refine Yc Tryz.func163 Tryz.ntmps163 rfl rfl hw ?_
  repeat'(first|(apply ZE;(iterate 3 exact rfl))|(apply Y1 T;exact rfl;exact rfl;intro g2)|refine zga ?_|fail)
  apply Xy T (f:=lkF) (l2:=l) (e:=140) (size:=3) (xs:=[]);(iterate 3 exact rfl);exact hr.cons;exact(λ_=>rfl);exact(λ_=>rfl);exact rfl;(intro _ _;exact zd);omega;intro A' cap'
  exact zc30
structure PnM where
 n:NetM
 qA:Option Addr
 qcap:Nat
 q:List RqM
 s:SchM
 cA:Option Addr
 ccap:Nat
 c:List ClM
 fA:Option Addr
 fcap:Nat
 f:List Int
def PnM.val(p:PnM):Value:=.agg #[.int .i64 p.n.nodes,.slice p.n.pA p.n.rows.length p.n.pcap,.int .i64 p.n.noise,.int .i64 p.n.thr,.slice p.n.lA p.n.links.length p.n.lcap,.slice p.n.mA p.n.margin.length p.n.mcap,.slice p.qA p.q.length p.qcap,.int .i64 p.s.len,.int .i64 p.s.off,.slice p.s.A p.s.cells.length p.s.cap,.slice p.cA p.c.length p.ccap,.slice p.fA p.f.length p.fcap]
def PnM.pln(p:PnM):Pln:=⟨p.n.net,p.q.map RqM.rq,p.s.sch,p.c.map ClM.clm,p.f⟩
structure PnM.In(B:Nat)(w0:World)(H:List HP)(p:PnM):Prop where
 n:p.n.In B w0 H
 q:QIn B w0 H p.qA p.q
 s:Rd B w0 H p.s.A (p.s.cells.flatMap celF)
 sl:p.s.cells.length<=1000000000000
 c:CIn B w0 H p.cA p.c
 f:Rd B w0 H p.fA (p.f.flatMap numF)
 fl:p.f.length<=1000000000000
variable {p:PnM}
theorem PnM.In.mono{H':List HP}(h:p.In B w0 H)(hH:∀w,St B w0 H' w->St B w0 H w):p.In B w0 H':=⟨h.n.mono hH,h.q.mono hH,h.s.mono hH,h.sl,h.c.mono hH,h.f.mono hH,h.fl⟩
theorem PnM.In.cons{X:HP}(h:p.In B w0 H):p.In B w0 (X::H):=h.mono λ_ hw=>hw.tail
def zeroPnV:Value:=.agg #[.int .i64 0,.slice none 0 0,.int .i64 0,.int .i64 0,.slice none 0 0,.slice none 0 0,.slice none 0 0,.int .i64 0,.int .i64 0,.slice none 0 0,.slice none 0 0,.slice none 0 0]
def Yah(B:Nat)(w0:World)(H:List HP)(R:Option Pln×Int)(v:Value)(K:List HP):Prop:=
 (R.1=none/\v=.tuple #[zeroPnV,.int .i64 R.2]/\K=H)\/∃(p:PnM) (X:List HP),R.1=some p.pln/\v=.tuple #[p.val,.int .i64 R.2]/\p.In B w0 (many X::H)/\K=many X::H
def Yw0(B:Nat)(w0:World)(H:List HP)(s:SchM)(R:Option Pln×Int)(v:Value)(K:List HP):Prop:=
 (R.1=none/\v=.tuple #[zeroPnV,.int .i64 R.2]/\K=H)\/∃(p:PnM) (X:List HP),R.1=some p.pln/\v=.tuple #[p.val,.int .i64 R.2]/\(∀H',Rd B w0 H' s.A (s.cells.flatMap celF)->p.In B w0 (many X::H'))/\K=many X::H
structure RwsM where
 i:Nat
 R:List RowM
structure RqsM where
 i:Nat
 Q:List RqM
variable {i:Nat}
theorem YnK{l:List RowM}{r:RowM}{A:Option Addr}{cap:Nat}(h:l[i]? =some r):(l.set i ⟨A,cap,r.xs⟩).map (·.xs)=l.map (·.xs):=by
 apply Sv
 grind
variable {α:Type}
theorem take_set{l:List α}{a:α}(h:i<l.length):(l.set i a).take (i+1)=l.take i++[a]:=by
 simp_all [List.take_add_one,List.take_set_of_le]
theorem YdD{l m:List α}{a:α}(h:l.drop i=m.drop i):(l.set i a).drop (i+1)=m.drop (i+1):=by
 rw[List.drop_set_of_lt (by omega),<-Np,<-Np,h]
theorem Yhj{l m:List α}{a:α}(h:l.drop i=m.drop i)(hm:m[i]? =some a):l[i]? =some a:=by
 have e1:(l.drop i)[0]? =(m.drop i)[0]? :=by rw[h]
 grind
theorem Vr(b:BuM)(g:Nat){B:Nat}{w0:World}{H:List HP}{w:World}(ht:TabsB B w0)(hin:b.n.In B w0 H)(hq:QIn B w0 H b.qA b.q)(hrs:Rd B w0 H b.s.A (b.s.cells.flatMap celF))(hsl:b.s.cells.length<=1000000000000)(hw:St B w0 (bldA g b::H) w):
 CX B w0 72 [.pointer (some ⟨g,0,none⟩)] w (Yw0 B w0 H b.s (finE b.n.net (b.q.map RqM.rq) b.s.sch b.e)):=by
 refine Yc Tryz.func72 Tryz.ntmps72 rfl rfl hw ?_
 obtain⟨n,qA,qcap,q,s,cA,ccap,c,fA,fcap,f,e⟩:=b
 dsimp only at hin hq hrs hsl⊢
 have hop:∀w,St B w0 [many H] w->St B w0 H w:=λw hw=>hw.perm (.openT H)
 have hin0:=hin
 have hq0:=hq
 have hin:=hin.mono hop
 have hq:=hq.mono hop
 have hrs:=hrs.mono hop
 have p1:=λ{H':List HP}{w:World}(hin:n.In B w0 H') (hq:QIn B w0 H' qA q) (hrs:Rd B w0 H' s.A (s.cells.flatMap celF)) (hw:St B w0 H' w)=>Wt n q s (cap:=qcap) ht hin hq hrs hsl hw
 have p2:=λ{H':List HP}{w:World}(hrs:Rd B w0 H' s.A (s.cells.flatMap celF)) (hw:St B w0 H' w)=>YfB s ht hrs hsl hw
 unfold OutC NetM.val SchM.val at p1
 unfold SchM.val at p2
 refine ZW (bldA g ⟨n,qA,qcap,q,s,cA,ccap,c,fA,fcap,f,e⟩::[many H]) (λw hw=>hw.perm (.cons _ (.closeT H))) ?_
 dsimp only[bldA]
 unfold finE Ybn
 by_cases he:e=0
 rotate_left
 ·rw[Tn he,Tn he]
  refine Ye5 ?_<;>intros
  apply YX [0,1,2,3,4,5,6] [] [false,true,true]
  kernel_rfl
  kernel_rfl
  exact zy
  (simp only[Yh,nthO];rfl)
  exact rfl
  refine Ye6 ?_
  apply Yq T (H2:=H);(iterate 3 exact rfl);(focus exact zc2);exact rfl;exact rfl
  ·intro w hw
   have h5:St B w0 [many H] w:=by
    revert w
    exact zc0
   exact hop w h5
  exact zc73
 subst he
 rw[Tf (show¬(0:Int)≠0 fromλe=>e rfl)]
 obtain⟨⟨RC,ri,re⟩,hR⟩:∃R,YN n.net (q.map RqM.rq) s.sch=R:=⟨_,rfl⟩
 obtain⟨⟨RF,fe⟩,hRF⟩:∃R,ZQ s.sch=R:=⟨_,rfl⟩
 rw[hR]at p1⊢
 rw[hRF]at p2⊢
 dsimp only at p1 p2⊢
 have p3:=λ(b:BuM) (e:Int) {H':List HP}{w:World}(hw:St B w0 (bldA g b::H') w)=>UK b g e hw
 unfold BuM.fail at p3
 refine Ye5 ?_<;>intros
 rename_i g2 _
 apply U9 [0,1,2,3,4,5,6,7,8,9,10,11,12,13,14,15,16,17,19,20,18,21,22,23] [0,19,20,24,25] [24,25] [true,true,true]
 kernel_rfl
 kernel_rfl
 exact zy
 (simp only[Yh,nthO];rfl)
 (simp only[Yh,nthO];rfl)
 refine J5 ?_
 apply Ye _ en80
 exact za
 exact rfl
 exactλ_ hw=>(p1 (hin.mono zc0) (hq.mono zc0) (hrs.mono zc0) (hw))
 rintro _ _ ⟨A2,c2,C,rfl,hC,hCl,rfl⟩
 refine Ye6 ?_
 apply Xd [bldA g ⟨n,qA,qcap,q,s,A2,c2,C,fA,fcap,f,0⟩] _ en70
 exact za
 try exact zl
 exact zp
 exact rfl
 exactλ_ hw=>(p3 ⟨n,qA,qcap,q,s,A2,c2,C,fA,fcap,f,0⟩ re hw)
 rintro _ _ ⟨rfl,rfl⟩
 rw[show XM (BuM.e ⟨n,qA,qcap,q,s,A2,c2,C,fA,fcap,f,0⟩) re=re from Tn rfl]
 dsimp only[bldA]
 refine J5 ?_
 apply Ye _ en88
 exact za
 exact rfl
 exactλ_ hw=>(p2 (hrs.mono zc0) (hw))
 rintro _ _ ⟨A3,rfl,rfl⟩
 refine J5 ?_
 apply Xd [bldA g ⟨n,qA,qcap,q,s,A2,c2,C,A3,RF.length,RF,re⟩] _ en70
 exact za
 try exact zl
 exact zp
 exact rfl
 exactλ_ hw=>(p3 ⟨n,qA,qcap,q,s,A2,c2,C,A3,RF.length,RF,re⟩ fe hw)
 rintro _ _ ⟨rfl,rfl⟩
 obtain⟨fin,hfin⟩:∃fin,XM re fe=fin:=⟨_,rfl⟩
 dsimp only[bldA]
 rw[hfin]
 by_cases hE:fin=0
 rotate_left
 ·rw[Tn hE]
  refine QO ?_<;>intros
  apply YX [0,1,2,3,4,5,6] [] [true]
  kernel_rfl
  kernel_rfl
  exact zy
  (simp only[Yh,nthO];rfl)
  exact rfl
  refine Ye6 ?_
  apply Yq T (H2:=H);(iterate 3 exact rfl);(focus exact zc2);exact rfl;exact rfl
  ·intro w hw
   have h5:St B w0 [many H] w:=by
    revert w
    exact zc0
   exact hop w h5
  exact zc73
 subst hE
 rw[Tf (show¬(0:Int)≠0 fromλe=>e rfl)]
 have hre:re=0/\fe=0:=by
  unfold XM at hfin
  split at hfin
  ·exact⟨by assumption,hfin⟩
  ·exact absurd hfin (by assumption)
 obtain⟨rfl,rfl⟩:=hre
 have hce:(YN n.net (q.map RqM.rq) s.sch).2.2=0:=by rw[hR]
 have hrq:(rqsE n.net (q.map RqM.rq)).2=0:=Rn.1 λh1=>by
  unfold YN at hce;rw[Tn h1]at hce;exact h1 hce
 obtain⟨hck,-,hrt⟩:=Ut hrq
 have hql:q.length<=16:=(Ymc hrq).1
 have hok:=YC hck
 have hrowl:n.rows.length<=32:=by
  have h1:=hok.p0;have h2:=hok.n1
  have h3:n.net.power.length=n.rows.length:=by simp[NetM.net]
  omega
 have hrow1:∀r∈n.rows,r.xs.length<=32:=λr hr=>by
  have h1:=hok.p1 r.xs (by show r.xs∈n.rows.map (·.xs);exact Yn0)
  have h2:=hok.n1
  omega
 have hlk:n.links.length<=128:=hok.k0
 have hmg:n.margin.length<=128:=by
  have h1:n.margin.length=n.links.length:=hok.k1
  omega
 have hqx:∀x∈q,x.rows.length<=2/\∀r∈x.rows,r.xs.length<=9:=λx hx=>by
  have h1:=hrt x.rq (TC.2 ⟨x,hx,rfl⟩)
  refine⟨?_,λr hr=>?_⟩
  ·have h2:=YaZ h1
   have h4:x.rq.2.length=x.rows.length:=TB _
   omega
  ·exact(Vc (Vj h1 r.xs (TC.2 ⟨r,hr,rfl⟩))).2.1.2
 have hCn:C.length<=1000000000000:=by
  have h1:=TE List.length hC
  have h2:=TE (λz=>z.1.length) hR
  dsimp only at h1 h2
  rw[Ytm hce]at h2
  simp only[TB]at h1 h2
  omega
 have hFn:RF.length<=1000000000000:=by
  have h2:=TE (λz=>z.1.length) hRF
  dsimp only at h2
  unfold ZQ at h2
  split at h2
  ·simp only[Ry]at h2;omega
  ·unfold Up at h2
   rw[Wu,Rr]at h2
   have h3:=(ZV.1 (XT.1 (XC.1 hce).1)).frm.sized
   exact Yv3
 refine QO ?_<;>intros
 clear p1 p2 p3
 have hinM:∀{H':List HP},many H∈H'->n.In B w0 H':=λhm=>hin0.mono λw hw=>hw.inM hm
 have hqM:∀{H':List HP},many H∈H'->QIn B w0 H' qA q:=λhm=>hq0.mono λw hw=>hw.inM hm
 apply U9 [1,0,2,3,4,5,6,7,9,10,11,12,13,14,8,15,16,17,18,19] [1,20,21,22,23,24,25] [20,21,22,23,24,25] [true,true,true,true,true,true]
 kernel_rfl
 kernel_rfl
 exact zy
 (simp only[Yh,nthO];rfl)
 (simp only[Yh,nthO];rfl)
 refine J5 ?_
 apply Ye _ Yxc
 exact za
 exact rfl
 exactλ_ hw=>(Ydp n.links (by omega) (hinM (by(focus exact zc2))).lk (hw))
 rintro _ _ ⟨lA,lcap,rfl,rfl⟩
 refine Ye6 ?_
 apply Ye _ Yux
 exact za
 exact rfl
 exactλ_ hw=>(Oc n.margin (by omega) (hinM (by(focus exact zc2))).mg (hw))
 rintro _ _ ⟨mA,mcap,rfl,rfl⟩
 refine Ye6 ?_
 apply Ye _ Yxd
 exact za
 exact rfl
 exactλ_ hw=>(YcA n.rows (by omega) (hinM (by(focus exact zc2))).pw (hw))
 rintro _ _ ⟨pA,pcap,rfl,rfl⟩
 refine J5 ?_
 refine Yg (λz:RwsM=>[(112,.int .i64 (z.i:Nat)),(111,.int .i64 n.rows.length),(110,.slice pA n.rows.length pcap),(0,.pointer (some ⟨g,0,none⟩)),(2,.pointer (some ⟨g2,0,none⟩)),(3,.int .i64 0)])
  (λz=>sl 24 1 pA n.rows.length pcap (z.R.flatMap rowF)::many ((z.R.take z.i).map rowQ)::blk g (.cells #[.int .i64 n.nodes,.slice pA n.rows.length pcap,.int .i64 n.noise,.int .i64 n.thr,.slice lA n.links.length lcap,.slice mA n.margin.length mcap,.slice qA q.length qcap,.int .i64 s.len,.int .i64 s.off,.slice s.A s.cells.length s.cap,.slice A2 C.length c2,.slice A3 RF.length RF.length,.int .i64 0] 114 (0,0))::sl 140 3 lA n.links.length lcap (n.links.flatMap lkF)::ints mA mcap n.margin::blk g2 (.cells zeroPnV.cells 42 (0,0))::nrs A3 RF.length RF::clsP A2 c2 C::many (C.map clQ)::[many H])
  (λz=>z.i<=n.rows.length/\z.R.length=n.rows.length/\z.R.map (·.xs)=n.rows.map (·.xs)/\z.R.drop z.i=n.rows.drop z.i) (λz=>n.rows.length-z.i) ⟨0,n.rows⟩ ⟨Tm _,rfl,rfl,rfl⟩ ?_ ?_ ?_
 ·exact zc1
 ·intro w hw
  have h5:St B w0 (sl 24 1 pA n.rows.length pcap (n.rows.flatMap rowF)::blk g (.cells #[.int .i64 n.nodes,.slice pA n.rows.length pcap,.int .i64 n.noise,.int .i64 n.thr,.slice lA n.links.length lcap,.slice mA n.margin.length mcap,.slice qA q.length qcap,.int .i64 s.len,.int .i64 s.off,.slice s.A s.cells.length s.cap,.slice A2 C.length c2,.slice A3 RF.length RF.length,.int .i64 0] 114 (0,0))::sl 140 3 lA n.links.length lcap (n.links.flatMap lkF)::ints mA mcap n.margin::blk g2 (.cells zeroPnV.cells 42 (0,0))::nrs A3 RF.length RF::clsP A2 c2 C::many (C.map clQ)::[many H]) w:=by
   dsimp only[zeroPnV]
   revert w
   exact zc0
  exact YsJ
 rintro⟨i,R⟩ ⟨hi,hRl,hRm,hRd⟩ K hK
 dsimp only at hi hRl hRm hRd⊢
 by_cases hlt:i<n.rows.length
 ·obtain⟨r,hr⟩:∃r,n.rows[i]? =some r:=⟨_,Ta hlt⟩
  have hrm:=Tc hr
  have hRi:=Yhj hRd hr
  have hr32:=hrow1 r hrm
  refine QO ?_<;>intros
  apply YX [0,1,2,3,4,5,6,7,8,9] [10] [true,true,true]
  kernel_rfl
  kernel_rfl
  exact zy
  (simp only[Yh,nthO];rfl)
  (simp only[Yh,nthO];rfl)
  refine J5 ?_
  apply Ye _ Yux
  exact za
  exact rfl
  exactλ_ hw=>(Oc r.xs (by omega) ((hinM (by(focus exact zc2))).rw_ r hrm) (hw))
  rintro _ _ ⟨A',cap',rfl,rfl⟩
  repeat'(first|(apply Yk T;exact rfl;exact zm;exact rfl;exact zv;exact rfl;exact rfl)|(apply XP T (f:=rowF) (l:=R) (i:=i) (a:=⟨A',cap',r.xs⟩) (e:=24) (k:=n.rows.length) (cap:=pcap);(iterate 3 exact rfl);exact zd;exact rfl;exact(λ_=>rfl);exact rfl;omega)|(apply Yl;try exact zl)|refine zgd ?_|fail)
  apply hK ⟨i+1,R.set i ⟨A',cap',r.xs⟩⟩
  ·exact⟨by exact zc71,by show(R.set i _).length=_;rw[Rf,hRl],by show(R.set i _).map _=_;rw[YnK hRi,hRm],YdD hRd⟩
  ·exact zc39
  ·exact zc1
  ·intro w hw
   dsimp only
   rw[take_set (by omega)]
   have h5:St B w0 (ints A' cap' r.xs::many ((R.take i).map rowQ)::sl 24 1 pA n.rows.length pcap ((R.set i ⟨A',cap',r.xs⟩).flatMap rowF)::blk g (.cells #[.int .i64 n.nodes,.slice pA n.rows.length pcap,.int .i64 n.noise,.int .i64 n.thr,.slice lA n.links.length lcap,.slice mA n.margin.length mcap,.slice qA q.length qcap,.int .i64 s.len,.int .i64 s.off,.slice s.A s.cells.length s.cap,.slice A2 C.length c2,.slice A3 RF.length RF.length,.int .i64 0] 114 (0,0))::sl 140 3 lA n.links.length lcap (n.links.flatMap lkF)::ints mA mcap n.margin::blk g2 (.cells zeroPnV.cells 42 (0,0))::nrs A3 RF.length RF::clsP A2 c2 C::many (C.map clQ)::[many H]) w:=by
    revert w
    exact zc0
   exact(h5.perm (Qo rowQ (R.take i) ⟨A',cap',r.xs⟩ _)).perm (.swap _ _ _)
 obtain rfl:i=n.rows.length:=by omega
 rw[<-hRl,TV,hRl]
 clear hK hRd hlt hi
 refine QO ?_<;>intros
 apply Ye _ Yje
 exact za
 exact rfl
 exactλ_ hw=>(UE q (by omega) (hqM (by(focus exact zc2))).rd (hw))
 rintro _ _ ⟨q1A,q1c,rfl,rfl⟩
 refine J5 ?_
 refine Yg (λz:RqsM=>[(144,.int .i64 (z.i:Nat)),(143,.int .i64 q.length),(142,.slice q1A q.length q1c),(0,.pointer (some ⟨g,0,none⟩)),(2,.pointer (some ⟨g2,0,none⟩)),(3,.int .i64 0)])
  (λz=>sl 86 7 q1A q.length q1c (z.Q.flatMap rqF)::many ((z.Q.take z.i).map rqQ)::blk g (.cells #[.int .i64 n.nodes,.slice pA n.rows.length pcap,.int .i64 n.noise,.int .i64 n.thr,.slice lA n.links.length lcap,.slice mA n.margin.length mcap,.slice q1A q.length q1c,.int .i64 s.len,.int .i64 s.off,.slice s.A s.cells.length s.cap,.slice A2 C.length c2,.slice A3 RF.length RF.length,.int .i64 0] 114 (0,0))::sl 24 1 pA n.rows.length pcap (R.flatMap rowF)::many (R.map rowQ)::sl 140 3 lA n.links.length lcap (n.links.flatMap lkF)::ints mA mcap n.margin::blk g2 (.cells zeroPnV.cells 42 (0,0))::nrs A3 RF.length RF::clsP A2 c2 C::many (C.map clQ)::[many H])
  (λz=>z.i<=q.length/\z.Q.length=q.length/\z.Q.map RqM.rq=q.map RqM.rq/\z.Q.drop z.i=q.drop z.i/\∀x∈z.Q.take z.i,x.lens) (λz=>q.length-z.i) ⟨0,q⟩ ⟨Tm _,rfl,rfl,rfl,(λx hx=>by cases hx)⟩ ?_ ?_ ?_
 ·exact zc1
 ·intro w hw
  have h5:St B w0 (sl 86 7 q1A q.length q1c (q.flatMap rqF)::blk g (.cells #[.int .i64 n.nodes,.slice pA n.rows.length pcap,.int .i64 n.noise,.int .i64 n.thr,.slice lA n.links.length lcap,.slice mA n.margin.length mcap,.slice q1A q.length q1c,.int .i64 s.len,.int .i64 s.off,.slice s.A s.cells.length s.cap,.slice A2 C.length c2,.slice A3 RF.length RF.length,.int .i64 0] 114 (0,0))::sl 24 1 pA n.rows.length pcap (R.flatMap rowF)::many (R.map rowQ)::sl 140 3 lA n.links.length lcap (n.links.flatMap lkF)::ints mA mcap n.margin::blk g2 (.cells zeroPnV.cells 42 (0,0))::nrs A3 RF.length RF::clsP A2 c2 C::many (C.map clQ)::[many H]) w:=by
   unfold rqs at hw
   revert w
   exact zc0
  exact YsJ
 rintro⟨i,Q⟩ ⟨hi,hQl,hQm,hQd,hQs⟩ K hK
 dsimp only at hi hQl hQm hQd hQs⊢
 by_cases hlt:i<q.length
 ·obtain⟨x,hx⟩:∃x,q[i]? =some x:=⟨_,Ta hlt⟩
  have hxm:=Tc hx
  have hQi:=Yhj hQd hx
  obtain⟨hx2,hx9⟩:=hqx x hxm
  refine Ye5 ?_<;>intros
  rename_i g8
  apply Ye _ Yxe
  exact za
  exact rfl
  exactλ_ hw=>(Ydq x.rows (by omega) ((hqM (by(focus exact zc2))).x x hxm).rt (hw))
  rintro _ _ ⟨bA,bc,rfl,rfl⟩
  refine J5 ?_
  refine Yg (λz:RwsM=>[(156,.int .i64 (z.i:Nat)),(155,.int .i64 x.rows.length),(154,.slice bA x.rows.length bc),(7,.int .i64 (i:Nat)),(8,.pointer (some ⟨g8,0,none⟩)),(144,.int .i64 (i:Nat)),(143,.int .i64 q.length),(142,.slice q1A q.length q1c),(0,.pointer (some ⟨g,0,none⟩)),(2,.pointer (some ⟨g2,0,none⟩)),(3,.int .i64 0)])
   (λz=>sl 93 1 bA x.rows.length bc (z.R.flatMap rowF)::many ((z.R.take z.i).map rowQ)::blk g8 (.cells #[.int .i64 x.f.1,.int .i64 x.f.2.1,.int .i64 x.f.2.2.1,.int .i64 x.f.2.2.2.1,.int .i64 x.f.2.2.2.2.1,.int .i64 x.f.2.2.2.2.2,.slice bA x.rows.length bc] 86 (0,0))::sl 86 7 q1A q.length q1c (Q.flatMap rqF)::many ((Q.take i).map rqQ)::blk g (.cells #[.int .i64 n.nodes,.slice pA n.rows.length pcap,.int .i64 n.noise,.int .i64 n.thr,.slice lA n.links.length lcap,.slice mA n.margin.length mcap,.slice q1A q.length q1c,.int .i64 s.len,.int .i64 s.off,.slice s.A s.cells.length s.cap,.slice A2 C.length c2,.slice A3 RF.length RF.length,.int .i64 0] 114 (0,0))::sl 24 1 pA n.rows.length pcap (R.flatMap rowF)::many (R.map rowQ)::sl 140 3 lA n.links.length lcap (n.links.flatMap lkF)::ints mA mcap n.margin::blk g2 (.cells zeroPnV.cells 42 (0,0))::nrs A3 RF.length RF::clsP A2 c2 C::many (C.map clQ)::[many H])
   (λz=>z.i<=x.rows.length/\z.R.length=x.rows.length/\z.R.map (·.xs)=x.rows.map (·.xs)/\z.R.drop z.i=x.rows.drop z.i/\∀r∈z.R.take z.i,r.xs.length<=1000/\r.xs.length<=r.cap) (λz=>x.rows.length-z.i) ⟨0,x.rows⟩ ⟨Tm _,rfl,rfl,rfl,(λx hx=>by cases hx)⟩ ?_ ?_ ?_
  ·exact zc1
  ·intro w hw
   have h5:St B w0 (sl 93 1 bA x.rows.length bc (x.rows.flatMap rowF)::blk g8 (.cells #[.int .i64 x.f.1,.int .i64 x.f.2.1,.int .i64 x.f.2.2.1,.int .i64 x.f.2.2.2.1,.int .i64 x.f.2.2.2.2.1,.int .i64 x.f.2.2.2.2.2,.slice bA x.rows.length bc] 86 (0,0))::sl 86 7 q1A q.length q1c (Q.flatMap rqF)::many ((Q.take i).map rqQ)::blk g (.cells #[.int .i64 n.nodes,.slice pA n.rows.length pcap,.int .i64 n.noise,.int .i64 n.thr,.slice lA n.links.length lcap,.slice mA n.margin.length mcap,.slice q1A q.length q1c,.int .i64 s.len,.int .i64 s.off,.slice s.A s.cells.length s.cap,.slice A2 C.length c2,.slice A3 RF.length RF.length,.int .i64 0] 114 (0,0))::sl 24 1 pA n.rows.length pcap (R.flatMap rowF)::many (R.map rowQ)::sl 140 3 lA n.links.length lcap (n.links.flatMap lkF)::ints mA mcap n.margin::blk g2 (.cells zeroPnV.cells 42 (0,0))::nrs A3 RF.length RF::clsP A2 c2 C::many (C.map clQ)::[many H]) w:=by
    revert w
    exact zc0
   exact YsJ
  rintro⟨k,S⟩ ⟨hk,hSl,hSm,hSd,hSs⟩ K2 hK2
  dsimp only at hk hSl hSm hSd hSs⊢
  by_cases hlk2:k<x.rows.length
  ·obtain⟨r,hr⟩:∃r,x.rows[k]? =some r:=⟨_,Ta hlk2⟩
   have hrm:=Tc hr
   have hRi:=Yhj hSd hr
   have hr9:=hx9 r hrm
   clear hK hQi
   refine QO ?_<;>intros
   apply YX [0,1,2,3,4,5] [6] [true,true,true]
   kernel_rfl
   kernel_rfl
   exact zy
   (simp only[Yh,nthO];rfl)
   (simp only[Yh,nthO];rfl)
   refine J5 ?_
   apply Ye _ Yq3
   exact za
   exact rfl
   exactλ_ hw=>(VI r.xs (by omega) (((hqM (by(focus exact zc2))).x x hxm).rw_ r hrm) (hw))
   rintro _ _ ⟨A',cap',rfl,rfl⟩
   apply UB (e:=3) (size:=1) (k:=r.xs.length) (cap:=cap') (A:=A') (xs:=r.xs.flatMap numF) (by(focus exact zc2))
   intro hcap
   repeat'(first|(apply Yk T;exact rfl;exact zm;exact rfl;exact zv;exact rfl;exact rfl)|(apply XP T (f:=rowF) (l:=S) (i:=k) (a:=⟨A',cap',r.xs⟩) (e:=93) (k:=x.rows.length) (cap:=bc);(iterate 3 exact rfl);exact zd;exact rfl;exact(λ_=>rfl);exact rfl;omega)|(apply Yl;try exact zl)|refine zgd ?_|fail)
   apply hK2 ⟨k+1,S.set k ⟨A',cap',r.xs⟩⟩
   ·refine⟨by show k+1<=_;omega,by show(S.set k _).length=_;rw[Rf,hSl],by show(S.set k _).map _=_;rw[YnK hRi,hSm],YdD hSd,λy hy=>?_⟩
    dsimp only at hy
    rw[take_set (by omega)]at hy
    rcases TI.1 hy with hy|hy
    ·exact hSs y hy
    ·rw[TG.1 hy]
     exact⟨by show r.xs.length<=_;omega,hcap⟩
   ·exact zc39
   ·exact zc1
   ·intro w hw
    dsimp only
    rw[take_set (by omega)]
    have h5:St B w0 (ints A' cap' r.xs::many ((S.take k).map rowQ)::sl 93 1 bA x.rows.length bc ((S.set k ⟨A',cap',r.xs⟩).flatMap rowF)::blk g8 (.cells #[.int .i64 x.f.1,.int .i64 x.f.2.1,.int .i64 x.f.2.2.1,.int .i64 x.f.2.2.2.1,.int .i64 x.f.2.2.2.2.1,.int .i64 x.f.2.2.2.2.2,.slice bA x.rows.length bc] 86 (0,0))::sl 86 7 q1A q.length q1c (Q.flatMap rqF)::many ((Q.take i).map rqQ)::blk g (.cells #[.int .i64 n.nodes,.slice pA n.rows.length pcap,.int .i64 n.noise,.int .i64 n.thr,.slice lA n.links.length lcap,.slice mA n.margin.length mcap,.slice q1A q.length q1c,.int .i64 s.len,.int .i64 s.off,.slice s.A s.cells.length s.cap,.slice A2 C.length c2,.slice A3 RF.length RF.length,.int .i64 0] 114 (0,0))::sl 24 1 pA n.rows.length pcap (R.flatMap rowF)::many (R.map rowQ)::sl 140 3 lA n.links.length lcap (n.links.flatMap lkF)::ints mA mcap n.margin::blk g2 (.cells zeroPnV.cells 42 (0,0))::nrs A3 RF.length RF::clsP A2 c2 C::many (C.map clQ)::[many H]) w:=by
     revert w
     exact zc0
    exact(h5.perm (Qo rowQ (S.take k) ⟨A',cap',r.xs⟩ _)).perm (.swap _ _ _)
  obtain rfl:k=x.rows.length:=by omega
  have hSt:S.take x.rows.length=S:=by rw[<-hSl,TV]
  rw[hSt]at hSs⊢
  clear hK2 hSd hlk2 hk
  have hrqv:rqF ⟨x.f,bA,bc,S⟩=[.int .i64 x.f.1,.int .i64 x.f.2.1,.int .i64 x.f.2.2.1,.int .i64 x.f.2.2.2.1,.int .i64 x.f.2.2.2.2.1,.int .i64 x.f.2.2.2.2.2,.slice bA x.rows.length bc]:=by
   unfold rqF;rw[hSl]
  refine zX76 ?_<;>intros
  apply YX [0,1,2,3,4,5,6,7] [8] [true,true,true,true,true,true]
  kernel_rfl
  kernel_rfl
  exact zy
  (simp only[Yh,nthO];rfl)
  (simp only[Yh,nthO];rfl)
  repeat'(first|(apply Yk T;exact rfl;exact zm;exact rfl;exact zv;exact rfl;exact rfl)|(apply Zb T (f:=rqF) (l:=Q) (i:=i) (a:=⟨x.f,bA,bc,S⟩);exact rfl;exact rfl;exact hrqv;exact zd;exactλ_=>rfl;(iterate 3 exact rfl);omega)|refine zgd ?_|fail)
  apply hK ⟨i+1,Q.set i ⟨x.f,bA,bc,S⟩⟩
  ·refine⟨by exact zc71,by show(Q.set i _).length=_;rw[Rf,hQl],?_,YdD hQd,λy hy=>?_⟩
   ·show(Q.set i _).map RqM.rq=_
    rw[<-hQm]
    apply Sv
    intro j
    rw[TR,TR]
    by_cases hj:i=j
    ·subst hj
     rw[S0 (by omega),hQi]
     show some (RqM.rq ⟨x.f,bA,bc,S⟩)=some x.rq
     unfold RqM.rq
     dsimp only
     rw[hSm]
    ·rw[NW hj]
   ·dsimp only at hy
    rw[take_set (by omega)]at hy
    rcases TI.1 hy with hy|hy
    ·exact hQs y hy
    ·rw[TG.1 hy]
     exact⟨by show S.length<=_;omega,hSs⟩
  ·exact zc39
  ·exact zc1
  ·intro w hw
   dsimp only
   rw[take_set (by omega)]
   have h5:St B w0 (sl 93 1 bA x.rows.length bc (S.flatMap rowF)::many (S.map rowQ)::many ((Q.take i).map rqQ)::sl 86 7 q1A q.length q1c ((Q.set i ⟨x.f,bA,bc,S⟩).flatMap rqF)::blk g (.cells #[.int .i64 n.nodes,.slice pA n.rows.length pcap,.int .i64 n.noise,.int .i64 n.thr,.slice lA n.links.length lcap,.slice mA n.margin.length mcap,.slice q1A q.length q1c,.int .i64 s.len,.int .i64 s.off,.slice s.A s.cells.length s.cap,.slice A2 C.length c2,.slice A3 RF.length RF.length,.int .i64 0] 114 (0,0))::sl 24 1 pA n.rows.length pcap (R.flatMap rowF)::many (R.map rowQ)::sl 140 3 lA n.links.length lcap (n.links.flatMap lkF)::ints mA mcap n.margin::blk g2 (.cells zeroPnV.cells 42 (0,0))::nrs A3 RF.length RF::clsP A2 c2 C::many (C.map clQ)::[many H]) w:=by
    revert w
    exact zc0
   rw[<-hSl]at h5
   have h6:=h5.perm (.close [_,_] _)
   exact(h6.perm (Yd9 (Q.take i) ⟨x.f,bA,bc,S⟩ _)).perm (.swap _ _ _)
 obtain rfl:i=q.length:=by omega
 have hQt:Q.take q.length=Q:=by rw[<-hQl,TV]
 rw[hQt]at hQs⊢
 clear hK hQd hlt hi
 refine QO ?_<;>intros
 apply Yq T (H2:=many [sl 86 7 q1A Q.length q1c (Q.flatMap rqF),many (Q.map rqQ),sl 24 1 pA R.length pcap (R.flatMap rowF),many (R.map rowQ),sl 140 3 lA n.links.length lcap (n.links.flatMap lkF),ints mA mcap n.margin,nrs A3 RF.length RF,clsP A2 c2 C,many (C.map clQ)]::H);(iterate 3 exact rfl);(focus exact zc2);exact rfl;exact rfl
 ·intro w hw
  have h5:St B w0 (sl 86 7 q1A q.length q1c (Q.flatMap rqF)::many (Q.map rqQ)::sl 24 1 pA n.rows.length pcap (R.flatMap rowF)::many (R.map rowQ)::sl 140 3 lA n.links.length lcap (n.links.flatMap lkF)::ints mA mcap n.margin::nrs A3 RF.length RF::clsP A2 c2 C::many (C.map clQ)::[many H]) w:=by
   revert w
   exact zc0
  rw[<-hQl,<-hRl]at h5
  exact(h5.perm (.close [_,_,_,_,_,_,_,_,_] _)).perm (.cons _ (.openT H))
 have hC:C.map ClM.clm=RC:=hC
 refine .inr ⟨⟨⟨n.nodes,pA,pcap,R,n.noise,n.thr,lA,lcap,n.links,mA,mcap,n.margin⟩,q1A,q1c,Q,s,A2,c2,C,A3,RF.length,RF⟩,_,?_,?_,λH' hrs'=>?_,rfl⟩
 ·show some (Pln.mk n.net (q.map RqM.rq) s.sch RC RF)=some (Pln.mk ⟨n.nodes,R.map (·.xs),n.noise,n.thr,n.links,n.margin⟩ (Q.map RqM.rq) s.sch (C.map ClM.clm) RF)
  rw[hRm,hQm,hC];rfl
 ·unfold PnM.val
  dsimp only
  rw[hRl,hQl]
 ·have hb:∀{L:List HP}(w:World),St B w0 (many L::H') w->St B w0 L w:=λw hw=>hw.inM (.head _)
  refine⟨⟨Rd.mono (.sl (.tail _ (.tail _ (.head _)))) hb,λr hr=>Rd.mono (Rd.many (L:=R.map rowQ) (.tail _ (.tail _ (.tail _ (.head _)))) (Sr hr)) hb,Rd.mono (.sl (.tail _ (.tail _ (.tail _ (.tail _ (.head _)))))) hb,Rd.mono (.sl (.tail _ (.tail _ (.tail _ (.tail _ (.tail _ (.head _))))))) hb,by show R.length<=_;omega,λr hr=>?_,by show n.links.length<=_;omega,by show n.margin.length<=_;omega⟩,
   ⟨Rd.mono (.sl (.head _)) hb,λx hx=>RqM.In.mono (YcQ (q:=Q) (.tail _ (.head _)) hx (hQs x hx)) hb,by show Q.length<=_;omega⟩,hrs'.cons,hsl,
   ⟨Rd.mono (.sl (.tail _ (.tail _ (.tail _ (.tail _ (.tail _ (.tail _ (.tail _ (.head _))))))))) hb,λx hx=>ClM.In.mono (YlU (C:=C) (.tail _ (.tail _ (.tail _ (.tail _ (.tail _ (.tail _ (.tail _ (.tail _ (.head _))))))))) hx (hCl x hx)) hb,hCn⟩,
   Rd.mono (.sl (.tail _ (.tail _ (.tail _ (.tail _ (.tail _ (.tail _ (.head _)))))))) hb,hFn⟩
  have h1:r.xs∈n.rows.map (·.xs):=by rw[<-hRm];exact Yn0
  obtain⟨r2,h2,h3⟩:=TC.1 h1
  have h4:=hrow1 r2 h2
  have h3:r2.xs=r.xs:=h3
  rw[h3]at h4
  omega
structure FtM where
 g8:Nat
 A:Option Addr
 cap:Nat
 iA:Option Addr
 icap:Nat
theorem Yjo(b:BuM)(g:Nat)(len off:Int)(h24:len<=24\/512<len){B:Nat}{w0:World}{H:List HP}{w:World}(ht:TabsB B w0)(hin:b.n.In B w0 H)(hq:QIn B w0 H b.qA b.q)(hw:St B w0 (bldA g b::H) w):
 CX B w0 68 [.pointer (some ⟨g,0,none⟩),.int .i64 len,.int .i64 off] w λv K=>∃A cap iA icap,v=.tuple #[.slice iA (XB b.n.net (b.q.map RqM.rq) len off).1.2.length icap,.bool (decide ((XB b.n.net (b.q.map RqM.rq) len off).1.2.length=b.q.length))]/\
  K=bldA g {b with s:=⟨(XB b.n.net (b.q.map RqM.rq) len off).1.1.len,(XB b.n.net (b.q.map RqM.rq) len off).1.1.off,A,cap,(XB b.n.net (b.q.map RqM.rq) len off).1.1.cells⟩,e:=XM b.e (XB b.n.net (b.q.map RqM.rq) len off).2}::cels A cap (XB b.n.net (b.q.map RqM.rq) len off).1.1.cells::Jl iA icap (XB b.n.net (b.q.map RqM.rq) len off).1.2::H:=by
 refine Yc Tryz.func68 Tryz.ntmps68 rfl rfl hw ?_
 obtain⟨n,qA,qcap,q,s,cA,ccap,c,fA,fcap,f,e⟩:=b
 dsimp only at hin hq⊢
 have hop:∀w,St B w0 [many H] w->St B w0 H w:=λw hw=>hw.perm (.openT H)
 have hin:=hin.mono hop
 have hq:=hq.mono hop
 have p1:=λ{H':List HP}{w:World}(hin:n.In B w0 H') (hq:QIn B w0 H' qA q) (hw:St B w0 H' w)=>Yp7 n q len off h24 (cap:=qcap) ht hin hq hw
 have p2:=λ(b:BuM) (e:Int) {H':List HP}{w:World}(hw:St B w0 (bldA g b::H') w)=>UK b g e hw
 unfold OutA NetM.val at p1
 generalize XB n.net (q.map RqM.rq) len off=R at p1⊢
 obtain⟨⟨⟨rl,ro,rc⟩,ra⟩,re⟩:=R
 dsimp only at p1⊢
 refine ZW (bldA g ⟨n,qA,qcap,q,s,cA,ccap,c,fA,fcap,f,e⟩::[many H]) (λw hw=>hw.perm (.cons _ (.closeT H))) ?_
 dsimp only[bldA]
 iterate 6 (first|refine zga ?_|fail)
 apply YY
 refine Zf (λz:FtM=>[(8,.pointer (some ⟨z.g8,0,none⟩)),(9,.slice z.iA ra.length z.icap),(10,.int .i64 re),(0,.pointer (some ⟨g,0,none⟩))])
  (λz=>blk z.g8 (.cells #[.int .i64 rl,.int .i64 ro,.slice z.A rc.length z.cap] 37 (0,0))::cels z.A z.cap rc::Jl z.iA z.icap ra::bldA g ⟨n,qA,qcap,q,s,cA,ccap,c,fA,fcap,f,e⟩::[many H]) ?_ ?_
 ·intro K hK
  repeat'(first|(apply Yk T;exact rfl;exact zm;exact rfl;exact zv;exact rfl;exact rfl)|fail)
  apply ZN (.n1 0 (.n1 1 (.n1 2 (.n1 3 (.n1 4 (.n1 5 (.n1 6 (.n1 7 (.n1 8 (.n1 9 (.n1 10 (.n1 11 (.n2 12 (.n1 13 (.n1 14 (.n1 15 (.n1 16 (.n1 17 (.n1 18 (.n1 19 (.n1 20 .done)))))))) 17 (.n1 12 (.n1 13 (.n1 14 (.n1 15 (.n1 16 (.n1 18 (.n1 19 (.n1 20 .done))))))))))))))))))))) [] [true,true]
  kernel_rfl
  kernel_rfl
  exact zy
  exact rfl
  repeat'(first|(apply Yk T;exact rfl;exact zm;exact rfl;exact zv;exact rfl;exact rfl)|((apply Ye _ Yw8);exact za;exact rfl;exactλ_ hw=>p1 (hin.mono zk) (hq.mono zk) hw;rintro _ _ ⟨A1,cap1,iA1,ic1,rfl,rfl⟩)|(apply Yl;try exact zl)|apply(zs91 ?_ ?_)|(apply YG;try exact zl)|refine zgd ?_|(refine zgh ?_;intro _)|fail)
  all_goals(
   rename_i gA
   apply hK ⟨gA,A1,cap1,iA1,ic1⟩
   ·exact zu
   ·exact zk)
 rintro⟨g8,A1,c1,iA,ic⟩
 dsimp only
 refine zX4 ?_
 apply Xd [bldA g ⟨n,qA,qcap,q,s,cA,ccap,c,fA,fcap,f,e⟩] _ en70
 exact za
 try exact zl
 exact zp
 exact rfl
 exactλ_ hw=>(p2 ⟨n,qA,qcap,q,s,cA,ccap,c,fA,fcap,f,e⟩ re hw)
 rintro _ _ ⟨rfl,rfl⟩
 unfold BuM.fail
 dsimp only[bldA]
 by_cases hll:ra.length=q.length
 ·rw[Td hll]
  refine zX0 ?_<;>intros
  apply Yi (bldA g ⟨n,qA,qcap,q,⟨rl,ro,A1,c1,rc⟩,cA,ccap,c,fA,fcap,f,XM e re⟩::cels A1 c1 rc::Jl iA ic ra::H)
  ·intro w hw
   have h5:St B w0 (bldA g ⟨n,qA,qcap,q,⟨rl,ro,A1,c1,rc⟩,cA,ccap,c,fA,fcap,f,XM e re⟩::cels A1 c1 rc::Jl iA ic ra::[many H]) w:=by
    revert w
    exact zc0
   exact zc80
  exact YvK
 ·rw[Ti hll]
  refine zX0 ?_<;>intros
  apply Yi (bldA g ⟨n,qA,qcap,q,⟨rl,ro,A1,c1,rc⟩,cA,ccap,c,fA,fcap,f,XM e re⟩::cels A1 c1 rc::Jl iA ic ra::H)
  ·intro w hw
   have h5:St B w0 (bldA g ⟨n,qA,qcap,q,⟨rl,ro,A1,c1,rc⟩,cA,ccap,c,fA,fcap,f,XM e re⟩::cels A1 c1 rc::Jl iA ic ra::[many H]) w:=by
    revert w
    exact zc0
   exact zc80
  exact YvK
theorem Yj7{α:Type}(f:α->HP)(y:α):∀(L:List α) (i:Nat) (T:List HP),i<L.length->Perm (f y::(L.map f++T)) ((L.set i y).map f++T)
 |[],i,_,h=>by cases h
 |x::L,0,T,_=>by
  rw[NB,Rh,Rh,TD,TD]
  exact .cons _ (.drop _ _)
 |x::L,i+1,T,h=>by
  rw[NQ,Rh,Rh,TD,TD]
  exact(Perm.swap _ _ _).trans (.cons _ (Yj7 f y L i T (by simp_all)))
variable {i:Nat}
theorem Ypk{Q:List RqM}{y:RqM}(h:i<Q.length)(T:List HP):Perm (rqQ y::many (Q.map rqQ)::T) (many ((Q.set i y).map rqQ)::T):=
 ((Perm.open_ (Q.map rqQ) T).cons _).trans ((Yj7 rqQ y Q i T h).trans (.close _ T))
noncomputable def VA(n:Net)(ia:List Int)(q:List Rqs)(i:Nat):List Rqs:=(List.range q.length).map λj=>if j<i then lowQ n ia q j else rqAt q j
theorem Yry(n:Net)(ia:List Int)(q:List Rqs):VA n ia q 0=q:=by
 unfold VA
 apply Sv
 all_goals grind [V6]
theorem YtN(n:Net)(ia:List Int)(q:List Rqs):VA n ia q q.length=lowL n ia q:=by
 simp_all [VA,lowL]
theorem YtO(n:Net)(ia:List Int)(q:List Rqs)(i:Nat):(VA n ia q i).length=q.length:=by grind [VA]
variable {n:Net}{ia:List Int}{q:List Rqs}
theorem Yrx(h:i<q.length):(VA n ia q i)[i]? =some (rqAt q i):=by
 grind [VA]
theorem YjQ(h:i<q.length):VA n ia q (i+1)=(VA n ia q i).set i (lowQ n ia q i):=by
 apply Sv
 intro j
 by_cases hj:i=j
 ·simp_all [VA]
 ·unfold VA
  grind
structure LwM where
 i:Nat
 Q:List RqM
structure LxM where
 g6:Nat
 y:RqM
theorem YhD(b:BuM)(g:Nat)(ia:List Int)(hia:ia.length<=1000)(hql:b.q.length<=1000)(hqs:∀x∈b.q,x.lens){iA:Option Addr}{icap B:Nat}{w0:World}{H:List HP}{w:World}(hin:b.n.In B w0 H)(hra:Rd B w0 H iA (ia.flatMap numF))(hw:St B w0 (bldA g b::rqs b.qA b.qcap b.q::many (b.q.map rqQ)::H) w):
 CX B w0 69 [.pointer (some ⟨g,0,none⟩),.slice iA ia.length icap] w λv K=>∃q' e',v=.tuple #[]/\q'.length=b.q.length/\(∀x∈q',x.lens)/\((lowB b.n.net ia (b.q.map RqM.rq)=true/\q'.map RqM.rq=lowL b.n.net ia (b.q.map RqM.rq)/\e'=b.e)\/(lowB b.n.net ia (b.q.map RqM.rq)=false/\e'=XM b.e 18))/\
  K=bldA g {b with q:=q',e:=e'}::rqs b.qA b.qcap q'::many (q'.map rqQ)::H:=by
 refine Yc Tryz.func69 Tryz.ntmps69 rfl rfl hw ?_
 obtain⟨n,qA,qcap,q,s,cA,ccap,c,fA,fcap,f,e⟩:=b
 dsimp only at hin hql hqs⊢
 have hinM:∀{H':List HP},many H∈H'->n.In B w0 H':=λhm=>hin.mono λw hw=>hw.inM hm
 have hraM:∀{H':List HP},many H∈H'->Rd B w0 H' iA (ia.flatMap numF):=λhm=>hra.mono λw hw=>hw.inM hm
 have p1:=λ(v:Int) {H':List HP}{w:World}(hr:Rd B w0 H' iA (ia.flatMap numF)) (hw:St B w0 H' w)=>Yfj ia v (by omega) (cap:=icap) hr hw
 have p2:=λ(f:Flw) {H':List HP}{w:World}(hin:n.In B w0 H') (hw:St B w0 H' w)=>U7 n f hin hw
 have p3:=λ(b:BuM) (e:Int) {H':List HP}{w:World}(hw:St B w0 (bldA g b::H') w)=>UK b g e hw
 unfold NetM.val flwV at p2
 refine ZW (bldA g ⟨n,qA,qcap,q,s,cA,ccap,c,fA,fcap,f,e⟩::rqs qA qcap q::many (q.map rqQ)::[many H]) (λw hw=>hw.perm (.cons _ (.cons _ (.cons _ (.closeT H))))) ?_
 dsimp only[bldA]
 obtain⟨q0,hq0⟩:∃q0,q.map RqM.rq=q0:=⟨_,rfl⟩
 have hq0l:q0.length=q.length:=by rw[<-hq0,TB]
 rw[hq0]
 refine J5 ?_
 refine Yg (λz:LwM=>[(14,.int .i64 (z.i:Nat)),(13,.int .i64 q.length),(12,.slice qA q.length qcap),(0,.pointer (some ⟨g,0,none⟩)),(1,.slice iA ia.length icap)])
  (λz=>blk g (.cells #[.int .i64 n.nodes,.slice n.pA n.rows.length n.pcap,.int .i64 n.noise,.int .i64 n.thr,.slice n.lA n.links.length n.lcap,.slice n.mA n.margin.length n.mcap,.slice qA q.length qcap,.int .i64 s.len,.int .i64 s.off,.slice s.A s.cells.length s.cap,.slice cA c.length ccap,.slice fA f.length fcap,.int .i64 e] 114 (0,0))::sl 86 7 qA q.length qcap (z.Q.flatMap rqF)::many (z.Q.map rqQ)::[many H])
  (λz=>z.i<=q.length/\z.Q.length=q.length/\(∀x∈z.Q,x.lens)/\z.Q.map RqM.rq=VA n.net ia q0 z.i/\∀j,j<z.i->(j:Int)∈ia\/(Zo n.net (rqAt q0 j).1).2=0) (λz=>q.length-z.i) ⟨0,q⟩ ⟨Tm _,rfl,hqs,by rw[Yry];exact hq0,λj hj=>absurd hj (RL _)⟩ ?_ ?_ ?_
 ·exact zc1
 ·unfold rqs
  exact zc0
 rintro⟨i,Q⟩ ⟨hi,hQl,hQs,hQm,hQk⟩ K hK
 dsimp only at hi hQl hQs hQm hQk⊢
 by_cases hlt:i<q.length
 rotate_left
 ·obtain rfl:i=q.length:=by omega
  clear hK
  have hb:lowB n.net ia q0=true:=TF.2 λj hj=>by
   have hj:=TQ.1 hj
   rw[R9,Tt,Tt]
   exact hQk j (by omega)
  rw[<-hq0l,YtN]at hQm
  refine zX76 ?_<;>intros
  apply Yi (bldA g ⟨n,qA,qcap,Q,s,cA,ccap,c,fA,fcap,f,e⟩::rqs qA qcap Q::many (Q.map rqQ)::H)
  ·intro w hw
   have h5:St B w0 (blk g (.cells #[.int .i64 n.nodes,.slice n.pA n.rows.length n.pcap,.int .i64 n.noise,.int .i64 n.thr,.slice n.lA n.links.length n.lcap,.slice n.mA n.margin.length n.mcap,.slice qA q.length qcap,.int .i64 s.len,.int .i64 s.off,.slice s.A s.cells.length s.cap,.slice cA c.length ccap,.slice fA f.length fcap,.int .i64 e] 114 (0,0))::sl 86 7 qA q.length qcap (Q.flatMap rqF)::many (Q.map rqQ)::[many H]) w:=by
    revert w
    exact zc0
   rw[<-hQl]at h5
   exact zc80
  apply Vq;exact rfl
  exact⟨Q,e,rfl,hQl,hQs,.inl ⟨hb,hQm,rfl⟩,rfl⟩
 obtain⟨x,hx⟩:∃x,Q[i]? =some x:=⟨_,Ta (by omega)⟩
 have hxm:=Tc hx
 have hxq:x.rq=rqAt q0 i:=by
  have h1:(Q.map RqM.rq)[i]? =some x.rq:=by rw[TR,hx];rfl
  rw[hQm,Yrx (by omega)]at h1
  exact(Tv h1).symm
 have hxf:x.f=(rqAt q0 i).1:=TE Prod.fst hxq
 by_cases hmem:(i:Int)∈ia
 ·have p4:=λ{H':List HP}{w:World}(hr:Rd B w0 H' iA (ia.flatMap numF)) (hw:St B w0 H' w)=>p1 i hr hw
  rw[Td hmem]at p4
  have hlq:VA n.net ia q0 (i+1)=VA n.net ia q0 i:=by
   rw[YjQ (by omega)]
   unfold lowQ
   rw[Tn hmem]
   apply Sv
   intro j
   by_cases hj:i=j
   ·subst hj
    rw[S0 (by rw[YtO];omega),Yrx (by omega)]
   ·rw[NW hj]
  refine Ye5 ?_<;>intros
  first|apply Ya Ym5|apply Yb Ym5
  exact za
  exact rfl
  exactλ_ hw=>(p4 (hraM (by(focus exact zc2))) hw)
  refine YnX ?_
  apply hK ⟨i+1,Q⟩
  ·exact⟨by exact zc71,hQl,hQs,hQm.trans hlq.symm,λj hj=>by
    rcases RZ.1 hj with h|rfl
    ·exact hQk j h
    ·exact .inl hmem⟩
  ·exact zc39
  ·exact zc1
  ·exact zc0
 have p4:=λ{H':List HP}{w:World}(hr:Rd B w0 H' iA (ia.flatMap numF)) (hw:St B w0 H' w)=>p1 i hr hw
 rw[Ti hmem]at p4
 have p5:=λ{H':List HP}{w:World}(hin:n.In B w0 H') (hw:St B w0 H' w)=>p2 x.f hin hw
 clear p1 p2
 have hlq:VA n.net ia q0 (i+1)=(VA n.net ia q0 i).set i (Zo n.net x.f).1:=by
  rw[YjQ (by omega)]
  unfold lowQ
  rw[Tf hmem,hxf]
 have hsk:∀j,j=i->(Zo n.net (rqAt q0 j).1).2=(Zo n.net x.f).2:=λj hj=>by rw[hj,hxf]
 generalize Zo n.net x.f=R at p5 hlq hsk
 obtain⟨ry,re⟩:=R
 unfold OutQ rqV at p5
 dsimp only at p5 hlq hsk
 refine Ye5 ?_<;>intros
 rename_i g5
 first|apply Ya Ym5|apply Yb Ym5
 exact za
 exact rfl
 exactλ_ hw=>(p4 (hraM (by(focus exact zc2))) hw)
 repeat'(first|(apply Yk T;exact rfl;exact zm;exact rfl;exact zv;exact rfl;exact rfl)|refine zga ?_|fail)
 refine Zf (λz:{z:LxM//z.y.rq=ry/\z.y.lens}=>[(6,.pointer (some ⟨z.1.g6,0,none⟩)),(7,.int .i64 re),(4,.int .i64 (i:Nat)),(14,.int .i64 (i:Nat)),(13,.int .i64 q.length),(12,.slice qA q.length qcap),(0,.pointer (some ⟨g,0,none⟩)),(1,.slice iA ia.length icap)])
  (λz=>rqA z.1.g6 z.1.y::rqQ z.1.y::blk g (.cells #[.int .i64 n.nodes,.slice n.pA n.rows.length n.pcap,.int .i64 n.noise,.int .i64 n.thr,.slice n.lA n.links.length n.lcap,.slice n.mA n.margin.length n.mcap,.slice qA q.length qcap,.int .i64 s.len,.int .i64 s.off,.slice s.A s.cells.length s.cap,.slice cA c.length ccap,.slice fA f.length fcap,.int .i64 e] 114 (0,0))::sl 86 7 qA q.length qcap (Q.flatMap rqF)::many (Q.map rqQ)::[many H]) ?_ ?_
 ·intro K2 hK2
  apply ZN (.n1 0 (.n1 1 (.n1 2 (.n1 3 (.n1 4 (.n1 5 (.n1 6 (.n2 7 (.n1 8 (.n1 9 (.n1 10 (.n1 11 (.n1 12 (.n1 13 .done)))))) 11 (.n1 7 (.n1 8 (.n1 9 (.n1 10 (.n1 12 (.n1 13 .done)))))))))))))) [] [true,true]
  kernel_rfl
  kernel_rfl
  exact zy
  exact rfl
  repeat'(first|(apply Yk T;exact rfl;exact zm;exact rfl;exact zv;exact rfl;exact rfl)|((apply Ye _ YqW);exact za;exact rfl;exactλ_ hw=>p5 (hinM zm) hw;rintro _ _ ⟨y,rfl,hy,hyl,rfl⟩)|(apply Yl;try exact zl)|apply(zs91 ?_ ?_)|(apply YG;try exact zl)|refine zgd ?_|(refine zgh ?_;intro _)|fail)
  all_goals(
   rename_i gA
   apply hK2 ⟨⟨gA,y⟩,hy,hyl⟩
   ·exact zu
   ·exact zk)
 rintro⟨⟨g6,y⟩,hy,hyl⟩
 dsimp only at hy hyl⊢
 by_cases hre:re=0
 rotate_left
 ·have hb:lowB n.net ia q0=false:=by
   cases h:lowB n.net ia q0 with
   |false=>rfl
   |true=>
    have h1:=TF.1 h i (TQ.2 (by omega))
    rw[R9,Tt,Tt,hsk i rfl]at h1
    rcases h1 with h1|h1
    ·exact absurd h1 hmem
    ·exact absurd h1 hre
  clear hK
  refine Yvl ?_<;>intros
  apply XU (bldA g ⟨n,qA,qcap,Q,s,cA,ccap,c,fA,fcap,f,e⟩::rqs qA qcap Q::many (Q.map rqQ)::[many H])
  ·intro w hw
   have h5:St B w0 (blk g (.cells #[.int .i64 n.nodes,.slice n.pA n.rows.length n.pcap,.int .i64 n.noise,.int .i64 n.thr,.slice n.lA n.links.length n.lcap,.slice n.mA n.margin.length n.mcap,.slice qA q.length qcap,.int .i64 s.len,.int .i64 s.off,.slice s.A s.cells.length s.cap,.slice cA c.length ccap,.slice fA f.length fcap,.int .i64 e] 114 (0,0))::sl 86 7 qA q.length qcap (Q.flatMap rqF)::many (Q.map rqQ)::[many H]) w:=by
    revert w
    exact zc0
   rw[<-hQl]at h5
   exact h5
  apply Xd [bldA g ⟨n,qA,qcap,Q,s,cA,ccap,c,fA,fcap,f,e⟩] _ en70
  exact za
  try exact zl
  exact zp
  exact rfl
  exactλ_ hw=>(p3 ⟨n,qA,qcap,Q,s,cA,ccap,c,fA,fcap,f,e⟩ 18 hw)
  rintro _ _ ⟨rfl,rfl⟩
  refine J5 ?_
  apply Yi (bldA g (BuM.fail ⟨n,qA,qcap,Q,s,cA,ccap,c,fA,fcap,f,e⟩ 18)::rqs qA qcap Q::many (Q.map rqQ)::H)
  ·intro w hw
   have h5:St B w0 (bldA g (BuM.fail ⟨n,qA,qcap,Q,s,cA,ccap,c,fA,fcap,f,e⟩ 18)::rqs qA qcap Q::many (Q.map rqQ)::[many H]) w:=by
    revert w
    exact zc0
   exact zc80
  apply WH;exact rfl
  exact⟨Q,XM e 18,rfl,hQl,hQs,.inr ⟨hb,rfl⟩,rfl⟩
 subst hre
 refine Yvo ?_<;>intros
 apply YX [0,1,2,3,4,5,6,7] [8] [true,true,true,true,true,true]
 kernel_rfl
 kernel_rfl
 exact zy
 (simp only[Yh,nthO];rfl)
 (simp only[Yh,nthO];rfl)
 repeat'(first|(apply Yk T;exact rfl;exact zm;exact rfl;exact zv;exact rfl;exact rfl)|(apply Zb T (f:=rqF) (l:=Q) (i:=i) (a:=y);(iterate 3 exact rfl);exact zd;exactλ_=>rfl;(iterate 3 exact rfl);omega)|refine zgd ?_|fail)
 apply hK ⟨i+1,Q.set i y⟩
 ·refine⟨by exact zc71,by show(Q.set i _).length=_;rw[Rf,hQl],λz hz=>?_,?_,λj hj=>?_⟩
  ·rcases ND hz with h|rfl
   ·exact hQs z h
   ·exact hyl
  ·show(Q.set i y).map RqM.rq=_
   rw[List.map_set,hQm,hlq,hy]
  ·rcases RZ.1 hj with h|rfl
   ·exact hQk j h
   ·exact .inr (hsk j rfl)
 ·exact zc39
 ·exact zc1
 ·intro w hw
  dsimp only
  have h5:St B w0 (rqQ y::many (Q.map rqQ)::blk g (.cells #[.int .i64 n.nodes,.slice n.pA n.rows.length n.pcap,.int .i64 n.noise,.int .i64 n.thr,.slice n.lA n.links.length n.lcap,.slice n.mA n.margin.length n.mcap,.slice qA q.length qcap,.int .i64 s.len,.int .i64 s.off,.slice s.A s.cells.length s.cap,.slice cA c.length ccap,.slice fA f.length fcap,.int .i64 e] 114 (0,0))::sl 86 7 qA q.length qcap ((Q.set i y).flatMap rqF)::[many H]) w:=by
   revert w
   exact zc0
  have h6:=h5.perm (Ypk (Q:=Q) (i:=i) (y:=y) (by omega) _)
  clear hw h5
  revert w
  exact zc0
end Go.Proofs.YtaholidehobiiaaGreatDoor
