/- Lemmas. -/
import Derived.Test.YtjommdkgfbhbdaaGreatDoorQ15
import Derived.Test.YtjommdkgfbhbdaaGreatDoorQ16
set_option maxRecDepth 100000
set_option maxHeartbeats 8000000
set_option linter.all false
namespace Go.Proofs.YtjommdkgfbhbdaaGreatDoor
open Go.RowKit Go.Eng Go.Nw Go.Rt
theorem Yjo(n:NetM)(q:List RqM)(s:SchM)(x:RqM)(h24:s.len<=24){A:Option Addr}{cap B:Nat}{w0:World}{H:List HP}{w:World}(ht:TabsB B w0)(hin:n.In B w0 H)(hq:QIn B w0 H A q)(hrs:Rd B w0 H s.A (s.cells.flatMap celF))(hsl:s.cells.length<=1000000000000)(hx:x.In B w0 H)(hw:St B w0 H w):
 CX B w0 66 [n.val,.slice A q.length cap,s.val,rqV x] w (OutS H (JB n.net (q.map RqM.rq) s.sch x.rq)):=by
 refine Ya Tryz.func66 Tryz.ntmps66 rfl rfl hw ?_
 have p1:=λ{H':List HP}{w:World}(hin:n.In B w0 H') (hq:QIn B w0 H' A q) (hrs:Rd B w0 H' s.A (s.cells.flatMap celF)) (hw:St B w0 H' w)=>Ya4 n q s (cap:=cap) ht hin hq hrs hsl hw
 have pf:=λ{A':Option Addr}{cap':Nat}{q':List RqM}{H':List HP}{w:World}(hin:n.In B w0 H') (hq:QIn B w0 H' A' q') (hw:St B w0 H' w)=>YaJ n q' (cap:=cap') ht hin hq hw
 have pp:=λ(hsm:Sm n.net (YG (insQ (q.map RqM.rq) x.rq)) s.sch) (hrow:∀r∈x.rows,YnY n (YG (insQ (q.map RqM.rq) x.rq)) x.f.1 r) (hf:Xl n.net.nodes x.f=0) {H':List HP}{w:World}(hin:n.In B w0 H') (hr:Rd B w0 H' s.A (s.cells.flatMap celF)) (hx:x.In B w0 H') (hw:St B w0 H' w)=>YiB n _ s x hsm h24 hrow hf hin hr hx hw
 have hn1:n.val=.agg #[.int .i64 n.nodes,.slice n.pA n.rows.length n.pcap,.int .i64 n.noise,.int .i64 n.thr,.slice n.lA n.links.length n.lcap,.slice n.mA n.margin.length n.mcap]:=rfl
 unfold NetM.val SchM.val rqV at*
 clear hn1
 have hlenS:s.sch.len=s.len:=rfl
 have hxf:x.rq.1=x.f:=rfl
 have hop:∀w,St B w0 [many H] w->St B w0 H w:=λw hw=>hw.perm (.openT H)
 have hin:=hin.mono hop
 have hq:=hq.mono hop
 have hrs:=hrs.mono hop
 have hx:=hx.mono hop
 refine YX [many H] (λw hw=>hw.perm (.closeT H)) ?_
 refine zX72 ?_<;>intros
 rename_i g4 g6 g7 g8
 apply Yb YsG
 exact za
 exact rfl
 exactλ_ hw=>(p1 hin.cons.cons.cons.cons hq.cons.cons.cons.cons hrs.cons.cons.cons.cons hw)
 by_cases hc:(YD n.net (q.map RqM.rq) s.sch).2.2=0
 rotate_left
 ·rw[Tn hc]
  refine zX3 ?_
  apply Yn T (H2:=cels none 0 []::H);(iterate 3 exact rfl);(focus exact zc2);exact rfl;exact rfl
  ·intro w hw
   have h5:St B w0 [many H] w:=by
    revert w
    exact zc0
   exact zc94
  exact U3 1 (by rw[JB,To hc]) rfl
 rw[Ti hc]
 have hrq:(rqsE n.net (q.map RqM.rq)).2=0:=TQ.1 λh1=>by
  unfold YD at hc;rw[To h1]at hc;exact h1 hc
 have hck:=(V4 hrq).1
 have hql:q.length<=16:=by
  have h1:=(V4 hrq).2.1
  unfold Yt at h1
  split at h1
  ·cases h1
  split at h1
  ·cases h1
  rename_i h2
  unfold YG at h2
  rw[Tu,Tu]at h2
  omega
 have hord:=Ypp hrq
 repeat'(first|(apply zg29;(apply Yu;exact za;exact rfl))|refine zgd ?_|fail)
 apply Yb YsL
 exact za
 exact rfl
 exactλ_ hw=>(WC (λy=>decide (y.f.1=x.f.1)) q 151 [.pointer (some ⟨g7,0,none⟩)] Ywl (by omega) hq.rd.cons.cons.cons.cons (λa _ w hw=>Ymv a x g7 (by(focus exact zc2)) hw) hw)
 have hhas:(q.any λy=>decide (y.f.1=x.f.1))=hasQ (q.map RqM.rq) x.f.1:=by
  unfold hasQ;rw[List.any_map];rfl
 rw[hhas]
 cases hh:hasQ (q.map RqM.rq) x.f.1 with
 |true=>
  refine zX3 ?_
  apply Yn T (H2:=cels none 0 []::H);(iterate 3 exact rfl);(focus exact zc2);exact rfl;exact rfl
  ·intro w hw
   have h5:St B w0 [many H] w:=by
    revert w
    exact zc0
   exact zc94
  exact U3 6 (by rw[JB,Tf (λe=>e hc),To (show hasQ (q.map RqM.rq) x.rq.1.1=true from hh)]) rfl
 |false=>
 have hadm:JB n.net (q.map RqM.rq) s.sch x.rq=(if(rqsE n.net (insQ (q.map RqM.rq) x.rq)).2≠0 then(Jz,1)
  else if s.sch.len.tmod x.rq.1.2.2.2.1≠0 then(Jz,11)else match V1 n.net x.rq.1 x.rq.2 s.sch with
   |none=>(Jz,18)
   |some t=>if 512<t.cells.length then(Jz,8)else(t,0):Sch×Int):=by
  have hh2:¬hasQ (q.map RqM.rq) x.rq.1.1=true:=λh=>by rw[show hasQ (q.map RqM.rq) x.rq.1.1=false from hh]at h;cases h
  unfold JB
  rw[Tf (λe=>e hc),Tf hh2]
  rfl
 rw[hadm]
 have pi:=λ{H':List HP}{w:World}(hr:Rd B w0 H' A (q.flatMap rqF)) (hw:St B w0 H' w)=>Yd8 q x hord (by omega) (cap:=cap) hr hw
 have hkl:posQ (q.map RqM.rq) x.f.1<=q.length:=Yub
 have hmap:=YrS q x
 have hins:=Oh q x _ hkl
 generalize posQ (q.map RqM.rq) x.f.1=k at*
 unfold rqV at pi
 refine zX2 ?_
 apply YC [0,1,2,3,4,5] [] [true,true,true,true,true]
 kernel_rfl
 kernel_rfl
 exact zy
 (simp only[Yd,nthO];rfl)
 exact rfl
 refine zX3 ?_
 apply Yg _ Ywm
 exact za
 exact rfl
 exactλ_ hw=>(pi hq.rd.cons.cons.cons.cons (hw))
 rintro _ _ ⟨A1,cap1,rfl,rfl⟩
 rw[<-hins]
 have hqi:=hq.insert (A':=A1) (cap':=cap1) hx (by omega) k hkl
 refine zX17 ?_
 apply Yb YsM
 exact za
 exact rfl
 exactλ_ hw=>(pf (hin.mono zc0) (hqi.mono zc0) hw)
 rw[hmap,YeN hck]
 by_cases hrx:(rqsE n.net (insQ (q.map RqM.rq) x.rq)).2=0
 rotate_left
 ·rw[Ti hrx]
  refine zX17 ?_
  apply Yn T (H2:=cels none 0 []::H);(iterate 3 exact rfl);(focus exact zc2);exact rfl;exact rfl
  ·intro w hw
   have h5:St B w0 [many H] w:=by
    revert w
    exact zc0
   exact zc94
  exact U3 1 (by rw[To hrx]) rfl
 have hdf:decide ((rqsE n.net (insQ (q.map RqM.rq) x.rq)).2≠0)=false:=Tn (λe=>e hrx)
 rw[hdf,Tf (λe=>e hrx)]
 have hxm:x.rq∈insQ (q.map RqM.rq) x.rq:=Qy.2 (.inl rfl)
 have hfx:Xl n.net.nodes x.f=0:=Ul (V4 hrx).2.1 (TG.2 ⟨x.rq,hxm,rfl⟩)
 obtain⟨-,hper,hph,-,hd⟩:=X4 hfx
 have hl1:1<=s.len:=by
  have h0:=(We.1 (Z5.1 (ZD.1 hc).1)).frm.sized
  unfold Zf at h0
  exact(TI h0).1
 have hmm:s.len.tmod x.f.2.2.2.1=s.len%x.f.2.2.2.1:=Rb (by omega)
 by_cases hm:s.len%x.f.2.2.2.1=0
 rotate_left
 ·rw[To (show s.sch.len.tmod x.rq.1.2.2.2.1≠0 fromλe=>hm (hmm.symm.trans e))]
  refine zX95 ?_<;>intros
  apply Yn T (H2:=cels none 0 []::H);(iterate 3 exact rfl);(focus exact zc2);exact rfl;exact rfl
  ·intro w hw
   have h5:St B w0 [many H] w:=by
    revert w
    exact zc0
   exact zc94
  exact U3 11 rfl rfl
 rw[Tf (show¬s.sch.len.tmod x.rq.1.2.2.2.1≠0 fromλe=>e (hmm.trans hm))]
 obtain⟨hsm,-,hrd⟩:=Ymw hc hrx (hmm.trans hm)
 have hrow:∀r∈x.rows,YnY n (YG (insQ (q.map RqM.rq) x.rq)) x.f.1 r:=λr hr=>by
  obtain⟨h1,h2,h3⟩:=hrd r.xs (TG.2 ⟨r,hr,rfl⟩)
  exact⟨h1,h2,h3⟩
 have pl:=λ{H':List HP}{w:World}=>@pp hsm hrow hfx H' w
 clear pp
 apply ZV [many H,netA g4 n,schA g6 s,rqA g7 x,blk g8 (.cells (Value.agg #[.int .i64 0,.int .i64 0,.slice none 0 0]).cells 33 (0,0))]
 ·exact zc0
 refine zX95 ?_<;>intros
 apply Yg _ Ywn
 exact za
 exact rfl
 exactλ_ hw=>(pl (hin.mono zc0) (hrs.mono zc0) (hx.mono zc0) (hw))
 rintro _ _ ⟨s',ok,P,rfl,ho1,ho2,rfl⟩
 cases ok with
 |false=>
  rw[show V1 n.net x.rq.1 x.rq.2 s.sch=none from ho2 rfl]
  refine zX26 ?_<;>intros
  apply Yn T (H2:=cels none 0 []::H);(iterate 3 exact rfl);(focus exact zc2);exact rfl;exact rfl
  ·intro w hw
   have h5:St B w0 [many H] w:=by
    revert w
    exact zc0
   exact zc94
  exact U3 18 rfl rfl
 |true=>
 obtain⟨h1,h2⟩:=ho1 rfl
 rw[show V1 n.net x.rq.1 x.rq.2 s.sch=some s'.sch from h1]
 have e3:s'.sch.cells=s'.cells:=rfl
 dsimp only
 rw[e3]
 by_cases h512:512<s'.cells.length
 ·rw[To h512]
  refine Yqw ?_<;>intros
  apply Yn T (H2:=cels none 0 []::H);(iterate 3 exact rfl);(focus exact zc2);exact rfl;exact rfl
  ·intro w hw
   have h5:St B w0 [many H] w:=by
    revert w
    exact zc0
   exact zc94
  exact U3 8 rfl rfl
 rw[Tf h512]
 refine Yqw ?_<;>intros
 apply Yg _ Yhu
 exact za
 exact rfl
 exactλ_ hw=>(JS s'.cells (by omega) (h2.mono zc0) (hw))
 rintro _ _ ⟨A2,c2,rfl,rfl⟩
 refine zX3 ?_
 apply Yn T (H2:=cels A2 c2 s'.cells::H);(iterate 3 exact rfl);(focus exact zc2);exact rfl;exact rfl
 ·intro w hw
  have h5:St B w0 (cels A2 c2 s'.cells::[many H]) w:=by
   revert w
   exact zc0
  exact zc43
 exact⟨A2,c2,rfl,rfl⟩
structure Pln where
 n:Net
 q:List Rqs
 s:Sch
 c:List Clm
 f:List Int
noncomputable def J6(n:Net)(f:Flw):Rqs×Int:=
 if(Zw n f.2.1 f.2.2.1).2≠0 then(Ymd,(Zw n f.2.1 f.2.2.1).2)else((f,[(Zw n f.2.1 f.2.2.1).1]),0)
noncomputable def VR(n:Net)(f:Flw):Option (List Int×List Int)×Int:=(Yk9 100000 n f.2.1 f.2.2.1).getD (none,0)
noncomputable def reqE(n:Net)(f:Flw):Rqs×Int:=
 match(VR n f).1 with
 |some pq=>((f,[pq.1,pq.2]),0)
 |none=>J6 n f
noncomputable def Ydo(n:Net)(l:List Flw):Int×Int:=Yz (λi=>(reqE n (Y4 l i)).2) l.length 0
noncomputable def J3(n:Net)(l:List Flw):List Rqs×(Int×Int):=
 if Yo n≠0 then([],(-1,1))else if(Yt n.nodes l).2≠0 then([],Yt n.nodes l)
 else if(Ydo n l).2≠0 then([],Ydo n l)else(l.map λf=>(reqE n f).1,(-1,0))
def YaI(a b:Int):Int:=if a=0 then b else a
def WI(n:Net)(q:List Rqs)(s:Sch)(e:Int):Int:=if e≠0 then e else YaI (YD n q s).2.2 (Y9 s).2
def finE(n:Net)(q:List Rqs)(s:Sch)(e:Int):Option Pln×Int:=
 if WI n q s e≠0 then(none,WI n q s e)else(some ⟨n,q,s,(YD n q s).1,(Y9 s).1⟩,0)
def chkP(p:Pln):Int:=
 if Yo p.n≠0 then 1 else if(YD p.n p.q p.s).2.2=15\/(YD p.n p.q p.s).2.2=1/\(YD p.n p.q p.s).2.1<0 then 18
 else if(YD p.n p.q p.s).2.2≠0 then 1 else if(chkE p.n p.q p.s p.c).2≠0 then 20
 else if(Y9 p.s).2≠0\/(Y9 p.s).1≠p.f then 11 else 0
def ext1(p:Pln)(x:Rqs)(s:Sch×Int):Option Pln×Int:=if s.2≠0 then(none,18)else finE p.n (insQ p.q x) s.1 0
noncomputable def extP(p:Pln)(f:Flw):Option Pln×Int:=
 if chkP p≠0 then(none,1)else if hasQ p.q f.1=true then(none,6)
 else if(Yt p.n.nodes (YG (insQ p.q (f,[])))).2≠0 then(none,1)else if p.s.len.tmod f.2.2.2.1≠0 then(none,11)
 else if(J3 p.n [f]).2.2≠0 then(none,(J3 p.n [f]).2.2)
 else if(JB p.n p.q p.s (reqE p.n f).1).2=0 then finE p.n (insQ p.q (reqE p.n f).1) (JB p.n p.q p.s (reqE p.n f).1).1 0
 else if(J6 p.n f).2≠0 then(none,18)else ext1 p (J6 p.n f).1 (JB p.n p.q p.s (J6 p.n f).1)
def idQ(q:List Rqs)(id:Int):Int:=Yp (λx:Rqs=>decide (x.1.1=id)) q 0
def delQ(q:List Rqs)(i:Nat):List Rqs:=q.take i++q.drop (i+1)
def wdrP(p:Pln)(id:Int):Option Pln×Int:=
 if chkP p≠0 then(none,1)else if idQ p.q id<0 then(none,7)else finE p.n (delQ p.q (idQ p.q id).toNat) (Ui p.s id).1 (Ui p.s id).2
end Go.Proofs.YtjommdkgfbhbdaaGreatDoor
namespace Go.Eng
open Go.RowKit
variable {B:Nat}{w0:World}{H:List HP}
theorem Ymt{P:Program}{env:Env}{n:Nat}(T:Tab P){fn:Func}{Φ:Value->List HP->Prop}{p g k u s rt:Nat}{x y:Value}{cs:Array Value}{tt:TypeId}{fr:Nat×Nat}(hr:fn.results=#[.cell p rt,.tmp u,.tmp s])(hp:get env p=some (.pointer (some ⟨g,0,none⟩)))(hu:get env u=some x)(hs:get env s=some y)
 (hm:blk g (.cells cs tt fr)∈H) (ht:look T.ag rt=some k) (hk:cs.size=k) {H2:List HP}(hH:∀w,St B w0 H w->St B w0 H2 w) (h:Φ (.tuple #[.agg cs,x,y]) H2):VQ ⟨n,[],none⟩ B w0 (bodyPost P fn (Post B w0 Φ)) .ret env H:=by
 refine⟨λa w ha hw=>bodyPost_ret (v:=.tuple #[.agg cs,x,y]) ?_ ha.defers ⟨_,H2,rfl,hH w hw,h⟩⟩
 have hp':=ha.slot p _ hp
 simp[results,hr,Array.getD_eq_getD_getElem?,hp',ha.slot u _ hu,ha.slot s _ hs,asAddr,ZP T (hw.blk hm).1 ht hk]
end Go.Eng
namespace Go.Proofs.YtjommdkgfbhbdaaGreatDoor
open Go.RowKit Go.Eng Go.Nw Go.Rt
variable {B cap:Nat}{w0:World}{H:List HP}{A:Option Addr}
theorem Om{l:List Cel}(h:cels A cap l∈H):Rd B w0 H A (l.flatMap celF):=Rd.sl h
theorem Ygl{l:List RqM}(h:rqs A cap l∈H):Rd B w0 H A (l.flatMap rqF):=Rd.sl h
theorem YvD{n:NetM}{q:List RqM}(h:(rqsE n.net (q.map RqM.rq)).2=0):q.length<=16/\∀x∈q,1<=x.f.2.2.2.1:=by
 have h1:=(V4 h).2.1
 refine⟨?_,λx hx=>?_⟩
 ·grind [Yt,YG]
 ·have hfx:Xl n.net.nodes x.f=0:=Ul h1 (TG.2 ⟨x.rq,TG.2 ⟨x,hx,rfl⟩,rfl⟩)
  obtain⟨-,hper,-⟩:=X4 hfx
  omega
theorem YvG(n:Net)(s t:Int):(Zw n s t).1.length<=9:=by
 grind [Zw]
variable {B:Nat}{w0 w:World}{H:List HP}
theorem Ju(n:NetM)(hin:n.In B w0 H)(hw:St B w0 H w):
 CX B w0 38 [n.val] w λv K=>v=.bool (decide (Yo n.net=0))/\K=H:=by
 refine Ya Tryz.func38 Tryz.ntmps38 rfl rfl hw ?_
 have p1:=λ{H':List HP}{w:World}(hin:n.In B w0 H') (hw:St B w0 H' w)=>Ymf n [] (A:=none) (cap:=0) hin .nil (by decide) (by decide) hw
 have hc:(YgE n.net []).2=if Yo n.net≠0 then 1 else 9:=by
  unfold YgE
  by_cases h:Yo n.net=0
  ·rw[Tf (show¬Yo n.net≠0 fromλe=>e h),Tf (show¬Yo n.net≠0 fromλe=>e h)];rfl
  simp_all
 unfold NetM.val at p1⊢
 by_cases h:Yo n.net=0
 ·rw[Tf (λe=>e h)]at hc
  rw[hc]at p1
  rw[Ti h]
  refine zX72 ?_<;>intros
  apply Yb YsD
  exact za
  exact rfl
  exactλ_ hw=>(p1 hin.cons hw)
  refine zX1 ?_<;>intros
  apply Yf H
  ·exact zc0
  exact zc9
 ·rw[To h]at hc
  rw[hc]at p1
  rw[Tn h]
  refine zX72 ?_<;>intros
  apply Yb YsD
  exact za
  exact rfl
  exactλ_ hw=>(p1 hin.cons hw)
  refine zX1 ?_<;>intros
  apply Yf H
  ·exact zc0
  exact zc3
def rqQ(x:RqM):HP:=many [sl 127 1 x.A x.rows.length x.cap (x.rows.flatMap rowF),many (x.rows.map rowQ)]
def RqM.lens(x:RqM):Prop:=x.rows.length<=1000/\∀r∈x.rows,r.xs.length<=1000/\r.xs.length<=r.cap
theorem Yp9{x:RqM}(hm:rqQ x∈H)(hl:x.lens):x.In B w0 H:=by
 have hb:∀w,St B w0 H w->St B w0 [sl 127 1 x.A x.rows.length x.cap (x.rows.flatMap rowF),many (x.rows.map rowQ)] w:=λw hw=>hw.inM hm
 refine RqM.In.mono ⟨.sl (.head _),λr hr=>?_,TX hl.1 (by decide),λr hr=>⟨TX (hl.2 r hr).1 (by decide),(hl.2 r hr).2⟩⟩ hb
 exact Rd.many (L:=x.rows.map rowQ) (.tail _ (.head _)) (RD hr)
def Yjn:RqM:=⟨(0,0,0,0,0,0),none,0,[]⟩
theorem YxZ(h:St B w0 H w):St B w0 (rqQ Yjn::H) w:=by
 exact((h.perm (.noMany H)).nilSlice 127 1).perm (.close [_,_] H)
def OutQ(H:List HP)(R:Rqs×Int)(v:Value)(K:List HP):Prop:=∃x:RqM,v=.tuple #[rqV x,.int .i64 R.2]/\x.rq=R.1/\x.lens/\K=rqQ x::H
theorem Ysa{R:Rqs×Int}{v:Value}(e:Int)(hR:R=(Ymd,e))(hv:v=.tuple #[rqV Yjn,.int .i64 e]):OutQ H R v (rqQ Yjn::H):=⟨Yjn,by simp_all,by rw[hR];rfl,⟨Td _,λr hr=>by cases hr⟩,rfl⟩
theorem OL(n:NetM)(f:Flw)(hin:n.In B w0 H)(hw:St B w0 H w):
 CX B w0 67 [n.val,flwV f] w (OutQ H (J6 n.net f)):=by
 refine Ya Tryz.func67 Tryz.ntmps67 rfl rfl hw ?_
 have p1:=λ{H':List HP}{w:World}(hin:n.In B w0 H') (hw:St B w0 H' w)=>Yeq n f.2.1 f.2.2.1 hin hw
 have hl9:=YvG n.net f.2.1 f.2.2.1
 have hsing:J6 n.net f=if(Zw n.net f.2.1 f.2.2.1).2≠0 then(Ymd,(Zw n.net f.2.1 f.2.2.1).2)else((f,[(Zw n.net f.2.1 f.2.2.1).1]),0):=rfl
 rw[hsing]
 clear hsing
 generalize Zw n.net f.2.1 f.2.2.1=R at*
 unfold NetM.val at p1⊢
 unfold flwV
 refine zX72 ?_<;>intros
 apply Yg _ Ywo
 exact za
 exact rfl
 exactλ_ hw=>(p1 hin.cons.cons.cons (hw))
 rintro _ _ ⟨A,cap,rfl,-,-,rfl⟩
 apply Ybq (e:=3) (size:=1) (k:=R.1.length) (cap:=cap) (A:=A) (xs:=R.1.flatMap numF) (by(focus exact zc2))
 intro hcap
 obtain⟨r,e⟩:=R
 dsimp only at hl9 hcap⊢
 by_cases he:e=0
 ·rw[Tf (λh=>h he)]
  refine zX45 ?_<;>intros
  rename_i gL
  apply Yn T (H2:=rqQ ⟨f,some ⟨gL,0,none⟩,1,[⟨A,cap,r⟩]⟩::H);(iterate 3 exact rfl);(focus exact zc2);exact rfl;exact rfl
  ·intro w hw
   have h5:St B w0 (blk gL (.cells #[.slice A r.length cap] 127 (0,0))::ints A cap r::H) w:=by
    revert w
    exact zc0
   have h6:=h5.blk_sl (cs:=[Value.slice A r.length cap]) (len:=1) (size:=1) rfl (by omega)
   exact(h6.perm (.cons _ (.close [_] H))).perm (.close [_,_] H)
  refine⟨_,rfl,rfl,⟨TV rfl,λx hx=>?_⟩,rfl⟩
  rw[Ry.1 hx]
  exact⟨by show r.length<=_;omega,hcap⟩
 ·rw[To he]
  refine zX50 ?_<;>intros
  apply Yn T (H2:=rqQ Yjn::H);(iterate 3 exact rfl);(focus exact zc2);exact rfl;exact rfl
  ·intro w hw
   have h5:St B w0 H w:=by
    revert w
    exact zc0
   exact YxZ h5
  exact Ysa e rfl rfl
structure YgG(n:NetM)(f:Flw):Prop where
 err:((VR n.net f).1=none/\(VR n.net f).2≠0)\/∃p q,VR n.net f=(some (p,q),0)
 run:∀{B:Nat}{w0:World}{H:List HP}{w:World},n.In B w0 H->St B w0 H w->CX B w0 213 [n.val,.int .i64 f.2.1,.int .i64 f.2.2.1] w λv K=>match(VR n.net f).1 with
  |none=>v=.tuple #[.slice none 0 0,.int .i64 (VR n.net f).2]/\K=H
  |some pq=>∃g A1 c1 A2 c2,v=.tuple #[.slice (some ⟨g,0,none⟩) 2 2,.int .i64 (VR n.net f).2]/\(2<=pq.1.length/\pq.1.length<=9/\pq.2.length<=9)/\WayV A2 pq.2/\K=sl 127 1 (some ⟨g,0,none⟩) 2 2 ([⟨A1,c1,pq.1⟩,⟨A2,c2,pq.2⟩].flatMap rowF)::ints A1 c1 pq.1::ints A2 c2 pq.2::H
theorem Ydj(n:NetM)(f:Flw)(he:Zq n.net f.2.1 f.2.2.1=0)(hq:VR n.net f=(none,17))(hbo:(Ov 100000 n.net.nodes.toNat (Jx n.net) f.2.1 f.2.1 f.2.2.1 (λ_=>false)).map (λr=>r.2.1)=some false):YgG n f where
 err:=.inl (by rw[hq];exact⟨rfl,by decide⟩)
 run:=by
  rw[hq]
  exactλhin hw=>Yjq n f.2.1 f.2.2.1 he hbo hin hw
theorem Ydp(n:NetM)(f:Flw)(hrun:YgG n f)(hin:n.In B w0 H)(hw:St B w0 H w):
 CX B w0 120 [n.val,flwV f] w (OutQ H (reqE n.net f)):=by
 refine Ya Tryz.func120 Tryz.ntmps120 rfl rfl hw ?_
 have p1:=λ{H':List HP}{w:World}(hin:n.In B w0 H') (hw:St B w0 H' w)=>hrun.run hin hw
 have p2:=λ{H':List HP}{w:World}(hin:n.In B w0 H') (hw:St B w0 H' w)=>OL n f hin hw
 have hreq:reqE n.net f=match(VR n.net f).1 with|some pq=>((f,[pq.1,pq.2]),0)|none=>J6 n.net f:=rfl
 rw[hreq]
 clear hreq
 unfold NetM.val flwV at p2
 unfold NetM.val at p1⊢
 unfold flwV
 rcases hrun.err with⟨h1,h2⟩|⟨a,b,h1⟩
 ·generalize VR n.net f=R at*
  obtain⟨o,e⟩:=R
  dsimp only at h1 h2
  subst h1
  dsimp only at p1⊢
  repeat'(first|refine zgb ?_|(refine zgh ?_;intro _)|fail)
  apply Yb Ys1
  exact za
  exact rfl
  exactλ_ hw=>(p1 hin.cons.cons.cons hw)
  repeat'(first|refine zgc ?_|(refine zge ?_ ?_<;>intro _<;>try exact zo)|fail)
  apply Yg _ en67
  exact za
  exact rfl
  exactλ_ hw=>(p2 hin.cons.cons.cons (hw))
  rintro _ _ ⟨x,rfl,hx,hxl,rfl⟩
  unfold rqV
  repeat'(first|refine zgc ?_|fail)
  apply Yn T (H2:=rqQ x::H);(iterate 3 exact rfl);exact zm;exact rfl;exact rfl
  ·exact zk
  exact⟨x,rfl,hx,hxl,rfl⟩
 ·rw[h1]at p1⊢
  dsimp only at p1⊢
  repeat'(first|refine zgb ?_|(refine zgh ?_;intro _)|fail)
  apply Yg _ Ys1
  exact za
  exact rfl
  exactλ_ hw=>(p1 hin.cons.cons.cons (hw))
  rintro _ _ ⟨g,A1,c1,A2,c2,rfl,⟨l1,l2,l3⟩,-,rfl⟩
  apply Ybq (e:=3) (size:=1) (k:=a.length) (cap:=c1) (A:=A1) (xs:=a.flatMap numF) zm
  intro hc1
  apply Ybq (e:=3) (size:=1) (k:=b.length) (cap:=c2) (A:=A2) (xs:=b.flatMap numF) zm
  intro hc2
  try dsimp only at l1 l2 l3
  repeat'(first|refine zgd ?_|(refine zge ?_ ?_<;>intro _<;>try exact zo)|fail)
  apply Yn T (H2:=rqQ ⟨f,some ⟨g,0,none⟩,2,[⟨A1,c1,a⟩,⟨A2,c2,b⟩]⟩::H);(iterate 3 exact rfl);exact zm;exact rfl;exact rfl
  ·intro w hw
   have h5:St B w0 (sl 127 1 (some ⟨g,0,none⟩) 2 2 ([⟨A1,c1,a⟩,⟨A2,c2,b⟩].flatMap rowF)::ints A1 c1 a::ints A2 c2 b::H) w:=by
    revert w
    exact zk
   exact(h5.perm (.cons _ (.close [_,_] H))).perm (.close [_,_] H)
  refine⟨_,rfl,rfl,⟨TV rfl,λx hx=>?_⟩,rfl⟩
  simp only[Rr,R9,NR]at hx
  rcases hx with rfl|rfl
  ·exact⟨by show a.length<=_;omega,hc1⟩
  ·exact⟨by show b.length<=_;omega,hc2⟩
theorem Yc9(q:List RqM)(x:RqM)(H:List HP):Perm (rqQ x::many (q.map rqQ)::H) (many ((q++[x]).map rqQ)::H):=by
 have:=Perm.push (rqQ x) (q.map rqQ) [] H
 simp_all
def YnX(H:List HP)(R:List Rqs×(Int×Int))(v:Value)(K:List HP):Prop:=∃A cap q,v=.tuple #[.slice A (q:List RqM).length cap,.int .i64 R.2.1,.int .i64 R.2.2]/\q.map RqM.rq=R.1/\(∀x∈q,x.lens)/\K=rqs A cap q::many (q.map rqQ)::H
variable {B:Nat}{w0 w:World}{H:List HP}
theorem Yf7(h:St B w0 H w):St B w0 (rqs none 0 []::many (([]:List RqM).map rqQ)::H) w:=(h.perm (.noMany H)).nilSlice 93 7
theorem Ydh{R:List Rqs×(Int×Int)}{v:Value}(i e:Int)(hR:R=([],(i,e)))(hv:v=.tuple #[.slice none 0 0,.int .i64 i,.int .i64 e]):YnX H R v (rqs none 0 []::many (([]:List RqM).map rqQ)::H):=
 ⟨none,0,[],by simp_all,by simp_all,(λx hx=>by cases hx),rfl⟩
theorem YlG{q:List RqM}{x:RqM}(hm:many (q.map rqQ)∈H)(hx:x∈q)(hl:x.lens):x.In B w0 H:=
 RqM.In.mono (H:=q.map rqQ) (Yp9 (RD hx) hl) λ_ hw=>hw.inM hm
structure RtM where
 i:Nat
 A:Option Addr
 cap:Nat
 q:List RqM
theorem Yek(n:NetM)(l:List Flw)(hll:l.length<=1000000000000)(hrun:∀f∈l,YgG n f){A:Option Addr}{cap:Nat}(hin:n.In B w0 H)(hr:Rd B w0 H A (l.flatMap flwF))(hw:St B w0 H w):
 CX B w0 42 [n.val,.slice A l.length cap] w (YnX H (J3 n.net l)):=by
 refine Ya Tryz.func42 Tryz.ntmps42 rfl rfl hw ?_
 have p1:=λ{H':List HP}{w:World}(hin:n.In B w0 H') (hw:St B w0 H' w)=>Ju n hin hw
 have p2:=λ{H':List HP}{w:World}(hr:Rd B w0 H' A (l.flatMap flwF)) (hw:St B w0 H' w)=>Y3 n.nodes l (TX hll (by decide)) (cap:=cap) hr hw
 have p3:=λ(f:Flw) (hf:f∈l) {H':List HP}{w:World}(hin:n.In B w0 H') (hw:St B w0 H' w)=>Ydp n f (hrun f hf) hin hw
 have hop:∀w,St B w0 [many H] w->St B w0 H w:=λw hw=>hw.perm (.openT H)
 have hin:=hin.mono hop
 have hr:=hr.mono hop
 unfold NetM.val flwV at p3
 unfold NetM.val at p1⊢
 refine YX [many H] (λw hw=>hw.perm (.closeT H)) ?_
 unfold J3
 by_cases hck:Yo n.net=0
 rotate_left
 ·rw[To hck]
  rw[Tn hck]at p1
  repeat'(first|refine zgb ?_|(refine zgh ?_;intro _)|fail)
  apply Yb en38
  exact za
  exact rfl
  exactλ_ hw=>(p1 hin.cons hw)
  repeat'(first|refine zgd ?_|fail)
  apply Yf (rqs none 0 []::many (([]:List RqM).map rqQ)::H)
  ·intro w hw
   have h5:St B w0 [many H] w:=by
    revert w
    exact zk
   exact Yf7 (hop w h5)
  apply Jh;(iterate 4 exact rfl)
  exact Ydh _ _ rfl rfl
 rw[Tf (λe=>e hck)]
 rw[Ti hck]at p1
 have hnd:n.net.nodes=n.nodes:=rfl
 rw[hnd]
 obtain⟨⟨fi,fe⟩,hF⟩:∃R,Yt n.nodes l=R:=⟨_,rfl⟩
 rw[hF]at p2⊢
 dsimp only at p2⊢
 repeat'(first|refine zgb ?_|(refine zgh ?_;intro _)|fail)
 apply Yb en38
 exact za
 exact rfl
 exactλ_ hw=>(p1 hin.cons hw)
 repeat'(first|refine zgd ?_|fail)
 apply Yb en39
 exact za
 exact rfl
 exactλ_ hw=>(p2 hr.cons hw)
 by_cases hfe:fe=0
 rotate_left
 ·rw[To hfe]
  repeat'(first|refine zgc ?_|(refine zge ?_ ?_<;>intro _<;>try exact zo)|fail)
  apply Yf (rqs none 0 []::many (([]:List RqM).map rqQ)::H)
  ·intro w hw
   have h5:St B w0 [many H] w:=by
    revert w
    exact zk
   exact Yf7 (hop w h5)
  apply Jh;(iterate 4 exact rfl)
  exact Ydh _ _ rfl rfl
 subst hfe
 rw[Tf (λe=>e rfl)]
 have hl16:l.length<=16:=by
  unfold Yt at hF
  split at hF
  ·cases hF
  split at hF
  ·cases hF
  ·omega
 obtain⟨F,hFd⟩:∃F,(λi=>(reqE n.net (Y4 l i)).2)=F:=⟨_,rfl⟩
 have hFv:∀{i:Nat}{f:Flw},l[i]? =some f->F i=(reqE n.net f).2:=λ{i f} h=>by
  rw[<-hFd]
  show(reqE n.net (Y4 l i)).2=_
  unfold Y4
  rw[TB,h];rfl
 unfold Ydo
 rw[hFd]
 repeat'(first|refine zgc ?_|(refine zge ?_ ?_<;>intro _<;>try exact zo)|fail)
 rename_i g2 _
 refine Ye (λz:RtM=>[(30,.int .i64 (z.i:Nat)),(29,.int .i64 l.length),(28,.slice A l.length cap),(9,.slice z.A z.q.length z.cap),(2,.pointer (some ⟨g2,0,none⟩))]) (λz=>rqs z.A z.cap z.q::many (z.q.map rqQ)::netA g2 n::[many H])
  (λz=>z.i<=l.length/\z.q.map RqM.rq=(l.take z.i).map (λf=>(reqE n.net f).1)/\(∀x∈z.q,x.lens)/\∀j,0<=j->j<z.i->F j=0) (λz=>l.length-z.i) ⟨0,none,0,[]⟩ ⟨Td _,rfl,(λx hx=>by cases hx),λj _ h=>absurd h (Re _)⟩ ?_ ?_ ?_
 ·exact zu
 ·intro w hw
  have h5:St B w0 (netA g2 n::[many H]) w:=by
   revert w
   exact zk
  exact Yf7 h5
 rintro⟨i,A1,c1,q⟩ ⟨hi,hq,hql,hz⟩ K hK
 dsimp only at hi hq hql hz⊢
 have hqn:q.length=i:=by
  have:=TA List.length hq
  rw[Tu,Tu,TO]at this
  omega
 by_cases hlt:i<l.length
 rotate_left
 ·obtain rfl:i=l.length:=by omega
  have hfe:=Xn (f:=F) (r:=l.length) (i0:=0) λj h1 h2=>hz j h1 (by omega)
  rw[hfe,Tf (λe=>e rfl)]
  rw[TC]at hq
  clear hK
  repeat'(first|refine zgc ?_|(refine zge ?_ ?_<;>intro _<;>try exact zo)|fail)
  apply Yf (rqs A1 c1 q::many (q.map rqQ)::H)
  ·intro w hw
   have h5:St B w0 (rqs A1 c1 q::many (q.map rqQ)::[many H]) w:=by
    revert w
    exact zk
   exact h5.perm (.cons _ (.cons _ (.openT H)))
  apply Jh;(iterate 4 exact rfl)
  exact⟨A1,c1,q,rfl,hq,hql,rfl⟩
 obtain⟨f,hf⟩:∃f,l[i]? =some f:=⟨_,Ta hlt⟩
 have hr2:Rd B w0 (rqs A1 c1 q::many (q.map rqQ)::netA g2 n::[many H]) A (l.flatMap flwF):=hr.cons.cons.cons
 have hFi:=hFv hf
 have hst:(l.take (i+1)).map (λf=>(reqE n.net f).1)=(l.take i).map (λf=>(reqE n.net f).1)++[(reqE n.net f).1]:=by
  rw[TD,hf,TY];rfl
 have p4:=λ{H':List HP}{w:World}(hin:n.In B w0 H') (hw:St B w0 H' w)=>p3 f (Tc hf) (H':=H') (w:=w) hin hw
 clear p3
 generalize reqE n.net f=RQ at p4 hFi hst
 obtain⟨rq,re⟩:=RQ
 dsimp only at hFi hst
 repeat'(first|refine zgd ?_|(refine zge ?_ ?_<;>intro _<;>try exact zo)|(refine zgh ?_;intro _)|fail)
 apply Yg _ Ywb
 exact za
 exact rfl
 exactλ_ hw=>(p4 (hin.mono zk) (hw))
 rintro _ _ ⟨x,rfl,hx,hxl,rfl⟩
 dsimp only at hx⊢
 by_cases he:re=0
 rotate_left
 ·have hfe:=Xe (f:=F) (r:=l.length) (i0:=0) (i:=i) (λj h1 h2=>hz j h1 h2) (Td _) (by omega) (by rw[hFi];exact he)
  rw[hfe,To (by rw[hFi];exact he),hFi]
  clear hK
  repeat'(first|refine zgd ?_|(refine zge ?_ ?_<;>intro _<;>try exact zo)|(refine zgh ?_;intro _)|fail)
  apply Yf (rqs none 0 []::many (([]:List RqM).map rqQ)::H)
  ·intro w hw
   have h5:St B w0 [many H] w:=by
    revert w
    exact zk
   exact Yf7 (hop w h5)
  apply Jh;(iterate 4 exact rfl)
  exact Ydh _ _ rfl rfl
 subst he
 unfold rqV rqs
 repeat'(first|refine zgc ?_|(refine zge ?_ ?_<;>intro _<;>try exact zo)|(refine zgh ?_;intro _)|(refine zgi ?_;intro _ _)|fail)
 rename_i A2 c2
 apply hK ⟨i+1,A2,c2,q++[x]⟩
 ·refine⟨by show i+1<=_;omega,?_,λy hy=>?_,λj h1 h2=>?_⟩
  ·show(q++[x]).map RqM.rq=_
   rw[TY,hq,hst]
   exact TA _ (TA (λz=>[z]) hx)
  ·rcases T9.1 hy with hy|hy
   ·exact hql y hy
   ·rw[Ry.1 hy];exact hxl
  ·rcases RJ.1 h2 with h|rfl
   ·exact hz j h1 h
   ·exact hFi
 ·dsimp only;omega
 ·rw[Tt]
  exact zu
 ·intro w hw
  have h5:St B w0 (rqQ x::many (q.map rqQ)::rqs A2 c2 (q++[x])::netA g2 n::[many H]) w:=by
   rw[<-Yfd]
   revert w
   exact zk
  have h6:=h5.perm (Yc9 q x _)
  exact h6.perm (.swap _ _ _)
structure BuM where
 n:NetM
 qA:Option Addr
 qcap:Nat
 q:List RqM
 s:SchM
 cA:Option Addr
 ccap:Nat
 c:List ClM
 fA:Option Addr
 fcap:Nat
 f:List Int
 e:Int
abbrev bldA(g:Nat)(b:BuM):HP:=blk g (.cells #[.int .i64 b.n.nodes,.slice b.n.pA b.n.rows.length b.n.pcap,.int .i64 b.n.noise,.int .i64 b.n.thr,.slice b.n.lA b.n.links.length b.n.lcap,.slice b.n.mA b.n.margin.length b.n.mcap,.slice b.qA b.q.length b.qcap,.int .i64 b.s.len,.int .i64 b.s.off,.slice b.s.A b.s.cells.length b.s.cap,.slice b.cA b.c.length b.ccap,.slice b.fA b.f.length b.fcap,.int .i64 b.e] 80 (0,0))
def BuM.fail(b:BuM)(e:Int):BuM:={b with e:=YaI b.e e}
theorem YaH(b:BuM)(g:Nat)(e:Int){B:Nat}{w0:World}{H:List HP}{w:World}(hw:St B w0 (bldA g b::H) w):
 CX B w0 45 [.pointer (some ⟨g,0,none⟩),.int .i64 e] w λv K=>v=.tuple #[]/\K=bldA g (b.fail e)::H:=by
 refine Ya Tryz.func45 Tryz.ntmps45 rfl rfl hw ?_
 unfold BuM.fail YaI
 by_cases h:b.e=0
 ·rw[To h]
  refine zX50 ?_<;>intros
  all_goals first|(exfalso;contradiction)|skip
  exact Yjk
 ·rw[Tf h]
  refine zX50 ?_<;>intros
  all_goals first|(exfalso;contradiction)|skip
  exact Yjk
variable {A:Option Addr}{cap B:Nat}{w0 w:World}{H:List HP}
theorem Ych(l:List RowM)(hlen:l.length<=1000)(hr:Rd B w0 H A (l.flatMap rowF))(hw:St B w0 H w):
 CX B w0 131 [.slice A l.length cap] w λv K=>∃A' cap',v=.slice A' l.length cap'/\K=sl 127 1 A' l.length cap' (l.flatMap rowF)::H:=by
 cases A with
 |none=>
  have hl:l=[]:=by
   cases l with
   |nil=>rfl
   |cons x l=>
    exact zc53
  subst hl
  refine Ya Tryz.func131 Tryz.ntmps131 rfl rfl hw ?_
  refine zX8 ?_
  apply Xx 127 1;exact zc64
 |some a=>
  refine Ya Tryz.func131 Tryz.ntmps131 rfl rfl hw ?_
  repeat'(first|(apply ZN;(iterate 3 exact rfl))|(apply Yw T;exact rfl;exact rfl;intro g2)|refine zga ?_|fail)
  apply YI T (f:=rowF) (l2:=l) (e:=127) (size:=1) (xs:=[]);(iterate 3 exact rfl);exact hr.cons;exact(λ_=>rfl);exact(λ_=>rfl);exact rfl;(intro _ _;exact zd);omega;intro A' cap'
  exact zc49
theorem Ycg(l:List Lk)(hlen:l.length<=1000)(hr:Rd B w0 H A (l.flatMap lkF))(hw:St B w0 H w):
 CX B w0 128 [.slice A l.length cap] w λv K=>∃A' cap',v=.slice A' l.length cap'/\K=sl 164 3 A' l.length cap' (l.flatMap lkF)::H:=by
 cases A with
 |none=>
  have hl:l=[]:=by
   cases l with
   |nil=>rfl
   |cons x l=>
    exact zc53
  subst hl
  refine Ya Tryz.func128 Tryz.ntmps128 rfl rfl hw ?_
  refine zX8 ?_
  apply Xx 164 3;exact zc64
 |some a=>
  refine Ya Tryz.func128 Tryz.ntmps128 rfl rfl hw ?_
  repeat'(first|(apply ZN;(iterate 3 exact rfl))|(apply Yw T;exact rfl;exact rfl;intro g2)|refine zga ?_|fail)
  apply YI T (f:=lkF) (l2:=l) (e:=164) (size:=3) (xs:=[]);(iterate 3 exact rfl);exact hr.cons;exact(λ_=>rfl);exact(λ_=>rfl);exact rfl;(intro _ _;exact zd);omega;intro A' cap'
  exact zc49
structure PnM where
 n:NetM
 qA:Option Addr
 qcap:Nat
 q:List RqM
 s:SchM
 cA:Option Addr
 ccap:Nat
 c:List ClM
 fA:Option Addr
 fcap:Nat
 f:List Int
def PnM.val(p:PnM):Value:=.agg #[.int .i64 p.n.nodes,.slice p.n.pA p.n.rows.length p.n.pcap,.int .i64 p.n.noise,.int .i64 p.n.thr,.slice p.n.lA p.n.links.length p.n.lcap,.slice p.n.mA p.n.margin.length p.n.mcap,.slice p.qA p.q.length p.qcap,.int .i64 p.s.len,.int .i64 p.s.off,.slice p.s.A p.s.cells.length p.s.cap,.slice p.cA p.c.length p.ccap,.slice p.fA p.f.length p.fcap]
def PnM.pln(p:PnM):Pln:=⟨p.n.net,p.q.map RqM.rq,p.s.sch,p.c.map ClM.clm,p.f⟩
structure PnM.In(B:Nat)(w0:World)(H:List HP)(p:PnM):Prop where
 n:p.n.In B w0 H
 q:QIn B w0 H p.qA p.q
 s:Rd B w0 H p.s.A (p.s.cells.flatMap celF)
 sl:p.s.cells.length<=1000000000000
 c:CIn B w0 H p.cA p.c
 f:Rd B w0 H p.fA (p.f.flatMap numF)
 fl:p.f.length<=1000000000000
variable {p:PnM}
theorem PnM.In.mono{H':List HP}(h:p.In B w0 H)(hH:∀w,St B w0 H' w->St B w0 H w):p.In B w0 H':=⟨h.n.mono hH,h.q.mono hH,h.s.mono hH,h.sl,h.c.mono hH,h.f.mono hH,h.fl⟩
theorem PnM.In.cons{X:HP}(h:p.In B w0 H):p.In B w0 (X::H):=h.mono λ_ hw=>hw.tail
def zeroPnV:Value:=.agg #[.int .i64 0,.slice none 0 0,.int .i64 0,.int .i64 0,.slice none 0 0,.slice none 0 0,.slice none 0 0,.int .i64 0,.int .i64 0,.slice none 0 0,.slice none 0 0,.slice none 0 0]
def Yav(B:Nat)(w0:World)(H:List HP)(R:Option Pln×Int)(v:Value)(K:List HP):Prop:=
 (R.1=none/\v=.tuple #[zeroPnV,.int .i64 R.2]/\K=H)\/∃(p:PnM) (X:List HP),R.1=some p.pln/\v=.tuple #[p.val,.int .i64 R.2]/\p.In B w0 [many X]/\K=many X::H
def YsA(B:Nat)(w0:World)(H:List HP)(s:SchM)(R:Option Pln×Int)(v:Value)(K:List HP):Prop:=
 (R.1=none/\v=.tuple #[zeroPnV,.int .i64 R.2]/\K=H)\/∃(p:PnM) (X:List HP),R.1=some p.pln/\v=.tuple #[p.val,.int .i64 R.2]/\(∀H',Rd B w0 H' s.A (s.cells.flatMap celF)->p.In B w0 (many X::H'))/\K=many X::H
structure RwsM where
 i:Nat
 R:List RowM
structure RqsM where
 i:Nat
 Q:List RqM
variable {i:Nat}
theorem YlM{l:List RowM}{r:RowM}{A:Option Addr}{cap:Nat}(h:l[i]? =some r):(l.set i ⟨A,cap,r.xs⟩).map (·.xs)=l.map (·.xs):=by
 apply Np
 grind
variable {α:Type}
theorem take_set{l:List α}{a:α}(h:i<l.length):(l.set i a).take (i+1)=l.take i++[a]:=by
 simp_all [List.take_add_one,List.take_set_of_le]
theorem Ycv{l m:List α}{a:α}(h:l.drop i=m.drop i):(l.set i a).drop (i+1)=m.drop (i+1):=by
 rw[List.drop_set_of_lt (by omega),<-Nu,<-Nu,h]
theorem YfQ{l m:List α}{a:α}(h:l.drop i=m.drop i)(hm:m[i]? =some a):l[i]? =some a:=by
 have e1:(l.drop i)[0]? =(m.drop i)[0]? :=by rw[h]
 grind
theorem VZ(b:BuM)(g:Nat){B:Nat}{w0:World}{H:List HP}{w:World}(ht:TabsB B w0)(hin:b.n.In B w0 H)(hq:QIn B w0 H b.qA b.q)(hrs:Rd B w0 H b.s.A (b.s.cells.flatMap celF))(hsl:b.s.cells.length<=1000000000000)(hw:St B w0 (bldA g b::H) w):
 CX B w0 47 [.pointer (some ⟨g,0,none⟩)] w (YsA B w0 H b.s (finE b.n.net (b.q.map RqM.rq) b.s.sch b.e)):=by
 refine Ya Tryz.func47 Tryz.ntmps47 rfl rfl hw ?_
 obtain⟨n,qA,qcap,q,s,cA,ccap,c,fA,fcap,f,e⟩:=b
 dsimp only at hin hq hrs hsl⊢
 have hop:∀w,St B w0 [many H] w->St B w0 H w:=λw hw=>hw.perm (.openT H)
 have hin0:=hin
 have hq0:=hq
 have hin:=hin.mono hop
 have hq:=hq.mono hop
 have hrs:=hrs.mono hop
 have p1:=λ{H':List HP}{w:World}(hin:n.In B w0 H') (hq:QIn B w0 H' qA q) (hrs:Rd B w0 H' s.A (s.cells.flatMap celF)) (hw:St B w0 H' w)=>Us n q s (cap:=qcap) ht hin hq hrs hsl hw
 have p2:=λ{H':List HP}{w:World}(hrs:Rd B w0 H' s.A (s.cells.flatMap celF)) (hw:St B w0 H' w)=>Yet s ht hrs hsl hw
 unfold OutC NetM.val SchM.val at p1
 unfold SchM.val at p2
 refine YX (bldA g ⟨n,qA,qcap,q,s,cA,ccap,c,fA,fcap,f,e⟩::[many H]) (λw hw=>hw.perm (.cons _ (.closeT H))) ?_
 dsimp only[bldA]
 unfold finE WI
 by_cases he:e=0
 rotate_left
 ·rw[To he,To he]
  refine YdS ?_<;>intros
  apply YC [0,1,2,3,4,5,6] [] [false,true,true]
  kernel_rfl
  kernel_rfl
  exact zy
  (simp only[Yd,nthO];rfl)
  exact rfl
  refine QY ?_
  apply Yn T (H2:=H);(iterate 3 exact rfl);(focus exact zc2);exact rfl;exact rfl
  ·intro w hw
   have h5:St B w0 [many H] w:=by
    revert w
    exact zc0
   exact hop w h5
  exact zc68
 subst he
 rw[Tf (show¬(0:Int)≠0 fromλe=>e rfl)]
 obtain⟨⟨RC,ri,re⟩,hR⟩:∃R,YD n.net (q.map RqM.rq) s.sch=R:=⟨_,rfl⟩
 obtain⟨⟨RF,fe⟩,hRF⟩:∃R,Y9 s.sch=R:=⟨_,rfl⟩
 rw[hR]at p1⊢
 rw[hRF]at p2⊢
 dsimp only at p1 p2⊢
 have p3:=λ(b:BuM) (e:Int) {H':List HP}{w:World}(hw:St B w0 (bldA g b::H') w)=>YaH b g e hw
 unfold BuM.fail at p3
 refine YdS ?_<;>intros
 rename_i g2 _
 apply V5 [0,1,2,3,4,5,6,7,8,9,10,11,12,13,14,15,16,17,19,20,18,21,22,23] [0,19,20,24,25] [24,25] [true,true,true]
 kernel_rfl
 kernel_rfl
 exact zy
 (simp only[Yd,nthO];rfl)
 (simp only[Yd,nthO];rfl)
 refine Z0 ?_
 apply Yg _ en90
 exact za
 exact rfl
 exactλ_ hw=>(p1 (hin.mono zc0) (hq.mono zc0) (hrs.mono zc0) (hw))
 rintro _ _ ⟨A2,c2,C,rfl,hC,hCl,rfl⟩
 refine QY ?_
 apply XK [bldA g ⟨n,qA,qcap,q,s,A2,c2,C,fA,fcap,f,0⟩] _ en45
 exact za
 try exact zl
 exact zp
 exact rfl
 exactλ_ hw=>(p3 ⟨n,qA,qcap,q,s,A2,c2,C,fA,fcap,f,0⟩ re hw)
 rintro _ _ ⟨rfl,rfl⟩
 rw[show YaI (BuM.e ⟨n,qA,qcap,q,s,A2,c2,C,fA,fcap,f,0⟩) re=re from To rfl]
 dsimp only[bldA]
 refine Z0 ?_
 apply Yg _ en92
 exact za
 exact rfl
 exactλ_ hw=>(p2 (hrs.mono zc0) (hw))
 rintro _ _ ⟨A3,rfl,rfl⟩
 refine Z0 ?_
 apply XK [bldA g ⟨n,qA,qcap,q,s,A2,c2,C,A3,RF.length,RF,re⟩] _ en45
 exact za
 try exact zl
 exact zp
 exact rfl
 exactλ_ hw=>(p3 ⟨n,qA,qcap,q,s,A2,c2,C,A3,RF.length,RF,re⟩ fe hw)
 rintro _ _ ⟨rfl,rfl⟩
 obtain⟨fin,hfin⟩:∃fin,YaI re fe=fin:=⟨_,rfl⟩
 dsimp only[bldA]
 rw[hfin]
 by_cases hE:fin=0
 rotate_left
 ·rw[To hE]
  refine zX71 ?_<;>intros
  apply YC [0,1,2,3,4,5,6] [] [true]
  kernel_rfl
  kernel_rfl
  exact zy
  (simp only[Yd,nthO];rfl)
  exact rfl
  refine QY ?_
  apply Yn T (H2:=H);(iterate 3 exact rfl);(focus exact zc2);exact rfl;exact rfl
  ·intro w hw
   have h5:St B w0 [many H] w:=by
    revert w
    exact zc0
   exact hop w h5
  exact zc68
 subst hE
 rw[Tf (show¬(0:Int)≠0 fromλe=>e rfl)]
 have hre:re=0/\fe=0:=by
  unfold YaI at hfin
  split at hfin
  ·exact⟨by assumption,hfin⟩
  ·exact absurd hfin (by assumption)
 obtain⟨rfl,rfl⟩:=hre
 have hce:(YD n.net (q.map RqM.rq) s.sch).2.2=0:=by rw[hR]
 have hrq:(rqsE n.net (q.map RqM.rq)).2=0:=TQ.1 λh1=>by
  unfold YD at hce;rw[To h1]at hce;exact h1 hce
 obtain⟨hck,-,hrt⟩:=V4 hrq
 have hql:q.length<=16:=(YvD hrq).1
 have hok:=YP hck
 have hrowl:n.rows.length<=32:=by
  have h1:=hok.p0;have h2:=hok.n1
  have h3:n.net.power.length=n.rows.length:=by simp[NetM.net]
  omega
 have hrow1:∀r∈n.rows,r.xs.length<=32:=λr hr=>by
  have h1:=hok.p1 r.xs (by show r.xs∈n.rows.map (·.xs);exact TG.2 ⟨r,hr,rfl⟩)
  have h2:=hok.n1
  omega
 have hlk:n.links.length<=128:=hok.k0
 have hmg:n.margin.length<=128:=by
  have h1:n.margin.length=n.links.length:=hok.k1
  omega
 have hqx:∀x∈q,x.rows.length<=2/\∀r∈x.rows,r.xs.length<=9:=λx hx=>by
  have h1:=hrt x.rq (TG.2 ⟨x,hx,rfl⟩)
  refine⟨?_,λr hr=>?_⟩
  ·have h2:=YbJ h1
   have h4:x.rq.2.length=x.rows.length:=Tu _
   omega
  ·exact(JC (U9 h1 r.xs (TG.2 ⟨r,hr,rfl⟩))).2.1.2
 have hCn:C.length<=1000000000000:=by
  have h1:=TA List.length hC
  have h2:=TA (λz=>z.1.length) hR
  dsimp only at h1 h2
  rw[YbA hce]at h2
  simp only[Tu]at h1 h2
  omega
 have hFn:RF.length<=1000000000000:=by
  have h2:=TA (λz=>z.1.length) hRF
  dsimp only at h2
  unfold Y9 at h2
  split at h2
  ·exact YqY
  ·unfold XT at h2
   rw[Zd,TR]at h2
   have h3:=(We.1 (Z5.1 (ZD.1 hce).1)).frm.sized
   exact YuX
 refine zX71 ?_<;>intros
 clear p1 p2 p3
 have hinM:∀{H':List HP},many H∈H'->n.In B w0 H':=λhm=>hin0.mono λw hw=>hw.inM hm
 have hqM:∀{H':List HP},many H∈H'->QIn B w0 H' qA q:=λhm=>hq0.mono λw hw=>hw.inM hm
 apply V5 [1,0,2,3,4,5,6,7,9,10,11,12,13,14,8,15,16,17,18,19] [1,20,21,22,23,24,25] [20,21,22,23,24,25] [true,true,true,true,true,true]
 kernel_rfl
 kernel_rfl
 exact zy
 (simp only[Yd,nthO];rfl)
 (simp only[Yd,nthO];rfl)
 refine Z0 ?_
 apply Yg _ Ywf
 exact za
 exact rfl
 exactλ_ hw=>(Ycg n.links (by omega) (hinM (by(focus exact zc2))).lk (hw))
 rintro _ _ ⟨lA,lcap,rfl,rfl⟩
 refine QY ?_
 apply Yg _ YsI
 exact za
 exact rfl
 exactλ_ hw=>(Wi n.margin (by omega) (hinM (by(focus exact zc2))).mg (hw))
 rintro _ _ ⟨mA,mcap,rfl,rfl⟩
 refine QY ?_
 apply Yg _ Ywg
 exact za
 exact rfl
 exactλ_ hw=>(Ybk n.rows (by omega) (hinM (by(focus exact zc2))).pw (hw))
 rintro _ _ ⟨pA,pcap,rfl,rfl⟩
 refine Z0 ?_
 refine Ye (λz:RwsM=>[(112,.int .i64 (z.i:Nat)),(111,.int .i64 n.rows.length),(110,.slice pA n.rows.length pcap),(0,.pointer (some ⟨g,0,none⟩)),(2,.pointer (some ⟨g2,0,none⟩)),(3,.int .i64 0)])
  (λz=>sl 24 1 pA n.rows.length pcap (z.R.flatMap rowF)::many ((z.R.take z.i).map rowQ)::blk g (.cells #[.int .i64 n.nodes,.slice pA n.rows.length pcap,.int .i64 n.noise,.int .i64 n.thr,.slice lA n.links.length lcap,.slice mA n.margin.length mcap,.slice qA q.length qcap,.int .i64 s.len,.int .i64 s.off,.slice s.A s.cells.length s.cap,.slice A2 C.length c2,.slice A3 RF.length RF.length,.int .i64 0] 80 (0,0))::sl 164 3 lA n.links.length lcap (n.links.flatMap lkF)::ints mA mcap n.margin::blk g2 (.cells zeroPnV.cells 38 (0,0))::nrs A3 RF.length RF::clsP A2 c2 C::many (C.map clQ)::[many H])
  (λz=>z.i<=n.rows.length/\z.R.length=n.rows.length/\z.R.map (·.xs)=n.rows.map (·.xs)/\z.R.drop z.i=n.rows.drop z.i) (λz=>n.rows.length-z.i) ⟨0,n.rows⟩ ⟨Td _,rfl,rfl,rfl⟩ ?_ ?_ ?_
 ·exact zc1
 ·intro w hw
  have h5:St B w0 (sl 24 1 pA n.rows.length pcap (n.rows.flatMap rowF)::blk g (.cells #[.int .i64 n.nodes,.slice pA n.rows.length pcap,.int .i64 n.noise,.int .i64 n.thr,.slice lA n.links.length lcap,.slice mA n.margin.length mcap,.slice qA q.length qcap,.int .i64 s.len,.int .i64 s.off,.slice s.A s.cells.length s.cap,.slice A2 C.length c2,.slice A3 RF.length RF.length,.int .i64 0] 80 (0,0))::sl 164 3 lA n.links.length lcap (n.links.flatMap lkF)::ints mA mcap n.margin::blk g2 (.cells zeroPnV.cells 38 (0,0))::nrs A3 RF.length RF::clsP A2 c2 C::many (C.map clQ)::[many H]) w:=by
   dsimp only[zeroPnV]
   revert w
   exact zc0
  exact YqT
 rintro⟨i,R⟩ ⟨hi,hRl,hRm,hRd⟩ K hK
 dsimp only at hi hRl hRm hRd⊢
 by_cases hlt:i<n.rows.length
 ·obtain⟨r,hr⟩:∃r,n.rows[i]? =some r:=⟨_,Ta hlt⟩
  have hrm:=Tc hr
  have hRi:=YfQ hRd hr
  have hr32:=hrow1 r hrm
  refine zX71 ?_<;>intros
  apply YC [0,1,2,3,4,5,6,7,8,9] [10] [true,true,true]
  kernel_rfl
  kernel_rfl
  exact zy
  (simp only[Yd,nthO];rfl)
  (simp only[Yd,nthO];rfl)
  refine Z0 ?_
  apply Yg _ YsI
  exact za
  exact rfl
  exactλ_ hw=>(Wi r.xs (by omega) ((hinM (by(focus exact zc2))).rw_ r hrm) (hw))
  rintro _ _ ⟨A',cap',rfl,rfl⟩
  repeat'(first|refine Yi T ?_|(apply XH T (f:=rowF) (l:=R) (i:=i) (a:=⟨A',cap',r.xs⟩) (e:=24) (k:=n.rows.length) (cap:=pcap);(iterate 3 exact rfl);exact zd;exact rfl;exact(λ_=>rfl);exact rfl;omega)|(apply Yh;try exact zl)|refine zgd ?_|fail)
  apply hK ⟨i+1,R.set i ⟨A',cap',r.xs⟩⟩
  ·exact⟨by exact Ybf,by show(R.set i _).length=_;rw[T8,hRl],by show(R.set i _).map _=_;rw[YlM hRi,hRm],Ycv hRd⟩
  ·exact zc73
  ·exact zc1
  ·intro w hw
   dsimp only
   rw[take_set (by omega)]
   have h5:St B w0 (ints A' cap' r.xs::many ((R.take i).map rowQ)::sl 24 1 pA n.rows.length pcap ((R.set i ⟨A',cap',r.xs⟩).flatMap rowF)::blk g (.cells #[.int .i64 n.nodes,.slice pA n.rows.length pcap,.int .i64 n.noise,.int .i64 n.thr,.slice lA n.links.length lcap,.slice mA n.margin.length mcap,.slice qA q.length qcap,.int .i64 s.len,.int .i64 s.off,.slice s.A s.cells.length s.cap,.slice A2 C.length c2,.slice A3 RF.length RF.length,.int .i64 0] 80 (0,0))::sl 164 3 lA n.links.length lcap (n.links.flatMap lkF)::ints mA mcap n.margin::blk g2 (.cells zeroPnV.cells 38 (0,0))::nrs A3 RF.length RF::clsP A2 c2 C::many (C.map clQ)::[many H]) w:=by
    revert w
    exact zc0
   exact(h5.perm (Vj rowQ (R.take i) ⟨A',cap',r.xs⟩ _)).perm (.swap _ _ _)
 obtain rfl:i=n.rows.length:=by omega
 rw[<-hRl,TC,hRl]
 clear hK hRd hlt hi
 refine zX71 ?_<;>intros
 apply Yg _ en69
 exact za
 exact rfl
 exactλ_ hw=>(VG q (by omega) (hqM (by(focus exact zc2))).rd (hw))
 rintro _ _ ⟨q1A,q1c,rfl,rfl⟩
 refine Z0 ?_
 refine Ye (λz:RqsM=>[(144,.int .i64 (z.i:Nat)),(143,.int .i64 q.length),(142,.slice q1A q.length q1c),(0,.pointer (some ⟨g,0,none⟩)),(2,.pointer (some ⟨g2,0,none⟩)),(3,.int .i64 0)])
  (λz=>sl 93 7 q1A q.length q1c (z.Q.flatMap rqF)::many ((z.Q.take z.i).map rqQ)::blk g (.cells #[.int .i64 n.nodes,.slice pA n.rows.length pcap,.int .i64 n.noise,.int .i64 n.thr,.slice lA n.links.length lcap,.slice mA n.margin.length mcap,.slice q1A q.length q1c,.int .i64 s.len,.int .i64 s.off,.slice s.A s.cells.length s.cap,.slice A2 C.length c2,.slice A3 RF.length RF.length,.int .i64 0] 80 (0,0))::sl 24 1 pA n.rows.length pcap (R.flatMap rowF)::many (R.map rowQ)::sl 164 3 lA n.links.length lcap (n.links.flatMap lkF)::ints mA mcap n.margin::blk g2 (.cells zeroPnV.cells 38 (0,0))::nrs A3 RF.length RF::clsP A2 c2 C::many (C.map clQ)::[many H])
  (λz=>z.i<=q.length/\z.Q.length=q.length/\z.Q.map RqM.rq=q.map RqM.rq/\z.Q.drop z.i=q.drop z.i/\∀x∈z.Q.take z.i,x.lens) (λz=>q.length-z.i) ⟨0,q⟩ ⟨Td _,rfl,rfl,rfl,(λx hx=>by cases hx)⟩ ?_ ?_ ?_
 ·exact zc1
 ·intro w hw
  have h5:St B w0 (sl 93 7 q1A q.length q1c (q.flatMap rqF)::blk g (.cells #[.int .i64 n.nodes,.slice pA n.rows.length pcap,.int .i64 n.noise,.int .i64 n.thr,.slice lA n.links.length lcap,.slice mA n.margin.length mcap,.slice q1A q.length q1c,.int .i64 s.len,.int .i64 s.off,.slice s.A s.cells.length s.cap,.slice A2 C.length c2,.slice A3 RF.length RF.length,.int .i64 0] 80 (0,0))::sl 24 1 pA n.rows.length pcap (R.flatMap rowF)::many (R.map rowQ)::sl 164 3 lA n.links.length lcap (n.links.flatMap lkF)::ints mA mcap n.margin::blk g2 (.cells zeroPnV.cells 38 (0,0))::nrs A3 RF.length RF::clsP A2 c2 C::many (C.map clQ)::[many H]) w:=by
   unfold rqs at hw
   revert w
   exact zc0
  exact YqT
 rintro⟨i,Q⟩ ⟨hi,hQl,hQm,hQd,hQs⟩ K hK
 dsimp only at hi hQl hQm hQd hQs⊢
 by_cases hlt:i<q.length
 ·obtain⟨x,hx⟩:∃x,q[i]? =some x:=⟨_,Ta hlt⟩
  have hxm:=Tc hx
  have hQi:=YfQ hQd hx
  obtain⟨hx2,hx9⟩:=hqx x hxm
  refine YdS ?_<;>intros
  rename_i g8
  apply Yg _ Ywh
  exact za
  exact rfl
  exactλ_ hw=>(Ych x.rows (by omega) ((hqM (by(focus exact zc2))).x x hxm).rt (hw))
  rintro _ _ ⟨bA,bc,rfl,rfl⟩
  refine Z0 ?_
  refine Ye (λz:RwsM=>[(156,.int .i64 (z.i:Nat)),(155,.int .i64 x.rows.length),(154,.slice bA x.rows.length bc),(7,.int .i64 (i:Nat)),(8,.pointer (some ⟨g8,0,none⟩)),(144,.int .i64 (i:Nat)),(143,.int .i64 q.length),(142,.slice q1A q.length q1c),(0,.pointer (some ⟨g,0,none⟩)),(2,.pointer (some ⟨g2,0,none⟩)),(3,.int .i64 0)])
   (λz=>sl 127 1 bA x.rows.length bc (z.R.flatMap rowF)::many ((z.R.take z.i).map rowQ)::blk g8 (.cells #[.int .i64 x.f.1,.int .i64 x.f.2.1,.int .i64 x.f.2.2.1,.int .i64 x.f.2.2.2.1,.int .i64 x.f.2.2.2.2.1,.int .i64 x.f.2.2.2.2.2,.slice bA x.rows.length bc] 93 (0,0))::sl 93 7 q1A q.length q1c (Q.flatMap rqF)::many ((Q.take i).map rqQ)::blk g (.cells #[.int .i64 n.nodes,.slice pA n.rows.length pcap,.int .i64 n.noise,.int .i64 n.thr,.slice lA n.links.length lcap,.slice mA n.margin.length mcap,.slice q1A q.length q1c,.int .i64 s.len,.int .i64 s.off,.slice s.A s.cells.length s.cap,.slice A2 C.length c2,.slice A3 RF.length RF.length,.int .i64 0] 80 (0,0))::sl 24 1 pA n.rows.length pcap (R.flatMap rowF)::many (R.map rowQ)::sl 164 3 lA n.links.length lcap (n.links.flatMap lkF)::ints mA mcap n.margin::blk g2 (.cells zeroPnV.cells 38 (0,0))::nrs A3 RF.length RF::clsP A2 c2 C::many (C.map clQ)::[many H])
   (λz=>z.i<=x.rows.length/\z.R.length=x.rows.length/\z.R.map (·.xs)=x.rows.map (·.xs)/\z.R.drop z.i=x.rows.drop z.i/\∀r∈z.R.take z.i,r.xs.length<=1000/\r.xs.length<=r.cap) (λz=>x.rows.length-z.i) ⟨0,x.rows⟩ ⟨Td _,rfl,rfl,rfl,(λx hx=>by cases hx)⟩ ?_ ?_ ?_
  ·exact zc1
  ·intro w hw
   have h5:St B w0 (sl 127 1 bA x.rows.length bc (x.rows.flatMap rowF)::blk g8 (.cells #[.int .i64 x.f.1,.int .i64 x.f.2.1,.int .i64 x.f.2.2.1,.int .i64 x.f.2.2.2.1,.int .i64 x.f.2.2.2.2.1,.int .i64 x.f.2.2.2.2.2,.slice bA x.rows.length bc] 93 (0,0))::sl 93 7 q1A q.length q1c (Q.flatMap rqF)::many ((Q.take i).map rqQ)::blk g (.cells #[.int .i64 n.nodes,.slice pA n.rows.length pcap,.int .i64 n.noise,.int .i64 n.thr,.slice lA n.links.length lcap,.slice mA n.margin.length mcap,.slice q1A q.length q1c,.int .i64 s.len,.int .i64 s.off,.slice s.A s.cells.length s.cap,.slice A2 C.length c2,.slice A3 RF.length RF.length,.int .i64 0] 80 (0,0))::sl 24 1 pA n.rows.length pcap (R.flatMap rowF)::many (R.map rowQ)::sl 164 3 lA n.links.length lcap (n.links.flatMap lkF)::ints mA mcap n.margin::blk g2 (.cells zeroPnV.cells 38 (0,0))::nrs A3 RF.length RF::clsP A2 c2 C::many (C.map clQ)::[many H]) w:=by
    revert w
    exact zc0
   exact YqT
  rintro⟨k,S⟩ ⟨hk,hSl,hSm,hSd,hSs⟩ K2 hK2
  dsimp only at hk hSl hSm hSd hSs⊢
  by_cases hlk2:k<x.rows.length
  ·obtain⟨r,hr⟩:∃r,x.rows[k]? =some r:=⟨_,Ta hlk2⟩
   have hrm:=Tc hr
   have hRi:=YfQ hSd hr
   have hr9:=hx9 r hrm
   clear hK hQi
   refine zX71 ?_<;>intros
   apply YC [0,1,2,3,4,5] [6] [true,true,true]
   kernel_rfl
   kernel_rfl
   exact zy
   (simp only[Yd,nthO];rfl)
   (simp only[Yd,nthO];rfl)
   refine Z0 ?_
   apply Yg _ YsJ
   exact za
   exact rfl
   exactλ_ hw=>(Wj r.xs (by omega) (((hqM (by(focus exact zc2))).x x hxm).rw_ r hrm) (hw))
   rintro _ _ ⟨A',cap',rfl,rfl⟩
   apply Ybq (e:=3) (size:=1) (k:=r.xs.length) (cap:=cap') (A:=A') (xs:=r.xs.flatMap numF) (by(focus exact zc2))
   intro hcap
   repeat'(first|refine Yi T ?_|(apply XH T (f:=rowF) (l:=S) (i:=k) (a:=⟨A',cap',r.xs⟩) (e:=127) (k:=x.rows.length) (cap:=bc);(iterate 3 exact rfl);exact zd;exact rfl;exact(λ_=>rfl);exact rfl;omega)|(apply Yh;try exact zl)|refine zgd ?_|fail)
   apply hK2 ⟨k+1,S.set k ⟨A',cap',r.xs⟩⟩
   ·refine⟨by show k+1<=_;omega,by show(S.set k _).length=_;rw[T8,hSl],by show(S.set k _).map _=_;rw[YlM hRi,hSm],Ycv hSd,λy hy=>?_⟩
    dsimp only at hy
    rw[take_set (by omega)]at hy
    rcases T9.1 hy with hy|hy
    ·exact hSs y hy
    ·rw[Ry.1 hy]
     exact⟨by show r.xs.length<=_;omega,hcap⟩
   ·exact zc73
   ·exact zc1
   ·intro w hw
    dsimp only
    rw[take_set (by omega)]
    have h5:St B w0 (ints A' cap' r.xs::many ((S.take k).map rowQ)::sl 127 1 bA x.rows.length bc ((S.set k ⟨A',cap',r.xs⟩).flatMap rowF)::blk g8 (.cells #[.int .i64 x.f.1,.int .i64 x.f.2.1,.int .i64 x.f.2.2.1,.int .i64 x.f.2.2.2.1,.int .i64 x.f.2.2.2.2.1,.int .i64 x.f.2.2.2.2.2,.slice bA x.rows.length bc] 93 (0,0))::sl 93 7 q1A q.length q1c (Q.flatMap rqF)::many ((Q.take i).map rqQ)::blk g (.cells #[.int .i64 n.nodes,.slice pA n.rows.length pcap,.int .i64 n.noise,.int .i64 n.thr,.slice lA n.links.length lcap,.slice mA n.margin.length mcap,.slice q1A q.length q1c,.int .i64 s.len,.int .i64 s.off,.slice s.A s.cells.length s.cap,.slice A2 C.length c2,.slice A3 RF.length RF.length,.int .i64 0] 80 (0,0))::sl 24 1 pA n.rows.length pcap (R.flatMap rowF)::many (R.map rowQ)::sl 164 3 lA n.links.length lcap (n.links.flatMap lkF)::ints mA mcap n.margin::blk g2 (.cells zeroPnV.cells 38 (0,0))::nrs A3 RF.length RF::clsP A2 c2 C::many (C.map clQ)::[many H]) w:=by
     revert w
     exact zc0
    exact(h5.perm (Vj rowQ (S.take k) ⟨A',cap',r.xs⟩ _)).perm (.swap _ _ _)
  obtain rfl:k=x.rows.length:=by omega
  have hSt:S.take x.rows.length=S:=by rw[<-hSl,TC]
  rw[hSt]at hSs⊢
  clear hK2 hSd hlk2 hk
  have hrqv:rqF ⟨x.f,bA,bc,S⟩=[.int .i64 x.f.1,.int .i64 x.f.2.1,.int .i64 x.f.2.2.1,.int .i64 x.f.2.2.2.1,.int .i64 x.f.2.2.2.2.1,.int .i64 x.f.2.2.2.2.2,.slice bA x.rows.length bc]:=by
   unfold rqF;rw[hSl]
  refine QX ?_<;>intros
  apply YC [0,1,2,3,4,5,6,7] [8] [true,true,true,true,true,true]
  kernel_rfl
  kernel_rfl
  exact zy
  (simp only[Yd,nthO];rfl)
  (simp only[Yd,nthO];rfl)
  repeat'(first|refine Yi T ?_|(apply JL T (f:=rqF) (l:=Q) (i:=i) (a:=⟨x.f,bA,bc,S⟩);exact rfl;exact rfl;exact hrqv;exact zd;exactλ_=>rfl;(iterate 3 exact rfl);omega)|refine zgd ?_|fail)
  apply hK ⟨i+1,Q.set i ⟨x.f,bA,bc,S⟩⟩
  ·refine⟨by exact Ybf,by show(Q.set i _).length=_;rw[T8,hQl],?_,Ycv hQd,λy hy=>?_⟩
   ·show(Q.set i _).map RqM.rq=_
    rw[<-hQm]
    apply Np
    intro j
    rw[TU,TU]
    by_cases hj:i=j
    ·subst hj
     rw[Nc (by omega),hQi]
     show some (RqM.rq ⟨x.f,bA,bc,S⟩)=some x.rq
     unfold RqM.rq
     dsimp only
     rw[hSm]
    ·rw[List.getElem?_set_ne hj]
   ·dsimp only at hy
    rw[take_set (by omega)]at hy
    rcases T9.1 hy with hy|hy
    ·exact hQs y hy
    ·rw[Ry.1 hy]
     exact⟨by show S.length<=_;omega,hSs⟩
  ·exact zc73
  ·exact zc1
  ·intro w hw
   dsimp only
   rw[take_set (by omega)]
   have h5:St B w0 (sl 127 1 bA x.rows.length bc (S.flatMap rowF)::many (S.map rowQ)::many ((Q.take i).map rqQ)::sl 93 7 q1A q.length q1c ((Q.set i ⟨x.f,bA,bc,S⟩).flatMap rqF)::blk g (.cells #[.int .i64 n.nodes,.slice pA n.rows.length pcap,.int .i64 n.noise,.int .i64 n.thr,.slice lA n.links.length lcap,.slice mA n.margin.length mcap,.slice q1A q.length q1c,.int .i64 s.len,.int .i64 s.off,.slice s.A s.cells.length s.cap,.slice A2 C.length c2,.slice A3 RF.length RF.length,.int .i64 0] 80 (0,0))::sl 24 1 pA n.rows.length pcap (R.flatMap rowF)::many (R.map rowQ)::sl 164 3 lA n.links.length lcap (n.links.flatMap lkF)::ints mA mcap n.margin::blk g2 (.cells zeroPnV.cells 38 (0,0))::nrs A3 RF.length RF::clsP A2 c2 C::many (C.map clQ)::[many H]) w:=by
    revert w
    exact zc0
   rw[<-hSl]at h5
   have h6:=h5.perm (.close [_,_] _)
   exact(h6.perm (Yc9 (Q.take i) ⟨x.f,bA,bc,S⟩ _)).perm (.swap _ _ _)
 obtain rfl:i=q.length:=by omega
 have hQt:Q.take q.length=Q:=by rw[<-hQl,TC]
 rw[hQt]at hQs⊢
 clear hK hQd hlt hi
 refine zX71 ?_<;>intros
 apply Yn T (H2:=many [sl 93 7 q1A Q.length q1c (Q.flatMap rqF),many (Q.map rqQ),sl 24 1 pA R.length pcap (R.flatMap rowF),many (R.map rowQ),sl 164 3 lA n.links.length lcap (n.links.flatMap lkF),ints mA mcap n.margin,nrs A3 RF.length RF,clsP A2 c2 C,many (C.map clQ)]::H);(iterate 3 exact rfl);(focus exact zc2);exact rfl;exact rfl
 ·intro w hw
  have h5:St B w0 (sl 93 7 q1A q.length q1c (Q.flatMap rqF)::many (Q.map rqQ)::sl 24 1 pA n.rows.length pcap (R.flatMap rowF)::many (R.map rowQ)::sl 164 3 lA n.links.length lcap (n.links.flatMap lkF)::ints mA mcap n.margin::nrs A3 RF.length RF::clsP A2 c2 C::many (C.map clQ)::[many H]) w:=by
   revert w
   exact zc0
  rw[<-hQl,<-hRl]at h5
  exact(h5.perm (.close [_,_,_,_,_,_,_,_,_] _)).perm (.cons _ (.openT H))
 have hC:C.map ClM.clm=RC:=hC
 refine .inr ⟨⟨⟨n.nodes,pA,pcap,R,n.noise,n.thr,lA,lcap,n.links,mA,mcap,n.margin⟩,q1A,q1c,Q,s,A2,c2,C,A3,RF.length,RF⟩,_,?_,?_,λH' hrs'=>?_,rfl⟩
 ·show some (Pln.mk n.net (q.map RqM.rq) s.sch RC RF)=some (Pln.mk ⟨n.nodes,R.map (·.xs),n.noise,n.thr,n.links,n.margin⟩ (Q.map RqM.rq) s.sch (C.map ClM.clm) RF)
  rw[hRm,hQm,hC];rfl
 ·unfold PnM.val
  dsimp only
  rw[hRl,hQl]
 ·have hb:∀{L:List HP}(w:World),St B w0 (many L::H') w->St B w0 L w:=λw hw=>hw.inM (.head _)
  refine⟨⟨Rd.mono (.sl (.tail _ (.tail _ (.head _)))) hb,λr hr=>Rd.mono (Rd.many (L:=R.map rowQ) (.tail _ (.tail _ (.tail _ (.head _)))) (RD hr)) hb,Rd.mono (.sl (.tail _ (.tail _ (.tail _ (.tail _ (.head _)))))) hb,Rd.mono (.sl (.tail _ (.tail _ (.tail _ (.tail _ (.tail _ (.head _))))))) hb,by show R.length<=_;omega,λr hr=>?_,by show n.links.length<=_;omega,by show n.margin.length<=_;omega⟩,
   ⟨Rd.mono (.sl (.head _)) hb,λx hx=>RqM.In.mono (YlG (q:=Q) (.tail _ (.head _)) hx (hQs x hx)) hb,by show Q.length<=_;omega⟩,hrs'.cons,hsl,
   ⟨Rd.mono (.sl (.tail _ (.tail _ (.tail _ (.tail _ (.tail _ (.tail _ (.tail _ (.head _))))))))) hb,λx hx=>ClM.In.mono (Ydi (C:=C) (.tail _ (.tail _ (.tail _ (.tail _ (.tail _ (.tail _ (.tail _ (.tail _ (.head _))))))))) hx (hCl x hx)) hb,hCn⟩,
   Rd.mono (.sl (.tail _ (.tail _ (.tail _ (.tail _ (.tail _ (.tail _ (.head _)))))))) hb,hFn⟩
  have h1:r.xs∈n.rows.map (·.xs):=by rw[<-hRm];exact TG.2 ⟨r,hr,rfl⟩
  obtain⟨r2,h2,h3⟩:=TG.1 h1
  have h4:=hrow1 r2 h2
  have h3:r2.xs=r.xs:=h3
  rw[h3]at h4
  omega
structure PlnOk(p:Pln):Prop where
 cert:(YD p.n p.q p.s).2.2=0
 c:p.c=(YD p.n p.q p.s).1
 free:(Y9 p.s).2=0
 f:p.f=(Y9 p.s).1
theorem PlnOk.chk{p:Pln}(h:PlnOk p):chkP p=0:=by
 have hrq:(rqsE p.n p.q).2=0:=TQ.1 λh1=>by
  have:=h.cert
  simp_all [YD]
 unfold chkP
 rw[Tf (λe=>e (V4 hrq).1),Tf (by rw[h.cert];omega),Tf (λe=>e h.cert),Tf,Tf]
 ·rintro(h1|h1)
  ·exact h1 h.free
  ·exact h1 h.f.symm
 ·rw[h.c,Yhk h.cert];omega
def Made(n:Net)(l:List Flw)(len off:Int)(R:Option Pln×Int):Prop:=(R.2≠0/\R.1=none)\/∃p,R=(some p,0)/\PlnOk p/\p.n=n/\YG p.q=l/\p.s.len=len/\p.s.off=off
theorem Yfl{n:Net}{f:Flw}(h:(J6 n f).2=0):(J6 n f).1.1=f:=by
 unfold J6 at h⊢
 grind
theorem Yp4{n:Net}{f:Flw}(h:(reqE n f).2=0):(reqE n f).1.1=f:=by
 grind [reqE,Yfl]
variable {l:List Flw}
theorem Um{nodes:Int}:(Yt nodes l).2=0↔(2<=nodes/\nodes<=32)/\l.length<=16/\(∀f∈l,Xl nodes f=0)/\l.Pairwise λa b=>a.1<b.1:=by
 constructor
 ·intro h
  refine⟨?_,?_,λf hf=>Ul h hf,?_⟩
  ·grind [Yt]
  ·grind [Yt]
  ·rw[TT]
   intro i j hi hj hij
   have:=Yaf h hij hj
   grind [Y4]
 ·rintro⟨h1,h2,h3,h4⟩
  unfold Yt
  rw[Tf (by omega),Tf (by omega)]
  refine YF.2 λk _ hk=>?_
  rw[Rl]at hk
  rw[TT]at h4
  have hat:∀{i:Nat}(hi:i<l.length),Y4 l i=l[i]:=by grind [Y4]
  unfold YV
  grind
theorem Ym1{nodes:Int}{m:List Flw}(h:(Yt nodes l).2=0)(hs:m.Sublist l):(Yt nodes m).2=0:=by
 obtain⟨h1,h2,h3,h4⟩:=Um.1 h
 exact Um.2 ⟨h1,TX hs.length_le h2,λf hf=>h3 f (hs.subset hf),h4.sublist hs⟩
variable {p:Pln}
theorem Yce(h:chkP p=0):PlnOk p:=by
 unfold chkP at h
 split at h
 ·cases h
 split at h
 ·cases h
 split at h
 ·cases h
 split at h
 ·cases h
 split at h
 ·cases h
 rename_i h3 h4 h5
 have h3:=TQ.1 h3
 have h4:=TQ.1 h4
 refine⟨h3,?_,TQ.1 λe=>h5 (.inl e),(TQ.1 λe=>h5 (.inr e)).symm⟩
 unfold chkE at h4
 rw[Tf (λe=>e h3)]at h4
 by_cases hl:p.c.length=(YD p.n p.q p.s).1.length
 rotate_left
 ·simp_all
 rw[Tf (λe=>e hl)]at h4
 refine List.ext_getElem hl λi h6 h7=>?_
 have:=YF.1 h4 i (Td _) (by omega)
 by_cases e:Ow p.c i=Ow (YD p.n p.q p.s).1 i
 all_goals simp_all [Ow]
variable {n:Net}{q:List Rqs}{s:Sch}
theorem Oa(h:(YD n q s).2.2=0):Xh s=true:=Xm.2 (We.1 (Z5.1 (ZD.1 h).1)).frm
theorem Ypg(h:(YD n q s).2.2=0):finE n q s 0=(some ⟨n,q,s,(YD n q s).1,(Y9 s).1⟩,0)/\PlnOk ⟨n,q,s,(YD n q s).1,(Y9 s).1⟩:=by
 have hf:(Y9 s).2=0:=by unfold Y9;rw[Oa h,Tf (by decide)]
 refine⟨?_,⟨h,rfl,hf,rfl⟩⟩
 simp_all [finE,WI,YaI]
theorem Ykc(h:(YD n q s).2.2=0):(Yt n.nodes (YG q)).2=0:=(J1 (Z5.1 (ZD.1 h).1).whole).2.1
theorem Ypq{α:Type}{p:α->Bool}:∀{l:List α}{k:Int}{i:Nat}{a:α},l[i]? =some a->p a=true->(∀j b,j<i->l[j]? =some b->p b=false)->Yp p l k=k+i
 |[],_,_,_,h,_,_=>by simp at h
 |b::l,k,0,a,h,hp,_=>by
  simp_all [Yp]
 |b::l,k,i+1,a,h,hp,hn=>by
  have hb:=hn 0 b (by omega) (by simp)
  rw[Yp,Tf (by simp_all),Ypq (i:=i) (a:=a) (by simp_all) hp λj c hj hc=>hn (j+1) c (by omega) (by simp_all)]
  omega
theorem Yfs(h:chkP p=0)(id:Int):((∀x∈p.q,x.1.1≠id)/\wdrP p id=(none,7))\/
 ∃(i:Nat) (x:Rqs) (q:Pln),p.q[i]? =some x/\x.1.1=id/\wdrP p id=(some q,0)/\PlnOk q/\q=⟨p.n,delQ p.q i,ZY p.s id,(YD p.n (delQ p.q i) (ZY p.s id)).1,(Y9 (ZY p.s id)).1⟩/\idQ p.q id=i:=by
 have hok:=Yce h
 unfold wdrP
 rw[Tf (λe=>e h)]
 by_cases hany:p.q.any (λx=>decide (x.1.1=id))=true
 ·right
  obtain⟨x,hx,he⟩:=TM.1 hany
  have he:=TI he
  obtain⟨i,hi⟩:=TL.1 hx
  have hil:=(Tj.1 hi).1
  have hpw:=(Um.1 (Ykc hok.cert)).2.2.2
  unfold YG at hpw
  rw[Nq,TT]at hpw
  have hne:∀(j:Nat) (y:Rqs),p.q[j]? =some y->j≠i->y.1.1≠id:=by grind
  have hid:idQ p.q id=i:=by
   unfold idQ
   rw[Ypq hi (Ti he) λj b hj hb=>Tn (hne j b hb (by omega))]
   omega
  have hsub:(delQ p.q i).Sublist p.q:=by
   unfold delQ
   have h1:(p.q.take i++p.q.drop (i+1)).Sublist (p.q.take i++p.q.drop i):=by grind
   rwa [Rw]at h1
  have hmem:∀y,y∈delQ p.q i↔y∈p.q/\y.1.1≠id:=λy=>by
   constructor
   ·intro hy
    refine⟨hsub.subset hy,?_⟩
    unfold delQ at hy
    rcases T9.1 hy with h1|h1
    ·obtain⟨j,hj⟩:=TL.1 h1
     rw[RL]at hj
     split at hj
     ·exact hne j y hj (by omega)
     ·cases hj
    ·obtain⟨j,hj⟩:=TL.1 h1
     rw[RZ]at hj
     exact hne _ y hj (by omega)
   ·rintro⟨hy,hyi⟩
    obtain⟨j,hj⟩:=TL.1 hy
    have hji:j≠i:=by grind
    unfold delQ
    rcases Nat.lt_or_gt_of_ne hji with h1|h1
    ·exact SX _ (Tc (i:=j) (by rw[RL,To h1,hj]))
    ·exact RX _ (Tc (i:=j-(i+1)) (by rw[RZ,show i+1+(j-(i+1))=j by omega,hj]))
  have hce:(YD p.n (delQ p.q i) (ZY p.s id)).2.2=0:=Yhs hok.cert hmem (Ym1 (Ykc hok.cert) (hsub.map _))
  obtain⟨h1,h2⟩:=Ypg hce
  refine⟨i,x,_,hi,he,?_,h2,rfl,hid⟩
  rw[hid,Tf (by omega)]
  unfold Ui
  rw[Oa hok.cert,Tf (by decide),Rm]
  exact h1
 ·left
  refine⟨λx hx e=>hany (TM.2 ⟨x,hx,Ti e⟩),?_⟩
  rw[To]
  exact Int.not_le.1 λh0=>hany ((Vc (λx:Rqs=>decide (x.1.1=id)) p.q 0 (by omega)).1 h0)
theorem Yp8{f:Flw}(h:(J3 n [f]).2.2=0):(reqE n f).2=0:=by
 unfold J3 at h
 split at h
 ·cases h
 split at h
 ·simp_all
 split at h
 ·simp_all
 ·rename_i h1
  exact YF.1 (TQ.1 h1) 0 (TS _) (by simp)
abbrev Lop:=Int×Int×Int×Int×Int×Int×Int
abbrev Spl:=Int×Int
def lopE(nodes:Int)(l:Lop):Int:=
 if l.1<0\/127<l.1\/insE l.2.1 nodes=false\/insE l.2.2.1 nodes=false\/insE l.2.2.2.1 nodes=false then 2
 else if l.2.2.2.2.1<1\/512<l.2.2.2.2.1\/l.2.2.2.2.2.1<0\/l.2.2.2.2.1<=l.2.2.2.2.2.1\/l.2.2.2.2.2.2<1\/1024<l.2.2.2.2.2.2 then 2
 else if l.2.1=l.2.2.1\/l.2.2.2.1=l.2.2.1 then 1 else 0
def XS(l:List Lop)(i:Nat):Lop:=l.getD i (0,0,0,0,0,0,0)
def Xb(nodes:Int)(l:List Lop)(i:Nat):Int:=if lopE nodes (XS l i)≠0 then lopE nodes (XS l i)else if 0<i/\(XS l i).1<=(XS l (i-1)).1 then 5 else 0
def XD(nodes:Int)(l:List Lop):Int×Int:=
 if nodes<2\/32<nodes then(-1,2)else if 8<l.length then(-1,8)else Yz (Xb nodes l) l.length 0
def YdO(l:Lop)(s:Spl):Int:=l.2.2.2.2.1+s.1+s.2-1
def fitS(l:Lop)(s:Spl):Bool:=decide (1<=s.1/\1<=s.2/\s.1<=l.2.2.2.2.1/\s.2<=l.2.2.2.2.1/\s.1+s.2<=l.2.2.2.2.1/\YdO l s<=l.2.2.2.2.2.2)
def Xc(l:Lop)(s:Spl):Int:=if lopE 32 l≠0 then lopE 32 l else if fitS l s=false then 11 else 0
def Zz(l:Lop)(s:Spl):Flw:=(2*l.1,l.2.1,l.2.2.1,l.2.2.2.2.1,l.2.2.2.2.2.1,s.1)
def Zi(l:Lop)(s:Spl):Flw:=(2*l.1+1,l.2.2.1,l.2.2.2.1,l.2.2.2.2.1,(l.2.2.2.2.2.1+s.1).tmod l.2.2.2.2.1,s.2)
def YU:List Lop->List Spl->List Flw
 |l::ls,s::ss=>Zz l s::Zi l s::YU ls ss
 |_,_=>[]
def badS:List Lop->List Spl->Bool
 |l::ls,s::ss=>decide (Xc l s≠0)||badS ls ss
 |_,_=>false
structure Gwy where
 p:Pln
 l:List Lop
 s:List Spl
def chkG(g:Gwy):Int:=
 if chkP g.p≠0 then chkP g.p else if(XD g.p.n.nodes g.l).2≠0 then 1 else if g.s.length≠g.l.length then 11
 else if badS g.l g.s=true then 11 else if YU g.l g.s≠YG g.p.q then 12 else 0
def posL(l:List Lop)(id:Int):Nat:=(l.takeWhile λy=>decide (y.1<id)).length
def hasL(l:List Lop)(id:Int):Bool:=l.any λy=>decide (y.1=id)
def XY{α:Type}(l:List α)(k:Nat)(x:α):List α:=l.take k++x::l.drop k
def YW{α:Type}(l:List α)(k:Nat):List α:=l.take k++l.drop (k+1)
def sumS(l:Lop):Int:=min l.2.2.2.2.1 (l.2.2.2.2.2.2-l.2.2.2.2.1+1)
def ZJ(l:Lop):List Spl:=(List.range (max (sumS l-1) 0).toNat).map λi:Nat=>((i:Int)+1,sumS l-1-i)
noncomputable def Wh(p:Pln)(l:Lop)(s:Spl):Option Pln:=
 match extP p (Zz l s)with
 |(some q,0)=>match extP q (Zi l s)with
  |(some r,0)=>some r
  |_=>none
 |_=>none
noncomputable def tryG(p:Pln)(l:Lop):List Spl->Option (Spl×Pln)
 |[]=>none
 |s::ss=>match Wh p l s with
  |some q=>some (s,q)
  |none=>tryG p l ss
noncomputable def admG(g:Gwy)(l:Lop):Option Gwy×Int:=
 if chkG g≠0 then(none,chkG g)else if hasL g.l l.1=true then(none,6)
 else if(XD g.p.n.nodes (XY g.l (posL g.l l.1) l)).2≠0 then(none,1)else if ZJ l=[]then(none,11)
 else match tryG g.p l (ZJ l)with
  |none=>(none,18)
  |some (s,q)=>(some ⟨q,XY g.l (posL g.l l.1) l,XY g.s (posL g.l l.1) s⟩,0)
def YkA(p:Option Pln×Int)(d:Pln):Pln:=p.1.getD d
def Yq1:Pln:=⟨⟨0,[],0,0,[],[]⟩,[],⟨0,0,[]⟩,[],[]⟩
noncomputable def disG(g:Gwy)(id:Int):Option Gwy×Int:=
 if chkG g≠0 then(none,chkG g)else if hasL g.l id=false then(none,7)
 else(some ⟨YkA (wdrP (YkA (wdrP g.p (2*id)) Yq1) (2*id+1)) Yq1,YW g.l (posL g.l id),YW g.s (posL g.l id)⟩,0)
theorem Zc{nodes:Int}{l:List Lop}:(XD nodes l).2=0↔(2<=nodes/\nodes<=32)/\l.length<=8/\(∀f∈l,lopE nodes f=0)/\l.Pairwise λa b=>a.1<b.1:=by
 have hat:∀{i:Nat}(hi:i<l.length),XS l i=l[i]:=by grind [XS]
 unfold XD
 by_cases h1:nodes<2\/32<nodes
 ·grind
 rw[Tf h1]
 by_cases h2:8<l.length
 ·grind
 rw[Tf h2,YF]
 constructor
 ·intro h
  have hk:∀(k:Nat) (hk:k<l.length),lopE nodes l[k]=0/\(0<k->∀(h':k-1<l.length),l[k-1].1<l[k].1):=λk hk=>by
   have h3:=h k (Td _) (by omega)
   unfold Xb at h3
   grind
  refine⟨by omega,by omega,λf hf=>?_,?_⟩
  ·grind [List.mem_iff_getElem]
  ·rw[TT]
   intro i j hi hj hij
   obtain⟨d,rfl⟩:∃d,j=i+1+d:=⟨j-(i+1),by omega⟩
   induction d with
   |zero=>grind
   |succ d ih=>
    grind
 ·rintro⟨-,-,h3,h4⟩ k-hk
  rw[Rl]at hk
  rw[TT]at h4
  unfold Xb
  grind
structure GwOk(g:Gwy):Prop where
 p:chkP g.p=0
 l:(XD g.p.n.nodes g.l).2=0
 len:g.s.length=g.l.length
 fit:badS g.l g.s=false
 fl:YU g.l g.s=YG g.p.q
theorem JN{g:Gwy}:chkG g=0↔GwOk g:=by
 unfold chkG
 constructor
 ·intro h
  split at h
  ·omega
  split at h
  ·cases h
  split at h
  ·cases h
  split at h
  all_goals simp_all [Go.Proofs.YtjommdkgfbhbdaaGreatDoor.GwOk.mk]
 ·rintro⟨h1,h2,h3,h4,h5⟩
  simp_all
end Go.Proofs.YtjommdkgfbhbdaaGreatDoor
namespace Go.Eng
open Go.RowKit
section
variable {P:Program}{n:Shp}{B:Nat}{w0:World}{Q:Exit->Act->World->Prop}{env:Env}{H:List HP}{m:Mode}{ops:Array Oper}{rest:List Oper}{d:Nat}{ty:TypeId}{pos:String}{after:Array Edge}
variable {x y:Operand}{k:IntKind}{a b:Int}{tys:Array TypeId}
theorem Yrd(hx:evo env x=some (.int k a))(hy:evo env y=some (.int k b))(hn:Nat.ble (d+1) n.k=true)(h:VL P m n B w0 ops Q rest ((d,.int k (min a b))::env) H):
 VL P m n B w0 ops Q (⟨some d,.call ⟨.builtin .min,#[x,y],tys⟩,ty,pos,after,none⟩::rest) env H:=
 by grind [Yld]
theorem Yrc(hx:evo env x=some (.int k a))(hy:evo env y=some (.int k b))(hn:Nat.ble (d+1) n.k=true)(h:VL P m n B w0 ops Q rest ((d,.int k (max a b))::env) H):
 VL P m n B w0 ops Q (⟨some d,.call ⟨.builtin .max,#[x,y],tys⟩,ty,pos,after,none⟩::rest) env H:=
 by grind [Ylc]
end
section
variable {P:Program}{B:Nat}{w0:World}{env:Env}{H:List HP}
theorem Yol{n:Nat}(T:Tab P){fn:Func}{Φ:Value->List HP->Prop}{p g k q g2 k2 rt st:Nat}{cs ds:Array Value}{tt tt2:TypeId}{fr fr2:Nat×Nat}(hr:fn.results=#[.cell p rt,.cell q st])(hp:get env p=some (.pointer (some ⟨g,0,none⟩)))(hq:get env q=some (.pointer (some ⟨g2,0,none⟩)))
 (hm:blk g (.cells cs tt fr)∈H) (hm2:blk g2 (.cells ds tt2 fr2)∈H) (ht:look T.ag rt=some k) (hk:cs.size=k) (ht2:look T.ag st=some k2) (hk2:ds.size=k2) {H2:List HP}(hH:∀w,St B w0 H w->St B w0 H2 w) (h:Φ (.tuple #[.agg cs,.agg ds]) H2):VQ ⟨n,[],none⟩ B w0 (bodyPost P fn (Post B w0 Φ)) .ret env H:=by
 refine⟨λa w ha hw=>bodyPost_ret (v:=.tuple #[.agg cs,.agg ds]) ?_ ha.defers ⟨_,H2,rfl,hH w hw,h⟩⟩
 have hp':=ha.slot p _ hp
 have hq':=ha.slot q _ hq
 simp[results,hr,Array.getD_eq_getD_getElem?,hp',hq',asAddr,ZP T (hw.blk hm).1 ht hk,ZP T (hw.blk hm2).1 ht2 hk2]
end
end Go.Eng
namespace Go.Proofs.YtjommdkgfbhbdaaGreatDoor
open Go.RowKit Go.Eng Go.Nw Go.Rt
def lopF(l:Lop):List Value:=[.int .i64 l.1,.int .i64 l.2.1,.int .i64 l.2.2.1,.int .i64 l.2.2.2.1,.int .i64 l.2.2.2.2.1,.int .i64 l.2.2.2.2.2.1,.int .i64 l.2.2.2.2.2.2]
def lopV(l:Lop):Value:=.agg #[.int .i64 l.1,.int .i64 l.2.1,.int .i64 l.2.2.1,.int .i64 l.2.2.2.1,.int .i64 l.2.2.2.2.1,.int .i64 l.2.2.2.2.2.1,.int .i64 l.2.2.2.2.2.2]
def splF(s:Spl):List Value:=[.int .i64 s.1,.int .i64 s.2]
def splV(s:Spl):Value:=.agg #[.int .i64 s.1,.int .i64 s.2]
theorem OS{l:List Lop}{i:Nat}(h:i<l.length):l[i]? =some (XS l i):=by
 grind [XS]
variable {B:Nat}{w0 w:World}{H:List HP}
theorem Ykm(v nodes:Int)(gn:Nat)(hm:blk gn (.cells #[.int .i64 nodes] 3 (0,0))∈H)(hw:St B w0 H w):
 CX B w0 274 [.int .i64 v,.pointer (some ⟨gn,0,none⟩)] w λu K=>u=.bool (insE v nodes)/\K=H:=by
 refine Ya Tryz.func274 Tryz.ntmps274 rfl rfl hw ?_
 exact zc23
theorem VO(nodes:Int)(f:Lop)(hw:St B w0 H w):
 CX B w0 195 [.int .i64 nodes,lopV f] w λv K=>v=.int .i64 (lopE nodes f)/\K=H:=by
 refine Ya Tryz.func195 Tryz.ntmps195 rfl rfl hw ?_
 obtain⟨e,he⟩:∃e,lopE nodes f=e:=⟨_,rfl⟩
 rw[he]
 by_cases hA:f.1<0\/127<f.1
 ·repeat'(first|(apply zg23;first|(refine zs52 ?_;intro _)|(refine zs53 ?_;intro _))|(apply zg29;(apply Yu;exact za;exact rfl))|refine zgd ?_|(refine zgf ?_ ?_<;>intro _<;>try exact zo)|fail)
  all_goals(
   apply Yf H
   ·exact zk
   apply Yc;exact rfl;exact rfl
   refine⟨?_,rfl⟩
   rw[<-he]
   unfold lopE
   first
    |(rw[To (by first|exact .inl (by omega)|exact .inr (.inl (by omega))|exact .inr (.inr (.inl (by assumption)))|exact .inr (.inr (.inr (.inl (by assumption))))|exact .inr (.inr (.inr (.inr (by assumption)))))];done)
    |(rw[Tf (by rintro(h|h|h|h|h)<;>first|omega|simp_all)]
      first
       |(rw[To (by omega)];done)
       |(rw[Tf (by omega),To (by omega)];done)
       |(rw[Tf (by omega),Tf (by omega)];done)))
 ·refine zX41 ?_<;>intros
  rename_i gn gf _ _
  repeat'(first|((apply JA (cs:=[.pointer (some ⟨gn,0,none⟩)]));exact rfl;exact Yw1;exact za;exact rfl;exactλ_ hw=>(Ykm _ nodes gn zm hw);all_goals(intro hB;(try simp only[Tm,Tv]at hB);try exact zo))|refine zgd ?_|(refine zgf ?_ ?_<;>intro _<;>try exact zo)|fail)
  all_goals(
   apply Yf H
   ·exact zk
   apply Yc;exact rfl;exact rfl
   refine⟨?_,rfl⟩
   rw[<-he]
   unfold lopE
   first
    |(rw[To (by first|exact .inl (by omega)|exact .inr (.inl (by omega))|exact .inr (.inr (.inl (by assumption)))|exact .inr (.inr (.inr (.inl (by assumption))))|exact .inr (.inr (.inr (.inr (by assumption)))))];done)
    |(rw[Tf (by rintro(h|h|h|h|h)<;>first|omega|simp_all)]
      first
       |(rw[To (by omega)];done)
       |(rw[Tf (by omega),To (by omega)];done)
       |(rw[Tf (by omega),Tf (by omega)];done)))
theorem WL(nodes:Int)(l:List Lop)(hl:l.length<=9223372036854775807){A:Option Addr}{cap:Nat}(hr:Rd B w0 H A (l.flatMap lopF))(hw:St B w0 H w):
 CX B w0 101 [.int .i64 nodes,.slice A l.length cap] w λv K=>v=.tuple #[.int .i64 (XD nodes l).1,.int .i64 (XD nodes l).2]/\K=H:=by
 refine Ya Tryz.func101 Tryz.ntmps101 rfl rfl hw ?_
 by_cases hn:nodes<2\/32<nodes
 ·have hE:XD nodes l=(-1,2):=by simp_all [XD]
  rw[hE]
  repeat'(first|refine zgd ?_|(refine zgf ?_ ?_<;>intro _<;>try exact zo)|fail)
  all_goals(apply YJ;(iterate 3 exact rfl);exact⟨rfl,rfl⟩)
 by_cases h16:8<l.length
 ·have hE:XD nodes l=(-1,8):=by simp_all [XD]
  rw[hE]
  refine zX25 ?_<;>intros
  exact zc28
 have hE:XD nodes l=Yz (Xb nodes l) l.length 0:=by simp_all [XD,if_neg]
 rw[hE]
 refine zX42 ?_<;>intros
 refine Ye (λ(i:Nat)=>[(22,.int .i64 i),(21,.int .i64 l.length),(20,.slice A l.length cap),(0,.int .i64 nodes),(1,.slice A l.length cap)]) (λ_=>H) (λi=>i<=l.length/\∀k,k<i->Xb nodes l k=0) (λi=>l.length-i) 0 ⟨Td _,λk hk=>absurd hk (Re _)⟩ ?_ (λw hw=>hw) ?_
 ·exact zc1
 rintro i ⟨hi,hall⟩ K hK
 by_cases hlt:i<l.length
 ·have hget:l[i]? =some (XS l i):=OS hlt
  have hbad:Xb nodes l i≠0->Yz (Xb nodes l) l.length 0=((i:Int),Xb nodes l i):=λh=>Xe (λk _ hk=>hall k hk) (Td _) (by omega) h
  have hstep:Xb nodes l i=0->∀k,k<i+1->Xb nodes l k=0:=λh k hk=>by
   exact zc93
  by_cases he:lopE nodes (XS l i)≠0
  ·have hf:Xb nodes l i=lopE nodes (XS l i):=by unfold Xb;exact To he
   rw[hbad (by rw[hf];exact he),hf]
   repeat'(first|((apply Yb Yhw);exact za;exact rfl;exactλ_ hw=>(VO nodes (XS l i) hw))|refine zgd ?_|(refine zge ?_ ?_<;>intro _<;>try exact zo)|(refine zgh ?_;intro _)|fail)
   apply Yf H
   ·exact zc0
   exact zc4
  have he0:=TQ.1 he
  have hck:=λ{H':List HP}{w:World}(hw:St B w0 H' w)=>VO nodes (XS l i) hw
  rw[he0]at hck
  rcases RU i with h0|h0
  ·subst h0
   have hf:Xb nodes l 0=0:=by unfold Xb;exact Yl6
   refine Yqx ?_<;>intros
   apply hK (0+1)
   ·exact Ybe
   ·omega
   ·exact zc1
   ·exact zc0
  have hget2:l[((i:Int)-1).toNat]? =some (XS l (i-1)):=YuJ
  by_cases hle:(XS l i).1<=(XS l (i-1)).1
  ·have hf:Xb nodes l i=5:=by unfold Xb;exact Yl5
   rw[hbad (by rw[hf];decide),hf]
   refine Yqx ?_<;>intros
   apply Yf H
   ·exact zc0
   exact zc4
  ·have hf:Xb nodes l i=0:=by unfold Xb;exact Yl4
   refine Yqx ?_<;>intros
   apply hK (i+1)
   ·exact Ybe
   ·omega
   ·exact zc1
   ·exact zc0
 ·refine zX1 ?_<;>intros
  rw[show i=l.length by omega]at hall
  rw[Xn λk _ hk=>hall k (by omega)]
  exact zc4
variable {l:Lop}
theorem ZF{n:Int}(h:lopE n l=0):(0<=l.1/\l.1<=127)/\(1<=l.2.2.2.2.1/\l.2.2.2.2.1<=512)/\(0<=l.2.2.2.2.2.1/\l.2.2.2.2.2.1<l.2.2.2.2.1)/\(1<=l.2.2.2.2.2.2/\l.2.2.2.2.2.2<=1024):=by
 grind [lopE]
theorem Yih(l:Lop)(s:Spl)(h1:1<=l.2.2.2.2.1/\l.2.2.2.2.1<=512)(h2:(1<=s.1/\s.1<=512)/\(1<=s.2/\s.2<=512))(hw:St B w0 H w):
 CX B w0 336 [lopV l,splV s] w λv K=>v=.int .i64 (YdO l s)/\K=H:=by
 refine Ya Tryz.func336 Tryz.ntmps336 rfl rfl hw ?_
 unfold lopV splV
 refine zX26 ?_<;>intros
 apply Yf H
 ·exact zc0
 exact zc3
theorem Yki(l:Lop)(s:Spl)(h1:1<=l.2.2.2.2.1/\l.2.2.2.2.1<=512)(hw:St B w0 H w):
 CX B w0 275 [lopV l,splV s] w λv K=>v=.bool (fitS l s)/\K=H:=by
 refine Ya Tryz.func275 Tryz.ntmps275 rfl rfl hw ?_
 obtain⟨b,hb⟩:∃b,fitS l s=b:=⟨_,rfl⟩
 rw[hb]
 unfold fitS at hb
 have p1:=λ(h2:(1<=s.1/\s.1<=512)/\(1<=s.2/\s.2<=512)) {H':List HP}{w:World}(hw:St B w0 H' w)=>Yih l s h1 h2 hw
 unfold lopV splV at p1⊢
 repeat'(first|((apply Ym Yxm);exact za;exact rfl;exactλ_ hw=>(p1 (by omega) hw))|(apply zg28;refine zs84 ?_)|refine zgd ?_|(refine zgf ?_ ?_<;>intro _<;>try exact zo)|(refine zgh ?_;intro _)|fail)
 all_goals(
  apply Yf H
  ·exact zk
  apply Yc;exact rfl;exact rfl
  refine⟨?_,rfl⟩
  rw[<-hb]
  first
   |(rw[Ti (by omega)];done)
   |(rw[Tn (by omega)];done))
theorem Yig(l:Lop)(s:Spl)(hw:St B w0 H w):
 CX B w0 196 [lopV l,splV s] w λv K=>v=.int .i64 (Xc l s)/\K=H:=by
 refine Ya Tryz.func196 Tryz.ntmps196 rfl rfl hw ?_
 have p1:=λ{H':List HP}{w:World}(hw:St B w0 H' w)=>VO 32 l hw
 unfold Xc
 by_cases h:lopE 32 l=0
 rotate_left
 ·rw[To h]
  unfold lopV at p1⊢
  unfold splV
  refine YtK ?_<;>intros
  apply Yf H
  ·exact zc0
  exact zc9
 have p2:=λ{H':List HP}{w:World}(hw:St B w0 H' w)=>Yki l s (ZF h).2.1 hw
 rw[Tf (λe=>e h)]
 rw[h]at p1
 unfold lopV at p1
 unfold lopV splV at p2
 unfold lopV splV
 cases hb:fitS l s with
 |false=>
  rw[hb]at p2
  rw[To rfl]
  refine YtL ?_<;>intros
  apply Yf H
  ·exact zc0
  exact zc9
 |true=>
  rw[hb]at p2
  rw[Tf (by decide)]
  refine YtL ?_<;>intros
  apply Yf H
  ·exact zc0
  exact zc9
theorem Vz{s:Spl}(h:Xc l s=0):lopE 32 l=0/\(1<=s.1/\s.1<=512)/\(1<=s.2/\s.2<=512)/\s.1+s.2<=l.2.2.2.2.1/\YdO l s<=l.2.2.2.2.2.2:=by
 unfold Xc at h
 split at h
 ·omega
 rename_i h1
 split at h
 ·cases h
 rename_i h2
 have h1:=TQ.1 h1
 have h3:=(ZF h1).2.1
 unfold fitS at h2
 grind
def flsS(l:Lop)(s:Spl):List Flw:=if Xc l s≠0 then []else [Zz l s,Zi l s]
theorem Yic(l:Lop)(s:Spl)(h:Xc l s=0)(hw:St B w0 H w):
 CX B w0 197 [lopV l,splV s] w λv K=>v=.tuple #[flwV (Zz l s),flwV (Zi l s)]/\K=H:=by
 refine Ya Tryz.func197 Tryz.ntmps197 rfl rfl hw ?_
 obtain⟨h1,h2,h3,-⟩:=Vz h
 obtain⟨h4,h5,h6,h7⟩:=ZF h1
 unfold Zz Zi
 rw[Rb (by omega)]
 unfold lopV splV flwV
 refine YX [many H] (λw hw=>hw.perm (.closeT H)) ?_
 refine zX26 ?_<;>intros
 apply Ws [0,1,2,3,4,5,6,7,8,9,10,11,12,13,14,15,16,17,18,19,20,21] [22] [true,true,true,true,true,true]
 kernel_rfl
 kernel_rfl
 exact zy
 (simp only[Yd,nthO];rfl)
 (simp only[Yd,nthO];rfl)
 refine Yqv ?_<;>intros
 apply YC [0,1,2] [3] [true,true,false,false,true,true,true]
 kernel_rfl
 kernel_rfl
 exact zy
 (simp only[Yd,nthO];rfl)
 (simp only[Yd,nthO];rfl)
 refine zX17 ?_
 apply Yol T (H2:=H);(iterate 3 exact rfl);(focus exact zc2);(focus exact zc2);(iterate 4 exact rfl)
 ·intro w hw
  have h5:St B w0 [many H] w:=by
   revert w
   exact zc0
  exact W5
 simp_all
theorem YaT(l:Lop)(s:Spl)(hw:St B w0 H w):
 CX B w0 104 [lopV l,splV s] w λv K=>∃A,v=.tuple #[.slice A (flsS l s).length (flsS l s).length,.int .i64 (Xc l s)]/\K=flws A (flsS l s).length (flsS l s)::H:=by
 refine Ya Tryz.func104 Tryz.ntmps104 rfl rfl hw ?_
 have p1:=λ{H':List HP}{w:World}(hw:St B w0 H' w)=>Yig l s hw
 unfold flsS
 by_cases h:Xc l s=0
 rotate_left
 ·rw[To h]
  unfold lopV splV at p1⊢
  repeat'(first|((apply Yb YsW);exact za;exact rfl;exactλ_ hw=>(p1 hw))|refine zgb ?_|(refine zge ?_ ?_<;>intro _<;>try exact zo)|(refine zgh ?_;intro _)|fail)
  apply Yf H
  ·exact zc0
  apply Xx 45 6
  apply YJ;(iterate 3 exact rfl);exact⟨none,rfl,rfl⟩
 rw[Tf (λe=>e h)]
 have p2:=λ{H':List HP}{w:World}(hw:St B w0 H' w)=>Yic l s h hw
 rw[h]at p1⊢
 obtain⟨a,ha⟩:∃a,Zz l s=a:=⟨_,rfl⟩
 obtain⟨b,hb⟩:∃b,Zi l s=b:=⟨_,rfl⟩
 rw[ha,hb]at p2⊢
 unfold lopV splV at p1⊢
 unfold lopV splV flwV at p2
 repeat'(first|((apply Yb YsW);exact za;exact rfl;exactλ_ hw=>(p1 hw))|((apply Yb YwB);exact za;exact rfl;exactλ_ hw=>(p2 hw))|refine zgc ?_|(refine zge ?_ ?_<;>intro _<;>try exact zo)|(refine zgh ?_;intro _)|fail)
 rename_i g
 apply Yf (flws (some ⟨g,0,none⟩) 2 [a,b]::H)
 ·intro w hw
  have h5:St B w0 (blk g (.cells #[.int .i64 a.1,.int .i64 a.2.1,.int .i64 a.2.2.1,.int .i64 a.2.2.2.1,.int .i64 a.2.2.2.2.1,.int .i64 a.2.2.2.2.2,.int .i64 b.1,.int .i64 b.2.1,.int .i64 b.2.2.1,.int .i64 b.2.2.2.1,.int .i64 b.2.2.2.2.1,.int .i64 b.2.2.2.2.2] 45 (0,0))::H) w:=by
   revert w
   exact zc0
  exact h5.blk_sl (cs:=[a,b].flatMap flwF) (len:=2) (size:=6) rfl (by omega)
 exact zc28
abbrev spls(A:Option Addr)(cap:Nat)(l:List Spl):HP:=sl 142 2 A l.length cap (l.flatMap splF)
abbrev lops(A:Option Addr)(cap:Nat)(l:List Lop):HP:=sl 58 7 A l.length cap (l.flatMap lopF)
theorem YnG(A:Option Addr)(cap:Nat)(l:List Spl)(a b:Int):sl 142 2 A (l.length+1) cap (l.flatMap splF++#[.int .i64 a,.int .i64 b].toList)=spls A cap (l++[(a,b)]):=by simp[spls,List.flatMap_append,splF]
def YiZ(l:Lop):List Spl:=if lopE 32 l≠0 then []else ZJ l
structure LsM where
 i:Nat
 A:Option Addr
 cap:Nat
theorem Yf6(l:Lop)(hw:St B w0 H w):
 CX B w0 102 [lopV l] w λv K=>∃A cap,v=.tuple #[.slice A (YiZ l).length cap,.int .i64 (lopE 32 l)]/\K=spls A cap (YiZ l)::H:=by
 refine Ya Tryz.func102 Tryz.ntmps102 rfl rfl hw ?_
 have p1:=λ{H':List HP}{w:World}(hw:St B w0 H' w)=>VO 32 l hw
 unfold YiZ
 by_cases h:lopE 32 l=0
 rotate_left
 ·rw[To h]
  unfold lopV at p1⊢
  refine YtK ?_<;>intros
  apply Yf H
  ·exact zc0
  apply Xx 142 2
  apply YJ;(iterate 3 exact rfl);exact⟨none,0,rfl,rfl⟩
 rw[Tf (λe=>e h)]
 obtain⟨h4,h5,h6,h7⟩:=ZF h
 rw[h]at p1⊢
 unfold ZJ
 obtain⟨S,hS⟩:∃S,sumS l=S:=⟨_,rfl⟩
 rw[hS]
 unfold sumS at hS
 obtain⟨n,hn⟩:∃n:Nat,max (S-1) 0=n:=⟨(max (S-1) 0).toNat,by omega⟩
 rw[hn,Rm]
 obtain⟨f,hf⟩:∃f:Nat->Spl,(λi:Nat=>((i:Int)+1,S-1-(i:Int)))=f:=⟨_,rfl⟩
 have hfi:∀i:Nat,f i=((i:Int)+1,S-1-(i:Int)):=λi=>by grind
 rw[hf]
 have hfs:∀i:Nat,((List.range i).map f).length=i:=λi=>by simp_all
 unfold lopV at p1⊢
 repeat'(first|((apply Yb Yhw);exact za;exact rfl;exactλ_ hw=>(p1 hw))|(apply Yrd;(iterate 3 exact rfl))|(apply Yrc;(iterate 3 exact rfl))|refine zgd ?_|(refine zge ?_ ?_<;>intro _<;>try exact zo)|(refine zgh ?_;intro _)|fail)
 rename_i g1
 rw[hS,hn]
 refine XI 142 2 ?_
 refine Ye (λz:LsM=>[(25,.int .i64 (z.i:Nat)),(24,.int .i64 (n:Nat)),(5,.int .i64 S),(6,.slice z.A ((List.range z.i).map f).length z.cap)]) (λz=>spls z.A z.cap ((List.range z.i).map f)::H) (λz=>z.i<=n) (λz=>n-z.i) ⟨0,none,0⟩ (Td _) ?_ ?_ ?_
 ·exact zc1
 ·intro w hw
  have h5:St B w0 (sl 142 2 none 0 0 []::H) w:=by
   revert w
   exact zc0
  exact h5
 rintro⟨i,A2,cap2⟩ hi K hK
 dsimp only at hi⊢
 by_cases hlt:i<n
 ·have hst:(List.range (i+1)).map f=(List.range i).map f++[f i]:=by rw[RH,TY];rfl
  have hfi:=hfi i
  have hil:=hfs i
  generalize(List.range i).map f=L at hst hil⊢
  refine Yft ?_<;>intros
  rename_i A' cap'
  rw[YnG,<-hfi,<-hst,show L.length+1=((List.range (i+1)).map f).length by rw[hst];simp]
  apply hK ⟨i+1,A',cap'⟩
  ·show i+1<=_
   omega
  ·exact zc73
  ·exact zc1
  ·exact zc0
 ·obtain rfl:i=n:=by omega
  refine zX1 ?_<;>intros
  apply YJ;(iterate 3 exact rfl)
  exact⟨A2,cap2,rfl,rfl⟩
structure CSet(es:YbV)(p:Cel->Bool):Prop where
 len:∀e∈es,e.1.length=5
 val:∀e∈es,e.2.1=.bool true
 mem:∀c,vget es (nums c)=if p c=true then some (.bool true)else none
theorem CSet.nil:CSet [] λ_=>false:=⟨(λe h=>by cases h),(λe h=>by cases h),λc=>rfl⟩
variable {A:Option Addr}{cap B k gv:Nat}{w0 w:World}{H:List HP}
theorem Yiz(q:List RqM)(hl:q.length<=1000000000000)(hr:Rd B w0 H A (q.flatMap rqF))(hw:St B w0 H w):
 CX B w0 65 [.slice A q.length cap] w λv K=>∃A2 cap2,v=.slice A2 (RqM.fl q).length cap2/\K=flws A2 cap2 (RqM.fl q)::H:=by
 refine Ya Tryz.func65 Tryz.ntmps65 rfl rfl hw ?_
 repeat'(first|refine zgb ?_|fail)
 refine XI 45 6 ?_
 refine Ye (λz:FlM=>[(8,.int .i64 (z.i:Nat)),(7,.int .i64 q.length),(6,.slice A q.length cap),(3,.slice z.A (RqM.fl (q.take z.i)).length z.cap)]) (λz=>flws z.A z.cap (RqM.fl (q.take z.i))::H) (λz=>z.i<=q.length) (λz=>q.length-z.i) ⟨0,none,0⟩ (Td _) ?_ (λw hw=>hw) ?_
 ·exact zu
 rintro⟨i,A2,cap2⟩ hi K hK
 dsimp only at hi⊢
 have hlen:(RqM.fl (q.take i)).length=i:=by grind [Go.Proofs.YtjommdkgfbhbdaaGreatDoor.RqM.fl]
 have hr':=hr.cons (X:=flws A2 cap2 (RqM.fl (q.take i)))
 by_cases hlt:i<q.length
 ·obtain⟨x,hx⟩:∃x,q[i]? =some x:=⟨_,Ta hlt⟩
  have hst:RqM.fl (q.take (i+1))=RqM.fl (q.take i)++[x.f]:=by grind [Go.Proofs.YtjommdkgfbhbdaaGreatDoor.RqM.fl,TD]
  repeat'(first|refine Yi T ?_|refine zgd ?_|(refine zge ?_ ?_<;>intro _<;>try exact zo)|(refine zgh ?_;intro _)|(refine zgi ?_;intro _ _)|fail)
  rename_i A' cap'
  rw[Uo,<-hst,show(RqM.fl (q.take i)).length+1=(RqM.fl (q.take (i+1))).length from by rw[hst];simp]
  apply hK ⟨i+1,A',cap'⟩
  ·show i+1<=_
   omega
  ·dsimp only;omega
  ·exact zu
  ·exact zk
 ·obtain rfl:i=q.length:=by omega
  rw[TC]
  repeat'(first|refine zgc ?_|(refine zge ?_ ?_<;>intro _<;>try exact zo)|fail)
  apply Yc;exact rfl;exact rfl
  exact⟨A2,cap2,rfl,rfl⟩
theorem YeB(a:RqM)(f:Flw)(hw:St B w0 H w):
 CX B w0 63 [rqV a,flwV f] w λv K=>v=.int .i64 (cmpI a.f.1 f.1)/\K=H:=by
 refine Ya Tryz.func63 Tryz.ntmps63 rfl rfl hw ?_
 unfold rqV flwV
 repeat'(first|((apply Yb Yht);exact za;exact rfl;exactλ_ hw=>(JT _ _ hw))|refine zgb ?_|(refine zgh ?_;intro _)|fail)
 apply Yf H
 ·exact zk
 apply Yc;exact rfl;exact rfl
 exact⟨rfl,rfl⟩
theorem cmpI_zero{a b:Int}:cmpI a b=0↔a=b:=by
 unfold cmpI
 omega
theorem Ygw(l:List RqM)(c:Flw)(ho:Yk7 l)(hlen:l.length<=1000000000)(hr:Rd B w0 H A (l.flatMap rqF))(hw:St B w0 H w):
 CX B w0 62 [.slice A l.length cap,flwV c,.func (.func 63) #[] #[]] w λv K=>
  v=.tuple #[.int .i64 (posQ (l.map RqM.rq) c.1:Nat),.bool (hasQ (l.map RqM.rq) c.1)]/\K=H:=by
 refine Ya Tryz.func62 Tryz.ntmps62 rfl rfl hw ?_
 (apply Y5;apply YL;apply Yx;exact rfl;exact rfl;intro g)
 refine zX9 ?_
 have hr:=hr.cons (X:=blk g (.cells (flwF c).toArray 45 (0,0)))
 refine Wt (λ(lo hi:Nat)=>[(9,.int .i64 lo),(10,.int .i64 hi),(8,.int .i64 l.length),(0,.slice A l.length cap),(2,.func (.func 63) #[] #[]),(4,.pointer (some ⟨g,0,none⟩))]) (λ_ _=>blk g (.cells (flwF c).toArray 45 (0,0))::H)
  (λlo hi=>lo<=hi/\hi<=l.length/\(∀i x,i<lo->l[i]? =some x->x.f.1<c.1)/\(∀i x,hi<=i->l[i]? =some x->¬x.f.1<c.1)) (λlo hi=>hi-lo) 0 l.length ⟨by omega,by omega,λj x hj=>by omega,λj x h1 h2=>by simp_all⟩ ?_ (λw hw=>hw) ?_
 ·exact zc1
 rintro lo hi ⟨h1,h2,h3,h4⟩ K hK
 by_cases hlt:lo<hi
 ·obtain⟨b,hb⟩:∃b,l[(((lo:Int)+hi)/2).toNat]? =some b:=⟨_,Ta (by omega)⟩
  have hm:(((lo:Int)+hi)/2).toNat=(lo+hi)/2:=by omega
  have hb2:l[(lo+hi)/2]? =some b:=by grind
  repeat'(first|((apply Zt (cs:=[]));exact rfl;exact en63;exact za;exact rfl;exactλ_ hw=>(YeB b c hw))|(apply zg28;refine zs84 ?_)|refine zgd ?_|(refine zge ?_ ?_<;>intro _<;>try exact zo)|fail)
  ·rename_i hc
   rw[Ob]at hc
   apply hK ((lo+hi)/2+1) hi
   ·exact zc79
   ·omega
   ·exact zc1
   exact zc18
  ·rename_i hc
   have hc:¬b.f.1<c.1:=λh=>by have:=Ob.2 h;omega
   apply hK lo ((lo+hi)/2)
   ·exact zc35
   ·omega
   ·exact zc1
   exact zc18
 ·obtain rfl:lo=hi:=by omega
  have hpe:posQ (l.map RqM.rq) c.1=lo:=YdH (by rw[Tu];exact h2) (λi x hi hx=>by
   rw[TU]at hx
   cases hl:l[i]? with
   |none=>rw[hl]at hx;cases hx
   |some y=>rw[hl]at hx;cases hx;exact h3 i y hi hl) λx hx=>by
   rw[TU]at hx
   cases hl:l[lo]? with
   |none=>rw[hl]at hx;cases hx
   |some y=>exact YuW
  rw[hpe]
  have hfd:hasQ (l.map RqM.rq) c.1=true↔∃b,l[lo]? =some b/\b.f.1=c.1:=by
   unfold hasQ
   rw[TM]
   constructor
   ·rintro⟨x,hx,he⟩
    obtain⟨b,hb,rfl⟩:=TG.1 hx
    have he:b.f.1=c.1:=TI he
    exact zc47
   ·rintro⟨b,hb,he⟩
    exact⟨b.rq,RD (Tc hb),Ti he⟩
  by_cases hl:lo<l.length
  ·obtain⟨b,hb⟩:∃b,l[lo]? =some b:=⟨_,Ta hl⟩
   repeat'(first|((apply Zt (cs:=[]));exact rfl;exact en63;exact za;exact rfl;exactλ_ hw=>(YeB b c hw))|(apply zg28;refine zs84 ?_)|refine zgd ?_|(refine zge ?_ ?_<;>intro _<;>try exact zo)|fail)
   ·rename_i h
    apply Yj;apply YJ;(iterate 3 exact rfl)
    exact YuY
   ·rename_i h
    apply Yj;apply YJ;(iterate 3 exact rfl)
    have hf0:hasQ (l.map RqM.rq) c.1=false:=RE.2 λe=>by
     exact Yul
    exact Yl8
  ·refine zX18 ?_<;>intros
   apply Yj;apply YJ;(iterate 3 exact rfl)
   have hf0:hasQ (l.map RqM.rq) c.1=false:=RE.2 λe=>by
    exact YuC
   exact Yl8
section
variable {m:Eng.Mode}{n:Shp}{B d:Nat}{w0:World}{ops:Array Oper}{Q:Exit->Act->World->Prop}{rest:List Oper}{env:Env}{H:List HP}{ty:TypeId}{pos:String}{after:Array Edge}{x y lo:Operand}
variable {gv k cap:Nat}
theorem YfG{g o la ca lb cb:Nat}{tt:TypeId}{cs:Array Value}{xs:List Value}{tys:Array TypeId}(hx:evo env x=some (.slice (some ⟨gv,0,none⟩) la ca))(hy:evo env y=some (.slice (subA (some ⟨g,0,none⟩) o cap 6) lb cb))(hm1:Eng.blk gv (.cells cs tt (0,0))∈H)(hm2:sl 45 6 (some ⟨g,0,none⟩) k cap xs∈H)
 (hne:∀w,St B w0 H w->gv≠g) (hc:0<cap/\cap≠o) (hn:Nat.ble (d+1) n.k=true) (h:VL Tryz.prog none n B w0 ops Q rest ((d,.bool false)::env) H):
 VL Tryz.prog none n B w0 ops Q (⟨some d,.call ⟨.value (.func 148),#[x,y],tys⟩,ty,pos,after,none⟩::rest) env H:=by
 have hsub:subA (some ⟨g,0,none⟩) o cap 6=some ⟨g,o*6,none⟩:=by
  unfold subA
  rw[Tf hc.2,SB,Addr.add_lit,Rl]
 rw[hsub]at hy
 refine XG (λu K'=>u=.bool false/\K'=H) rfl rfl hn (λa w ha hw=>⟨.bool false,H,w,?_,hw,rfl,rfl⟩) (by rintro _ _ ⟨rfl,rfl⟩;exact h)
 have hb:=(hw.blk hm1).1
 rcases ZQ (hw.sl hm2)with⟨h0,_⟩|⟨g',cur,e0,g1,_,_,g4,_⟩
 ·cases h0
 injection e0 with e0
 injection e0 with e0
 subst e0
 obtain⟨bb,htl⟩:∃bb,Eng.look T.sl 27=some (45,6,bb):=⟨_,rfl⟩
 obtain⟨_,inf,_,hi,_,_,hsi,_⟩:=YN (T.slic htl)
 have hr:=run_callFunc_extern (P:=Tryz.prog) Tryz.func148 (by kernel_rfl) (by kernel_rfl) (by kernel_rfl) (e:=Extern.SlicesOverlaps.overlaps #[27,27] #[4]) (by kernel_rfl) #[.slice (some ⟨gv,0,none⟩) la ca,.slice (some ⟨g,o*6,none⟩) lb cb] w
 have hov:=Lib.run_overlaps_apart (P:=Tryz.prog) w 27 4 45 Tryz.underlying27 6 (λw=>by simp[sizeOf,typeInfo,hi,hsi]) ⟨gv,0,none⟩ ⟨g,o*6,none⟩ la ca lb cb (hne w hw) tt 45 cs.size cur.size (by simp[World.shape?,hb]) (by simp[World.shape?,g1]) (by rw[g4];omega) (by simp[World.frozen?,hb]) (by simp[World.frozen?,hb])
 have he:a.eval (.func 148)=.func (.func 148) #[] #[]:=rfl
 simp[execOp,resolve,invoke,ha.eval hx,ha.eval hy,he,Deferred.ofValue,hr,hov,Result.andThen]
end
theorem YrK(l:List Flw)(c:Flw)(i:Nat)(hk:k=1):(l.take i).take i++[c].take k++(l.take i).drop (i+k)=l.take i++[c]:=by
 grind [Rn]
theorem YrM(l:List Flw)(c:Flw)(i:Nat)(hi:i<=l.length)(hk:k=l.length-i):(l.take i++[c]).take (i+1)++(l.drop i).take k++(l.take i++[c]).drop (i+1+k)=l.take i++c::l.drop i:=Yq0
theorem YrO(l:List Flw)(i:Nat)(hi:i<=l.length)(hk:k=l.length-i):l.take (i+1)++(l.drop i).take k++l.drop (i+1+k)=l.take (i+1)++l.drop i:=YqR
theorem YrQ(l:List Flw)(c:Flw)(i:Nat)(hi:i<l.length)(hk:k=1):(l.take (i+1)++l.drop i).take i++[c].take k++(l.take (i+1)++l.drop i).drop (i+k)=l.take i++c::l.drop i:=by
 grind
theorem YeV(l:List Flw)(c:Flw)(i:Nat)(hi:i<=l.length):(l.take i++c::l.drop i).length=l.length+1:=by
 grind
theorem Yf4(l:List Flw)(i:Nat)(c:Flw)(hi:i<=l.length)(hlen:l.length<=1000)(hw:St B w0 (flws A cap l::blk gv (.cells #[.int .i64 c.1,.int .i64 c.2.1,.int .i64 c.2.2.1,.int .i64 c.2.2.2.1,.int .i64 c.2.2.2.2.1,.int .i64 c.2.2.2.2.2] 45 (0,0))::H) w):
 CX B w0 64 [.slice A l.length cap,.int .i64 i,.slice (some ⟨gv,0,none⟩) 1 1] w λv K=>∃A' cap',v=.slice A' (l.take i++c::l.drop i).length cap'/\K=flws A' cap' (l.take i++c::l.drop i)::H:=by
 refine Ya Tryz.func64 Tryz.ntmps64 rfl rfl hw ?_
 refine UF (k:=l.length) (cap:=cap) (by(focus exact zc2)) λhcap=>?_
 have hli:=YeV l c i hi
 have hrv:∀{L:List HP},blk gv (.cells #[.int .i64 c.1,.int .i64 c.2.1,.int .i64 c.2.2.1,.int .i64 c.2.2.2.1,.int .i64 c.2.2.2.2.1,.int .i64 c.2.2.2.2.2] 45 (0,0))∈L->Rd B w0 L (some ⟨gv,0,none⟩) (([c]:List Flw).flatMap flwF):=λh=>by
  have h1:=Rd.blk (B:=B) (w0:=w0) (cs:=(flwF c).toArray) h
  rw[show([c]:List Flw).flatMap flwF=(flwF c).toArray.toList by simp]
  exact h1
 have hq6:∀c:Flw,(flwF c).length=6:=λ_=>rfl
 have ho6:∀c:Flw,Z6 (flwF c)=true:=λ_=>rfl
 refine zX2 ?_
 apply Yq T i (l.length-i);(iterate 5 exact rfl);exact hi;exact rfl
 by_cases hin:i=l.length
 ·have e1:l.take i++c::l.drop i=l++[c]:=YqW
  rw[e1]
  refine Yqy ?_<;>intros
  rename_i A' cap'
  apply Yf (flws A' cap' (l++[c])::H)
  ·intro w hw
   rw[<-Uo]
   revert w
   exact zc0
  exact zc89
 have hlt:i<l.length:=by omega
 have hrs:∀{L:List HP}{g:Nat},sl 45 6 (some ⟨g,0,none⟩) l.length cap (l.flatMap flwF)∈L->Rd B w0 L (subA (some ⟨g,0,none⟩) i cap 6) ((l.drop i).flatMap flwF):=λh=>by
  have h1:=Rd.sub (B:=B) (w0:=w0) (q:=6) (o:=i) (k:=l.length-i) (cap:=cap) hq6 (Rd.sl h) hcap
  exact YqF
 apply Ybs (k:=l.length) (by(focus exact zc2)) (by omega)
 rintro g rfl
 have hA:∃g',(some ⟨g,0,none⟩:Option Addr)=some ⟨g',0,none⟩:=⟨g,rfl⟩
 repeat'(first|(apply Ybr T;(iterate 3 exact rfl))|refine zgc ?_|(refine zgf ?_ ?_<;>intro _<;>try exact zo)|fail)
 ·apply ZO T (n':=i);(iterate 4 exact rfl);omega;omega;exact hA
  refine zX3 ?_
  rw[show(l.length:Int)+((1:Nat):Int)-(i:Int)=((l.length+1-i:Nat):Int) by omega]
  apply Wu T (e:=45) (size:=6) (k:=l.length) (xs:=l.flatMap flwF);exact rfl;exact rfl;(focus exact zc2);exact rfl;kernel_rfl;exact rfl;kernel_rfl;omega;intro g2 c2 hc2
  rw[show i+(l.length+1-i)=l.length+1 by omega]at hc2⊢
  have e2:sl 45 6 (some ⟨g2,0,none⟩) i c2 ((l.flatMap flwF).take (i*6))=sl 45 6 (some ⟨g2,0,none⟩) (l.take i).length c2 ((l.take i).flatMap flwF):=by
   rw[Za hq6,TO,SA hi]
  rw[e2]
  have hA2:∃g',(some ⟨g2,0,none⟩:Option Addr)=some ⟨g',0,none⟩:=⟨g2,rfl⟩
  have htl:(l.take i).length=i:=YdT
  refine zX2 ?_
  apply Yq T i (l.length+1-i);(iterate 5 exact rfl);omega;exact rfl
  refine zX2 ?_
  apply Zp T (l.take i) [c] (l.take i++[c]) (f:=flwF) (o:=i) (cap:=c2);exact rfl;exact rfl;exact hrv (by(focus exact zc2));exact hq6;exact ho6;exact rfl;exact rfl;exact hA2;(simp only[TP];omega);exact YrK l c i (by omega);exact zd
  refine zX2 ?_
  apply YC [0,1,2,3,4,5,6,7] [8] [true,true,true]
  kernel_rfl
  kernel_rfl
  exact zy
  (simp only[Yd,nthO];rfl)
  (simp only[Yd,nthO];rfl)
  refine zX11 ?_
  apply Yq T (i+1) (l.length+1-(i+1));(iterate 4 exact rfl);omega;omega;exact rfl
  refine zX2 ?_
  apply Yq T i (l.length-i);(iterate 5 exact rfl);omega;exact rfl
  refine zX3 ?_
  apply Zp T (l.take i++[c]) (l.drop i) (l.take i++c::l.drop i) (f:=flwF) (o:=i+1) (cap:=c2);exact rfl;exact rfl;exact hrs (by(focus exact zc2));exact hq6;exact ho6;exact rfl;exact rfl;exact hA2;(simp only[Tt,TO,TP,TZ];omega);exact YrM l c i hi (by omega);exact zd
  refine zX3 ?_
  apply Yf (flws (some ⟨g2,0,none⟩) c2 (l.take i++c::l.drop i)::H)
  ·exact zc0
  exact YqK
 ·apply ZO T (n':=l.length+1);(iterate 4 exact rfl);omega;omega;exact hA
  refine zX11 ?_
  apply Yq T (i+1) (l.length+1-(i+1));(iterate 4 exact rfl);omega;omega;exact rfl
  apply YfG (gv:=gv) (g:=g) (o:=i+1) (cap:=cap) (k:=l.length) (xs:=l.flatMap flwF);exact rfl;exact rfl;(focus exact zc2);(focus exact zc2);exactλw hw=>Q7 (hw.perm (.swap _ _ _));omega;exact rfl
  refine zX3 ?_
  apply YC [0,1,2,3,4,5,6,7] [8] [true,true]
  kernel_rfl
  kernel_rfl
  exact zy
  (simp only[Yd,nthO];rfl)
  (simp only[Yd,nthO];rfl)
  refine zX11 ?_
  apply Yq T (i+1) (l.length+1-(i+1));(iterate 4 exact rfl);omega;omega;exact rfl
  refine zX2 ?_
  apply Yq T i (l.length+1-i);(iterate 5 exact rfl);omega;exact rfl
  refine zX3 ?_
  apply Zp T l (l.drop i) (l.take (i+1)++l.drop i) (f:=flwF) (o:=i+1) (cap:=cap);exact rfl;exact rfl;exact hrs (by(focus exact zc2));exact hq6;exact ho6;exact rfl;exact rfl;exact hA;(simp only[TZ];omega);exact YrO l i hi (by omega);exact zd
  refine zX3 ?_
  apply Yq T i (l.length+1-i);(iterate 5 exact rfl);omega;exact rfl
  refine zX2 ?_
  apply Zp T (l.take (i+1)++l.drop i) [c] (l.take i++c::l.drop i) (f:=flwF) (o:=i) (cap:=cap);exact rfl;exact rfl;exact hrv (by(focus exact zc2));exact hq6;exact ho6;exact rfl;exact rfl;exact hA;(simp only[Tt,TO,TP,TZ];omega);exact YrQ l c i hlt (by omega);exact zd
  refine zX9 ?_
  apply Yf (flws (some ⟨g,0,none⟩) cap (l.take i++c::l.drop i)::H)
  ·exact zc0
  exact YqI
end Go.Proofs.YtjommdkgfbhbdaaGreatDoor
