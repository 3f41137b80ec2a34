/- Lemmas. -/
import Derived.Test.YtambgjgljcadlaaGreatDoorQ16
import Derived.Test.YtambgjgljcadlaaGreatDoorQ18
set_option maxRecDepth 100000
set_option maxHeartbeats 8000000
set_option linter.all false
namespace Go.Proofs.YtambgjgljcadlaaGreatDoor
open Go.RowKit Go.Eng Go.Nw Go.Rt
theorem YjG(n:NetM)(q:List RqM)(s:SchM)(x:RqM)(h24:s.len<=24){A:Option Addr}{cap B:Nat}{w0:World}{H:List HP}{w:World}(ht:TabsB B w0)(hin:n.In B w0 H)(hq:QIn B w0 H A q)(hrs:Rd B w0 H s.A (s.cells.flatMap celF))(hsl:s.cells.length<=1000000000000)(hx:x.In B w0 H)(hw:St B w0 H w):
 CX B w0 125 [n.val,.slice A q.length cap,s.val,rqV x] w (OutS H (X8 n.net (q.map RqM.rq) s.sch x.rq)):=by
 refine Yc Tryz.func125 Tryz.ntmps125 rfl rfl hw ?_
 have p1:=λ{H':List HP}{w:World}(hin:n.In B w0 H') (hq:QIn B w0 H' A q) (hrs:Rd B w0 H' s.A (s.cells.flatMap celF)) (hw:St B w0 H' w)=>YbQ n q s (cap:=cap) ht hin hq hrs hsl hw
 have pf:=λ{A':Option Addr}{cap':Nat}{q':List RqM}{H':List HP}{w:World}(hin:n.In B w0 H') (hq:QIn B w0 H' A' q') (hw:St B w0 H' w)=>Ybu n q' (cap:=cap') ht hin hq hw
 have pp:=λ(hsm:Sm n.net (Ys (insQ (q.map RqM.rq) x.rq)) s.sch) (hrow:∀r∈x.rows,YoN n (Ys (insQ (q.map RqM.rq) x.rq)) x.f.1 r) (hf:XD n.net.nodes x.f=0) {H':List HP}{w:World}(hin:n.In B w0 H') (hr:Rd B w0 H' s.A (s.cells.flatMap celF)) (hx:x.In B w0 H') (hw:St B w0 H' w)=>Yi5 n _ s x hsm h24 hrow hf hin hr hx hw
 have hn1:n.val=.agg #[.int .i64 n.nodes,.slice n.pA n.rows.length n.pcap,.int .i64 n.noise,.int .i64 n.thr,.slice n.lA n.links.length n.lcap,.slice n.mA n.margin.length n.mcap]:=rfl
 unfold NetM.val SchM.val rqV at*
 clear hn1
 have hlenS:s.sch.len=s.len:=rfl
 have hxf:x.rq.1=x.f:=rfl
 have hop:∀w,St B w0 [many H] w->St B w0 H w:=λw hw=>hw.perm (.openT H)
 have hin:=hin.mono hop
 have hq:=hq.mono hop
 have hrs:=hrs.mono hop
 have hx:=hx.mono hop
 refine Xf [many H] (λw hw=>hw.perm (.closeT H)) ?_
 refine zX68 ?_<;>intros
 rename_i g4 g6 g7 g8
 first|apply Ya YlL|apply Yb YlL
 exact za
 exact rfl
 exactλ_ hw=>(p1 hin.cons.cons.cons.cons hq.cons.cons.cons.cons hrs.cons.cons.cons.cons hw)
 by_cases hc:(YM n.net (q.map RqM.rq) s.sch).2.2=0
 rotate_left
 ·rw[Tn hc]
  refine zX2 ?_
  apply Yq T (H2:=cels none 0 []::H);(iterate 3 exact rfl);(focus exact zc2);exact rfl;exact rfl
  ·intro w hw
   have h5:St B w0 [many H] w:=by
    revert w
    exact zc0
   exact zc59
  exact WB 1 (by rw[X8,Tm hc]) rfl
 rw[Ti hc]
 have hrq:(rqsE n.net (q.map RqM.rq)).2=0:=TN.1 λh1=>by
  unfold YM at hc;rw[Tm h1]at hc;exact h1 hc
 have hck:=(UO hrq).1
 have hql:q.length<=16:=by
  have h1:=(UO hrq).2.1
  unfold Yy at h1
  split at h1
  ·cases h1
  split at h1
  ·cases h1
  rename_i h2
  unfold Ys at h2
  rw[TC,TC]at h2
  omega
 have hord:=YpW hrq
 repeat'(first|(apply zg29;(apply Yp;exact za;exact rfl))|refine zgd ?_|fail)
 first|apply Ya YlR|apply Yb YlR
 exact za
 exact rfl
 exactλ_ hw=>(Ol (λy=>decide (y.f.1=x.f.1)) q 210 [.pointer (some ⟨g7,0,none⟩)] Ywb (by omega) hq.rd.cons.cons.cons.cons (λa _ w hw=>YmV a x g7 (by(focus exact zc2)) hw) hw)
 have hhas:(q.any λy=>decide (y.f.1=x.f.1))=hasQ (q.map RqM.rq) x.f.1:=by
  unfold hasQ;rw[List.any_map];rfl
 rw[hhas]
 cases hh:hasQ (q.map RqM.rq) x.f.1 with
 |true=>
  refine zX2 ?_
  apply Yq T (H2:=cels none 0 []::H);(iterate 3 exact rfl);(focus exact zc2);exact rfl;exact rfl
  ·intro w hw
   have h5:St B w0 [many H] w:=by
    revert w
    exact zc0
   exact zc59
  exact WB 6 (by rw[X8,Td (λe=>e hc),Tm (show hasQ (q.map RqM.rq) x.rq.1.1=true from hh)]) rfl
 |false=>
 have hadm:X8 n.net (q.map RqM.rq) s.sch x.rq=(if(rqsE n.net (insQ (q.map RqM.rq) x.rq)).2≠0 then(JX,1)
  else if s.sch.len.tmod x.rq.1.2.2.2.1≠0 then(JX,11)else match JJ n.net x.rq.1 x.rq.2 s.sch with
   |none=>(JX,18)
   |some t=>if 512<t.cells.length then(JX,8)else(t,0):Sch×Int):=by
  have hh2:¬hasQ (q.map RqM.rq) x.rq.1.1=true:=λh=>by rw[show hasQ (q.map RqM.rq) x.rq.1.1=false from hh]at h;cases h
  unfold X8
  rw[Td (λe=>e hc),Td hh2]
  rfl
 rw[hadm]
 have pi:=λ{H':List HP}{w:World}(hr:Rd B w0 H' A (q.flatMap rqF)) (hw:St B w0 H' w)=>YeJ q x hord (by omega) (cap:=cap) hr hw
 have hkl:posQ (q.map RqM.rq) x.f.1<=q.length:=zc71
 have hmap:=Ysq q x
 have hins:=O5 q x _ hkl
 generalize posQ (q.map RqM.rq) x.f.1=k at*
 unfold rqV at pi
 refine zX4 ?_
 apply YK [0,1,2,3,4,5] [] [true,true,true,true,true]
 kernel_rfl
 kernel_rfl
 exact zy
 (simp only[Yg,nthO];rfl)
 exact rfl
 refine zX2 ?_
 apply Yf _ Ywc
 exact za
 exact rfl
 exactλ_ hw=>(pi hq.rd.cons.cons.cons.cons (hw))
 rintro _ _ ⟨A1,cap1,rfl,rfl⟩
 rw[<-hins]
 have hqi:=hq.insert (A':=A1) (cap':=cap1) hx (by omega) k hkl
 refine zX16 ?_
 first|apply Ya YlS|apply Yb YlS
 exact za
 exact rfl
 exactλ_ hw=>(pf (hin.mono zc0) (hqi.mono zc0) hw)
 rw[hmap,Yfj hck]
 by_cases hrx:(rqsE n.net (insQ (q.map RqM.rq) x.rq)).2=0
 rotate_left
 ·rw[Ti hrx]
  refine zX16 ?_
  apply Yq T (H2:=cels none 0 []::H);(iterate 3 exact rfl);(focus exact zc2);exact rfl;exact rfl
  ·intro w hw
   have h5:St B w0 [many H] w:=by
    revert w
    exact zc0
   exact zc59
  exact WB 1 (by rw[Tm hrx]) rfl
 have hdf:decide ((rqsE n.net (insQ (q.map RqM.rq) x.rq)).2≠0)=false:=Tn (λe=>e hrx)
 rw[hdf,Td (λe=>e hrx)]
 have hxm:x.rq∈insQ (q.map RqM.rq) x.rq:=JD.2 (.inl rfl)
 have hfx:XD n.net.nodes x.f=0:=V0 (UO hrx).2.1 (TD.2 ⟨x.rq,hxm,rfl⟩)
 obtain⟨-,hper,hph,-,hd⟩:=XL hfx
 have hl1:1<=s.len:=by
  have h0:=(Vh.1 (X5.1 (XJ.1 hc).1)).frm.sized
  unfold ZD at h0
  exact(TY h0).1
 have hmm:s.len.tmod x.f.2.2.2.1=s.len%x.f.2.2.2.1:=RJ (by omega)
 by_cases hm:s.len%x.f.2.2.2.1=0
 rotate_left
 ·rw[Tm (show s.sch.len.tmod x.rq.1.2.2.2.1≠0 fromλe=>hm (hmm.symm.trans e))]
  refine zX91 ?_<;>intros
  apply Yq T (H2:=cels none 0 []::H);(iterate 3 exact rfl);(focus exact zc2);exact rfl;exact rfl
  ·intro w hw
   have h5:St B w0 [many H] w:=by
    revert w
    exact zc0
   exact zc59
  exact WB 11 rfl rfl
 rw[Td (show¬s.sch.len.tmod x.rq.1.2.2.2.1≠0 fromλe=>e (hmm.trans hm))]
 obtain⟨hsm,-,hrd⟩:=YmW hc hrx (hmm.trans hm)
 have hrow:∀r∈x.rows,YoN n (Ys (insQ (q.map RqM.rq) x.rq)) x.f.1 r:=λr hr=>by
  obtain⟨h1,h2,h3⟩:=hrd r.xs (TD.2 ⟨r,hr,rfl⟩)
  exact⟨h1,h2,h3⟩
 have pl:=λ{H':List HP}{w:World}=>@pp hsm hrow hfx H' w
 clear pp
 apply ZE [many H,netA g4 n,schA g6 s,rqA g7 x,blk g8 (.cells (Value.agg #[.int .i64 0,.int .i64 0,.slice none 0 0]).cells 30 (0,0))]
 ·exact zc0
 refine zX91 ?_<;>intros
 apply Yf _ Ywd
 exact za
 exact rfl
 exactλ_ hw=>(pl (hin.mono zc0) (hrs.mono zc0) (hx.mono zc0) (hw))
 rintro _ _ ⟨s',ok,P,rfl,ho1,ho2,rfl⟩
 cases ok with
 |false=>
  rw[show JJ n.net x.rq.1 x.rq.2 s.sch=none from ho2 rfl]
  refine zX23 ?_<;>intros
  apply Yq T (H2:=cels none 0 []::H);(iterate 3 exact rfl);(focus exact zc2);exact rfl;exact rfl
  ·intro w hw
   have h5:St B w0 [many H] w:=by
    revert w
    exact zc0
   exact zc59
  exact WB 18 rfl rfl
 |true=>
 obtain⟨h1,h2⟩:=ho1 rfl
 rw[show JJ n.net x.rq.1 x.rq.2 s.sch=some s'.sch from h1]
 have e3:s'.sch.cells=s'.cells:=rfl
 dsimp only
 rw[e3]
 by_cases h512:512<s'.cells.length
 ·rw[Tm h512]
  refine Yrf ?_<;>intros
  apply Yq T (H2:=cels none 0 []::H);(iterate 3 exact rfl);(focus exact zc2);exact rfl;exact rfl
  ·intro w hw
   have h5:St B w0 [many H] w:=by
    revert w
    exact zc0
   exact zc59
  exact WB 8 rfl rfl
 rw[Td h512]
 refine Yrf ?_<;>intros
 apply Yf _ Yia
 exact za
 exact rfl
 exactλ_ hw=>(Vj s'.cells (by omega) (h2.mono zc0) (hw))
 rintro _ _ ⟨A2,c2,rfl,rfl⟩
 refine zX2 ?_
 apply Yq T (H2:=cels A2 c2 s'.cells::H);(iterate 3 exact rfl);(focus exact zc2);exact rfl;exact rfl
 ·intro w hw
  have h5:St B w0 (cels A2 c2 s'.cells::[many H]) w:=by
   revert w
   exact zc0
  exact Yrv
 exact⟨A2,c2,rfl,rfl⟩
structure Pln where
 n:Net
 q:List Rqs
 s:Sch
 c:List Clm
 f:List Int
noncomputable def VF(n:Net)(f:Flw):Rqs×Int:=
 if(ZC n f.2.1 f.2.2.1).2≠0 then(YmB,(ZC n f.2.1 f.2.2.1).2)else((f,[(ZC n f.2.1 f.2.2.1).1]),0)
noncomputable def Vq(n:Net)(f:Flw):Option (List Int×List Int)×Int:=(Un 100000 n f.2.1 f.2.2.1).getD (none,0)
noncomputable def reqE(n:Net)(f:Flw):Rqs×Int:=
 match(Vq n f).1 with
 |some pq=>((f,[pq.1,pq.2]),0)
 |none=>VF n f
noncomputable def YdU(n:Net)(l:List Flw):Int×Int:=YD (λi=>(reqE n (Xg l i)).2) l.length 0
noncomputable def Vy(n:Net)(l:List Flw):List Rqs×(Int×Int):=
 if Yo n≠0 then([],(-1,1))else if(Yy n.nodes l).2≠0 then([],Yy n.nodes l)
 else if(YdU n l).2≠0 then([],YdU n l)else(l.map λf=>(reqE n f).1,(-1,0))
def Yc7(a b:Int):Int:=if a=0 then b else a
def QG(n:Net)(q:List Rqs)(s:Sch)(e:Int):Int:=if e≠0 then e else Yc7 (YM n q s).2.2 (XZ s).2
def finE(n:Net)(q:List Rqs)(s:Sch)(e:Int):Option Pln×Int:=
 if QG n q s e≠0 then(none,QG n q s e)else(some ⟨n,q,s,(YM n q s).1,(XZ s).1⟩,0)
def chkP(p:Pln):Int:=
 if Yo p.n≠0 then 1 else if(YM p.n p.q p.s).2.2=15\/(YM p.n p.q p.s).2.2=1/\(YM p.n p.q p.s).2.1<0 then 18
 else if(YM p.n p.q p.s).2.2≠0 then 1 else if(chkE p.n p.q p.s p.c).2≠0 then 20
 else if(XZ p.s).2≠0\/(XZ p.s).1≠p.f then 11 else 0
def ext1(p:Pln)(x:Rqs)(s:Sch×Int):Option Pln×Int:=if s.2≠0 then(none,18)else finE p.n (insQ p.q x) s.1 0
noncomputable def extP(p:Pln)(f:Flw):Option Pln×Int:=
 if chkP p≠0 then(none,1)else if hasQ p.q f.1=true then(none,6)
 else if(Yy p.n.nodes (Ys (insQ p.q (f,[])))).2≠0 then(none,1)else if p.s.len.tmod f.2.2.2.1≠0 then(none,11)
 else if(Vy p.n [f]).2.2≠0 then(none,(Vy p.n [f]).2.2)
 else if(X8 p.n p.q p.s (reqE p.n f).1).2=0 then finE p.n (insQ p.q (reqE p.n f).1) (X8 p.n p.q p.s (reqE p.n f).1).1 0
 else if(VF p.n f).2≠0 then(none,18)else ext1 p (VF p.n f).1 (X8 p.n p.q p.s (VF p.n f).1)
def idQ(q:List Rqs)(id:Int):Int:=Ym (λx:Rqs=>decide (x.1.1=id)) q 0
def delQ(q:List Rqs)(i:Nat):List Rqs:=q.take i++q.drop (i+1)
def wdrP(p:Pln)(id:Int):Option Pln×Int:=
 if chkP p≠0 then(none,1)else if idQ p.q id<0 then(none,7)else finE p.n (delQ p.q (idQ p.q id).toNat) (Qk p.s id).1 (Qk p.s id).2
end Go.Proofs.YtambgjgljcadlaaGreatDoor
namespace Go.Eng
open Go.RowKit
variable {B:Nat}{w0:World}{H:List HP}
theorem YmT{P:Program}{env:Env}{n:Nat}(T:Tab P){fn:Func}{Φ:Value->List HP->Prop}{p g k u s rt:Nat}{x y:Value}{cs:Array Value}{tt:TypeId}{fr:Nat×Nat}(hr:fn.results=#[.cell p rt,.tmp u,.tmp s])(hp:get env p=some (.pointer (some ⟨g,0,none⟩)))(hu:get env u=some x)(hs:get env s=some y)
 (hm:blk g (.cells cs tt fr)∈H) (ht:look T.ag rt=some k) (hk:cs.size=k) {H2:List HP}(hH:∀w,St B w0 H w->St B w0 H2 w) (h:Φ (.tuple #[.agg cs,x,y]) H2):VQ ⟨n,[],none⟩ B w0 (bodyPost P fn (Post B w0 Φ)) .ret env H:=by
 refine⟨λa w ha hw=>bodyPost_ret (v:=.tuple #[.agg cs,x,y]) ?_ ha.defers ⟨_,H2,rfl,hH w hw,h⟩⟩
 have hp':=ha.slot p _ hp
 simp[results,hr,Array.getD_eq_getD_getElem?,hp',ha.slot u _ hu,ha.slot s _ hs,asAddr,Z4 T (hw.blk hm).1 ht hk]
end Go.Eng
namespace Go.Proofs.YtambgjgljcadlaaGreatDoor
open Go.RowKit Go.Eng Go.Nw Go.Rt
variable {B cap:Nat}{w0:World}{H:List HP}{A:Option Addr}
theorem Yci{l:List Cel}(h:cels A cap l∈H):Rd B w0 H A (l.flatMap celF):=Rd.sl h
theorem YqF{l:List RqM}(h:rqs A cap l∈H):Rd B w0 H A (l.flatMap rqF):=Rd.sl h
theorem Yvz{n:NetM}{q:List RqM}(h:(rqsE n.net (q.map RqM.rq)).2=0):q.length<=16/\∀x∈q,1<=x.f.2.2.2.1:=by
 have h1:=(UO h).2.1
 refine⟨?_,λx hx=>?_⟩
 ·grind [Yy,Ys]
 ·have hfx:XD n.net.nodes x.f=0:=V0 h1 (TD.2 ⟨x.rq,TD.2 ⟨x,hx,rfl⟩,rfl⟩)
  obtain⟨-,hper,-⟩:=XL hfx
  omega
theorem YiZ(n:Net)(s t:Int):∃res,Un 100000 n s t=some res:=by
 unfold Un
 by_cases he:Jo n s t=0
 ·rw[Td (λh=>h he)]
  obtain⟨hck,hs,ht,hst⟩:=Ygt he
  obtain⟨r,hr,h⟩:=Yn5 (YN hck) hs ht hst
  rcases h with⟨_,_,mp,mq,h2,_⟩|⟨_,h2,_⟩
  ·rw[h2]
   dsimp only
   split<;>exact⟨_,rfl⟩
  ·rw[h2];exact⟨_,rfl⟩
 ·rw[Tm he];exact⟨_,rfl⟩
theorem Yn7(n:Net)(f:Flw):Un 100000 n f.2.1 f.2.2.1=some (Vq n f):=by
 obtain⟨res,h⟩:=YiZ n f.2.1 f.2.2.1
 unfold Vq
 rw[h];rfl
theorem Yn6{n:Net}{f:Flw}(h:Un 100000 n f.2.1 f.2.2.1=some (Vq n f)):((Vq n f).1=none/\(Vq n f).2≠0)\/∃p q,Vq n f=(some (p,q),0):=by
 generalize Vq n f=R at h⊢
 unfold Un at h
 by_cases he:Jo n f.2.1 f.2.2.1=0
 rotate_left
 ·rw[Tm he]at h
  rw[<-Tv h]
  exact .inl ⟨rfl,he⟩
 rw[Td (λe=>e he)]at h
 split at h
 ·cases h
 ·rw[<-Tv h];exact .inl ⟨rfl,by decide⟩
 ·rename_i pq _
  split at h
  ·rw[<-Tv h];exact .inl ⟨rfl,by decide⟩
  ·rw[<-Tv h];exact .inr ⟨pq.1,pq.2,rfl⟩
theorem YvC(n:Net)(s t:Int):(ZC n s t).1.length<=9:=by
 unfold ZC
 repeat' split
 all_goals(first|(simp;done)|(simp only;omega))
variable {B:Nat}{w0 w:World}{H:List HP}
theorem JQ(n:NetM)(hin:n.In B w0 H)(hw:St B w0 H w):
 CX B w0 37 [n.val] w λv K=>v=.bool (decide (Yo n.net=0))/\K=H:=by
 refine Yc Tryz.func37 Tryz.ntmps37 rfl rfl hw ?_
 have p1:=λ{H':List HP}{w:World}(hin:n.In B w0 H') (hw:St B w0 H' w)=>YmD n [] (A:=none) (cap:=0) hin .nil (by decide) (by decide) hw
 have hc:(Yhj n.net []).2=if Yo n.net≠0 then 1 else 9:=by
  unfold Yhj
  by_cases h:Yo n.net=0
  ·rw[Td (show¬Yo n.net≠0 fromλe=>e h),Td (show¬Yo n.net≠0 fromλe=>e h)];rfl
  simp_all
 unfold NetM.val at p1⊢
 by_cases h:Yo n.net=0
 ·rw[Td (λe=>e h)]at hc
  rw[hc]at p1
  rw[Ti h]
  refine zX68 ?_<;>intros
  first|apply Ya en95|apply Yb en95
  exact za
  exact rfl
  exactλ_ hw=>(p1 hin.cons hw)
  refine zX1 ?_<;>intros
  apply Yi H
  ·exact zc0
  exact zc13
 ·rw[Tm h]at hc
  rw[hc]at p1
  rw[Tn h]
  refine zX68 ?_<;>intros
  first|apply Ya en95|apply Yb en95
  exact za
  exact rfl
  exactλ_ hw=>(p1 hin.cons hw)
  refine zX1 ?_<;>intros
  apply Yi H
  ·exact zc0
  exact zc5
def rqQ(x:RqM):HP:=many [sl 64 1 x.A x.rows.length x.cap (x.rows.flatMap rowF),many (x.rows.map rowQ)]
def RqM.lens(x:RqM):Prop:=x.rows.length<=1000/\∀r∈x.rows,r.xs.length<=1000/\r.xs.length<=r.cap
theorem YqO{x:RqM}(hm:rqQ x∈H)(hl:x.lens):x.In B w0 H:=by
 have hb:∀w,St B w0 H w->St B w0 [sl 64 1 x.A x.rows.length x.cap (x.rows.flatMap rowF),many (x.rows.map rowQ)] w:=λw hw=>hw.inM hm
 refine RqM.In.mono ⟨.sl (.head _),λr hr=>?_,Rh hl.1 (by decide),λr hr=>⟨Rh (hl.2 r hr).1 (by decide),(hl.2 r hr).2⟩⟩ hb
 exact Rd.many (L:=x.rows.map rowQ) (.tail _ (.head _)) (SC hr)
def YjF:RqM:=⟨(0,0,0,0,0,0),none,0,[]⟩
theorem YwJ(h:St B w0 H w):St B w0 (rqQ YjF::H) w:=by
 exact((h.perm (.noMany H)).nilSlice 64 1).perm (.close [_,_] H)
def OutQ(H:List HP)(R:Rqs×Int)(v:Value)(K:List HP):Prop:=∃x:RqM,v=.tuple #[rqV x,.int .i64 R.2]/\x.rq=R.1/\x.lens/\K=rqQ x::H
theorem YsL{R:Rqs×Int}{v:Value}(e:Int)(hR:R=(YmB,e))(hv:v=.tuple #[rqV YjF,.int .i64 e]):OutQ H R v (rqQ YjF::H):=⟨YjF,by simp_all,by rw[hR];rfl,⟨Tj _,λr hr=>by cases hr⟩,rfl⟩
theorem Qw(n:NetM)(f:Flw)(hin:n.In B w0 H)(hw:St B w0 H w):
 CX B w0 126 [n.val,flwV f] w (OutQ H (VF n.net f)):=by
 refine Yc Tryz.func126 Tryz.ntmps126 rfl rfl hw ?_
 have p1:=λ{H':List HP}{w:World}(hin:n.In B w0 H') (hw:St B w0 H' w)=>YeQ n f.2.1 f.2.2.1 hin hw
 have hl9:=YvC n.net f.2.1 f.2.2.1
 have hsing:VF n.net f=if(ZC n.net f.2.1 f.2.2.1).2≠0 then(YmB,(ZC n.net f.2.1 f.2.2.1).2)else((f,[(ZC n.net f.2.1 f.2.2.1).1]),0):=rfl
 rw[hsing]
 clear hsing
 generalize ZC n.net f.2.1 f.2.2.1=R at*
 unfold NetM.val at p1⊢
 unfold flwV
 refine zX68 ?_<;>intros
 apply Yf _ Ywe
 exact za
 exact rfl
 exactλ_ hw=>(p1 hin.cons.cons.cons (hw))
 rintro _ _ ⟨A,cap,rfl,-,-,rfl⟩
 apply Wk (e:=3) (size:=1) (k:=R.1.length) (cap:=cap) (A:=A) (xs:=R.1.flatMap numF) (by(focus exact zc2))
 intro hcap
 obtain⟨r,e⟩:=R
 dsimp only at hl9 hcap⊢
 by_cases he:e=0
 ·rw[Td (λh=>h he)]
  refine zX43 ?_<;>intros
  rename_i gL
  apply Yq T (H2:=rqQ ⟨f,some ⟨gL,0,none⟩,1,[⟨A,cap,r⟩]⟩::H);(iterate 3 exact rfl);(focus exact zc2);exact rfl;exact rfl
  ·intro w hw
   have h5:St B w0 (blk gL (.cells #[.slice A r.length cap] 64 (0,0))::ints A cap r::H) w:=by
    revert w
    exact zc0
   have h6:=h5.blk_sl (cs:=[Value.slice A r.length cap]) (len:=1) (size:=1) rfl (by omega)
   exact(h6.perm (.cons _ (.close [_] H))).perm (.close [_,_] H)
  refine⟨_,rfl,rfl,⟨Ri rfl,λx hx=>?_⟩,rfl⟩
  rw[TU.1 hx]
  exact⟨by show r.length<=_;omega,hcap⟩
 ·rw[Tm he]
  refine zX0 ?_<;>intros
  apply Yq T (H2:=rqQ YjF::H);(iterate 3 exact rfl);(focus exact zc2);exact rfl;exact rfl
  ·intro w hw
   have h5:St B w0 H w:=by
    revert w
    exact zc0
   exact YwJ h5
  exact YsL e rfl rfl
theorem YdV(n:NetM)(f:Flw)(hrun:Un 100000 n.net f.2.1 f.2.2.1=some (Vq n.net f))(hin:n.In B w0 H)(hw:St B w0 H w):
 CX B w0 141 [n.val,flwV f] w (OutQ H (reqE n.net f)):=by
 refine Yc Tryz.func141 Tryz.ntmps141 rfl rfl hw ?_
 have p1:=λ{H':List HP}{w:World}(hin:n.In B w0 H') (hw:St B w0 H' w)=>YmG n f.2.1 f.2.2.1 100000 (Vq n.net f) (TK _) hrun hin hw
 have p2:=λ{H':List HP}{w:World}(hin:n.In B w0 H') (hw:St B w0 H' w)=>Qw n f hin hw
 have hreq:reqE n.net f=match(Vq n.net f).1 with|some pq=>((f,[pq.1,pq.2]),0)|none=>VF n.net f:=rfl
 rw[hreq]
 clear hreq
 unfold NetM.val flwV at p2
 unfold NetM.val at p1⊢
 unfold flwV
 rcases Yn6 hrun with⟨h1,h2⟩|⟨a,b,h1⟩
 ·generalize Vq n.net f=R at*
  obtain⟨o,e⟩:=R
  dsimp only at h1 h2
  subst h1
  dsimp only at p1⊢
  refine zX68 ?_<;>intros
  first|apply Ya YpG|apply Yb YpG
  exact za
  exact rfl
  exactλ_ hw=>(p1 hin.cons.cons.cons hw)
  refine zX1 ?_<;>intros
  apply Yf _ Ytq
  exact za
  exact rfl
  exactλ_ hw=>(p2 hin.cons.cons.cons (hw))
  rintro _ _ ⟨x,rfl,hx,hxl,rfl⟩
  unfold rqV
  refine zX9 ?_
  apply Yq T (H2:=rqQ x::H);(iterate 3 exact rfl);(focus exact zc2);exact rfl;exact rfl
  ·exact zc0
  exact⟨x,rfl,hx,hxl,rfl⟩
 ·rw[h1]at p1⊢
  dsimp only at p1⊢
  refine zX68 ?_<;>intros
  apply Yf _ YpG
  exact za
  exact rfl
  exactλ_ hw=>(p1 hin.cons.cons.cons (hw))
  rintro _ _ ⟨g,A1,c1,A2,c2,rfl,⟨l1,l2,l3⟩,-,rfl⟩
  apply Wk (e:=3) (size:=1) (k:=a.length) (cap:=c1) (A:=A1) (xs:=a.flatMap numF) (by(focus exact zc2))
  intro hc1
  apply Wk (e:=3) (size:=1) (k:=b.length) (cap:=c2) (A:=A2) (xs:=b.flatMap numF) (by(focus exact zc2))
  intro hc2
  try dsimp only at l1 l2 l3
  refine zX0 ?_<;>intros
  apply Yq T (H2:=rqQ ⟨f,some ⟨g,0,none⟩,2,[⟨A1,c1,a⟩,⟨A2,c2,b⟩]⟩::H);(iterate 3 exact rfl);(focus exact zc2);exact rfl;exact rfl
  ·intro w hw
   have h5:St B w0 (sl 64 1 (some ⟨g,0,none⟩) 2 2 ([⟨A1,c1,a⟩,⟨A2,c2,b⟩].flatMap rowF)::ints A1 c1 a::ints A2 c2 b::H) w:=by
    revert w
    exact zc0
   exact(h5.perm (.cons _ (.close [_,_] H))).perm (.close [_,_] H)
  refine⟨_,rfl,rfl,⟨Ri rfl,λx hx=>?_⟩,rfl⟩
  simp only[TI,RG,NB]at hx
  rcases hx with rfl|rfl
  ·exact⟨by show a.length<=_;omega,hc1⟩
  ·exact⟨by show b.length<=_;omega,hc2⟩
theorem YdG(q:List RqM)(x:RqM)(H:List HP):Perm (rqQ x::many (q.map rqQ)::H) (many ((q++[x]).map rqQ)::H):=by
 have:=Perm.push (rqQ x) (q.map rqQ) [] H
 simp_all
def YoL(H:List HP)(R:List Rqs×(Int×Int))(v:Value)(K:List HP):Prop:=∃A cap q,v=.tuple #[.slice A (q:List RqM).length cap,.int .i64 R.2.1,.int .i64 R.2.2]/\q.map RqM.rq=R.1/\(∀x∈q,x.lens)/\K=rqs A cap q::many (q.map rqQ)::H
variable {B:Nat}{w0 w:World}{H:List HP}
theorem YgH(h:St B w0 H w):St B w0 (rqs none 0 []::many (([]:List RqM).map rqQ)::H) w:=(h.perm (.noMany H)).nilSlice 56 7
theorem Yqw{R:List Rqs×(Int×Int)}{v:Value}(i e:Int)(hR:R=([],(i,e)))(hv:v=.tuple #[.slice none 0 0,.int .i64 i,.int .i64 e]):YoL H R v (rqs none 0 []::many (([]:List RqM).map rqQ)::H):=
 ⟨none,0,[],by simp_all,by simp_all,(λx hx=>by cases hx),rfl⟩
theorem Yml{q:List RqM}{x:RqM}(hm:many (q.map rqQ)∈H)(hx:x∈q)(hl:x.lens):x.In B w0 H:=
 RqM.In.mono (H:=q.map rqQ) (YqO (SC hx) hl) λ_ hw=>hw.inM hm
structure RtM where
 i:Nat
 A:Option Addr
 cap:Nat
 q:List RqM
theorem YeM(n:NetM)(l:List Flw)(hll:l.length<=1000000000000)(hrun:∀f∈l,Un 100000 n.net f.2.1 f.2.2.1=some (Vq n.net f)){A:Option Addr}{cap:Nat}(hin:n.In B w0 H)(hr:Rd B w0 H A (l.flatMap flwF))(hw:St B w0 H w):
 CX B w0 77 [n.val,.slice A l.length cap] w (YoL H (Vy n.net l)):=by
 refine Yc Tryz.func77 Tryz.ntmps77 rfl rfl hw ?_
 have p1:=λ{H':List HP}{w:World}(hin:n.In B w0 H') (hw:St B w0 H' w)=>JQ n hin hw
 have p2:=λ{H':List HP}{w:World}(hr:Rd B w0 H' A (l.flatMap flwF)) (hw:St B w0 H' w)=>Y0 n.nodes l (Rh hll (by decide)) (cap:=cap) hr hw
 have p3:=λ(f:Flw) (hf:f∈l) {H':List HP}{w:World}(hin:n.In B w0 H') (hw:St B w0 H' w)=>YdV n f (hrun f hf) hin hw
 have hop:∀w,St B w0 [many H] w->St B w0 H w:=λw hw=>hw.perm (.openT H)
 have hin:=hin.mono hop
 have hr:=hr.mono hop
 unfold NetM.val flwV at p3
 unfold NetM.val at p1⊢
 refine Xf [many H] (λw hw=>hw.perm (.closeT H)) ?_
 unfold Vy
 by_cases hck:Yo n.net=0
 rotate_left
 ·rw[Tm hck]
  rw[Tn hck]at p1
  refine zX68 ?_<;>intros
  first|apply Ya en37|apply Yb en37
  exact za
  exact rfl
  exactλ_ hw=>(p1 hin.cons hw)
  refine zX2 ?_
  apply Yi (rqs none 0 []::many (([]:List RqM).map rqQ)::H)
  ·intro w hw
   have h5:St B w0 [many H] w:=by
    revert w
    exact zc0
   exact YgH (hop w h5)
  exact zc63
 rw[Td (λe=>e hck)]
 rw[Ti hck]at p1
 have hnd:n.net.nodes=n.nodes:=rfl
 rw[hnd]
 obtain⟨⟨fi,fe⟩,hF⟩:∃R,Yy n.nodes l=R:=⟨_,rfl⟩
 rw[hF]at p2⊢
 dsimp only at p2⊢
 refine zX68 ?_<;>intros
 first|apply Ya en37|apply Yb en37
 exact za
 exact rfl
 exactλ_ hw=>(p1 hin.cons hw)
 refine zX2 ?_
 first|apply Ya en74|apply Yb en74
 exact za
 exact rfl
 exactλ_ hw=>(p2 hr.cons hw)
 by_cases hfe:fe=0
 rotate_left
 ·rw[Tm hfe]
  refine zX1 ?_<;>intros
  apply Yi (rqs none 0 []::many (([]:List RqM).map rqQ)::H)
  ·intro w hw
   have h5:St B w0 [many H] w:=by
    revert w
    exact zc0
   exact YgH (hop w h5)
  exact zc63
 subst hfe
 rw[Td (λe=>e rfl)]
 have hl16:l.length<=16:=by
  unfold Yy at hF
  split at hF
  ·cases hF
  split at hF
  ·cases hF
  ·omega
 obtain⟨F,hFd⟩:∃F,(λi=>(reqE n.net (Xg l i)).2)=F:=⟨_,rfl⟩
 have hFv:∀{i:Nat}{f:Flw},l[i]? =some f->F i=(reqE n.net f).2:=λ{i f} h=>by
  rw[<-hFd]
  show(reqE n.net (Xg l i)).2=_
  unfold Xg
  rw[Tu,h];rfl
 unfold YdU
 rw[hFd]
 refine zX1 ?_<;>intros
 rename_i g2 _
 refine Yj (λz:RtM=>[(30,.int .i64 (z.i:Nat)),(29,.int .i64 l.length),(28,.slice A l.length cap),(9,.slice z.A z.q.length z.cap),(2,.pointer (some ⟨g2,0,none⟩))]) (λz=>rqs z.A z.cap z.q::many (z.q.map rqQ)::netA g2 n::[many H])
  (λz=>z.i<=l.length/\z.q.map RqM.rq=(l.take z.i).map (λf=>(reqE n.net f).1)/\(∀x∈z.q,x.lens)/\∀j,0<=j->j<z.i->F j=0) (λz=>l.length-z.i) ⟨0,none,0,[]⟩ ⟨Tj _,rfl,(λx hx=>by cases hx),λj _ h=>absurd h (R9 _)⟩ ?_ ?_ ?_
 ·exact zc1
 ·intro w hw
  have h5:St B w0 (netA g2 n::[many H]) w:=by
   revert w
   exact zc0
  exact YgH h5
 rintro⟨i,A1,c1,q⟩ ⟨hi,hq,hql,hz⟩ K hK
 dsimp only at hi hq hql hz⊢
 have hqn:q.length=i:=by
  have:=TE List.length hq
  exact YuI
 by_cases hlt:i<l.length
 rotate_left
 ·obtain rfl:i=l.length:=by omega
  have hfe:=Zv (f:=F) (r:=l.length) (i0:=0) λj h1 h2=>hz j h1 (by omega)
  rw[hfe,Td (λe=>e rfl)]
  rw[TQ]at hq
  clear hK
  refine zX1 ?_<;>intros
  apply Yi (rqs A1 c1 q::many (q.map rqQ)::H)
  ·intro w hw
   have h5:St B w0 (rqs A1 c1 q::many (q.map rqQ)::[many H]) w:=by
    revert w
    exact zc0
   exact Yrs
  apply Ur;(iterate 4 exact rfl)
  exact⟨A1,c1,q,rfl,hq,hql,rfl⟩
 obtain⟨f,hf⟩:∃f,l[i]? =some f:=⟨_,Ta hlt⟩
 have hr2:Rd B w0 (rqs A1 c1 q::many (q.map rqQ)::netA g2 n::[many H]) A (l.flatMap flwF):=hr.cons.cons.cons
 have hFi:=hFv hf
 have hst:(l.take (i+1)).map (λf=>(reqE n.net f).1)=(l.take i).map (λf=>(reqE n.net f).1)++[(reqE n.net f).1]:=by
  rw[TM,hf,Rl];rfl
 have p4:=λ{H':List HP}{w:World}(hin:n.In B w0 H') (hw:St B w0 H' w)=>p3 f (Tf hf) (H':=H') (w:=w) hin hw
 clear p3
 generalize reqE n.net f=RQ at p4 hFi hst
 obtain⟨rq,re⟩:=RQ
 dsimp only at hFi hst
 refine zX43 ?_<;>intros
 apply Yf _ YvU
 exact za
 exact rfl
 exactλ_ hw=>(p4 (hin.mono zc0) (hw))
 rintro _ _ ⟨x,rfl,hx,hxl,rfl⟩
 dsimp only at hx⊢
 by_cases he:re=0
 rotate_left
 ·have hfe:=Zu (f:=F) (r:=l.length) (i0:=0) (i:=i) (λj h1 h2=>hz j h1 h2) (Tj _) (by omega) (by rw[hFi];exact he)
  rw[hfe,Tm (by rw[hFi];exact he),hFi]
  clear hK
  refine zX43 ?_<;>intros
  apply Yi (rqs none 0 []::many (([]:List RqM).map rqQ)::H)
  ·intro w hw
   have h5:St B w0 [many H] w:=by
    revert w
    exact zc0
   exact YgH (hop w h5)
  exact zc63
 subst he
 unfold rqV rqs
 refine Yrg ?_<;>intros
 rename_i A2 c2
 apply hK ⟨i+1,A2,c2,q++[x]⟩
 ·refine⟨by exact Yes,?_,λy hy=>?_,λj h1 h2=>?_⟩
  ·show(q++[x]).map RqM.rq=_
   rw[Rl,hq,hst]
   exact TE _ (TE (λz=>[z]) hx)
  ·rcases TJ.1 hy with hy|hy
   ·exact hql y hy
   ·rw[TU.1 hy];exact hxl
  ·rcases S9.1 h2 with h|rfl
   ·exact hz j h1 h
   ·exact hFi
 ·exact zc64
 ·rw[Tq]
  exact zc1
 ·intro w hw
  have h5:St B w0 (rqQ x::many (q.map rqQ)::rqs A2 c2 (q++[x])::netA g2 n::[many H]) w:=by
   rw[<-YfK]
   revert w
   exact zc0
  have h6:=h5.perm (YdG q x _)
  exact h6.perm (.swap _ _ _)
structure BuM where
 n:NetM
 qA:Option Addr
 qcap:Nat
 q:List RqM
 s:SchM
 cA:Option Addr
 ccap:Nat
 c:List ClM
 fA:Option Addr
 fcap:Nat
 f:List Int
 e:Int
abbrev bldA(g:Nat)(b:BuM):HP:=blk g (.cells #[.int .i64 b.n.nodes,.slice b.n.pA b.n.rows.length b.n.pcap,.int .i64 b.n.noise,.int .i64 b.n.thr,.slice b.n.lA b.n.links.length b.n.lcap,.slice b.n.mA b.n.margin.length b.n.mcap,.slice b.qA b.q.length b.qcap,.int .i64 b.s.len,.int .i64 b.s.off,.slice b.s.A b.s.cells.length b.s.cap,.slice b.cA b.c.length b.ccap,.slice b.fA b.f.length b.fcap,.int .i64 b.e] 164 (0,0))
def BuM.fail(b:BuM)(e:Int):BuM:={b with e:=Yc7 b.e e}
theorem Ybt(b:BuM)(g:Nat)(e:Int){B:Nat}{w0:World}{H:List HP}{w:World}(hw:St B w0 (bldA g b::H) w):
 CX B w0 80 [.pointer (some ⟨g,0,none⟩),.int .i64 e] w λv K=>v=.tuple #[]/\K=bldA g (b.fail e)::H:=by
 refine Yc Tryz.func80 Tryz.ntmps80 rfl rfl hw ?_
 unfold BuM.fail Yc7
 by_cases h:b.e=0
 ·rw[Tm h]
  refine zX0 ?_<;>intros
  all_goals first|(exfalso;contradiction)|skip
  exact zc99
 ·rw[Td h]
  refine zX0 ?_<;>intros
  all_goals first|(exfalso;contradiction)|skip
  exact zc99
variable {A:Option Addr}{cap B:Nat}{w0 w:World}{H:List HP}
theorem YcS(l:List RowM)(hlen:l.length<=1000)(hr:Rd B w0 H A (l.flatMap rowF))(hw:St B w0 H w):
 CX B w0 152 [.slice A l.length cap] w λv K=>∃A' cap',v=.slice A' l.length cap'/\K=sl 64 1 A' l.length cap' (l.flatMap rowF)::H:=by
 cases A with
 |none=>
  have hl:l=[]:=by
   cases l with
   |nil=>rfl
   |cons x l=>
    exact zc31
  subst hl
  refine Yc Tryz.func152 Tryz.ntmps152 rfl rfl hw ?_
  refine zX6 ?_
  apply Xk 64 1;exact zc33
 |some a=>
  refine Yc Tryz.func152 Tryz.ntmps152 rfl rfl hw ?_
  repeat'(first|(apply Zt;(iterate 3 exact rfl))|(apply XH T;exact rfl;exact rfl;intro g2)|refine zga ?_|fail)
  apply Xs T (f:=rowF) (l2:=l) (e:=64) (size:=1) (xs:=[]);(iterate 3 exact rfl);exact hr.cons;exact(λ_=>rfl);exact(λ_=>rfl);exact rfl;(intro _ _;exact zd);omega;intro A' cap'
  exact zc23
theorem YcR(l:List Lk)(hlen:l.length<=1000)(hr:Rd B w0 H A (l.flatMap lkF))(hw:St B w0 H w):
 CX B w0 149 [.slice A l.length cap] w λv K=>∃A' cap',v=.slice A' l.length cap'/\K=sl 124 3 A' l.length cap' (l.flatMap lkF)::H:=by
 cases A with
 |none=>
  have hl:l=[]:=by
   cases l with
   |nil=>rfl
   |cons x l=>
    exact zc31
  subst hl
  refine Yc Tryz.func149 Tryz.ntmps149 rfl rfl hw ?_
  refine zX6 ?_
  apply Xk 124 3;exact zc33
 |some a=>
  refine Yc Tryz.func149 Tryz.ntmps149 rfl rfl hw ?_
  repeat'(first|(apply Zt;(iterate 3 exact rfl))|(apply XH T;exact rfl;exact rfl;intro g2)|refine zga ?_|fail)
  apply Xs T (f:=lkF) (l2:=l) (e:=124) (size:=3) (xs:=[]);(iterate 3 exact rfl);exact hr.cons;exact(λ_=>rfl);exact(λ_=>rfl);exact rfl;(intro _ _;exact zd);omega;intro A' cap'
  exact zc23
structure PnM where
 n:NetM
 qA:Option Addr
 qcap:Nat
 q:List RqM
 s:SchM
 cA:Option Addr
 ccap:Nat
 c:List ClM
 fA:Option Addr
 fcap:Nat
 f:List Int
def PnM.val(p:PnM):Value:=.agg #[.int .i64 p.n.nodes,.slice p.n.pA p.n.rows.length p.n.pcap,.int .i64 p.n.noise,.int .i64 p.n.thr,.slice p.n.lA p.n.links.length p.n.lcap,.slice p.n.mA p.n.margin.length p.n.mcap,.slice p.qA p.q.length p.qcap,.int .i64 p.s.len,.int .i64 p.s.off,.slice p.s.A p.s.cells.length p.s.cap,.slice p.cA p.c.length p.ccap,.slice p.fA p.f.length p.fcap]
def PnM.pln(p:PnM):Pln:=⟨p.n.net,p.q.map RqM.rq,p.s.sch,p.c.map ClM.clm,p.f⟩
structure PnM.In(B:Nat)(w0:World)(H:List HP)(p:PnM):Prop where
 n:p.n.In B w0 H
 q:QIn B w0 H p.qA p.q
 s:Rd B w0 H p.s.A (p.s.cells.flatMap celF)
 sl:p.s.cells.length<=1000000000000
 c:CIn B w0 H p.cA p.c
 f:Rd B w0 H p.fA (p.f.flatMap numF)
 fl:p.f.length<=1000000000000
variable {p:PnM}
theorem PnM.In.mono{H':List HP}(h:p.In B w0 H)(hH:∀w,St B w0 H' w->St B w0 H w):p.In B w0 H':=⟨h.n.mono hH,h.q.mono hH,h.s.mono hH,h.sl,h.c.mono hH,h.f.mono hH,h.fl⟩
theorem PnM.In.cons{X:HP}(h:p.In B w0 H):p.In B w0 (X::H):=h.mono λ_ hw=>hw.tail
def zeroPnV:Value:=.agg #[.int .i64 0,.slice none 0 0,.int .i64 0,.int .i64 0,.slice none 0 0,.slice none 0 0,.slice none 0 0,.int .i64 0,.int .i64 0,.slice none 0 0,.slice none 0 0,.slice none 0 0]
def Ybh(B:Nat)(w0:World)(H:List HP)(R:Option Pln×Int)(v:Value)(K:List HP):Prop:=
 (R.1=none/\v=.tuple #[zeroPnV,.int .i64 R.2]/\K=H)\/∃(p:PnM) (X:List HP),R.1=some p.pln/\v=.tuple #[p.val,.int .i64 R.2]/\p.In B w0 [many X]/\K=many X::H
def Ys7(B:Nat)(w0:World)(H:List HP)(s:SchM)(R:Option Pln×Int)(v:Value)(K:List HP):Prop:=
 (R.1=none/\v=.tuple #[zeroPnV,.int .i64 R.2]/\K=H)\/∃(p:PnM) (X:List HP),R.1=some p.pln/\v=.tuple #[p.val,.int .i64 R.2]/\(∀H',Rd B w0 H' s.A (s.cells.flatMap celF)->p.In B w0 (many X::H'))/\K=many X::H
structure RwsM where
 i:Nat
 R:List RowM
structure RqsM where
 i:Nat
 Q:List RqM
variable {i:Nat}
theorem Ymq{l:List RowM}{r:RowM}{A:Option Addr}{cap:Nat}(h:l[i]? =some r):(l.set i ⟨A,cap,r.xs⟩).map (·.xs)=l.map (·.xs):=by
 apply Na
 grind
variable {α:Type}
theorem take_set{l:List α}{a:α}(h:i<l.length):(l.set i a).take (i+1)=l.take i++[a]:=by
 simp_all [List.take_add_one,List.take_set_of_le]
theorem Yc3{l m:List α}{a:α}(h:l.drop i=m.drop i):(l.set i a).drop (i+1)=m.drop (i+1):=by
 rw[List.drop_set_of_lt (by omega),<-SX,<-SX,h]
theorem Ygk{l m:List α}{a:α}(h:l.drop i=m.drop i)(hm:m[i]? =some a):l[i]? =some a:=by
 have e1:(l.drop i)[0]? =(m.drop i)[0]? :=by rw[h]
 grind
theorem UK(b:BuM)(g:Nat){B:Nat}{w0:World}{H:List HP}{w:World}(ht:TabsB B w0)(hin:b.n.In B w0 H)(hq:QIn B w0 H b.qA b.q)(hrs:Rd B w0 H b.s.A (b.s.cells.flatMap celF))(hsl:b.s.cells.length<=1000000000000)(hw:St B w0 (bldA g b::H) w):
 CX B w0 82 [.pointer (some ⟨g,0,none⟩)] w (Ys7 B w0 H b.s (finE b.n.net (b.q.map RqM.rq) b.s.sch b.e)):=by
 refine Yc Tryz.func82 Tryz.ntmps82 rfl rfl hw ?_
 obtain⟨n,qA,qcap,q,s,cA,ccap,c,fA,fcap,f,e⟩:=b
 dsimp only at hin hq hrs hsl⊢
 have hop:∀w,St B w0 [many H] w->St B w0 H w:=λw hw=>hw.perm (.openT H)
 have hin0:=hin
 have hq0:=hq
 have hin:=hin.mono hop
 have hq:=hq.mono hop
 have hrs:=hrs.mono hop
 have p1:=λ{H':List HP}{w:World}(hin:n.In B w0 H') (hq:QIn B w0 H' qA q) (hrs:Rd B w0 H' s.A (s.cells.flatMap celF)) (hw:St B w0 H' w)=>U9 n q s (cap:=qcap) ht hin hq hrs hsl hw
 have p2:=λ{H':List HP}{w:World}(hrs:Rd B w0 H' s.A (s.cells.flatMap celF)) (hw:St B w0 H' w)=>YeU s ht hrs hsl hw
 unfold OutC NetM.val SchM.val at p1
 unfold SchM.val at p2
 refine Xf (bldA g ⟨n,qA,qcap,q,s,cA,ccap,c,fA,fcap,f,e⟩::[many H]) (λw hw=>hw.perm (.cons _ (.closeT H))) ?_
 dsimp only[bldA]
 unfold finE QG
 by_cases he:e=0
 rotate_left
 ·rw[Tm he,Tm he]
  refine Yrj ?_<;>intros
  apply YK [0,1,2,3,4,5,6] [] [false,true,true]
  kernel_rfl
  kernel_rfl
  exact zy
  (simp only[Yg,nthO];rfl)
  exact rfl
  refine YjE ?_
  apply Yq T (H2:=H);(iterate 3 exact rfl);(focus exact zc2);exact rfl;exact rfl
  ·intro w hw
   have h5:St B w0 [many H] w:=by
    revert w
    exact zc0
   exact hop w h5
  exact .inl ⟨rfl,rfl,rfl⟩
 subst he
 rw[Td (show¬(0:Int)≠0 fromλe=>e rfl)]
 obtain⟨⟨RC,ri,re⟩,hR⟩:∃R,YM n.net (q.map RqM.rq) s.sch=R:=⟨_,rfl⟩
 obtain⟨⟨RF,fe⟩,hRF⟩:∃R,XZ s.sch=R:=⟨_,rfl⟩
 rw[hR]at p1⊢
 rw[hRF]at p2⊢
 dsimp only at p1 p2⊢
 have p3:=λ(b:BuM) (e:Int) {H':List HP}{w:World}(hw:St B w0 (bldA g b::H') w)=>Ybt b g e hw
 unfold BuM.fail at p3
 refine Yrj ?_<;>intros
 rename_i g2 _
 apply UR [0,1,2,3,4,5,6,7,8,9,10,11,12,13,14,15,16,17,19,20,18,21,22,23] [0,19,20,24,25] [24,25] [true,true,true]
 kernel_rfl
 kernel_rfl
 exact zy
 (simp only[Yg,nthO];rfl)
 (simp only[Yg,nthO];rfl)
 refine OR ?_
 apply Yf _ en38
 exact za
 exact rfl
 exactλ_ hw=>(p1 (hin.mono zc0) (hq.mono zc0) (hrs.mono zc0) (hw))
 rintro _ _ ⟨A2,c2,C,rfl,hC,hCl,rfl⟩
 refine YjE ?_
 apply XI [bldA g ⟨n,qA,qcap,q,s,A2,c2,C,fA,fcap,f,0⟩] _ en80
 exact za
 try exact zl
 exact zp
 exact rfl
 exactλ_ hw=>(p3 ⟨n,qA,qcap,q,s,A2,c2,C,fA,fcap,f,0⟩ re hw)
 rintro _ _ ⟨rfl,rfl⟩
 rw[show Yc7 (BuM.e ⟨n,qA,qcap,q,s,A2,c2,C,fA,fcap,f,0⟩) re=re from Tm rfl]
 dsimp only[bldA]
 refine OR ?_
 apply Yf _ en40
 exact za
 exact rfl
 exactλ_ hw=>(p2 (hrs.mono zc0) (hw))
 rintro _ _ ⟨A3,rfl,rfl⟩
 refine OR ?_
 apply XI [bldA g ⟨n,qA,qcap,q,s,A2,c2,C,A3,RF.length,RF,re⟩] _ en80
 exact za
 try exact zl
 exact zp
 exact rfl
 exactλ_ hw=>(p3 ⟨n,qA,qcap,q,s,A2,c2,C,A3,RF.length,RF,re⟩ fe hw)
 rintro _ _ ⟨rfl,rfl⟩
 obtain⟨fin,hfin⟩:∃fin,Yc7 re fe=fin:=⟨_,rfl⟩
 dsimp only[bldA]
 rw[hfin]
 by_cases hE:fin=0
 rotate_left
 ·rw[Tm hE]
  refine zX67 ?_<;>intros
  apply YK [0,1,2,3,4,5,6] [] [true]
  kernel_rfl
  kernel_rfl
  exact zy
  (simp only[Yg,nthO];rfl)
  exact rfl
  refine YjE ?_
  apply Yq T (H2:=H);(iterate 3 exact rfl);(focus exact zc2);exact rfl;exact rfl
  ·intro w hw
   have h5:St B w0 [many H] w:=by
    revert w
    exact zc0
   exact hop w h5
  exact .inl ⟨rfl,rfl,rfl⟩
 subst hE
 rw[Td (show¬(0:Int)≠0 fromλe=>e rfl)]
 have hre:re=0/\fe=0:=by
  unfold Yc7 at hfin
  split at hfin
  ·exact⟨by assumption,hfin⟩
  ·exact absurd hfin (by assumption)
 obtain⟨rfl,rfl⟩:=hre
 have hce:(YM n.net (q.map RqM.rq) s.sch).2.2=0:=by rw[hR]
 have hrq:(rqsE n.net (q.map RqM.rq)).2=0:=TN.1 λh1=>by
  unfold YM at hce;rw[Tm h1]at hce;exact h1 hce
 obtain⟨hck,-,hrt⟩:=UO hrq
 have hql:q.length<=16:=(Yvz hrq).1
 have hok:=YN hck
 have hrowl:n.rows.length<=32:=by
  have h1:=hok.p0;have h2:=hok.n1
  have h3:n.net.power.length=n.rows.length:=by simp[NetM.net]
  omega
 have hrow1:∀r∈n.rows,r.xs.length<=32:=λr hr=>by
  have h1:=hok.p1 r.xs (by show r.xs∈n.rows.map (·.xs);exact TD.2 ⟨r,hr,rfl⟩)
  have h2:=hok.n1
  omega
 have hlk:n.links.length<=128:=hok.k0
 have hmg:n.margin.length<=128:=by
  have h1:n.margin.length=n.links.length:=hok.k1
  omega
 have hqx:∀x∈q,x.rows.length<=2/\∀r∈x.rows,r.xs.length<=9:=λx hx=>by
  have h1:=hrt x.rq (TD.2 ⟨x,hx,rfl⟩)
  refine⟨?_,λr hr=>?_⟩
  ·have h2:=Yaz h1
   have h4:x.rq.2.length=x.rows.length:=TC _
   omega
  ·exact(J3 (Va h1 r.xs (TD.2 ⟨r,hr,rfl⟩))).2.1.2
 have hCn:C.length<=1000000000000:=by
  have h1:=TE List.length hC
  have h2:=TE (λz=>z.1.length) hR
  dsimp only at h1 h2
  rw[YlE hce]at h2
  simp only[TC]at h1 h2
  omega
 have hFn:RF.length<=1000000000000:=by
  have h2:=TE (λz=>z.1.length) hRF
  dsimp only at h2
  unfold XZ at h2
  split at h2
  ·simp only[Rq]at h2;omega
  ·unfold Zp at h2
   rw[V2,Rb]at h2
   have h3:=(Vh.1 (X5.1 (XJ.1 hce).1)).frm.sized
   exact YuR
 refine zX67 ?_<;>intros
 clear p1 p2 p3
 have hinM:∀{H':List HP},many H∈H'->n.In B w0 H':=λhm=>hin0.mono λw hw=>hw.inM hm
 have hqM:∀{H':List HP},many H∈H'->QIn B w0 H' qA q:=λhm=>hq0.mono λw hw=>hw.inM hm
 apply UR [1,0,2,3,4,5,6,7,9,10,11,12,13,14,8,15,16,17,18,19] [1,20,21,22,23,24,25] [20,21,22,23,24,25] [true,true,true,true,true,true]
 kernel_rfl
 kernel_rfl
 exact zy
 (simp only[Yg,nthO];rfl)
 (simp only[Yg,nthO];rfl)
 refine OR ?_
 apply Yf _ YvV
 exact za
 exact rfl
 exactλ_ hw=>(YcR n.links (by omega) (hinM (by(focus exact zc2))).lk (hw))
 rintro _ _ ⟨lA,lcap,rfl,rfl⟩
 refine YjE ?_
 apply Yf _ YtE
 exact za
 exact rfl
 exactλ_ hw=>(WQ n.margin (by omega) (hinM (by(focus exact zc2))).mg (hw))
 rintro _ _ ⟨mA,mcap,rfl,rfl⟩
 refine YjE ?_
 apply Yf _ YvW
 exact za
 exact rfl
 exactλ_ hw=>(Yb3 n.rows (by omega) (hinM (by(focus exact zc2))).pw (hw))
 rintro _ _ ⟨pA,pcap,rfl,rfl⟩
 refine OR ?_
 refine Yj (λz:RwsM=>[(112,.int .i64 (z.i:Nat)),(111,.int .i64 n.rows.length),(110,.slice pA n.rows.length pcap),(0,.pointer (some ⟨g,0,none⟩)),(2,.pointer (some ⟨g2,0,none⟩)),(3,.int .i64 0)])
  (λz=>sl 24 1 pA n.rows.length pcap (z.R.flatMap rowF)::many ((z.R.take z.i).map rowQ)::blk g (.cells #[.int .i64 n.nodes,.slice pA n.rows.length pcap,.int .i64 n.noise,.int .i64 n.thr,.slice lA n.links.length lcap,.slice mA n.margin.length mcap,.slice qA q.length qcap,.int .i64 s.len,.int .i64 s.off,.slice s.A s.cells.length s.cap,.slice A2 C.length c2,.slice A3 RF.length RF.length,.int .i64 0] 164 (0,0))::sl 124 3 lA n.links.length lcap (n.links.flatMap lkF)::ints mA mcap n.margin::blk g2 (.cells zeroPnV.cells 35 (0,0))::nrs A3 RF.length RF::clsP A2 c2 C::many (C.map clQ)::[many H])
  (λz=>z.i<=n.rows.length/\z.R.length=n.rows.length/\z.R.map (·.xs)=n.rows.map (·.xs)/\z.R.drop z.i=n.rows.drop z.i) (λz=>n.rows.length-z.i) ⟨0,n.rows⟩ ⟨Tj _,rfl,rfl,rfl⟩ ?_ ?_ ?_
 ·exact zc1
 ·intro w hw
  have h5:St B w0 (sl 24 1 pA n.rows.length pcap (n.rows.flatMap rowF)::blk g (.cells #[.int .i64 n.nodes,.slice pA n.rows.length pcap,.int .i64 n.noise,.int .i64 n.thr,.slice lA n.links.length lcap,.slice mA n.margin.length mcap,.slice qA q.length qcap,.int .i64 s.len,.int .i64 s.off,.slice s.A s.cells.length s.cap,.slice A2 C.length c2,.slice A3 RF.length RF.length,.int .i64 0] 164 (0,0))::sl 124 3 lA n.links.length lcap (n.links.flatMap lkF)::ints mA mcap n.margin::blk g2 (.cells zeroPnV.cells 35 (0,0))::nrs A3 RF.length RF::clsP A2 c2 C::many (C.map clQ)::[many H]) w:=by
   dsimp only[zeroPnV]
   revert w
   exact zc0
  exact Yrp
 rintro⟨i,R⟩ ⟨hi,hRl,hRm,hRd⟩ K hK
 dsimp only at hi hRl hRm hRd⊢
 by_cases hlt:i<n.rows.length
 ·obtain⟨r,hr⟩:∃r,n.rows[i]? =some r:=⟨_,Ta hlt⟩
  have hrm:=Tf hr
  have hRi:=Ygk hRd hr
  have hr32:=hrow1 r hrm
  refine zX67 ?_<;>intros
  apply YK [0,1,2,3,4,5,6,7,8,9] [10] [true,true,true]
  kernel_rfl
  kernel_rfl
  exact zy
  (simp only[Yg,nthO];rfl)
  (simp only[Yg,nthO];rfl)
  refine OR ?_
  apply Yf _ YtE
  exact za
  exact rfl
  exactλ_ hw=>(WQ r.xs (by omega) ((hinM (by(focus exact zc2))).rw_ r hrm) (hw))
  rintro _ _ ⟨A',cap',rfl,rfl⟩
  repeat'(first|(apply Ye T;exact rfl;exact zm;exact rfl;exact zv;exact rfl;exact rfl)|(apply XB T (f:=rowF) (l:=R) (i:=i) (a:=⟨A',cap',r.xs⟩) (e:=24) (k:=n.rows.length) (cap:=pcap);(iterate 3 exact rfl);exact zd;exact rfl;exact(λ_=>rfl);exact rfl;omega)|(apply Yk;try exact zl)|refine zgd ?_|fail)
  apply hK ⟨i+1,R.set i ⟨A',cap',r.xs⟩⟩
  ·exact⟨by exact Yes,by show(R.set i _).length=_;rw[Rj,hRl],by show(R.set i _).map _=_;rw[Ymq hRi,hRm],Yc3 hRd⟩
  ·exact zc64
  ·exact zc1
  ·intro w hw
   dsimp only
   rw[take_set (by omega)]
   have h5:St B w0 (ints A' cap' r.xs::many ((R.take i).map rowQ)::sl 24 1 pA n.rows.length pcap ((R.set i ⟨A',cap',r.xs⟩).flatMap rowF)::blk g (.cells #[.int .i64 n.nodes,.slice pA n.rows.length pcap,.int .i64 n.noise,.int .i64 n.thr,.slice lA n.links.length lcap,.slice mA n.margin.length mcap,.slice qA q.length qcap,.int .i64 s.len,.int .i64 s.off,.slice s.A s.cells.length s.cap,.slice A2 C.length c2,.slice A3 RF.length RF.length,.int .i64 0] 164 (0,0))::sl 124 3 lA n.links.length lcap (n.links.flatMap lkF)::ints mA mcap n.margin::blk g2 (.cells zeroPnV.cells 35 (0,0))::nrs A3 RF.length RF::clsP A2 c2 C::many (C.map clQ)::[many H]) w:=by
    revert w
    exact zc0
   exact(h5.perm (O7 rowQ (R.take i) ⟨A',cap',r.xs⟩ _)).perm (.swap _ _ _)
 obtain rfl:i=n.rows.length:=by omega
 rw[<-hRl,TQ,hRl]
 clear hK hRd hlt hi
 refine zX67 ?_<;>intros
 apply Yf _ en91
 exact za
 exact rfl
 exactλ_ hw=>(Uu q (by omega) (hqM (by(focus exact zc2))).rd (hw))
 rintro _ _ ⟨q1A,q1c,rfl,rfl⟩
 refine OR ?_
 refine Yj (λz:RqsM=>[(144,.int .i64 (z.i:Nat)),(143,.int .i64 q.length),(142,.slice q1A q.length q1c),(0,.pointer (some ⟨g,0,none⟩)),(2,.pointer (some ⟨g2,0,none⟩)),(3,.int .i64 0)])
  (λz=>sl 56 7 q1A q.length q1c (z.Q.flatMap rqF)::many ((z.Q.take z.i).map rqQ)::blk g (.cells #[.int .i64 n.nodes,.slice pA n.rows.length pcap,.int .i64 n.noise,.int .i64 n.thr,.slice lA n.links.length lcap,.slice mA n.margin.length mcap,.slice q1A q.length q1c,.int .i64 s.len,.int .i64 s.off,.slice s.A s.cells.length s.cap,.slice A2 C.length c2,.slice A3 RF.length RF.length,.int .i64 0] 164 (0,0))::sl 24 1 pA n.rows.length pcap (R.flatMap rowF)::many (R.map rowQ)::sl 124 3 lA n.links.length lcap (n.links.flatMap lkF)::ints mA mcap n.margin::blk g2 (.cells zeroPnV.cells 35 (0,0))::nrs A3 RF.length RF::clsP A2 c2 C::many (C.map clQ)::[many H])
  (λz=>z.i<=q.length/\z.Q.length=q.length/\z.Q.map RqM.rq=q.map RqM.rq/\z.Q.drop z.i=q.drop z.i/\∀x∈z.Q.take z.i,x.lens) (λz=>q.length-z.i) ⟨0,q⟩ ⟨Tj _,rfl,rfl,rfl,(λx hx=>by cases hx)⟩ ?_ ?_ ?_
 ·exact zc1
 ·intro w hw
  have h5:St B w0 (sl 56 7 q1A q.length q1c (q.flatMap rqF)::blk g (.cells #[.int .i64 n.nodes,.slice pA n.rows.length pcap,.int .i64 n.noise,.int .i64 n.thr,.slice lA n.links.length lcap,.slice mA n.margin.length mcap,.slice q1A q.length q1c,.int .i64 s.len,.int .i64 s.off,.slice s.A s.cells.length s.cap,.slice A2 C.length c2,.slice A3 RF.length RF.length,.int .i64 0] 164 (0,0))::sl 24 1 pA n.rows.length pcap (R.flatMap rowF)::many (R.map rowQ)::sl 124 3 lA n.links.length lcap (n.links.flatMap lkF)::ints mA mcap n.margin::blk g2 (.cells zeroPnV.cells 35 (0,0))::nrs A3 RF.length RF::clsP A2 c2 C::many (C.map clQ)::[many H]) w:=by
   unfold rqs at hw
   revert w
   exact zc0
  exact Yrp
 rintro⟨i,Q⟩ ⟨hi,hQl,hQm,hQd,hQs⟩ K hK
 dsimp only at hi hQl hQm hQd hQs⊢
 by_cases hlt:i<q.length
 ·obtain⟨x,hx⟩:∃x,q[i]? =some x:=⟨_,Ta hlt⟩
  have hxm:=Tf hx
  have hQi:=Ygk hQd hx
  obtain⟨hx2,hx9⟩:=hqx x hxm
  refine Yrj ?_<;>intros
  rename_i g8
  apply Yf _ YvX
  exact za
  exact rfl
  exactλ_ hw=>(YcS x.rows (by omega) ((hqM (by(focus exact zc2))).x x hxm).rt (hw))
  rintro _ _ ⟨bA,bc,rfl,rfl⟩
  refine OR ?_
  refine Yj (λz:RwsM=>[(156,.int .i64 (z.i:Nat)),(155,.int .i64 x.rows.length),(154,.slice bA x.rows.length bc),(7,.int .i64 (i:Nat)),(8,.pointer (some ⟨g8,0,none⟩)),(144,.int .i64 (i:Nat)),(143,.int .i64 q.length),(142,.slice q1A q.length q1c),(0,.pointer (some ⟨g,0,none⟩)),(2,.pointer (some ⟨g2,0,none⟩)),(3,.int .i64 0)])
   (λz=>sl 64 1 bA x.rows.length bc (z.R.flatMap rowF)::many ((z.R.take z.i).map rowQ)::blk g8 (.cells #[.int .i64 x.f.1,.int .i64 x.f.2.1,.int .i64 x.f.2.2.1,.int .i64 x.f.2.2.2.1,.int .i64 x.f.2.2.2.2.1,.int .i64 x.f.2.2.2.2.2,.slice bA x.rows.length bc] 56 (0,0))::sl 56 7 q1A q.length q1c (Q.flatMap rqF)::many ((Q.take i).map rqQ)::blk g (.cells #[.int .i64 n.nodes,.slice pA n.rows.length pcap,.int .i64 n.noise,.int .i64 n.thr,.slice lA n.links.length lcap,.slice mA n.margin.length mcap,.slice q1A q.length q1c,.int .i64 s.len,.int .i64 s.off,.slice s.A s.cells.length s.cap,.slice A2 C.length c2,.slice A3 RF.length RF.length,.int .i64 0] 164 (0,0))::sl 24 1 pA n.rows.length pcap (R.flatMap rowF)::many (R.map rowQ)::sl 124 3 lA n.links.length lcap (n.links.flatMap lkF)::ints mA mcap n.margin::blk g2 (.cells zeroPnV.cells 35 (0,0))::nrs A3 RF.length RF::clsP A2 c2 C::many (C.map clQ)::[many H])
   (λz=>z.i<=x.rows.length/\z.R.length=x.rows.length/\z.R.map (·.xs)=x.rows.map (·.xs)/\z.R.drop z.i=x.rows.drop z.i/\∀r∈z.R.take z.i,r.xs.length<=1000/\r.xs.length<=r.cap) (λz=>x.rows.length-z.i) ⟨0,x.rows⟩ ⟨Tj _,rfl,rfl,rfl,(λx hx=>by cases hx)⟩ ?_ ?_ ?_
  ·exact zc1
  ·intro w hw
   have h5:St B w0 (sl 64 1 bA x.rows.length bc (x.rows.flatMap rowF)::blk g8 (.cells #[.int .i64 x.f.1,.int .i64 x.f.2.1,.int .i64 x.f.2.2.1,.int .i64 x.f.2.2.2.1,.int .i64 x.f.2.2.2.2.1,.int .i64 x.f.2.2.2.2.2,.slice bA x.rows.length bc] 56 (0,0))::sl 56 7 q1A q.length q1c (Q.flatMap rqF)::many ((Q.take i).map rqQ)::blk g (.cells #[.int .i64 n.nodes,.slice pA n.rows.length pcap,.int .i64 n.noise,.int .i64 n.thr,.slice lA n.links.length lcap,.slice mA n.margin.length mcap,.slice q1A q.length q1c,.int .i64 s.len,.int .i64 s.off,.slice s.A s.cells.length s.cap,.slice A2 C.length c2,.slice A3 RF.length RF.length,.int .i64 0] 164 (0,0))::sl 24 1 pA n.rows.length pcap (R.flatMap rowF)::many (R.map rowQ)::sl 124 3 lA n.links.length lcap (n.links.flatMap lkF)::ints mA mcap n.margin::blk g2 (.cells zeroPnV.cells 35 (0,0))::nrs A3 RF.length RF::clsP A2 c2 C::many (C.map clQ)::[many H]) w:=by
    revert w
    exact zc0
   exact Yrp
  rintro⟨k,S⟩ ⟨hk,hSl,hSm,hSd,hSs⟩ K2 hK2
  dsimp only at hk hSl hSm hSd hSs⊢
  by_cases hlk2:k<x.rows.length
  ·obtain⟨r,hr⟩:∃r,x.rows[k]? =some r:=⟨_,Ta hlk2⟩
   have hrm:=Tf hr
   have hRi:=Ygk hSd hr
   have hr9:=hx9 r hrm
   clear hK hQi
   refine zX67 ?_<;>intros
   apply YK [0,1,2,3,4,5] [6] [true,true,true]
   kernel_rfl
   kernel_rfl
   exact zy
   (simp only[Yg,nthO];rfl)
   (simp only[Yg,nthO];rfl)
   refine OR ?_
   apply Yf _ YpC
   exact za
   exact rfl
   exactλ_ hw=>(Vv r.xs (by omega) (((hqM (by(focus exact zc2))).x x hxm).rw_ r hrm) (hw))
   rintro _ _ ⟨A',cap',rfl,rfl⟩
   apply Wk (e:=3) (size:=1) (k:=r.xs.length) (cap:=cap') (A:=A') (xs:=r.xs.flatMap numF) (by(focus exact zc2))
   intro hcap
   repeat'(first|(apply Ye T;exact rfl;exact zm;exact rfl;exact zv;exact rfl;exact rfl)|(apply XB T (f:=rowF) (l:=S) (i:=k) (a:=⟨A',cap',r.xs⟩) (e:=64) (k:=x.rows.length) (cap:=bc);(iterate 3 exact rfl);exact zd;exact rfl;exact(λ_=>rfl);exact rfl;omega)|(apply Yk;try exact zl)|refine zgd ?_|fail)
   apply hK2 ⟨k+1,S.set k ⟨A',cap',r.xs⟩⟩
   ·refine⟨by show k+1<=_;omega,by show(S.set k _).length=_;rw[Rj,hSl],by show(S.set k _).map _=_;rw[Ymq hRi,hSm],Yc3 hSd,λy hy=>?_⟩
    dsimp only at hy
    rw[take_set (by omega)]at hy
    rcases TJ.1 hy with hy|hy
    ·exact hSs y hy
    ·rw[TU.1 hy]
     exact⟨by show r.xs.length<=_;omega,hcap⟩
   ·exact zc64
   ·exact zc1
   ·intro w hw
    dsimp only
    rw[take_set (by omega)]
    have h5:St B w0 (ints A' cap' r.xs::many ((S.take k).map rowQ)::sl 64 1 bA x.rows.length bc ((S.set k ⟨A',cap',r.xs⟩).flatMap rowF)::blk g8 (.cells #[.int .i64 x.f.1,.int .i64 x.f.2.1,.int .i64 x.f.2.2.1,.int .i64 x.f.2.2.2.1,.int .i64 x.f.2.2.2.2.1,.int .i64 x.f.2.2.2.2.2,.slice bA x.rows.length bc] 56 (0,0))::sl 56 7 q1A q.length q1c (Q.flatMap rqF)::many ((Q.take i).map rqQ)::blk g (.cells #[.int .i64 n.nodes,.slice pA n.rows.length pcap,.int .i64 n.noise,.int .i64 n.thr,.slice lA n.links.length lcap,.slice mA n.margin.length mcap,.slice q1A q.length q1c,.int .i64 s.len,.int .i64 s.off,.slice s.A s.cells.length s.cap,.slice A2 C.length c2,.slice A3 RF.length RF.length,.int .i64 0] 164 (0,0))::sl 24 1 pA n.rows.length pcap (R.flatMap rowF)::many (R.map rowQ)::sl 124 3 lA n.links.length lcap (n.links.flatMap lkF)::ints mA mcap n.margin::blk g2 (.cells zeroPnV.cells 35 (0,0))::nrs A3 RF.length RF::clsP A2 c2 C::many (C.map clQ)::[many H]) w:=by
     revert w
     exact zc0
    exact(h5.perm (O7 rowQ (S.take k) ⟨A',cap',r.xs⟩ _)).perm (.swap _ _ _)
  obtain rfl:k=x.rows.length:=by omega
  have hSt:S.take x.rows.length=S:=by rw[<-hSl,TQ]
  rw[hSt]at hSs⊢
  clear hK2 hSd hlk2 hk
  have hrqv:rqF ⟨x.f,bA,bc,S⟩=[.int .i64 x.f.1,.int .i64 x.f.2.1,.int .i64 x.f.2.2.1,.int .i64 x.f.2.2.2.1,.int .i64 x.f.2.2.2.2.1,.int .i64 x.f.2.2.2.2.2,.slice bA x.rows.length bc]:=by
   unfold rqF;rw[hSl]
  refine YfW ?_<;>intros
  apply YK [0,1,2,3,4,5,6,7] [8] [true,true,true,true,true,true]
  kernel_rfl
  kernel_rfl
  exact zy
  (simp only[Yg,nthO];rfl)
  (simp only[Yg,nthO];rfl)
  repeat'(first|(apply Ye T;exact rfl;exact zm;exact rfl;exact zv;exact rfl;exact rfl)|(apply Jb T (f:=rqF) (l:=Q) (i:=i) (a:=⟨x.f,bA,bc,S⟩);exact rfl;exact rfl;exact hrqv;exact zd;exactλ_=>rfl;(iterate 3 exact rfl);omega)|refine zgd ?_|fail)
  apply hK ⟨i+1,Q.set i ⟨x.f,bA,bc,S⟩⟩
  ·refine⟨by exact Yes,by show(Q.set i _).length=_;rw[Rj,hQl],?_,Yc3 hQd,λy hy=>?_⟩
   ·show(Q.set i _).map RqM.rq=_
    rw[<-hQm]
    apply Na
    intro j
    rw[TX,TX]
    by_cases hj:i=j
    ·subst hj
     rw[NE (by omega),hQi]
     show some (RqM.rq ⟨x.f,bA,bc,S⟩)=some x.rq
     unfold RqM.rq
     dsimp only
     rw[hSm]
    ·rw[List.getElem?_set_ne hj]
   ·dsimp only at hy
    rw[take_set (by omega)]at hy
    rcases TJ.1 hy with hy|hy
    ·exact hQs y hy
    ·rw[TU.1 hy]
     exact⟨by show S.length<=_;omega,hSs⟩
  ·exact zc64
  ·exact zc1
  ·intro w hw
   dsimp only
   rw[take_set (by omega)]
   have h5:St B w0 (sl 64 1 bA x.rows.length bc (S.flatMap rowF)::many (S.map rowQ)::many ((Q.take i).map rqQ)::sl 56 7 q1A q.length q1c ((Q.set i ⟨x.f,bA,bc,S⟩).flatMap rqF)::blk g (.cells #[.int .i64 n.nodes,.slice pA n.rows.length pcap,.int .i64 n.noise,.int .i64 n.thr,.slice lA n.links.length lcap,.slice mA n.margin.length mcap,.slice q1A q.length q1c,.int .i64 s.len,.int .i64 s.off,.slice s.A s.cells.length s.cap,.slice A2 C.length c2,.slice A3 RF.length RF.length,.int .i64 0] 164 (0,0))::sl 24 1 pA n.rows.length pcap (R.flatMap rowF)::many (R.map rowQ)::sl 124 3 lA n.links.length lcap (n.links.flatMap lkF)::ints mA mcap n.margin::blk g2 (.cells zeroPnV.cells 35 (0,0))::nrs A3 RF.length RF::clsP A2 c2 C::many (C.map clQ)::[many H]) w:=by
    revert w
    exact zc0
   rw[<-hSl]at h5
   have h6:=h5.perm (.close [_,_] _)
   exact(h6.perm (YdG (Q.take i) ⟨x.f,bA,bc,S⟩ _)).perm (.swap _ _ _)
 obtain rfl:i=q.length:=by omega
 have hQt:Q.take q.length=Q:=by rw[<-hQl,TQ]
 rw[hQt]at hQs⊢
 clear hK hQd hlt hi
 refine zX67 ?_<;>intros
 apply Yq T (H2:=many [sl 56 7 q1A Q.length q1c (Q.flatMap rqF),many (Q.map rqQ),sl 24 1 pA R.length pcap (R.flatMap rowF),many (R.map rowQ),sl 124 3 lA n.links.length lcap (n.links.flatMap lkF),ints mA mcap n.margin,nrs A3 RF.length RF,clsP A2 c2 C,many (C.map clQ)]::H);(iterate 3 exact rfl);(focus exact zc2);exact rfl;exact rfl
 ·intro w hw
  have h5:St B w0 (sl 56 7 q1A q.length q1c (Q.flatMap rqF)::many (Q.map rqQ)::sl 24 1 pA n.rows.length pcap (R.flatMap rowF)::many (R.map rowQ)::sl 124 3 lA n.links.length lcap (n.links.flatMap lkF)::ints mA mcap n.margin::nrs A3 RF.length RF::clsP A2 c2 C::many (C.map clQ)::[many H]) w:=by
   revert w
   exact zc0
  rw[<-hQl,<-hRl]at h5
  exact(h5.perm (.close [_,_,_,_,_,_,_,_,_] _)).perm (.cons _ (.openT H))
 have hC:C.map ClM.clm=RC:=hC
 refine .inr ⟨⟨⟨n.nodes,pA,pcap,R,n.noise,n.thr,lA,lcap,n.links,mA,mcap,n.margin⟩,q1A,q1c,Q,s,A2,c2,C,A3,RF.length,RF⟩,_,?_,?_,λH' hrs'=>?_,rfl⟩
 ·show some (Pln.mk n.net (q.map RqM.rq) s.sch RC RF)=some (Pln.mk ⟨n.nodes,R.map (·.xs),n.noise,n.thr,n.links,n.margin⟩ (Q.map RqM.rq) s.sch (C.map ClM.clm) RF)
  rw[hRm,hQm,hC];rfl
 ·unfold PnM.val
  dsimp only
  rw[hRl,hQl]
 ·have hb:∀{L:List HP}(w:World),St B w0 (many L::H') w->St B w0 L w:=λw hw=>hw.inM (.head _)
  refine⟨⟨Rd.mono (.sl (.tail _ (.tail _ (.head _)))) hb,λr hr=>Rd.mono (Rd.many (L:=R.map rowQ) (.tail _ (.tail _ (.tail _ (.head _)))) (SC hr)) hb,Rd.mono (.sl (.tail _ (.tail _ (.tail _ (.tail _ (.head _)))))) hb,Rd.mono (.sl (.tail _ (.tail _ (.tail _ (.tail _ (.tail _ (.head _))))))) hb,by show R.length<=_;omega,λr hr=>?_,by show n.links.length<=_;omega,by show n.margin.length<=_;omega⟩,
   ⟨Rd.mono (.sl (.head _)) hb,λx hx=>RqM.In.mono (Yml (q:=Q) (.tail _ (.head _)) hx (hQs x hx)) hb,by show Q.length<=_;omega⟩,hrs'.cons,hsl,
   ⟨Rd.mono (.sl (.tail _ (.tail _ (.tail _ (.tail _ (.tail _ (.tail _ (.tail _ (.head _))))))))) hb,λx hx=>ClM.In.mono (YkN (C:=C) (.tail _ (.tail _ (.tail _ (.tail _ (.tail _ (.tail _ (.tail _ (.tail _ (.head _))))))))) hx (hCl x hx)) hb,hCn⟩,
   Rd.mono (.sl (.tail _ (.tail _ (.tail _ (.tail _ (.tail _ (.tail _ (.head _)))))))) hb,hFn⟩
  have h1:r.xs∈n.rows.map (·.xs):=by rw[<-hRm];exact TD.2 ⟨r,hr,rfl⟩
  obtain⟨r2,h2,h3⟩:=TD.1 h1
  have h4:=hrow1 r2 h2
  have h3:r2.xs=r.xs:=h3
  rw[h3]at h4
  omega
structure PlnOk(p:Pln):Prop where
 cert:(YM p.n p.q p.s).2.2=0
 c:p.c=(YM p.n p.q p.s).1
 free:(XZ p.s).2=0
 f:p.f=(XZ p.s).1
theorem PlnOk.chk{p:Pln}(h:PlnOk p):chkP p=0:=by
 have hrq:(rqsE p.n p.q).2=0:=TN.1 λh1=>by
  have:=h.cert
  unfold YM at this;rw[Tm h1]at this;exact h1 this
 unfold chkP
 rw[Td (λe=>e (UO hrq).1),Td (by rw[h.cert];omega),Td (λe=>e h.cert),Td,Td]
 ·rintro(h1|h1)
  ·exact h1 h.free
  ·exact h1 h.f.symm
 ·rw[h.c,Ypn h.cert];exactλe=>e rfl
def Made(n:Net)(l:List Flw)(len off:Int)(R:Option Pln×Int):Prop:=(R.2≠0/\R.1=none)\/∃p,R=(some p,0)/\PlnOk p/\p.n=n/\Ys p.q=l/\p.s.len=len/\p.s.off=off
theorem Qb{n:Net}{f:Flw}(h:(VF n f).2=0):(VF n f).1.1=f:=by
 unfold VF at h⊢
 split
 ·rename_i h1;rw[Tm h1]at h;exact absurd h h1
 ·rfl
theorem YdT{n:Net}{f:Flw}(h:(reqE n f).2=0):(reqE n f).1.1=f:=by
 unfold reqE at h⊢
 split
 ·rfl
 ·rename_i h1
  rw[h1]at h
  exact Qb h
variable {l:List Flw}
theorem V1{nodes:Int}:(Yy nodes l).2=0↔(2<=nodes/\nodes<=32)/\l.length<=16/\(∀f∈l,XD nodes f=0)/\l.Pairwise λa b=>a.1<b.1:=by
 constructor
 ·intro h
  refine⟨?_,?_,λf hf=>V0 h hf,?_⟩
  ·unfold Yy at h
   split at h
   ·cases h
   ·omega
  ·unfold Yy at h
   split at h
   ·cases h
   split at h
   ·cases h
   ·omega
  ·rw[Re]
   intro i j hi hj hij
   have:=YaW h hij hj
   unfold Xg at this
   rwa [Tu,Tu,Ta hi,Ta hj]at this
 ·rintro⟨h1,h2,h3,h4⟩
  unfold Yy
  rw[Td (by omega),Td (by omega)]
  refine YI.2 λk _ hk=>?_
  rw[RH]at hk
  rw[Re]at h4
  have hat:∀{i:Nat}(hi:i<l.length),Xg l i=l[i]:=λhi=>by unfold Xg;rw[Tu,Ta hi];rfl
  unfold Xt
  rw[hat hk,Td (λe=>e (h3 _ (NS hk)))]
  rcases S5 k with rfl|hk0
  ·rw[Td (by omega)]
  ·rw[hat (i:=k-1) (by omega),Td]
   have:=h4 (k-1) k (by omega) hk (by omega)
   omega
theorem YnB{nodes:Int}{m:List Flw}(h:(Yy nodes l).2=0)(hs:m.Sublist l):(Yy nodes m).2=0:=by
 obtain⟨h1,h2,h3,h4⟩:=V1.1 h
 exact V1.2 ⟨h1,Rh hs.length_le h2,λf hf=>h3 f (hs.subset hf),h4.sublist hs⟩
variable {p:Pln}
theorem UJ(h:chkP p=0):PlnOk p:=by
 unfold chkP at h
 split at h
 ·cases h
 split at h
 ·cases h
 split at h
 ·cases h
 split at h
 ·cases h
 split at h
 ·cases h
 rename_i h3 h4 h5
 have h3:=TN.1 h3
 have h4:=TN.1 h4
 refine⟨h3,?_,TN.1 λe=>h5 (.inl e),(TN.1 λe=>h5 (.inr e)).symm⟩
 unfold chkE at h4
 rw[Td (λe=>e h3)]at h4
 by_cases hl:p.c.length=(YM p.n p.q p.s).1.length
 rotate_left
 ·rw[Tm hl]at h4;cases h4
 rw[Td (λe=>e hl)]at h4
 refine List.ext_getElem hl λi h6 h7=>?_
 have:=YI.1 h4 i (Tj _) (by omega)
 by_cases e:Q6 p.c i=Q6 (YM p.n p.q p.s).1 i
 ·unfold Q6 at e
  rwa [Tu,Tu,Ta h6,Ta h7]at e
 ·rw[Td e]at this;cases this
variable {n:Net}{q:List Rqs}{s:Sch}
theorem Ye4(h:(YM n q s).2.2=0):Xm s=true:=XV.2 (Vh.1 (X5.1 (XJ.1 h).1)).frm
theorem Yih(h:(YM n q s).2.2=0):finE n q s 0=(some ⟨n,q,s,(YM n q s).1,(XZ s).1⟩,0)/\PlnOk ⟨n,q,s,(YM n q s).1,(XZ s).1⟩:=by
 have hf:(XZ s).2=0:=by unfold XZ;rw[Ye4 h,Td (by decide)]
 refine⟨?_,⟨h,rfl,hf,rfl⟩⟩
 unfold finE
 have:QG n q s 0=0:=by unfold QG Yc7;rw[Td (λe=>e rfl),Tm h,hf]
 rw[this,Td (λe=>e rfl)]
theorem Ygz(h:(YM n q s).2.2=0):(Yy n.nodes (Ys q)).2=0:=(Vt (X5.1 (XJ.1 h).1).whole).2.1
theorem Ykr{α:Type}{p:α->Bool}:∀{l:List α}{k:Int}{i:Nat}{a:α},l[i]? =some a->p a=true->(∀j b,j<i->l[j]? =some b->p b=false)->Ym p l k=k+i
 |[],_,_,_,h,_,_=>by simp at h
 |b::l,k,0,a,h,hp,_=>by
  obtain rfl:b=a:=by simpa using h
  rw[Ym,Tm hp];simp
 |b::l,k,i+1,a,h,hp,hn=>by
  have hb:=hn 0 b (by omega) (by simp)
  rw[Ym,Td (by rw[hb];simp),Ykr (i:=i) (a:=a) (by simpa using h) hp λj c hj hc=>hn (j+1) c (by omega) (by simpa using hc)]
  omega
theorem Ybf(h:chkP p=0)(id:Int):((∀x∈p.q,x.1.1≠id)/\wdrP p id=(none,7))\/
 ∃(i:Nat) (x:Rqs) (q:Pln),p.q[i]? =some x/\x.1.1=id/\wdrP p id=(some q,0)/\PlnOk q/\q=⟨p.n,delQ p.q i,Jz p.s id,(YM p.n (delQ p.q i) (Jz p.s id)).1,(XZ (Jz p.s id)).1⟩/\idQ p.q id=i:=by
 have hok:=UJ h
 unfold wdrP
 rw[Td (λe=>e h)]
 by_cases hany:p.q.any (λx=>decide (x.1.1=id))=true
 ·right
  obtain⟨x,hx,he⟩:=TR.1 hany
  have he:=TY he
  obtain⟨i,hi⟩:=TO.1 hx
  have hil:=(Tc.1 hi).1
  have hpw:=(V1.1 (Ygz hok.cert)).2.2.2
  unfold Ys at hpw
  rw[Nb,Re]at hpw
  have hne:∀(j:Nat) (y:Rqs),p.q[j]? =some y->j≠i->y.1.1≠id:=λj y hj hji e=>by
   obtain⟨hjl,rfl⟩:=Tc.1 hj
   obtain⟨_,rfl⟩:=Tc.1 hi
   rcases NH hji with h1|h1
   ·have:=hpw j i hjl hil h1;omega
   ·have:=hpw i j hil hjl h1;omega
  have hid:idQ p.q id=i:=by
   unfold idQ
   rw[Ykr hi (Ti he) λj b hj hb=>Tn (hne j b hb (by omega))]
   omega
  have hsub:(delQ p.q i).Sublist p.q:=by
   unfold delQ
   have h1:(p.q.take i++p.q.drop (i+1)).Sublist (p.q.take i++p.q.drop i):=List.Sublist.append (List.Sublist.refl _) (by
    rw[<-SX (j:=i) (i:=1)]
    exact List.drop_sublist 1 _)
   rwa [Rk]at h1
  have hmem:∀y,y∈delQ p.q i↔y∈p.q/\y.1.1≠id:=λy=>by
   constructor
   ·intro hy
    refine⟨hsub.subset hy,?_⟩
    unfold delQ at hy
    rcases TJ.1 hy with h1|h1
    ·obtain⟨j,hj⟩:=TO.1 h1
     rw[Sl]at hj
     split at hj
     ·exact hne j y hj (by omega)
     ·cases hj
    ·obtain⟨j,hj⟩:=TO.1 h1
     rw[RX]at hj
     exact hne _ y hj (by omega)
   ·rintro⟨hy,hyi⟩
    obtain⟨j,hj⟩:=TO.1 hy
    have hji:j≠i:=λe=>by
     subst e;rw[hi]at hj;rw[<-Tv hj]at hyi;exact hyi he
    unfold delQ
    rcases NH hji with h1|h1
    ·exact RL _ (Tf (i:=j) (by rw[Sl,Tm h1,hj]))
    ·exact TS _ (Tf (i:=j-(i+1)) (by rw[RX,show i+1+(j-(i+1))=j by omega,hj]))
  have hce:(YM p.n (delQ p.q i) (Jz p.s id)).2.2=0:=Yh9 hok.cert hmem (YnB (Ygz hok.cert) (hsub.map _))
  obtain⟨h1,h2⟩:=Yih hce
  refine⟨i,x,_,hi,he,?_,h2,rfl,hid⟩
  rw[hid,Td (by omega)]
  unfold Qk
  rw[Ye4 hok.cert,Td (by decide),RS]
  exact h1
 ·left
  refine⟨λx hx e=>hany (TR.2 ⟨x,hx,Ti e⟩),?_⟩
  rw[Tm]
  exact Int.not_le.1 λh0=>hany ((VO (λx:Rqs=>decide (x.1.1=id)) p.q 0 (by omega)).1 h0)
theorem YdR(id:Int):∀q:List Rqs,posQ q id<=q.length/\∀y∈q.take (posQ q id),y.1.1<id
 |[]=>⟨TK _,λy hy=>by simp at hy⟩
 |x::q=>by
  have ih:=YdR id q
  unfold posQ at ih⊢
  by_cases h:x.1.1<id
  ·rw[List.takeWhile_cons_of_pos (by simpa using h),TG,TG,List.take_succ_cons]
   refine⟨by omega,λy hy=>?_⟩
   rcases TI.1 hy with rfl|h1
   ·exact h
   ·exact ih.2 y h1
  ·rw[List.takeWhile_cons_of_neg (by simpa using h)]
   exact⟨by simp,λy hy=>by simp at hy⟩
variable {f:Flw}
theorem YdX(h:(Vy n [f]).2.2=0):(reqE n f).2=0:=by
 unfold Vy at h
 split at h
 ·cases h
 split at h
 ·rename_i h1;exact absurd h h1
 split at h
 ·rename_i h1;exact absurd h h1
 ·rename_i h1
  exact YI.1 (TN.1 h1) 0 (TK _) (by simp)
theorem Yl7{x:Rqs}(hp:chkP p=0)(hx:x.1=f)(ha:(X8 p.n p.q p.s x).2=0):∃q,finE p.n (insQ p.q x) (X8 p.n p.q p.s x).1 0=(some q,0)/\PlnOk q/\q.q.length=p.q.length+1/\wdrP q f.1=(some p,0):=by
 have hok:=UJ hp
 obtain⟨h1,h2,h3,h4⟩:=YmX ha
 obtain⟨h5,h6⟩:=Yih h1
 refine⟨_,h5,h6,?_,?_⟩
 ·show(insQ p.q x).length=_
  unfold insQ
  rw[Tq,TG,Nat.add_succ,<-Tq,Rk]
 subst hx
 have hps:=YdR x.1.1 p.q
 have hat:(insQ p.q x)[posQ p.q x.1.1]? =some x:=by
  unfold insQ
  rw[RB (by rw[TA];omega),TA,RU hps.1,Ni]
  rfl
 have hdel:delQ (insQ p.q x) (posQ p.q x.1.1)=p.q:=by
  have hl:(p.q.take (posQ p.q x.1.1)).length=posQ p.q x.1.1:=by rw[TA,RU hps.1]
  unfold delQ insQ
  rw[List.take_left' hl,<-SX (j:=posQ p.q x.1.1) (i:=1),List.drop_left' hl]
  exact Rk _ _
 have hcells:Jz (X8 p.n p.q p.s x).1 x.1.1=p.s:=by
  have hsem:=Vh.1 (X5.1 (XJ.1 hok.cert).1)
  unfold Jz
  rw[h2.len,h2.off,h2.oth _ λc hc=>Tn λe=>e hc,List.filter_eq_self.2]
  intro c hc
  obtain⟨g,hg,e⟩:=Z0.1 (hsem.good c hc).2
  obtain⟨y,hy,rfl⟩:=TD.1 hg
  exact Ti λe2=>h3 y hy (e.trans e2)
 rcases Ybf h6.chk x.1.1 with⟨h7,-⟩|⟨i,y,q,h7,h8,h9,-,rfl,h11⟩
 ·exact absurd rfl (h7 x (Tf hat))
 ·dsimp only at h7 h9 h11
  have hi:i=posQ p.q x.1.1:=by
   have:idQ (insQ p.q x) x.1.1=posQ p.q x.1.1:=by
    unfold idQ
    rw[Ykr (p:=λy:Rqs=>decide (y.1.1=x.1.1)) hat (Ti rfl) λj b hj hb=>Tn ?_]
    ·omega
    ·unfold insQ at hb
     rw[Sr (by rw[TA];omega)]at hb
     have:=hps.2 b (Tf hb)
     omega
   rw[this]at h11
   omega
  rw[h9,hi,hdel,hcells]
  rw[<-hok.c,<-hok.f]
theorem Yid(hp:chkP p=0):((extP p f).1=none/\(extP p f).2≠0)\/∃q,extP p f=(some q,0)/\PlnOk q/\q.q.length=p.q.length+1/\wdrP q f.1=(some p,0):=by
 unfold extP
 rw[Td (λe=>e hp)]
 split
 ·exact .inl ⟨rfl,by decide⟩
 split
 ·exact .inl ⟨rfl,by decide⟩
 split
 ·exact .inl ⟨rfl,by decide⟩
 split
 ·rename_i h;exact .inl ⟨rfl,h⟩
 rename_i h
 have hr:=YdX (TN.1 h)
 split
 ·rename_i ha
  exact .inr (Yl7 hp (YdT hr) ha)
 split
 ·exact .inl ⟨rfl,by decide⟩
 rename_i hs
 unfold ext1
 split
 ·exact .inl ⟨rfl,by decide⟩
 rename_i ha
 exact .inr (Yl7 hp (Qb (TN.1 hs)) (TN.1 ha))
abbrev Lop:=Int×Int×Int×Int×Int×Int×Int
abbrev Spl:=Int×Int
def lopE(nodes:Int)(l:Lop):Int:=
 if l.1<0\/127<l.1\/insE l.2.1 nodes=false\/insE l.2.2.1 nodes=false\/insE l.2.2.2.1 nodes=false then 2
 else if l.2.2.2.2.1<1\/512<l.2.2.2.2.1\/l.2.2.2.2.2.1<0\/l.2.2.2.2.1<=l.2.2.2.2.2.1\/l.2.2.2.2.2.2<1\/1024<l.2.2.2.2.2.2 then 2
 else if l.2.1=l.2.2.1\/l.2.2.2.1=l.2.2.1 then 1 else 0
def Jr(l:List Lop)(i:Nat):Lop:=l.getD i (0,0,0,0,0,0,0)
def ZB(nodes:Int)(l:List Lop)(i:Nat):Int:=if lopE nodes (Jr l i)≠0 then lopE nodes (Jr l i)else if 0<i/\(Jr l i).1<=(Jr l (i-1)).1 then 5 else 0
def ZP(nodes:Int)(l:List Lop):Int×Int:=
 if nodes<2\/32<nodes then(-1,2)else if 8<l.length then(-1,8)else YD (ZB nodes l) l.length 0
def Ybg(l:Lop)(s:Spl):Int:=l.2.2.2.2.1+s.1+s.2-1
def fitS(l:Lop)(s:Spl):Bool:=decide (1<=s.1/\1<=s.2/\s.1<=l.2.2.2.2.1/\s.2<=l.2.2.2.2.1/\s.1+s.2<=l.2.2.2.2.1/\Ybg l s<=l.2.2.2.2.2.2)
def XW(l:Lop)(s:Spl):Int:=if lopE 32 l≠0 then lopE 32 l else if fitS l s=false then 11 else 0
def JV(l:Lop)(s:Spl):Flw:=(2*l.1,l.2.1,l.2.2.1,l.2.2.2.2.1,l.2.2.2.2.2.1,s.1)
def JW(l:Lop)(s:Spl):Flw:=(2*l.1+1,l.2.2.1,l.2.2.2.1,l.2.2.2.2.1,(l.2.2.2.2.2.1+s.1).tmod l.2.2.2.2.1,s.2)
def YS:List Lop->List Spl->List Flw
 |l::ls,s::ss=>JV l s::JW l s::YS ls ss
 |_,_=>[]
def badS:List Lop->List Spl->Bool
 |l::ls,s::ss=>decide (XW l s≠0)||badS ls ss
 |_,_=>false
structure Gwy where
 p:Pln
 l:List Lop
 s:List Spl
def chkG(g:Gwy):Int:=
 if chkP g.p≠0 then chkP g.p else if(ZP g.p.n.nodes g.l).2≠0 then 1 else if g.s.length≠g.l.length then 11
 else if badS g.l g.s=true then 11 else if YS g.l g.s≠Ys g.p.q then 12 else 0
def posL(l:List Lop)(id:Int):Nat:=(l.takeWhile λy=>decide (y.1<id)).length
def hasL(l:List Lop)(id:Int):Bool:=l.any λy=>decide (y.1=id)
def Xb{α:Type}(l:List α)(k:Nat)(x:α):List α:=l.take k++x::l.drop k
def Y4{α:Type}(l:List α)(k:Nat):List α:=l.take k++l.drop (k+1)
def sumS(l:Lop):Int:=min l.2.2.2.2.1 (l.2.2.2.2.2.2-l.2.2.2.2.1+1)
def Vc(l:Lop):List Spl:=(List.range (max (sumS l-1) 0).toNat).map λi:Nat=>((i:Int)+1,sumS l-1-i)
noncomputable def Og(p:Pln)(l:Lop)(s:Spl):Option Pln:=
 match extP p (JV l s)with
 |(some q,0)=>match extP q (JW l s)with
  |(some r,0)=>some r
  |_=>none
 |_=>none
noncomputable def tryG(p:Pln)(l:Lop):List Spl->Option (Spl×Pln)
 |[]=>none
 |s::ss=>match Og p l s with
  |some q=>some (s,q)
  |none=>tryG p l ss
noncomputable def admG(g:Gwy)(l:Lop):Option Gwy×Int:=
 if chkG g≠0 then(none,chkG g)else if hasL g.l l.1=true then(none,6)
 else if(ZP g.p.n.nodes (Xb g.l (posL g.l l.1) l)).2≠0 then(none,1)else if Vc l=[]then(none,11)
 else match tryG g.p l (Vc l)with
  |none=>(none,18)
  |some (s,q)=>(some ⟨q,Xb g.l (posL g.l l.1) l,Xb g.s (posL g.l l.1) s⟩,0)
def YkQ(p:Option Pln×Int)(d:Pln):Pln:=p.1.getD d
def Yrx:Pln:=⟨⟨0,[],0,0,[],[]⟩,[],⟨0,0,[]⟩,[],[]⟩
noncomputable def disG(g:Gwy)(id:Int):Option Gwy×Int:=
 if chkG g≠0 then(none,chkG g)else if hasL g.l id=false then(none,7)
 else(some ⟨YkQ (wdrP (YkQ (wdrP g.p (2*id)) Yrx) (2*id+1)) Yrx,Y4 g.l (posL g.l id),Y4 g.s (posL g.l id)⟩,0)
theorem Zw{nodes:Int}{l:List Lop}:(ZP nodes l).2=0↔(2<=nodes/\nodes<=32)/\l.length<=8/\(∀f∈l,lopE nodes f=0)/\l.Pairwise λa b=>a.1<b.1:=by
 have hat:∀{i:Nat}(hi:i<l.length),Jr l i=l[i]:=λhi=>by unfold Jr;rw[Tu,Ta hi];rfl
 unfold ZP
 by_cases h1:nodes<2\/32<nodes
 ·rw[Tm h1]
  exact⟨λh=>(by cases h),λh=>by omega⟩
 rw[Td h1]
 by_cases h2:8<l.length
 ·rw[Tm h2]
  exact⟨λh=>(by cases h),λh=>by omega⟩
 rw[Td h2,YI]
 constructor
 ·intro h
  have hk:∀(k:Nat) (hk:k<l.length),lopE nodes l[k]=0/\(0<k->∀(h':k-1<l.length),l[k-1].1<l[k].1):=λk hk=>by
   have h3:=h k (Tj _) (by omega)
   unfold ZB at h3
   rw[hat hk]at h3
   by_cases h4:lopE nodes l[k]=0
   ·rw[Td (λe=>e h4)]at h3
    refine⟨h4,λh0 h'=>?_⟩
    rw[hat h']at h3
    by_cases h5:l[k].1<=l[k-1].1
    ·rw[Tm ⟨h0,h5⟩]at h3;cases h3
    ·omega
   ·rw[Tm h4]at h3;exact absurd h3 h4
  refine⟨by omega,by omega,λf hf=>?_,?_⟩
  ·obtain⟨k,hk1,rfl⟩:=List.mem_iff_getElem.1 hf
   exact(hk k hk1).1
  ·rw[Re]
   intro i j hi hj hij
   obtain⟨d,rfl⟩:∃d,j=i+1+d:=⟨j-(i+1),by omega⟩
   induction d with
   |zero=>exact(hk (i+1) hj).2 (by omega) (by omega)
   |succ d ih=>
    have h6:=ih (by omega) (by omega)
    have h7:=(hk (i+1+(d+1)) hj).2 (by omega) (by omega)
    have h8:i+1+(d+1)-1=i+1+d:=by omega
    simp only[h8]at h7
    omega
 ·rintro⟨-,-,h3,h4⟩ k-hk
  rw[RH]at hk
  rw[Re]at h4
  unfold ZB
  rw[hat hk,Td (λe=>e (h3 _ (NS hk)))]
  rcases S5 k with rfl|hk0
  ·rw[Td (by omega)]
  ·rw[hat (i:=k-1) (by omega),Td]
   have:=h4 (k-1) k (by omega) hk (by omega)
   omega
structure GwOk(g:Gwy):Prop where
 p:chkP g.p=0
 l:(ZP g.p.n.nodes g.l).2=0
 len:g.s.length=g.l.length
 fit:badS g.l g.s=false
 fl:YS g.l g.s=Ys g.p.q
theorem XO{g:Gwy}:chkG g=0↔GwOk g:=by
 unfold chkG
 constructor
 ·intro h
  split at h
  ·rename_i h1;exact absurd h h1
  split at h
  ·cases h
  split at h
  ·cases h
  split at h
  ·cases h
  split at h
  ·cases h
  ·rename_i h1 h2 h3 h4 h5
   exact⟨TN.1 h1,TN.1 h2,TN.1 h3,by simpa using h4,TN.1 h5⟩
 ·rintro⟨h1,h2,h3,h4,h5⟩
  rw[Td (λe=>e h1),Td (λe=>e h2),Td (λe=>e h3),Td (by rw[h4];simp),Td (λe=>e h5)]
end Go.Proofs.YtambgjgljcadlaaGreatDoor
namespace Go.Eng
open Go.RowKit
section
variable {P:Program}{n:Shp}{B:Nat}{w0:World}{Q:Exit->Act->World->Prop}{env:Env}{H:List HP}{m:Mode}{ops:Array Oper}{rest:List Oper}{d:Nat}{ty:TypeId}{pos:String}{after:Array Edge}
variable {x y:Operand}{k:IntKind}{a b:Int}{tys:Array TypeId}
theorem YrK(hx:evo env x=some (.int k a))(hy:evo env y=some (.int k b))(hn:Nat.ble (d+1) n.k=true)(h:VL P m n B w0 ops Q rest ((d,.int k (min a b))::env) H):
 VL P m n B w0 ops Q (⟨some d,.call ⟨.builtin .min,#[x,y],tys⟩,ty,pos,after,none⟩::rest) env H:=
 Ylr hx hy hn (λhlt=>by rw[show min a b=b by omega]at h;exact h) (λhge=>by rw[show min a b=a by omega]at h;exact h)
theorem YrJ(hx:evo env x=some (.int k a))(hy:evo env y=some (.int k b))(hn:Nat.ble (d+1) n.k=true)(h:VL P m n B w0 ops Q rest ((d,.int k (max a b))::env) H):
 VL P m n B w0 ops Q (⟨some d,.call ⟨.builtin .max,#[x,y],tys⟩,ty,pos,after,none⟩::rest) env H:=
 Ylq hx hy hn (λhlt=>by rw[show max a b=b by omega]at h;exact h) (λhge=>by rw[show max a b=a by omega]at h;exact h)
end
section
variable {P:Program}{B:Nat}{w0:World}{env:Env}{H:List HP}
theorem Yo9{n:Nat}(T:Tab P){fn:Func}{Φ:Value->List HP->Prop}{p g k q g2 k2 rt st:Nat}{cs ds:Array Value}{tt tt2:TypeId}{fr fr2:Nat×Nat}(hr:fn.results=#[.cell p rt,.cell q st])(hp:get env p=some (.pointer (some ⟨g,0,none⟩)))(hq:get env q=some (.pointer (some ⟨g2,0,none⟩)))
 (hm:blk g (.cells cs tt fr)∈H) (hm2:blk g2 (.cells ds tt2 fr2)∈H) (ht:look T.ag rt=some k) (hk:cs.size=k) (ht2:look T.ag st=some k2) (hk2:ds.size=k2) {H2:List HP}(hH:∀w,St B w0 H w->St B w0 H2 w) (h:Φ (.tuple #[.agg cs,.agg ds]) H2):VQ ⟨n,[],none⟩ B w0 (bodyPost P fn (Post B w0 Φ)) .ret env H:=by
 refine⟨λa w ha hw=>bodyPost_ret (v:=.tuple #[.agg cs,.agg ds]) ?_ ha.defers ⟨_,H2,rfl,hH w hw,h⟩⟩
 have hp':=ha.slot p _ hp
 have hq':=ha.slot q _ hq
 simp[results,hr,Array.getD_eq_getD_getElem?,hp',hq',asAddr,Z4 T (hw.blk hm).1 ht hk,Z4 T (hw.blk hm2).1 ht2 hk2]
end
end Go.Eng
namespace Go.Proofs.YtambgjgljcadlaaGreatDoor
open Go.RowKit Go.Eng Go.Nw Go.Rt
def lopF(l:Lop):List Value:=[.int .i64 l.1,.int .i64 l.2.1,.int .i64 l.2.2.1,.int .i64 l.2.2.2.1,.int .i64 l.2.2.2.2.1,.int .i64 l.2.2.2.2.2.1,.int .i64 l.2.2.2.2.2.2]
def lopV(l:Lop):Value:=.agg #[.int .i64 l.1,.int .i64 l.2.1,.int .i64 l.2.2.1,.int .i64 l.2.2.2.1,.int .i64 l.2.2.2.2.1,.int .i64 l.2.2.2.2.2.1,.int .i64 l.2.2.2.2.2.2]
def splF(s:Spl):List Value:=[.int .i64 s.1,.int .i64 s.2]
def splV(s:Spl):Value:=.agg #[.int .i64 s.1,.int .i64 s.2]
theorem YdF{l:List Lop}{i:Nat}(h:i<l.length):l[i]? =some (Jr l i):=by
 unfold Jr;rw[Tu,Ta h];rfl
variable {B:Nat}{w0 w:World}{H:List HP}
theorem Ykz(v nodes:Int)(gn:Nat)(hm:blk gn (.cells #[.int .i64 nodes] 3 (0,0))∈H)(hw:St B w0 H w):
 CX B w0 205 [.int .i64 v,.pointer (some ⟨gn,0,none⟩)] w λu K=>u=.bool (insE v nodes)/\K=H:=by
 refine Yc Tryz.func205 Tryz.ntmps205 rfl rfl hw ?_
 repeat'(first|refine zgc ?_|(refine zgf ?_ ?_<;>intro _<;>try exact zo)|fail)
 all_goals(
  apply Yd;exact rfl;exact rfl
  first
   |exact⟨by rw[show insE v nodes=true from Ti (by omega)],rfl⟩
   |exact⟨by rw[show insE v nodes=false from Tn (by omega)],rfl⟩)
theorem UD(nodes:Int)(f:Lop)(hw:St B w0 H w):
 CX B w0 116 [.int .i64 nodes,lopV f] w λv K=>v=.int .i64 (lopE nodes f)/\K=H:=by
 refine Yc Tryz.func116 Tryz.ntmps116 rfl rfl hw ?_
 obtain⟨e,he⟩:∃e,lopE nodes f=e:=⟨_,rfl⟩
 rw[he]
 by_cases hA:f.1<0\/127<f.1
 ·repeat'(first|(apply zg23;first|(refine zs52 ?_;intro _)|(refine zs53 ?_;intro _))|(apply zg29;(apply Yp;exact za;exact rfl))|refine zgd ?_|(refine zgf ?_ ?_<;>intro _<;>try exact zo)|fail)
  all_goals(
   apply Yi H
   ·exact zk
   apply Yd;exact rfl;exact rfl
   refine⟨?_,rfl⟩
   rw[<-he]
   unfold lopE
   first
    |(rw[Tm (by first|exact .inl (by omega)|exact .inr (.inl (by omega))|exact .inr (.inr (.inl (by assumption)))|exact .inr (.inr (.inr (.inl (by assumption))))|exact .inr (.inr (.inr (.inr (by assumption)))))];done)
    |(rw[Td (by rintro(h|h|h|h|h)<;>first|omega|simp_all)]
      first
       |(rw[Tm (by omega)];done)
       |(rw[Td (by omega),Tm (by omega)];done)
       |(rw[Td (by omega),Td (by omega)];done)))
 ·repeat'(first|(apply zg23;first|(refine zs52 ?_;intro _)|(refine zs53 ?_;intro _))|(apply zg29;(apply Yp;exact za;exact rfl))|refine zgc ?_|(refine zgf ?_ ?_<;>intro _<;>try exact zo)|fail)
  rename_i gn gf _ _
  repeat'(first|((first|apply JZ (cs:=[.pointer (some ⟨gn,0,none⟩)])|apply JY (cs:=[.pointer (some ⟨gn,0,none⟩)]));exact rfl;exact Yv9;exact za;exact rfl;exactλ_ hw=>(Ykz _ nodes gn zm hw);all_goals(intro hB;(try simp only[Tt,T9]at hB);try exact zo))|refine zgd ?_|(refine zgf ?_ ?_<;>intro _<;>try exact zo)|fail)
  all_goals(
   apply Yi H
   ·exact zk
   apply Yd;exact rfl;exact rfl
   refine⟨?_,rfl⟩
   rw[<-he]
   unfold lopE
   first
    |(rw[Tm (by first|exact .inl (by omega)|exact .inr (.inl (by omega))|exact .inr (.inr (.inl (by assumption)))|exact .inr (.inr (.inr (.inl (by assumption))))|exact .inr (.inr (.inr (.inr (by assumption)))))];done)
    |(rw[Td (by rintro(h|h|h|h|h)<;>first|omega|simp_all)]
      first
       |(rw[Tm (by omega)];done)
       |(rw[Td (by omega),Tm (by omega)];done)
       |(rw[Td (by omega),Td (by omega)];done)))
theorem Ow(nodes:Int)(l:List Lop)(hl:l.length<=9223372036854775807){A:Option Addr}{cap:Nat}(hr:Rd B w0 H A (l.flatMap lopF))(hw:St B w0 H w):
 CX B w0 57 [.int .i64 nodes,.slice A l.length cap] w λv K=>v=.tuple #[.int .i64 (ZP nodes l).1,.int .i64 (ZP nodes l).2]/\K=H:=by
 refine Yc Tryz.func57 Tryz.ntmps57 rfl rfl hw ?_
 by_cases hn:nodes<2\/32<nodes
 ·have hE:ZP nodes l=(-1,2):=by unfold ZP;exact Tm hn
  rw[hE]
  repeat'(first|refine zgd ?_|(refine zgf ?_ ?_<;>intro _<;>try exact zo)|fail)
  all_goals(apply Yx;(iterate 3 exact rfl);exact⟨rfl,rfl⟩)
 by_cases h16:8<l.length
 ·have hE:ZP nodes l=(-1,8):=by unfold ZP;exact(Td hn).trans (Tm h16)
  rw[hE]
  repeat'(first|refine zgd ?_|(refine zgf ?_ ?_<;>intro _<;>try exact zo)|fail)
  apply Yx;(iterate 3 exact rfl);exact⟨rfl,rfl⟩
 have hE:ZP nodes l=YD (ZB nodes l) l.length 0:=by unfold ZP;exact(Td hn).trans (Td h16)
 rw[hE]
 repeat'(first|refine zgc ?_|(refine zgf ?_ ?_<;>intro _<;>try exact zo)|fail)
 refine Yj (λ(i:Nat)=>[(22,.int .i64 i),(21,.int .i64 l.length),(20,.slice A l.length cap),(0,.int .i64 nodes),(1,.slice A l.length cap)]) (λ_=>H) (λi=>i<=l.length/\∀k,k<i->ZB nodes l k=0) (λi=>l.length-i) 0 ⟨Tj _,λk hk=>absurd hk (R9 _)⟩ ?_ (λw hw=>hw) ?_
 ·exact zu
 rintro i ⟨hi,hall⟩ K hK
 by_cases hlt:i<l.length
 ·have hget:l[i]? =some (Jr l i):=YdF hlt
  have hbad:ZB nodes l i≠0->YD (ZB nodes l) l.length 0=((i:Int),ZB nodes l i):=λh=>Zu (λk _ hk=>hall k hk) (Tj _) (by omega) h
  have hstep:ZB nodes l i=0->∀k,k<i+1->ZB nodes l k=0:=λh k hk=>by
   by_cases e:k=i
   ·rw[e];exact h
   ·exact hall k (by omega)
  by_cases he:lopE nodes (Jr l i)≠0
  ·have hf:ZB nodes l i=lopE nodes (Jr l i):=by unfold ZB;exact Tm he
   rw[hbad (by rw[hf];exact he),hf]
   repeat'(first|((first|apply Ya JT|apply Yb JT);exact za;exact rfl;exactλ_ hw=>(UD nodes (Jr l i) hw))|refine zgd ?_|(refine zge ?_ ?_<;>intro _<;>try exact zo)|(refine zgh ?_;intro _)|fail)
   apply Yi H
   ·exact zk
   apply Yx;(iterate 3 exact rfl);exact⟨rfl,rfl⟩
  have he0:=TN.1 he
  have hck:=λ{H':List HP}{w:World}(hw:St B w0 H' w)=>UD nodes (Jr l i) hw
  rw[he0]at hck
  rcases S5 i with h0|h0
  ·subst h0
   have hf:ZB nodes l 0=0:=by unfold ZB;rw[Td he,Td (by omega)]
   repeat'(first|((first|apply Ya JT|apply Yb JT);exact za;exact rfl;exactλ_ hw=>(hck hw))|refine zgd ?_|(refine zgf ?_ ?_<;>intro _<;>try exact zo)|(refine zgh ?_;intro _)|fail)
   apply hK (0+1)
   ·exact⟨by omega,hstep hf⟩
   ·omega
   ·exact zu
   ·exact zk
  have hget2:l[((i:Int)-1).toNat]? =some (Jr l (i-1)):=by
   rw[show((i:Int)-1).toNat=i-1 by omega]
   exact YdF (by omega)
  by_cases hle:(Jr l i).1<=(Jr l (i-1)).1
  ·have hf:ZB nodes l i=5:=by unfold ZB;rw[Td he,Tm ⟨h0,hle⟩]
   rw[hbad (by rw[hf];decide),hf]
   repeat'(first|((first|apply Ya JT|apply Yb JT);exact za;exact rfl;exactλ_ hw=>(hck hw))|refine zgd ?_|(refine zgf ?_ ?_<;>intro _<;>try exact zo)|(refine zgh ?_;intro _)|fail)
   apply Yi H
   ·exact zk
   apply Yx;(iterate 3 exact rfl);exact⟨rfl,rfl⟩
  ·have hf:ZB nodes l i=0:=by unfold ZB;rw[Td he,Td (λh=>hle h.2)]
   repeat'(first|((first|apply Ya JT|apply Yb JT);exact za;exact rfl;exactλ_ hw=>(hck hw))|refine zgd ?_|(refine zgf ?_ ?_<;>intro _<;>try exact zo)|(refine zgh ?_;intro _)|fail)
   apply hK (i+1)
   ·exact⟨by omega,hstep hf⟩
   ·omega
   ·exact zu
   ·exact zk
 ·repeat'(first|refine zgc ?_|(refine zge ?_ ?_<;>intro _<;>try exact zo)|fail)
  rw[show i=l.length by omega]at hall
  rw[Zv λk _ hk=>hall k (by omega)]
  apply Yx;(iterate 3 exact rfl);exact⟨rfl,rfl⟩
variable {l:Lop}
theorem JE{n:Int}(h:lopE n l=0):(0<=l.1/\l.1<=127)/\(1<=l.2.2.2.2.1/\l.2.2.2.2.1<=512)/\(0<=l.2.2.2.2.2.1/\l.2.2.2.2.2.1<l.2.2.2.2.1)/\(1<=l.2.2.2.2.2.2/\l.2.2.2.2.2.2<=1024):=by
 unfold lopE at h
 split at h
 ·cases h
 rename_i h1
 split at h
 ·cases h
 rename_i h2
 omega
theorem YbJ(l:Lop)(s:Spl)(h1:1<=l.2.2.2.2.1/\l.2.2.2.2.1<=512)(h2:(1<=s.1/\s.1<=512)/\(1<=s.2/\s.2<=512))(hw:St B w0 H w):
 CX B w0 73 [lopV l,splV s] w λv K=>v=.int .i64 (Ybg l s)/\K=H:=by
 refine Yc Tryz.func73 Tryz.ntmps73 rfl rfl hw ?_
 unfold lopV splV
 repeat'(first|refine zgd ?_|(refine zgh ?_;intro _)|fail)
 apply Yi H
 ·exact zk
 apply Yd;exact rfl;exact rfl;exact⟨rfl,rfl⟩
theorem Ykw(l:Lop)(s:Spl)(h1:1<=l.2.2.2.2.1/\l.2.2.2.2.1<=512)(hw:St B w0 H w):
 CX B w0 139 [lopV l,splV s] w λv K=>v=.bool (fitS l s)/\K=H:=by
 refine Yc Tryz.func139 Tryz.ntmps139 rfl rfl hw ?_
 obtain⟨b,hb⟩:∃b,fitS l s=b:=⟨_,rfl⟩
 rw[hb]
 unfold fitS at hb
 have p1:=λ(h2:(1<=s.1/\s.1<=512)/\(1<=s.2/\s.2<=512)) {H':List HP}{w:World}(hw:St B w0 H' w)=>YbJ l s h1 h2 hw
 unfold lopV splV at p1⊢
 repeat'(first|((first|apply Ya en73|apply Yb en73);exact za;exact rfl;exactλ_ hw=>(p1 (by omega) hw))|(apply zg28;refine zs84 ?_)|refine zgd ?_|(refine zgf ?_ ?_<;>intro _<;>try exact zo)|(refine zgh ?_;intro _)|fail)
 all_goals(
  apply Yi H
  ·exact zk
  apply Yd;exact rfl;exact rfl
  refine⟨?_,rfl⟩
  rw[<-hb]
  first
   |(rw[Ti (by omega)];done)
   |(rw[Tn (by omega)];done))
theorem YbI(l:Lop)(s:Spl)(hw:St B w0 H w):
 CX B w0 72 [lopV l,splV s] w λv K=>v=.int .i64 (XW l s)/\K=H:=by
 refine Yc Tryz.func72 Tryz.ntmps72 rfl rfl hw ?_
 have p1:=λ{H':List HP}{w:World}(hw:St B w0 H' w)=>UD 32 l hw
 unfold XW
 by_cases h:lopE 32 l=0
 rotate_left
 ·rw[Tm h]
  unfold lopV at p1⊢
  unfold splV
  repeat'(first|((first|apply Ya JT|apply Yb JT);exact za;exact rfl;exactλ_ hw=>(p1 hw))|refine zgb ?_|(refine zge ?_ ?_<;>intro _<;>try exact zo)|(refine zgh ?_;intro _)|fail)
  apply Yi H
  ·exact zk
  apply Yd;exact rfl;exact rfl;exact⟨rfl,rfl⟩
 have p2:=λ{H':List HP}{w:World}(hw:St B w0 H' w)=>Ykw l s (JE h).2.1 hw
 rw[Td (λe=>e h)]
 rw[h]at p1
 unfold lopV at p1
 unfold lopV splV at p2
 unfold lopV splV
 cases hb:fitS l s with
 |false=>
  rw[hb]at p2
  rw[Tm rfl]
  repeat'(first|((first|apply Ya JT|apply Yb JT);exact za;exact rfl;exactλ_ hw=>(p1 hw))|((first|apply Ya YlJ|apply Yb YlJ);exact za;exact rfl;exactλ_ hw=>(p2 hw))|refine zgd ?_|(refine zge ?_ ?_<;>intro _<;>try exact zo)|(refine zgh ?_;intro _)|fail)
  apply Yi H
  ·exact zk
  apply Yd;exact rfl;exact rfl;exact⟨rfl,rfl⟩
 |true=>
  rw[hb]at p2
  rw[Td (by decide)]
  repeat'(first|((first|apply Ya JT|apply Yb JT);exact za;exact rfl;exactλ_ hw=>(p1 hw))|((first|apply Ya YlJ|apply Yb YlJ);exact za;exact rfl;exactλ_ hw=>(p2 hw))|refine zgd ?_|(refine zge ?_ ?_<;>intro _<;>try exact zo)|(refine zgh ?_;intro _)|fail)
  apply Yi H
  ·exact zk
  apply Yd;exact rfl;exact rfl;exact⟨rfl,rfl⟩
theorem WG{s:Spl}(h:XW l s=0):lopE 32 l=0/\(1<=s.1/\s.1<=512)/\(1<=s.2/\s.2<=512)/\s.1+s.2<=l.2.2.2.2.1/\Ybg l s<=l.2.2.2.2.2.2:=by
 unfold XW at h
 split at h
 ·rename_i h1;exact absurd h h1
 rename_i h1
 split at h
 ·cases h
 rename_i h2
 have h1:=TN.1 h1
 have h3:=(JE h1).2.1
 unfold fitS at h2
 simp only[Bool.not_eq_false,Tt]at h2
 exact⟨h1,by omega,by omega,h2.2.2.2.2.1,h2.2.2.2.2.2⟩
def flsS(l:Lop)(s:Spl):List Flw:=if XW l s≠0 then []else [JV l s,JW l s]
theorem YiK(l:Lop)(s:Spl)(h:XW l s=0)(hw:St B w0 H w):
 CX B w0 117 [lopV l,splV s] w λv K=>v=.tuple #[flwV (JV l s),flwV (JW l s)]/\K=H:=by
 refine Yc Tryz.func117 Tryz.ntmps117 rfl rfl hw ?_
 obtain⟨h1,h2,h3,-⟩:=WG h
 obtain⟨h4,h5,h6,h7⟩:=JE h1
 unfold JV JW
 rw[RJ (by omega)]
 unfold lopV splV flwV
 refine Xf [many H] (λw hw=>hw.perm (.closeT H)) ?_
 repeat'(first|refine zgd ?_|(refine zgh ?_;intro _)|fail)
 apply Ycq [0,1,2,3,4,5,6,7,8,9,10,11,12,13,14,15,16,17,18,19,20,21] [22] [true,true,true,true,true,true]
 kernel_rfl
 kernel_rfl
 exact zy
 (simp only[Yg,nthO];rfl)
 (simp only[Yg,nthO];rfl)
 repeat'(first|(apply Yk;try exact zl)|refine zgd ?_|(refine zgh ?_;intro _)|fail)
 apply YK [0,1,2] [3] [true,true,false,false,true,true,true]
 kernel_rfl
 kernel_rfl
 exact zy
 (simp only[Yg,nthO];rfl)
 (simp only[Yg,nthO];rfl)
 repeat'(first|(apply Yk;try exact zl)|refine zgd ?_|fail)
 apply Yo9 T (H2:=H);(iterate 3 exact rfl);exact zm;exact zm;(iterate 4 exact rfl)
 ·intro w hw
  have h5:St B w0 [many H] w:=by
   revert w
   exact zk
  exact h5.perm (.openT H)
 exact⟨rfl,rfl⟩
theorem YbE(l:Lop)(s:Spl)(hw:St B w0 H w):
 CX B w0 58 [lopV l,splV s] w λv K=>∃A,v=.tuple #[.slice A (flsS l s).length (flsS l s).length,.int .i64 (XW l s)]/\K=flws A (flsS l s).length (flsS l s)::H:=by
 refine Yc Tryz.func58 Tryz.ntmps58 rfl rfl hw ?_
 have p1:=λ{H':List HP}{w:World}(hw:St B w0 H' w)=>YbI l s hw
 unfold flsS
 by_cases h:XW l s=0
 rotate_left
 ·rw[Tm h]
  unfold lopV splV at p1⊢
  repeat'(first|((first|apply Ya en72|apply Yb en72);exact za;exact rfl;exactλ_ hw=>(p1 hw))|refine zgb ?_|(refine zge ?_ ?_<;>intro _<;>try exact zo)|(refine zgh ?_;intro _)|fail)
  apply Yi H
  ·exact zk
  apply Xk 53 6
  apply Yx;(iterate 3 exact rfl);exact⟨none,rfl,rfl⟩
 rw[Td (λe=>e h)]
 have p2:=λ{H':List HP}{w:World}(hw:St B w0 H' w)=>YiK l s h hw
 rw[h]at p1⊢
 obtain⟨a,ha⟩:∃a,JV l s=a:=⟨_,rfl⟩
 obtain⟨b,hb⟩:∃b,JW l s=b:=⟨_,rfl⟩
 rw[ha,hb]at p2⊢
 unfold lopV splV at p1⊢
 unfold lopV splV flwV at p2
 repeat'(first|((first|apply Ya en72|apply Yb en72);exact za;exact rfl;exactλ_ hw=>(p1 hw))|((first|apply Ya Yth|apply Yb Yth);exact za;exact rfl;exactλ_ hw=>(p2 hw))|refine zgc ?_|(refine zge ?_ ?_<;>intro _<;>try exact zo)|(refine zgh ?_;intro _)|fail)
 rename_i g
 apply Yi (flws (some ⟨g,0,none⟩) 2 [a,b]::H)
 ·intro w hw
  have h5:St B w0 (blk g (.cells #[.int .i64 a.1,.int .i64 a.2.1,.int .i64 a.2.2.1,.int .i64 a.2.2.2.1,.int .i64 a.2.2.2.2.1,.int .i64 a.2.2.2.2.2,.int .i64 b.1,.int .i64 b.2.1,.int .i64 b.2.2.1,.int .i64 b.2.2.2.1,.int .i64 b.2.2.2.2.1,.int .i64 b.2.2.2.2.2] 53 (0,0))::H) w:=by
   revert w
   exact zk
  exact h5.blk_sl (cs:=[a,b].flatMap flwF) (len:=2) (size:=6) rfl (by omega)
 apply Yx;(iterate 3 exact rfl);exact⟨_,rfl,rfl⟩
abbrev spls(A:Option Addr)(cap:Nat)(l:List Spl):HP:=sl 90 2 A l.length cap (l.flatMap splF)
abbrev lops(A:Option Addr)(cap:Nat)(l:List Lop):HP:=sl 77 7 A l.length cap (l.flatMap lopF)
theorem Yoq(A:Option Addr)(cap:Nat)(l:List Spl)(a b:Int):sl 90 2 A (l.length+1) cap (l.flatMap splF++#[.int .i64 a,.int .i64 b].toList)=spls A cap (l++[(a,b)]):=by simp[spls,List.flatMap_append,splF]
def Yjn(l:Lop):List Spl:=if lopE 32 l≠0 then []else Vc l
structure LsM where
 i:Nat
 A:Option Addr
 cap:Nat
theorem YgD(l:Lop)(hw:St B w0 H w):
 CX B w0 62 [lopV l] w λv K=>∃A cap,v=.tuple #[.slice A (Yjn l).length cap,.int .i64 (lopE 32 l)]/\K=spls A cap (Yjn l)::H:=by
 refine Yc Tryz.func62 Tryz.ntmps62 rfl rfl hw ?_
 have p1:=λ{H':List HP}{w:World}(hw:St B w0 H' w)=>UD 32 l hw
 unfold Yjn
 by_cases h:lopE 32 l=0
 rotate_left
 ·rw[Tm h]
  unfold lopV at p1⊢
  repeat'(first|((first|apply Ya JT|apply Yb JT);exact za;exact rfl;exactλ_ hw=>(p1 hw))|refine zgb ?_|(refine zge ?_ ?_<;>intro _<;>try exact zo)|(refine zgh ?_;intro _)|fail)
  apply Yi H
  ·exact zk
  apply Xk 90 2
  apply Yx;(iterate 3 exact rfl);exact⟨none,0,rfl,rfl⟩
 rw[Td (λe=>e h)]
 obtain⟨h4,h5,h6,h7⟩:=JE h
 rw[h]at p1⊢
 unfold Vc
 obtain⟨S,hS⟩:∃S,sumS l=S:=⟨_,rfl⟩
 rw[hS]
 unfold sumS at hS
 obtain⟨n,hn⟩:∃n:Nat,max (S-1) 0=n:=⟨(max (S-1) 0).toNat,by omega⟩
 rw[hn,RS]
 obtain⟨f,hf⟩:∃f:Nat->Spl,(λi:Nat=>((i:Int)+1,S-1-(i:Int)))=f:=⟨_,rfl⟩
 have hfi:∀i:Nat,f i=((i:Int)+1,S-1-(i:Int)):=λi=>by rw[<-hf]
 rw[hf]
 have hfs:∀i:Nat,((List.range i).map f).length=i:=λi=>by rw[TC,NN]
 unfold lopV at p1⊢
 repeat'(first|((first|apply Ya JT|apply Yb JT);exact za;exact rfl;exactλ_ hw=>(p1 hw))|(apply YrK;(iterate 3 exact rfl))|(apply YrJ;(iterate 3 exact rfl))|refine zgd ?_|(refine zge ?_ ?_<;>intro _<;>try exact zo)|(refine zgh ?_;intro _)|fail)
 rename_i g1
 rw[hS,hn]
 refine XT 90 2 ?_
 refine Yj (λz:LsM=>[(25,.int .i64 (z.i:Nat)),(24,.int .i64 (n:Nat)),(5,.int .i64 S),(6,.slice z.A ((List.range z.i).map f).length z.cap)]) (λz=>spls z.A z.cap ((List.range z.i).map f)::H) (λz=>z.i<=n) (λz=>n-z.i) ⟨0,none,0⟩ (Tj _) ?_ ?_ ?_
 ·exact zu
 ·intro w hw
  have h5:St B w0 (sl 90 2 none 0 0 []::H) w:=by
   revert w
   exact zk
  exact h5
 rintro⟨i,A2,cap2⟩ hi K hK
 dsimp only at hi⊢
 by_cases hlt:i<n
 ·have hst:(List.range (i+1)).map f=(List.range i).map f++[f i]:=by rw[RV,Rl];rfl
  have hfi:=hfi i
  have hil:=hfs i
  generalize(List.range i).map f=L at hst hil⊢
  repeat'(first|refine zgd ?_|(refine zge ?_ ?_<;>intro _<;>try exact zo)|(refine zgh ?_;intro _)|(refine zgi ?_;intro _ _)|fail)
  rename_i A' cap'
  rw[Yoq,<-hfi,<-hst,show L.length+1=((List.range (i+1)).map f).length by rw[hst];simp]
  apply hK ⟨i+1,A',cap'⟩
  ·show i+1<=_
   omega
  ·dsimp only;omega
  ·exact zu
  ·exact zk
 ·obtain rfl:i=n:=by omega
  repeat'(first|refine zgc ?_|(refine zge ?_ ?_<;>intro _<;>try exact zo)|fail)
  apply Yx;(iterate 3 exact rfl)
  exact⟨A2,cap2,rfl,rfl⟩
end Go.Proofs.YtambgjgljcadlaaGreatDoor
