/- Lemmas. -/
import Derived.LoopN
import Derived.StillTailTactics
import Derived.Test.YtjlgijpmnfabcaaGreatDoorQ17
import Derived.Test.YtjlgijpmnfabcaaGreatDoorQ18
set_option maxRecDepth 100000
set_option maxHeartbeats 8000000
set_option linter.all false
namespace Go.Proofs.YtjlgijpmnfabcaaGreatDoor
open Go.RowKit Go.Eng Go.Nw Go.Rt
theorem YiZ(n:NetM)(q:List RqM)(s:SchM)(x:RqM)(h24:s.len<=24){A:Option Addr}{cap B:Nat}{w0:World}{H:List HP}{w:World}(ht:TabsB B w0)(hin:n.In B w0 H)(hq:QIn B w0 H A q)(hrs:Rd B w0 H s.A (s.cells.flatMap celF))(hsl:s.cells.length<=1000000000000)(hx:x.In B w0 H)(hw:St B w0 H w):
 CX B w0 207 [n.val,.slice A q.length cap,s.val,rqV x] w (OutS H (Jw n.net (q.map RqM.rq) s.sch x.rq)):=by
 refine Ya Tryz.func207 Tryz.ntmps207 rfl rfl hw ?_
 have p1:=λ{H':List HP}{w:World}(hin:n.In B w0 H') (hq:QIn B w0 H' A q) (hrs:Rd B w0 H' s.A (s.cells.flatMap celF)) (hw:St B w0 H' w)=>Ybg n q s (cap:=cap) ht hin hq hrs hsl hw
 have pf:=λ{A':Option Addr}{cap':Nat}{q':List RqM}{H':List HP}{w:World}(hin:n.In B w0 H') (hq:QIn B w0 H' A' q') (hw:St B w0 H' w)=>YaW n q' (cap:=cap') ht hin hq hw
 have pp:=λ(hsm:Sm n.net (YR (insQ (q.map RqM.rq) x.rq)) s.sch) (hrow:∀r∈x.rows,Yn4 n (YR (insQ (q.map RqM.rq) x.rq)) x.f.1 r) (hf:Xv n.net.nodes x.f=0) {H':List HP}{w:World}(hin:n.In B w0 H') (hr:Rd B w0 H' s.A (s.cells.flatMap celF)) (hx:x.In B w0 H') (hw:St B w0 H' w)=>Yij n _ s x hsm h24 hrow hf hin hr hx hw
 have hn1:n.val=.agg #[.int .i64 n.nodes,.slice n.pA n.rows.length n.pcap,.int .i64 n.noise,.int .i64 n.thr,.slice n.lA n.links.length n.lcap,.slice n.mA n.margin.length n.mcap]:=rfl
 unfold NetM.val SchM.val rqV at*
 clear hn1
 have hlenS:s.sch.len=s.len:=rfl
 have hxf:x.rq.1=x.f:=rfl
 have hop:∀w,St B w0 [many H] w->St B w0 H w:=λw hw=>hw.perm (.openT H)
 have hin:=hin.mono hop
 have hq:=hq.mono hop
 have hrs:=hrs.mono hop
 have hx:=hx.mono hop
 refine XD [many H] (λw hw=>hw.perm (.closeT H)) ?_
 refine zX70 ?_<;>intros
 rename_i g4 g6 g7 g8
 first|apply Yb Yk4|apply Yc Yk4
 exact za
 exact rfl
 exactλ_ hw=>(p1 hin.cons.cons.cons.cons hq.cons.cons.cons.cons hrs.cons.cons.cons.cons hw)
 by_cases hc:(YO n.net (q.map RqM.rq) s.sch).2.2=0
 rotate_left
 ·rw[Tj hc]
  refine zX2 ?_
  apply Yv T (H2:=cels none 0 []::H);(iterate 3 exact rfl);(focus exact zc2);exact rfl;exact rfl
  ·intro w hw
   have h5:St B w0 [many H] w:=by
    revert w
    exact zc0
   exact zc58
  exact Ub 1 (by rw[Jw,Tn hc]) rfl
 rw[Td hc]
 have hrq:(rqsE n.net (q.map RqM.rq)).2=0:=Rw.1 λh1=>by
  unfold YO at hc;rw[Tn h1]at hc;exact h1 hc
 have hck:=(VM hrq).1
 have hql:q.length<=16:=by
  have h1:=(VM hrq).2.1
  unfold YE at h1
  split at h1
  ·cases h1
  split at h1
  ·cases h1
  rename_i h2
  unfold YR at h2
  rw[Tt,Tt]at h2
  omega
 have hord:=Yum hrq
 repeat'(first|(apply zg29;(apply Yr;exact za;exact rfl))|refine zgd ?_|fail)
 first|apply Yb Yld|apply Yc Yld
 exact za
 exact rfl
 exactλ_ hw=>(WN (λy=>decide (y.f.1=x.f.1)) q 291 [.pointer (some ⟨g7,0,none⟩)] Yvs (by omega) hq.rd.cons.cons.cons.cons (λa _ w hw=>Yml a x g7 (by(focus exact zc2)) hw) hw)
 have hhas:(q.any λy=>decide (y.f.1=x.f.1))=hasQ (q.map RqM.rq) x.f.1:=by
  unfold hasQ;rw[List.any_map];rfl
 rw[hhas]
 cases hh:hasQ (q.map RqM.rq) x.f.1 with
 |true=>
  refine zX2 ?_
  apply Yv T (H2:=cels none 0 []::H);(iterate 3 exact rfl);(focus exact zc2);exact rfl;exact rfl
  ·intro w hw
   have h5:St B w0 [many H] w:=by
    revert w
    exact zc0
   exact zc58
  exact Ub 6 (by rw[Jw,Tf (λe=>e hc),Tn (show hasQ (q.map RqM.rq) x.rq.1.1=true from hh)]) rfl
 |false=>
 have hadm:Jw n.net (q.map RqM.rq) s.sch x.rq=(if(rqsE n.net (insQ (q.map RqM.rq) x.rq)).2≠0 then(XI,1)
  else if s.sch.len.tmod x.rq.1.2.2.2.1≠0 then(XI,11)else match Jm n.net x.rq.1 x.rq.2 s.sch with
   |none=>(XI,18)
   |some t=>if 512<t.cells.length then(XI,8)else(t,0):Sch×Int):=by
  have hh2:¬hasQ (q.map RqM.rq) x.rq.1.1=true:=λh=>by rw[show hasQ (q.map RqM.rq) x.rq.1.1=false from hh]at h;cases h
  unfold Jw
  rw[Tf (λe=>e hc),Tf hh2]
  rfl
 rw[hadm]
 have pi:=λ{H':List HP}{w:World}(hr:Rd B w0 H' A (q.flatMap rqF)) (hw:St B w0 H' w)=>YdZ q x hord (by omega) (cap:=cap) hr hw
 have hkl:posQ (q.map RqM.rq) x.f.1<=q.length:=zc83
 have hmap:=Yru q x
 have hins:=Yaq q x _ hkl
 generalize posQ (q.map RqM.rq) x.f.1=k at*
 unfold rqV at pi
 refine zX4 ?_
 apply YI [0,1,2,3,4,5] [] [true,true,true,true,true]
 kernel_rfl
 kernel_rfl
 exact zy
 (simp only[Yd,nthO];rfl)
 exact rfl
 refine zX2 ?_
 apply Yf _ Yvt
 exact za
 exact rfl
 exactλ_ hw=>(pi hq.rd.cons.cons.cons.cons (hw))
 rintro _ _ ⟨A1,cap1,rfl,rfl⟩
 rw[<-hins]
 have hqi:=hq.insert (A':=A1) (cap':=cap1) hx (by omega) k hkl
 refine zX17 ?_
 first|apply Yb Yez|apply Yc Yez
 exact za
 exact rfl
 exactλ_ hw=>(pf (hin.mono zc0) (hqi.mono zc0) hw)
 rw[hmap,YeH hck]
 by_cases hrx:(rqsE n.net (insQ (q.map RqM.rq) x.rq)).2=0
 rotate_left
 ·rw[Td hrx]
  refine zX17 ?_
  apply Yv T (H2:=cels none 0 []::H);(iterate 3 exact rfl);(focus exact zc2);exact rfl;exact rfl
  ·intro w hw
   have h5:St B w0 [many H] w:=by
    revert w
    exact zc0
   exact zc58
  exact Ub 1 (by rw[Tn hrx]) rfl
 have hdf:decide ((rqsE n.net (insQ (q.map RqM.rq) x.rq)).2≠0)=false:=Tj (λe=>e hrx)
 rw[hdf,Tf (λe=>e hrx)]
 have hxm:x.rq∈insQ (q.map RqM.rq) x.rq:=JS.2 (.inl rfl)
 have hfx:Xv n.net.nodes x.f=0:=JB (VM hrx).2.1 (TC.2 ⟨x.rq,hxm,rfl⟩)
 obtain⟨-,hper,hph,-,hd⟩:=X6 hfx
 have hl1:1<=s.len:=by
  have h0:=(JM.1 (Zw.1 (Za.1 hc).1)).frm.sized
  unfold ZP at h0
  exact(Rm h0).1
 have hmm:s.len.tmod x.f.2.2.2.1=s.len%x.f.2.2.2.1:=Rn (by omega)
 by_cases hm:s.len%x.f.2.2.2.1=0
 rotate_left
 ·rw[Tn (show s.sch.len.tmod x.rq.1.2.2.2.1≠0 fromλe=>hm (hmm.symm.trans e))]
  refine zX92 ?_<;>intros
  apply Yv T (H2:=cels none 0 []::H);(iterate 3 exact rfl);(focus exact zc2);exact rfl;exact rfl
  ·intro w hw
   have h5:St B w0 [many H] w:=by
    revert w
    exact zc0
   exact zc58
  exact Ub 11 rfl rfl
 rw[Tf (show¬s.sch.len.tmod x.rq.1.2.2.2.1≠0 fromλe=>e (hmm.trans hm))]
 obtain⟨hsm,-,hrd⟩:=Ymm hc hrx (hmm.trans hm)
 have hrow:∀r∈x.rows,Yn4 n (YR (insQ (q.map RqM.rq) x.rq)) x.f.1 r:=λr hr=>by
  obtain⟨h1,h2,h3⟩:=hrd r.xs (TC.2 ⟨r,hr,rfl⟩)
  exact⟨h1,h2,h3⟩
 have pl:=λ{H':List HP}{w:World}=>@pp hsm hrow hfx H' w
 clear pp
 apply Xy [many H,netA g4 n,schA g6 s,rqA g7 x,blk g8 (.cells (Value.agg #[.int .i64 0,.int .i64 0,.slice none 0 0]).cells 30 (0,0))]
 ·exact zc0
 refine zX92 ?_<;>intros
 apply Yf _ Yvu
 exact za
 exact rfl
 exactλ_ hw=>(pl (hin.mono zc0) (hrs.mono zc0) (hx.mono zc0) (hw))
 rintro _ _ ⟨s',ok,P,rfl,ho1,ho2,rfl⟩
 cases ok with
 |false=>
  rw[show Jm n.net x.rq.1 x.rq.2 s.sch=none from ho2 rfl]
  refine zX25 ?_<;>intros
  apply Yv T (H2:=cels none 0 []::H);(iterate 3 exact rfl);(focus exact zc2);exact rfl;exact rfl
  ·intro w hw
   have h5:St B w0 [many H] w:=by
    revert w
    exact zc0
   exact zc58
  exact Ub 18 rfl rfl
 |true=>
 obtain⟨h1,h2⟩:=ho1 rfl
 rw[show Jm n.net x.rq.1 x.rq.2 s.sch=some s'.sch from h1]
 have e3:s'.sch.cells=s'.cells:=rfl
 dsimp only
 rw[e3]
 by_cases h512:512<s'.cells.length
 ·rw[Tn h512]
  refine zX44 ?_<;>intros
  apply Yv T (H2:=cels none 0 []::H);(iterate 3 exact rfl);(focus exact zc2);exact rfl;exact rfl
  ·intro w hw
   have h5:St B w0 [many H] w:=by
    revert w
    exact zc0
   exact zc58
  exact Ub 8 rfl rfl
 rw[Tf h512]
 refine zX44 ?_<;>intros
 apply Yf _ Yew
 exact za
 exact rfl
 exactλ_ hw=>(Z0 s'.cells (by omega) (h2.mono zc0) (hw))
 rintro _ _ ⟨A2,c2,rfl,rfl⟩
 refine zX2 ?_
 apply Yv T (H2:=cels A2 c2 s'.cells::H);(iterate 3 exact rfl);(focus exact zc2);exact rfl;exact rfl
 ·intro w hw
  have h5:St B w0 (cels A2 c2 s'.cells::[many H]) w:=by
   revert w
   exact zc0
  exact YlW
 exact⟨A2,c2,rfl,rfl⟩
end Go.Proofs.YtjlgijpmnfabcaaGreatDoor
namespace Go.Eng
open Go.RowKit
variable {B:Nat}{w0:World}{H:List HP}
theorem Un{P:Program}{env:Env}{n:Nat}(T:Tab P){fn:Func}{Φ:Value->List HP->Prop}{p g k u s rt:Nat}{x y:Value}{cs:Array Value}{tt:TypeId}{fr:Nat×Nat}(hr:fn.results=#[.cell p rt,.tmp u,.tmp s])(hp:get env p=some (.pointer (some ⟨g,0,none⟩)))(hu:get env u=some x)(hs:get env s=some y)
 (hm:blk g (.cells cs tt fr)∈H) (ht:look T.ag rt=some k) (hk:cs.size=k) {H2:List HP}(hH:∀w,St B w0 H w->St B w0 H2 w) (h:Φ (.tuple #[.agg cs,x,y]) H2):VQ ⟨n,[],none⟩ B w0 (bodyPost P fn (Post B w0 Φ)) .ret env H:=by
 refine⟨λa w ha hw=>bodyPost_ret (v:=.tuple #[.agg cs,x,y]) ?_ ha.defers ⟨_,H2,rfl,hH w hw,h⟩⟩
 have hp':=ha.slot p _ hp
 simp[results,hr,Array.getD_eq_getD_getElem?,hp',ha.slot u _ hu,ha.slot s _ hs,asAddr,Vg T (hw.blk hm).1 ht hk]
end Go.Eng
namespace Go.Proofs.YtjlgijpmnfabcaaGreatDoor
open Go.RowKit Go.Eng Go.Nw Go.Rt
def Zy(A:Option Addr)(cap:Nat)(l:List Int):HP:=sl 3 1 A l.length cap (l.flatMap numF)
def OutA(H:List HP)(R:(Sch×List Int)×Int)(v:Value)(K:List HP):Prop:=∃A cap A2 cap2,v=.tuple #[.agg #[.int .i64 R.1.1.len,.int .i64 R.1.1.off,.slice A R.1.1.cells.length cap],.slice A2 R.1.2.length cap2,.int .i64 R.2]/\K=cels A cap R.1.1.cells::Zy A2 cap2 R.1.2::H
variable {H:List HP}
theorem YbH{R:(Sch×List Int)×Int}{v:Value}(e:Int)(hR:R=((XI,[]),e))(hv:v=.tuple #[.agg #[.int .i64 0,.int .i64 0,.slice none 0 0],.slice none 0 0,.int .i64 e]):OutA H R v (cels none 0 []::Zy none 0 []::H):=⟨none,0,none,0,by rw[hR];exact hv,by rw[hR];rfl⟩
variable {B cap:Nat}{w0 w:World}
theorem nilA(h:St B w0 H w):St B w0 (cels none 0 []::Zy none 0 []::H) w:=(h.nilSlice _ _).nilSlice _ _
variable {A:Option Addr}
theorem Wf{l:List Cel}(h:cels A cap l∈H):Rd B w0 H A (l.flatMap celF):=Rd.sl h
theorem Yj7{l:List RqM}(h:rqs A cap l∈H):Rd B w0 H A (l.flatMap rqF):=Rd.sl h
theorem YjG(A:Option Addr)(cap:Nat)(l:List Int)(x:Int):sl 3 1 A (l.length+1) cap (l.flatMap numF++#[Value.int .i64 x].toList)=Zy A cap (l++[x]):=by
 grind [Zy,numF]
theorem Ymp(y:RqM)(len:Int)(g:Nat)(hl:0<=len)(hp:1<=y.f.2.2.2.1)(hm:intA g len∈H)(hw:St B w0 H w):
 CX B w0 265 [rqV y,.pointer (some ⟨g,0,none⟩)] w λv K=>v=.bool (decide (len.tmod y.f.2.2.2.1≠0))/\K=H:=by
 refine Ya Tryz.func265 Tryz.ntmps265 rfl rfl hw ?_
 unfold rqV
 rw[Rn hl]
 by_cases h:len%y.f.2.2.2.1=0
 ·have h2:decide (len%y.f.2.2.2.1≠0)=false:=Tj (λe=>e h)
  rw[h2]
  refine zX44 ?_<;>intros
  all_goals(apply Yh H;((intro w hw;refine hw.perm ?_;focus exact zc3));exact zc13)
 ·have h2:decide (len%y.f.2.2.2.1≠0)=true:=Td h
  rw[h2]
  refine zX44 ?_<;>intros
  all_goals(apply Yh H;((intro w hw;refine hw.perm ?_;focus exact zc3));exact zc13)
theorem Ykg{n:NetM}{q:List RqM}(h:(rqsE n.net (q.map RqM.rq)).2=0):q.length<=16/\∀x∈q,1<=x.f.2.2.2.1:=by
 have h1:=(VM h).2.1
 refine⟨?_,λx hx=>?_⟩
 ·grind [YE,YR]
 ·have hfx:Xv n.net.nodes x.f=0:=JB h1 (TC.2 ⟨x.rq,TC.2 ⟨x,hx,rfl⟩,rfl⟩)
  obtain⟨-,hper,-⟩:=X6 hfx
  omega
structure AlM where
 k:Nat
 s:SchM
 iA:Option Addr
 icap:Nat
 inn:List RqM
 oA:Option Addr
 ocap:Nat
 at_:List Int
theorem YnZ(n:NetM)(q:List RqM)(len off:Int)(h24:len<=24\/512<len)(ht:TabsB B w0)(hin:n.In B w0 H)(hq:QIn B w0 H A q)(hw:St B w0 H w):
 CX B w0 163 [n.val,.slice A q.length cap,.int .i64 len,.int .i64 off] w (OutA H (Xd n.net (q.map RqM.rq) len off)):=by
 refine Ya Tryz.func163 Tryz.ntmps163 rfl rfl hw ?_
 have hop:∀w,St B w0 [many H] w->St B w0 H w:=λw hw=>hw.perm (.openT H)
 have hin:=hin.mono hop
 have hq:=hq.mono hop
 have p1:=λ{H':List HP}{w:World}(hin:n.In B w0 H') (hw:St B w0 H' w)=>YV n hin hw
 have p2:=λ{H':List HP}{w:World}(hin:n.In B w0 H') (hq:QIn B w0 H' A q) (hw:St B w0 H' w)=>YaW n q (cap:=cap) ht hin hq hw
 have pa:=λ(z:AlM) (x:RqM) (hz:z.s.len<=24) (hzl:z.s.cells.length<=1000000000000) {H':List HP}{w:World}(hin:n.In B w0 H') (hq:QIn B w0 H' z.iA z.inn) (hrs:Rd B w0 H' z.s.A (z.s.cells.flatMap celF)) (hx:x.In B w0 H') (hw:St B w0 H' w)=>YiZ n z.inn z.s x hz (cap:=z.icap) ht hin hq hrs hzl hx hw
 unfold NetM.val SchM.val rqV at*
 refine XD [many H] (λw hw=>hw.perm (.closeT H)) ?_
 have hnil:∀{w:World},St B w0 [many H] w->St B w0 (cels none 0 []::Zy none 0 []::H) w:=λh=>nilA (h.perm (.openT H))
 by_cases hck:Yo n.net=0
 rotate_left
 ·have hno:(if Yo n.net=0 then(0:Int)else 1)=1:=Tf hck
  refine YiS ?_<;>intros
  first|apply Yb en68|apply Yc en68
  exact za
  exact rfl
  exactλ_ hw=>(p1 hin.cons.cons.cons hw)
  refine zX0 ?_<;>intros
  apply Un T (H2:=cels none 0 []::Zy none 0 []::H);(iterate 4 exact rfl);(focus exact zc2);exact rfl;exact rfl
  ·intro w hw
   refine hnil ?_
   revert w
   exact zc0
  exact YbH 1 (by rw[Xd,Tn (.inl hck)]) rfl
 have hf2:=YeH (q:=q.map RqM.rq) hck
 rw[hf2]at p2
 clear hf2
 by_cases hrq:(rqsE n.net (q.map RqM.rq)).2=0
 rotate_left
 ·have hd:decide ((rqsE n.net (q.map RqM.rq)).2≠0)=true:=Td hrq
  rw[hd]at p2
  rw[hck]at p1
  refine YiS ?_<;>intros
  first|apply Yb en68|apply Yc en68
  exact za
  exact rfl
  exactλ_ hw=>(p1 hin.cons.cons.cons hw)
  refine zX1 ?_<;>intros
  first|apply Yb Yez|apply Yc Yez
  exact za
  exact rfl
  exactλ_ hw=>(p2 hin.cons.cons.cons hq.cons.cons.cons hw)
  refine zX2 ?_
  apply Un T (H2:=cels none 0 []::Zy none 0 []::H);(iterate 4 exact rfl);(focus exact zc2);exact rfl;exact rfl
  ·intro w hw
   refine hnil ?_
   revert w
   exact zc0
  exact YbH 1 (by rw[Xd,Tn (.inr hrq)]) rfl
 have hd:decide ((rqsE n.net (q.map RqM.rq)).2≠0)=false:=Tj (λe=>e hrq)
 rw[hd]at p2
 rw[hck]at p1
 have hadm:Xd n.net (q.map RqM.rq) len off=if len<1\/512<len\/off<1\/16<off then((XI,[]),2)
  else if((q.map RqM.rq).any λx=>decide (len.tmod x.1.2.2.2.1≠0))=true then((XI,[]),11)else(((Wq n.net (q.map RqM.rq) len off (q.map RqM.rq).length).s,(Wq n.net (q.map RqM.rq) len off (q.map RqM.rq).length).at_),0):=by
  rw[Xd,Tf]
  rintro(h|h)
  ·exact h hck
  ·exact h hrq
 rw[hadm]
 refine YiS ?_<;>intros
 rename_i g4 g6 g8
 first|apply Yb en68|apply Yc en68
 exact za
 exact rfl
 exactλ_ hw=>(p1 hin.cons.cons.cons hw)
 refine zX1 ?_<;>intros
 first|apply Yb Yez|apply Yc Yez
 exact za
 exact rfl
 exactλ_ hw=>(p2 hin.cons.cons.cons hq.cons.cons.cons hw)
 by_cases hr:len<1\/512<len\/off<1\/16<off
 ·rw[Tn hr]
  repeat'(first|refine zgd ?_|(refine zge ?_ ?_<;>intro _<;>try exact zo)|fail)
  all_goals try exact zo
  all_goals(
   apply Un T (H2:=cels none 0 []::Zy none 0 []::H);(iterate 4 exact rfl);exact zm;exact rfl;exact rfl
   ·intro w hw
    refine hnil ?_
    revert w
    exact zk
   exact YbH 2 rfl rfl)
 rw[Tf hr]
 have hl:=Ykg hrq
 repeat'(first|(apply zg29;(apply Yr;exact za;exact rfl))|refine zgc ?_|(refine zge ?_ ?_<;>intro _<;>try exact zo)|fail)
 all_goals try exact zo
 first|apply Yb Yld|apply Yc Yld
 exact za
 exact rfl
 exactλ_ hw=>(WN (λy=>decide (len.tmod y.f.2.2.2.1≠0)) q 265 [.pointer (some ⟨g6,0,none⟩)] Yvj (by omega) (hq.rd.mono zc0) (λa ha w hw=>Ymp a len g6 (by omega) (hl.2 a ha) (by(focus exact zc2)) hw) hw)
 have hhas:(q.any λy=>decide (len.tmod y.f.2.2.2.1≠0))=(q.map RqM.rq).any λx=>decide (len.tmod x.1.2.2.2.1≠0):=by
  rw[List.any_map];rfl
 rw[hhas]
 cases hh:(q.map RqM.rq).any λx=>decide (len.tmod x.1.2.2.2.1≠0)with
 |true=>
  rw[Tn rfl]
  refine zX2 ?_
  apply Un T (H2:=cels none 0 []::Zy none 0 []::H);(iterate 4 exact rfl);(focus exact zc2);exact rfl;exact rfl
  ·intro w hw
   refine hnil ?_
   revert w
   exact zc0
  exact YbH 11 rfl rfl
 |false=>
 rw[Tf (by decide)]
 refine zX25 ?_<;>intros
 rename_i g11
 refine Yg (λz:AlM=>[(54,.int .i64 (z.k:Nat)),(53,.int .i64 q.length),(52,.slice A q.length cap),(13,.slice z.oA z.at_.length z.ocap),(12,.slice z.iA z.inn.length z.icap),(11,.pointer (some ⟨g11,0,none⟩)),(10,.int .i64 0),(9,.slice none 0 0),(8,.pointer (some ⟨g8,0,none⟩)),(4,.pointer (some ⟨g4,0,none⟩))])
  (λz=>schA g11 z.s::cels z.s.A z.s.cap z.s.cells::rqs z.iA z.icap z.inn::Zy z.oA z.ocap z.at_::blk g8 (.cells (Value.agg #[.int .i64 0,.int .i64 0,.slice none 0 0]).cells 30 (0,0))::netA g4 n::[many H])
  (λz=>z.k<=q.length/\(∀y∈z.inn,y∈q)/\(⟨z.s.sch,z.inn.map RqM.rq,z.at_⟩:AllS)=Wq n.net (q.map RqM.rq) len off z.k) (λz=>q.length-z.k) ⟨0,⟨len,off,none,0,[]⟩,none,0,[],none,0,[]⟩ ⟨Ti _,(λy hy=>by cases hy),rfl⟩ ?_ ?_ ?_
 ·exact zc1
 ·intro w hw
  have h5:St B w0 (blk g11 (.cells #[.int .i64 len,.int .i64 off,.slice none 0 0] 30 (0,0))::blk g8 (.cells (Value.agg #[.int .i64 0,.int .i64 0,.slice none 0 0]).cells 30 (0,0))::netA g4 n::[many H]) w:=by
   revert w
   exact zc0
  have h6:=((h5.nilSlice 3 1).nilSlice 69 7).nilSlice 48 5
  clear h5 hw
  have h7:St B w0 (blk g11 (.cells #[.int .i64 len,.int .i64 off,.slice none 0 0] 30 (0,0))::sl 48 5 none 0 0 []::sl 69 7 none 0 0 []::sl 3 1 none 0 0 []::blk g8 (.cells (Value.agg #[.int .i64 0,.int .i64 0,.slice none 0 0]).cells 30 (0,0))::netA g4 n::[many H]) w:=by
   revert w
   exact zc0
  exact h7
 rintro⟨k,s,iA,icap,inn,oA,ocap,at_⟩ ⟨hk,hmem,hall⟩ K hK
 dsimp only at hk hmem hall⊢
 have hor:1<=off/\off<=16:=by omega
 have hlr:1<=len/\len<=512:=by omega
 have hinv:=YbA hrq hlr hor k (by rw[Tt];exact hk)
 rw[<-hall]at hinv
 have hs24:s.len<=24:=by have:s.len=len:=hinv.len;omega
 have hfew:inn.length<=k:=by have:=hinv.few;rwa [Tt]at this
 have hsl:s.cells.length<=512:=(JM.1 (Zw.1 (Za.1 hinv.ok).1)).frm.few
 have hcnt:at_.length=inn.length:=by have:=hinv.cnt;rwa [Tt]at this
 have hqI:QIn B w0 (schA g11 s::cels s.A s.cap s.cells::rqs iA icap inn::Zy oA ocap at_::blk g8 (.cells (Value.agg #[.int .i64 0,.int .i64 0,.slice none 0 0]).cells 30 (0,0))::netA g4 n::[many H]) iA inn:=
  ⟨Yj7 (cap:=icap) (by(focus exact zc2)),λy hy=>((((((hq.x y (hmem y hy)).cons).cons).cons).cons).cons).cons,by omega⟩
 by_cases hlt:k<q.length
 rotate_left
 ·obtain rfl:k=q.length:=by omega
  clear hK
  have hall2:Wq n.net (q.map RqM.rq) len off (q.map RqM.rq).length=⟨s.sch,inn.map RqM.rq,at_⟩:=by rw[Tt];exact hall.symm
  rw[hall2]
  refine zX1 ?_<;>intros
  apply Un T (H2:=cels s.A s.cap s.cells::Zy oA ocap at_::H);(iterate 4 exact rfl);(focus exact zc2);exact rfl;exact rfl
  ·intro w hw
   have h5:St B w0 (cels s.A s.cap s.cells::Zy oA ocap at_::[many H]) w:=by
    revert w
    exact zc0
   exact YlU
  exact⟨s.A,s.cap,oA,ocap,rfl,rfl⟩
 have hqrd:=hq.rd
 obtain⟨x,hx⟩:∃x,q[k]? =some x:=⟨_,Ta hlt⟩
 have hxm:=Tc hx
 have hrx:rqAt (q.map RqM.rq) k=x.rq:=by
  unfold rqAt
  rw[Tz,TJ,hx];rfl
 have hstep:Wq n.net (q.map RqM.rq) len off (k+1)=Ybz n.net ⟨s.sch,inn.map RqM.rq,at_⟩ k x.rq:=by
  rw[Wq,hall,hrx]
 have pz:=λ{H':List HP}{w:World}=>pa ⟨k,s,iA,icap,inn,oA,ocap,at_⟩ x hs24 (by show s.cells.length<=_;omega) (H':=H') (w:=w)
 dsimp only at pz
 clear pa
 unfold Ybz at hstep
 dsimp only at hstep
 have hsn:(⟨k,s,iA,icap,inn,oA,ocap,at_⟩:AlM).s.sch=s.sch:=rfl
 generalize Jw n.net (inn.map RqM.rq) s.sch x.rq=R at pz hstep
 obtain⟨t,e⟩:=R
 unfold OutS at pz
 dsimp only at pz hstep
 refine zX44 ?_<;>intros
 rename_i g15
 apply Yf _ Yvc
 exact za
 exact rfl
 exactλ_ hw=>(pz (hin.mono zc0) (hqI.mono zc0) (Wf (cap:=s.cap) (by(focus exact zc2))) ((hq.x x hxm).mono zc0) (hw))
 rintro _ _ ⟨A2,c2,rfl,rfl⟩
 by_cases he:e=0
 rotate_left
 ·rw[Tf he]at hstep
  refine YiR ?_<;>intros
  apply hK ⟨k+1,s,iA,icap,inn,oA,ocap,at_⟩
  ·exact⟨by show k+1<=_;omega,hmem,hstep.symm⟩
  ·exact zc47
  ·exact zc1
  ·exact zc0
 subst he
 rw[Tn rfl]at hstep
 unfold rqs Zy
 refine YiR ?_<;>intros
 apply JH (.n1 0 (.n1 1 (.n1 2 (.n1 5 (.n1 6 (.n2 3 (.n2 4 (.n1 7 (.n1 8 (.n1 9 (.n1 10 (.n1 11 .done))))) 7 (.n1 4 (.n1 8 (.n1 9 (.n1 10 (.n1 11 .done)))))) 7 (.n1 3 (.n1 4 (.n1 8 (.n1 9 (.n1 10 (.n1 11 .done)))))))))))) [] [true,false,true]
 kernel_rfl
 kernel_rfl
 exact zy
 exact rfl
 repeat'(first|(apply Yj;try exact zl)|apply(zs91 ?_ ?_)|(apply Y7;try exact zl)|refine zgd ?_|(refine zgh ?_;intro _)|(refine zgi ?_;intro _ _)|fail)
 all_goals(
  first|(rename_i A3 c3 gb A4 c4;guard_hyp A3:Option Addr;guard_hyp gb:Nat)|rename_i A3 c3 A4 c4
  apply hK ⟨k+1,⟨t.len,t.off,A2,c2,t.cells⟩,A3,c3,inn++[x],A4,c4,at_++[(k:Int)]⟩
  ·refine⟨by show k+1<=_;omega,λy hy=>?_,?_⟩
   ·rcases TU.1 hy with hy|hy
    ·exact hmem y hy
    ·rw[TX.1 hy];exact hxm
   ·show(⟨t,(inn++[x]).map RqM.rq,at_++[(k:Int)]⟩:AllS)=_
    rw[hstep,Rk];rfl
  ·dsimp only;omega
  ·rw[Tq,Tq]
   exact zu
  ·intro w hw
   dsimp only
   rw[<-Yay,<-YjG]
   revert w
   exact zk)
def Y8:List Cel->List Cel
 |[]=>[]
 |[a]=>[a]
 |a::b::l=>if a=b then Y8 (b::l)else a::Y8 (b::l)
theorem Ych:∀{l:List Cel}{c:Cel},c∈Y8 l↔c∈l
 |[],_=>Iff.rfl
 |[_],_=>Iff.rfl
 |a::b::l,c=>by
  have ih:=Ych (l:=b::l) (c:=c)
  unfold Y8
  by_cases h:a=b
  ·rw[Tn h,ih,TV (b:=a)]
   constructor
   ·exact .inr
   ·rintro(rfl|h2)
    ·rw[h];exact TB
    ·exact h2
  ·rw[Tf h,TV,TV,ih]
abbrev OrdW(l:List Cel):Prop:=l.Pairwise λa b=>Y4 b a=false
theorem Yhm:∀{l:List Cel},OrdW l->Ord (Y8 l)
 |[],_=>.nil
 |[_],_=>.cons (λ_ h=>by cases h) .nil
 |a::b::l,h=>by
  obtain⟨h1,h2⟩:=SL.1 h
  have ih:=Yhm h2
  unfold Y8
  by_cases he:a=b
  ·rw[Tn he];exact ih
  rw[Tf he]
  refine .cons (λc hc=>?_) ih
  have hc:=Ych.1 hc
  have hca:=h1 c hc
  cases hac:Y4 a c with
  |true=>rfl
  |false=>
   have e:=Qu hac hca
   subst e
   rcases TV.1 hc with e|hcl
   ·exact absurd e he
   ·have h3:=(SL.1 h2).1 a hcl
    exact absurd (Qu h3 (h1 b TB)) he
theorem YlG:∀{l m:List Cel},Ord l->Ord m->(∀c,c∈l↔c∈m)->l=m
 |[],[],_,_,_=>rfl
 |[],b::m,_,_,h=>by have:=(h b).2 TB;cases this
 |a::l,[],_,_,h=>by have:=(h a).1 TB;cases this
 |a::l,b::m,hl,hm,h=>by
  obtain⟨h1,h2⟩:=SL.1 hl
  obtain⟨h3,h4⟩:=SL.1 hm
  have e:a=b:=by
   rcases TV.1 ((h a).1 TB)with e|ha
   ·exact e
   rcases TV.1 ((h b).2 TB)with e|hb
   ·exact e.symm
   have:=ZZ (h1 b hb) (h3 a ha)
   rw[Jy]at this;cases this
  subst e
  refine TG (a::·) (YlG h2 h4 λc=>?_)
  have hc:=h c
  constructor
  ·intro hcl
   rcases TV.1 (hc.1 (TD _ hcl))with rfl|h5
   ·have:=h1 _ hcl;rw[Jy]at this;cases this
   ·exact h5
  ·intro hcm
   rcases TV.1 (hc.2 (TD _ hcm))with rfl|h5
   ·have:=h3 _ hcm;rw[Jy]at this;cases this
   ·exact h5
def YcR(n:Net)(s:Sch)(q:List Rqs):List Cel:=q.flatMap λx=>s.cells.filter (OZ n s x)
theorem Yna{n:Net}{s:Sch}{q:List Rqs}{l:List Cel}(ho:Ord s.cells)(hp:l.Perm (YcR n s q))(hs:OrdW l):Y8 l=s.cells.filter (YiL n s q):=by
 refine YlG (Yhm hs) (ho.sublist SZ) λc=>?_
 rw[Ych,hp.mem_iff,RA]
 unfold YcR YiL
 rw[RP,Ri]
 constructor
 ·rintro⟨x,hx,hc⟩
  obtain⟨h1,h2⟩:=RA.1 hc
  exact⟨h1,x,hx,h2⟩
 ·rintro⟨h1,x,hx,h2⟩
  exact⟨x,hx,RA.2 ⟨h1,h2⟩⟩
theorem YhQ(n:Net)(s:Sch):∀q:List Rqs,(YcR n s q).length<=q.length*s.cells.length
 |[]=>Ti _
 |x::q=>by
  have ih:=YhQ n s q
  unfold YcR at ih⊢
  rw[TN,Tq,T0,SH,Nat.one_mul]
  have:=Ry (OZ n s x) s.cells
  omega
structure Pln where
 n:Net
 q:List Rqs
 s:Sch
 c:List Clm
 f:List Int
noncomputable def VN(n:Net)(f:Flw):Rqs×Int:=
 if(ZC n f.2.1 f.2.2.1).2≠0 then(Yl1,(ZC n f.2.1 f.2.2.1).2)else((f,[(ZC n f.2.1 f.2.2.1).1]),0)
noncomputable def VG(n:Net)(f:Flw):Option (List Int×List Int)×Int:=(WA 100000 n f.2.1 f.2.2.1).getD (none,0)
noncomputable def reqE(n:Net)(f:Flw):Rqs×Int:=
 match(VG n f).1 with
 |some pq=>((f,[pq.1,pq.2]),0)
 |none=>VN n f
noncomputable def Ydb(n:Net)(l:List Flw):Int×Int:=YH (λi=>(reqE n (Xp l i)).2) l.length 0
noncomputable def VK(n:Net)(l:List Flw):List Rqs×(Int×Int):=
 if Yo n≠0 then([],(-1,1))else if(YE n.nodes l).2≠0 then([],YE n.nodes l)
 else if(Ydb n l).2≠0 then([],Ydb n l)else(l.map λf=>(reqE n f).1,(-1,0))
def Xn(a b:Int):Int:=if a=0 then b else a
def YfW(n:Net)(q:List Rqs)(s:Sch)(e:Int):Int:=if e≠0 then e else Xn (YO n q s).2.2 (Jg s).2
def finE(n:Net)(q:List Rqs)(s:Sch)(e:Int):Option Pln×Int:=
 if YfW n q s e≠0 then(none,YfW n q s e)else(some ⟨n,q,s,(YO n q s).1,(Jg s).1⟩,0)
noncomputable def lowQ(n:Net)(at_:List Int)(q:List Rqs)(i:Nat):Rqs:=if(i:Int)∈at_ then rqAt q i else(VN n (rqAt q i).1).1
noncomputable def lowL(n:Net)(at_:List Int)(q:List Rqs):List Rqs:=(List.range q.length).map (lowQ n at_ q)
noncomputable def lowB(n:Net)(at_:List Int)(q:List Rqs):Bool:=(List.range q.length).all λi=>decide ((i:Int)∈at_)||decide ((VN n (rqAt q i).1).2=0)
def fin2(n:Net)(q:List Rqs)(s:Sch)(e:Int):Option Pln×Int:=
 if e=0 then finE n q (YdC n q s).1 (YdC n q s).2 else(none,e)
noncomputable def fin3(n:Net)(q:List Rqs)(len off e:Int):Option Pln×Int:=
 if(Xd n q len off).1.2.length=q.length then fin2 n q (Xd n q len off).1.1 (Xn e (Xd n q len off).2)
 else(none,Xn (Xn e (Xd n q len off).2) 18)
noncomputable def YfM(n:Net)(q:List Rqs)(len off:Int):Option Pln×Int:=
 if(Xd n q len off).1.2.length=q.length then fin2 n q (Xd n q len off).1.1 (Xd n q len off).2
 else if lowB n (Xd n q len off).1.2 q=false then(none,Xn (Xd n q len off).2 18)
 else fin3 n (lowL n (Xd n q len off).1.2 q) len off (Xd n q len off).2
def perB(l:List Flw)(len:Int):Bool:=l.any λf=>decide (len.tmod f.2.2.2.1≠0)
noncomputable def YlD(n:Net)(l:List Flw)(len off:Int):Option Pln×Int:=
 if Yo n≠0\/(YE n.nodes l).2≠0 then(none,1)else if len<1\/512<len\/off<1\/16<off then(none,2)
 else if perB l len=true then(none,11)else if(VK n l).2.2≠0 then(none,(VK n l).2.2)
 else YfM n (VK n l).1 len off
def chkP(p:Pln):Int:=
 if Yo p.n≠0 then 1 else if(YO p.n p.q p.s).2.2=15\/(YO p.n p.q p.s).2.2=1/\(YO p.n p.q p.s).2.1<0 then 18
 else if(YO p.n p.q p.s).2.2≠0 then 1 else if(chkE p.n p.q p.s p.c).2≠0 then 20
 else if(Jg p.s).2≠0\/(Jg p.s).1≠p.f then 11 else 0
def idQ(q:List Rqs)(id:Int):Int:=Yl (λx:Rqs=>decide (x.1.1=id)) q 0
def delQ(q:List Rqs)(i:Nat):List Rqs:=q.take i++q.drop (i+1)
def wdrP(p:Pln)(id:Int):Option Pln×Int:=
 if chkP p≠0 then(none,1)else if idQ p.q id<0 then(none,7)else finE p.n (delQ p.q (idQ p.q id).toNat) (QA p.s id).1 (QA p.s id).2
theorem Ynr{n:Net}{f:Flw}(h:WA 100000 n f.2.1 f.2.2.1=some (VG n f)):((VG n f).1=none/\(VG n f).2≠0)\/∃p q,VG n f=(some (p,q),0):=by
 generalize VG n f=R at h⊢
 unfold WA at h
 by_cases he:Z2 n f.2.1 f.2.2.1=0
 rotate_left
 ·rw[Tn he]at h
  rw[<-Tv h]
  exact .inl ⟨rfl,he⟩
 rw[Tf (λe=>e he)]at h
 split at h
 ·cases h
 ·rw[<-Tv h];exact .inl ⟨rfl,by decide⟩
 ·rename_i pq _
  split at h
  ·rw[<-Tv h];exact .inl ⟨rfl,by decide⟩
  ·rw[<-Tv h];exact .inr ⟨pq.1,pq.2,rfl⟩
theorem YuC(n:Net)(s t:Int):(ZC n s t).1.length<=9:=by
 unfold ZC
 repeat' split
 all_goals(first|(simp;done)|(simp only;omega))
variable {B:Nat}{w0 w:World}{H:List HP}
theorem Wn(n:NetM)(hin:n.In B w0 H)(hw:St B w0 H w):
 CX B w0 39 [n.val] w λv K=>v=.bool (decide (Yo n.net=0))/\K=H:=by
 refine Ya Tryz.func39 Tryz.ntmps39 rfl rfl hw ?_
 have p1:=λ{H':List HP}{w:World}(hin:n.In B w0 H') (hw:St B w0 H' w)=>Yl2 n [] (A:=none) (cap:=0) hin .nil (by decide) (by decide) hw
 have hc:(Ygz n.net []).2=if Yo n.net≠0 then 1 else 9:=by
  unfold Ygz
  by_cases h:Yo n.net=0
  ·rw[Tf (show¬Yo n.net≠0 fromλe=>e h),Tf (show¬Yo n.net≠0 fromλe=>e h)];rfl
  simp_all
 unfold NetM.val at p1⊢
 by_cases h:Yo n.net=0
 ·rw[Tf (λe=>e h)]at hc
  rw[hc]at p1
  rw[Td h]
  refine zX70 ?_<;>intros
  first|apply Yb en98|apply Yc en98
  exact za
  exact rfl
  exactλ_ hw=>(p1 hin.cons hw)
  refine zX1 ?_<;>intros
  apply Yh H
  ·exact zc0
  exact zc13
 ·rw[Tn h]at hc
  rw[hc]at p1
  rw[Tj h]
  refine zX70 ?_<;>intros
  first|apply Yb en98|apply Yc en98
  exact za
  exact rfl
  exactλ_ hw=>(p1 hin.cons hw)
  refine zX1 ?_<;>intros
  apply Yh H
  ·exact zc0
  exact zc4
def rqQ(x:RqM):HP:=many [sl 104 1 x.A x.rows.length x.cap (x.rows.flatMap rowF),many (x.rows.map rowQ)]
def RqM.lens(x:RqM):Prop:=x.rows.length<=1000/\∀r∈x.rows,r.xs.length<=1000/\r.xs.length<=r.cap
theorem YuA{x:RqM}(hm:rqQ x∈H)(hl:x.lens):x.In B w0 H:=by
 have hb:∀w,St B w0 H w->St B w0 [sl 104 1 x.A x.rows.length x.cap (x.rows.flatMap rowF),many (x.rows.map rowQ)] w:=λw hw=>hw.inM hm
 refine RqM.In.mono ⟨.sl (.head _),λr hr=>?_,TY hl.1 (by decide),λr hr=>⟨TY (hl.2 r hr).1 (by decide),(hl.2 r hr).2⟩⟩ hb
 exact Rd.many (L:=x.rows.map rowQ) (.tail _ (.head _)) (RX hr)
def YiY:RqM:=⟨(0,0,0,0,0,0),none,0,[]⟩
theorem YvU(h:St B w0 H w):St B w0 (rqQ YiY::H) w:=by
 exact((h.perm (.noMany H)).nilSlice 104 1).perm (.close [_,_] H)
def OutQ(H:List HP)(R:Rqs×Int)(v:Value)(K:List HP):Prop:=∃x:RqM,v=.tuple #[rqV x,.int .i64 R.2]/\x.rq=R.1/\x.lens/\K=rqQ x::H
theorem YrN{R:Rqs×Int}{v:Value}(e:Int)(hR:R=(Yl1,e))(hv:v=.tuple #[rqV YiY,.int .i64 e]):OutQ H R v (rqQ YiY::H):=⟨YiY,by simp_all,by rw[hR];rfl,⟨Ti _,λr hr=>by cases hr⟩,rfl⟩
theorem OX(n:NetM)(f:Flw)(hin:n.In B w0 H)(hw:St B w0 H w):
 CX B w0 165 [n.val,flwV f] w (OutQ H (VN n.net f)):=by
 refine Ya Tryz.func165 Tryz.ntmps165 rfl rfl hw ?_
 have p1:=λ{H':List HP}{w:World}(hin:n.In B w0 H') (hw:St B w0 H' w)=>Yd8 n f.2.1 f.2.2.1 hin hw
 have hl9:=YuC n.net f.2.1 f.2.2.1
 have hsing:VN n.net f=if(ZC n.net f.2.1 f.2.2.1).2≠0 then(Yl1,(ZC n.net f.2.1 f.2.2.1).2)else((f,[(ZC n.net f.2.1 f.2.2.1).1]),0):=rfl
 rw[hsing]
 clear hsing
 generalize ZC n.net f.2.1 f.2.2.1=R at*
 unfold NetM.val at p1⊢
 unfold flwV
 refine zX70 ?_<;>intros
 apply Yf _ Yvk
 exact za
 exact rfl
 exactλ_ hw=>(p1 hin.cons.cons.cons (hw))
 rintro _ _ ⟨A,cap,rfl,-,-,rfl⟩
 apply UT (e:=3) (size:=1) (k:=R.1.length) (cap:=cap) (A:=A) (xs:=R.1.flatMap numF) (by(focus exact zc2))
 intro hcap
 obtain⟨r,e⟩:=R
 dsimp only at hl9 hcap⊢
 by_cases he:e=0
 ·rw[Tf (λh=>h he)]
  refine zX44 ?_<;>intros
  rename_i gL
  apply Yv T (H2:=rqQ ⟨f,some ⟨gL,0,none⟩,1,[⟨A,cap,r⟩]⟩::H);(iterate 3 exact rfl);(focus exact zc2);exact rfl;exact rfl
  ·intro w hw
   have h5:St B w0 (blk gL (.cells #[.slice A r.length cap] 104 (0,0))::ints A cap r::H) w:=by
    revert w
    exact zc0
   have h6:=h5.blk_sl (cs:=[Value.slice A r.length cap]) (len:=1) (size:=1) rfl (by omega)
   exact(h6.perm (.cons _ (.close [_] H))).perm (.close [_,_] H)
  refine⟨_,rfl,rfl,⟨TR rfl,λx hx=>?_⟩,rfl⟩
  rw[TX.1 hx]
  exact⟨by show r.length<=_;omega,hcap⟩
 ·rw[Tn he]
  refine zX0 ?_<;>intros
  apply Yv T (H2:=rqQ YiY::H);(iterate 3 exact rfl);(focus exact zc2);exact rfl;exact rfl
  ·intro w hw
   have h5:St B w0 H w:=by
    revert w
    exact zc0
   exact YvU h5
  exact YrN e rfl rfl
theorem Ydc(n:NetM)(f:Flw)(hrun:WA 100000 n.net f.2.1 f.2.2.1=some (VG n.net f))(hin:n.In B w0 H)(hw:St B w0 H w):
 CX B w0 162 [n.val,flwV f] w (OutQ H (reqE n.net f)):=by
 refine Ya Tryz.func162 Tryz.ntmps162 rfl rfl hw ?_
 have p1:=λ{H':List HP}{w:World}(hin:n.In B w0 H') (hw:St B w0 H' w)=>Yl5 n f.2.1 f.2.2.1 100000 (VG n.net f) (TI _) hrun hin hw
 have p2:=λ{H':List HP}{w:World}(hin:n.In B w0 H') (hw:St B w0 H' w)=>OX n f hin hw
 have hreq:reqE n.net f=match(VG n.net f).1 with|some pq=>((f,[pq.1,pq.2]),0)|none=>VN n.net f:=rfl
 rw[hreq]
 clear hreq
 unfold NetM.val flwV at p2
 unfold NetM.val at p1⊢
 unfold flwV
 rcases Ynr hrun with⟨h1,h2⟩|⟨a,b,h1⟩
 ·generalize VG n.net f=R at*
  obtain⟨o,e⟩:=R
  dsimp only at h1 h2
  subst h1
  dsimp only at p1⊢
  refine zX70 ?_<;>intros
  first|apply Yb Yo1|apply Yc Yo1
  exact za
  exact rfl
  exactλ_ hw=>(p1 hin.cons.cons.cons hw)
  refine Yab ?_<;>intros
  apply Yf _ Ysk
  exact za
  exact rfl
  exactλ_ hw=>(p2 hin.cons.cons.cons (hw))
  rintro _ _ ⟨x,rfl,hx,hxl,rfl⟩
  unfold rqV
  refine zX11 ?_
  apply Yv T (H2:=rqQ x::H);(iterate 3 exact rfl);(focus exact zc2);exact rfl;exact rfl
  ·exact zc0
  exact⟨x,rfl,hx,hxl,rfl⟩
 ·rw[h1]at p1⊢
  dsimp only at p1⊢
  refine zX70 ?_<;>intros
  apply Yf _ Yo1
  exact za
  exact rfl
  exactλ_ hw=>(p1 hin.cons.cons.cons (hw))
  rintro _ _ ⟨g,A1,c1,A2,c2,rfl,⟨l1,l2,l3⟩,-,rfl⟩
  apply UT (e:=3) (size:=1) (k:=a.length) (cap:=c1) (A:=A1) (xs:=a.flatMap numF) (by(focus exact zc2))
  intro hc1
  apply UT (e:=3) (size:=1) (k:=b.length) (cap:=c2) (A:=A2) (xs:=b.flatMap numF) (by(focus exact zc2))
  intro hc2
  try dsimp only at l1 l2 l3
  refine zX24 ?_<;>intros
  apply Yv T (H2:=rqQ ⟨f,some ⟨g,0,none⟩,2,[⟨A1,c1,a⟩,⟨A2,c2,b⟩]⟩::H);(iterate 3 exact rfl);(focus exact zc2);exact rfl;exact rfl
  ·intro w hw
   have h5:St B w0 (sl 104 1 (some ⟨g,0,none⟩) 2 2 ([⟨A1,c1,a⟩,⟨A2,c2,b⟩].flatMap rowF)::ints A1 c1 a::ints A2 c2 b::H) w:=by
    revert w
    exact zc0
   exact(h5.perm (.cons _ (.close [_,_] H))).perm (.close [_,_] H)
  refine⟨_,rfl,rfl,⟨TR rfl,λx hx=>?_⟩,rfl⟩
  simp only[TV,Si,NH]at hx
  rcases hx with rfl|rfl
  ·exact⟨by show a.length<=_;omega,hc1⟩
  ·exact⟨by show b.length<=_;omega,hc2⟩
theorem YcY(q:List RqM)(x:RqM)(H:List HP):Perm (rqQ x::many (q.map rqQ)::H) (many ((q++[x]).map rqQ)::H):=by
 have:=Perm.push (rqQ x) (q.map rqQ) [] H
 simp_all
def Yn3(H:List HP)(R:List Rqs×(Int×Int))(v:Value)(K:List HP):Prop:=∃A cap q,v=.tuple #[.slice A (q:List RqM).length cap,.int .i64 R.2.1,.int .i64 R.2.2]/\q.map RqM.rq=R.1/\(∀x∈q,x.lens)/\K=rqs A cap q::many (q.map rqQ)::H
variable {B:Nat}{w0 w:World}{H:List HP}
theorem Yf6(h:St B w0 H w):St B w0 (rqs none 0 []::many (([]:List RqM).map rqQ)::H) w:=(h.perm (.noMany H)).nilSlice 69 7
theorem YpR{R:List Rqs×(Int×Int)}{v:Value}(i e:Int)(hR:R=([],(i,e)))(hv:v=.tuple #[.slice none 0 0,.int .i64 i,.int .i64 e]):Yn3 H R v (rqs none 0 []::many (([]:List RqM).map rqQ)::H):=
 ⟨none,0,[],by simp_all,by simp_all,(λx hx=>by cases hx),rfl⟩
theorem YlH{q:List RqM}{x:RqM}(hm:many (q.map rqQ)∈H)(hx:x∈q)(hl:x.lens):x.In B w0 H:=
 RqM.In.mono (H:=q.map rqQ) (YuA (RX hx) hl) λ_ hw=>hw.inM hm
structure RtM where
 i:Nat
 A:Option Addr
 cap:Nat
 q:List RqM
theorem Yd2(n:NetM)(l:List Flw)(hll:l.length<=1000000000000)(hrun:∀f∈l,WA 100000 n.net f.2.1 f.2.2.1=some (VG n.net f)){A:Option Addr}{cap:Nat}(hin:n.In B w0 H)(hr:Rd B w0 H A (l.flatMap flwF))(hw:St B w0 H w):
 CX B w0 81 [n.val,.slice A l.length cap] w (Yn3 H (VK n.net l)):=by
 refine Ya Tryz.func81 Tryz.ntmps81 rfl rfl hw ?_
 have p1:=λ{H':List HP}{w:World}(hin:n.In B w0 H') (hw:St B w0 H' w)=>Wn n hin hw
 have p2:=λ{H':List HP}{w:World}(hr:Rd B w0 H' A (l.flatMap flwF)) (hw:St B w0 H' w)=>Xe n.nodes l (TY hll (by decide)) (cap:=cap) hr hw
 have p3:=λ(f:Flw) (hf:f∈l) {H':List HP}{w:World}(hin:n.In B w0 H') (hw:St B w0 H' w)=>Ydc n f (hrun f hf) hin hw
 have hop:∀w,St B w0 [many H] w->St B w0 H w:=λw hw=>hw.perm (.openT H)
 have hin:=hin.mono hop
 have hr:=hr.mono hop
 unfold NetM.val flwV at p3
 unfold NetM.val at p1⊢
 refine XD [many H] (λw hw=>hw.perm (.closeT H)) ?_
 unfold VK
 by_cases hck:Yo n.net=0
 rotate_left
 ·rw[Tn hck]
  rw[Tj hck]at p1
  refine zX70 ?_<;>intros
  first|apply Yb en39|apply Yc en39
  exact za
  exact rfl
  exactλ_ hw=>(p1 hin.cons hw)
  refine zX2 ?_
  apply Yh (rqs none 0 []::many (([]:List RqM).map rqQ)::H)
  ·intro w hw
   have h5:St B w0 [many H] w:=by
    revert w
    exact zc0
   exact Yf6 (hop w h5)
  exact zc74
 rw[Tf (λe=>e hck)]
 rw[Td hck]at p1
 have hnd:n.net.nodes=n.nodes:=rfl
 rw[hnd]
 obtain⟨⟨fi,fe⟩,hF⟩:∃R,YE n.nodes l=R:=⟨_,rfl⟩
 rw[hF]at p2⊢
 dsimp only at p2⊢
 refine zX70 ?_<;>intros
 first|apply Yb en39|apply Yc en39
 exact za
 exact rfl
 exactλ_ hw=>(p1 hin.cons hw)
 refine zX2 ?_
 first|apply Yb en78|apply Yc en78
 exact za
 exact rfl
 exactλ_ hw=>(p2 hr.cons hw)
 by_cases hfe:fe=0
 rotate_left
 ·rw[Tn hfe]
  refine zX1 ?_<;>intros
  apply Yh (rqs none 0 []::many (([]:List RqM).map rqQ)::H)
  ·intro w hw
   have h5:St B w0 [many H] w:=by
    revert w
    exact zc0
   exact Yf6 (hop w h5)
  exact zc74
 subst hfe
 rw[Tf (λe=>e rfl)]
 have hl16:l.length<=16:=by
  unfold YE at hF
  split at hF
  ·cases hF
  split at hF
  ·cases hF
  ·omega
 obtain⟨F,hFd⟩:∃F,(λi=>(reqE n.net (Xp l i)).2)=F:=⟨_,rfl⟩
 have hFv:∀{i:Nat}{f:Flw},l[i]? =some f->F i=(reqE n.net f).2:=λ{i f} h=>by
  rw[<-hFd]
  show(reqE n.net (Xp l i)).2=_
  unfold Xp
  rw[Tz,h];rfl
 unfold Ydb
 rw[hFd]
 refine zX1 ?_<;>intros
 rename_i g2 _
 refine Yg (λz:RtM=>[(30,.int .i64 (z.i:Nat)),(29,.int .i64 l.length),(28,.slice A l.length cap),(9,.slice z.A z.q.length z.cap),(2,.pointer (some ⟨g2,0,none⟩))]) (λz=>rqs z.A z.cap z.q::many (z.q.map rqQ)::netA g2 n::[many H])
  (λz=>z.i<=l.length/\z.q.map RqM.rq=(l.take z.i).map (λf=>(reqE n.net f).1)/\(∀x∈z.q,x.lens)/\∀j,0<=j->j<z.i->F j=0) (λz=>l.length-z.i) ⟨0,none,0,[]⟩ ⟨Ti _,rfl,(λx hx=>by cases hx),λj _ h=>absurd h (RE _)⟩ ?_ ?_ ?_
 ·exact zc1
 ·intro w hw
  have h5:St B w0 (netA g2 n::[many H]) w:=by
   revert w
   exact zc0
  exact Yf6 h5
 rintro⟨i,A1,c1,q⟩ ⟨hi,hq,hql,hz⟩ K hK
 dsimp only at hi hq hql hz⊢
 have hqn:q.length=i:=by
  have:=TG List.length hq
  exact YtN
 by_cases hlt:i<l.length
 rotate_left
 ·obtain rfl:i=l.length:=by omega
  have hfe:=Z4 (f:=F) (r:=l.length) (i0:=0) λj h1 h2=>hz j h1 (by omega)
  rw[hfe,Tf (λe=>e rfl)]
  rw[TM]at hq
  clear hK
  refine zX1 ?_<;>intros
  apply Yh (rqs A1 c1 q::many (q.map rqQ)::H)
  ·intro w hw
   have h5:St B w0 (rqs A1 c1 q::many (q.map rqQ)::[many H]) w:=by
    revert w
    exact zc0
   exact YlU
  apply UW;(iterate 4 exact rfl)
  exact⟨A1,c1,q,rfl,hq,hql,rfl⟩
 obtain⟨f,hf⟩:∃f,l[i]? =some f:=⟨_,Ta hlt⟩
 have hr2:Rd B w0 (rqs A1 c1 q::many (q.map rqQ)::netA g2 n::[many H]) A (l.flatMap flwF):=hr.cons.cons.cons
 have hFi:=hFv hf
 have hst:(l.take (i+1)).map (λf=>(reqE n.net f).1)=(l.take i).map (λf=>(reqE n.net f).1)++[(reqE n.net f).1]:=by
  rw[TF,hf,Rk];rfl
 have p4:=λ{H':List HP}{w:World}(hin:n.In B w0 H') (hw:St B w0 H' w)=>p3 f (Tc hf) (H':=H') (w:=w) hin hw
 clear p3
 generalize reqE n.net f=RQ at p4 hFi hst
 obtain⟨rq,re⟩:=RQ
 dsimp only at hFi hst
 refine zX44 ?_<;>intros
 apply Yf _ Yu0
 exact za
 exact rfl
 exactλ_ hw=>(p4 (hin.mono zc0) (hw))
 rintro _ _ ⟨x,rfl,hx,hxl,rfl⟩
 dsimp only at hx⊢
 by_cases he:re=0
 rotate_left
 ·have hfe:=Zt (f:=F) (r:=l.length) (i0:=0) (i:=i) (λj h1 h2=>hz j h1 h2) (Ti _) (by omega) (by rw[hFi];exact he)
  rw[hfe,Tn (by rw[hFi];exact he),hFi]
  clear hK
  refine zX44 ?_<;>intros
  apply Yh (rqs none 0 []::many (([]:List RqM).map rqQ)::H)
  ·intro w hw
   have h5:St B w0 [many H] w:=by
    revert w
    exact zc0
   exact Yf6 (hop w h5)
  exact zc74
 subst he
 unfold rqV rqs
 refine Yqx ?_<;>intros
 rename_i A2 c2
 apply hK ⟨i+1,A2,c2,q++[x]⟩
 ·refine⟨by exact zc86,?_,λy hy=>?_,λj h1 h2=>?_⟩
  ·show(q++[x]).map RqM.rq=_
   rw[Rk,hq,hst]
   exact TG _ (TG (λz=>[z]) hx)
  ·rcases TU.1 hy with hy|hy
   ·exact hql y hy
   ·rw[TX.1 hy];exact hxl
  ·rcases RD.1 h2 with h|rfl
   ·exact hz j h1 h
   ·exact hFi
 ·exact zc47
 ·rw[Tq]
  exact zc1
 ·intro w hw
  have h5:St B w0 (rqQ x::many (q.map rqQ)::rqs A2 c2 (q++[x])::netA g2 n::[many H]) w:=by
   rw[<-Yay]
   revert w
   exact zc0
  have h6:=h5.perm (YcY q x _)
  exact h6.perm (.swap _ _ _)
open Go.RowKit Go.Eng Go.Nw Go.Rt Go.Sort Go.Shelf Go.Proofs
theorem YrL(a b c d e:Int)(g:Nat)(W:World)(h0:W.cell? ⟨g,0,none⟩=some (.int .i64 a))(h1:W.cell? ⟨g,1,none⟩=some (.int .i64 b))(h2:W.cell? ⟨g,2,none⟩=some (.int .i64 c))(h3:W.cell? ⟨g,3,none⟩=some (.int .i64 d))(h4:W.cell? ⟨g,4,none⟩=some (.int .i64 e)):
 Calls Tryz.prog 72 #[.slice (some ⟨g,0,none⟩) 5 5] W λr w'=>r=.returned (.int .i64 (Xa [a,b,c,d,e]))/\w'=W:=by
 go_enter Tryz.func72,Tryz.ntmps72
 go_wp2
 refine wp_loop_rounds 6 ?_
 rw[rounds_succ]
 go_wp2
 ·rename_i hx
  have hx:a≠0:=by simpa using hx
  go_ret
  exact⟨by simp only[Xa];rw[Tn hx];rfl,rfl⟩
 rename_i ha
 have ha:a=0:=by simpa using ha
 rw[rounds_succ]
 go_wp2
 ·rename_i hx
  have hx:b≠0:=by simpa using hx
  go_ret
  exact⟨by simp only[Xa];rw[Tf (by omega)];rw[Tn hx];rfl,rfl⟩
 rename_i hb
 have hb:b=0:=by simpa using hb
 rw[rounds_succ]
 go_wp2
 ·rename_i hx
  have hx:c≠0:=by simpa using hx
  go_ret
  exact⟨by simp only[Xa];rw[Tf (by omega)];rw[Tf (by omega)];rw[Tn hx];rfl,rfl⟩
 rename_i hc
 have hc:c=0:=by simpa using hc
 rw[rounds_succ]
 go_wp2
 ·rename_i hx
  have hx:d≠0:=by simpa using hx
  go_ret
  exact⟨by simp only[Xa];rw[Tf (by omega)];rw[Tf (by omega)];rw[Tf (by omega)];rw[Tn hx];rfl,rfl⟩
 rename_i hd
 have hd:d=0:=by simpa using hd
 rw[rounds_succ]
 go_wp2
 ·rename_i hx
  have hx:e≠0:=by simpa using hx
  go_ret
  exact⟨by simp only[Xa];rw[Tf (by omega)];rw[Tf (by omega)];rw[Tf (by omega)];rw[Tf (by omega)];rw[Tn hx];rfl,rfl⟩
 rename_i he
 have he:e=0:=by simpa using he
 rw[rounds_succ]
 go_wp2
 go_ret
 exact⟨by simp only[Xa];rw[Tf (by omega),Tf (by omega),Tf (by omega),Tf (by omega),Tf (by omega)];rfl,rfl⟩
def cfC(x y:Cel):Int:=Xa [Lib.compareInt x.1 y.1,Lib.compareInt x.2.1 y.2.1,Lib.compareInt x.2.2.1 y.2.2.1,Lib.compareInt x.2.2.2.1 y.2.2.2.1,Lib.compareInt x.2.2.2.2 y.2.2.2.2]
theorem Yuj(x y:Cel)(W:World):Calls Tryz.prog 169 #[.agg #[.int .i64 x.1,.int .i64 x.2.1,.int .i64 x.2.2.1,.int .i64 x.2.2.2.1,.int .i64 x.2.2.2.2],.agg #[.int .i64 y.1,.int .i64 y.2.1,.int .i64 y.2.2.1,.int .i64 y.2.2.2.1,.int .i64 y.2.2.2.2]] W λe w'=>e=.returned (.int .i64 (cfC x y))/\∃q os',w'=grow (W.drewN q) os':=by
 have c1:=λW'=>Tryz.cmp_Compare_int x.1 y.1 W'
 have c2:=λW'=>Tryz.cmp_Compare_int x.2.1 y.2.1 W'
 have c3:=λW'=>Tryz.cmp_Compare_int x.2.2.1 y.2.2.1 W'
 have c4:=λW'=>Tryz.cmp_Compare_int x.2.2.2.1 y.2.2.2.1 W'
 have c5:=λW'=>Tryz.cmp_Compare_int x.2.2.2.2 y.2.2.2.2 W'
 unfold cfC
 generalize Lib.compareInt x.1 y.1=r1 at c1⊢
 generalize Lib.compareInt x.2.1 y.2.1=r2 at c2⊢
 generalize Lib.compareInt x.2.2.1 y.2.2.1=r3 at c3⊢
 generalize Lib.compareInt x.2.2.2.1 y.2.2.2.1=r4 at c4⊢
 generalize Lib.compareInt x.2.2.2.2 y.2.2.2.2=r5 at c5⊢
 go_enter Tryz.func169,Tryz.ntmps169
 go_wp2
 generalize hw1:(W.alloc (.cells #[.int .i64 x.1,.int .i64 x.2.1,.int .i64 x.2.2.1,.int .i64 x.2.2.2.1,.int .i64 x.2.2.2.2] 48)).alloc (.cells #[.int .i64 y.1,.int .i64 y.2.1,.int .i64 y.2.2.1,.int .i64 y.2.2.2.1,.int .i64 y.2.2.2.2] 48)=w1
 have hg:grow W #[.cells #[.int .i64 x.1,.int .i64 x.2.1,.int .i64 x.2.2.1,.int .i64 x.2.2.2.1,.int .i64 x.2.2.2.2] 48 (0,0),.cells #[.int .i64 y.1,.int .i64 y.2.1,.int .i64 y.2.2.1,.int .i64 y.2.2.2.1,.int .i64 y.2.2.2.2] 48 (0,0)]=w1:=by
  rw[<-hw1,alloc_eq_grow,alloc_eq_grow,grow_grow];rfl
 have x0:w1.drew.cell? ⟨W.heap.size,0,none⟩=some (.int .i64 x.1):=by rw[<-hw1];simp
 have x1:w1.drew.cell? ⟨W.heap.size,1,none⟩=some (.int .i64 x.2.1):=by rw[<-hw1];simp
 have x2:w1.drew.cell? ⟨W.heap.size,2,none⟩=some (.int .i64 x.2.2.1):=by rw[<-hw1];simp
 have x3:w1.drew.cell? ⟨W.heap.size,3,none⟩=some (.int .i64 x.2.2.2.1):=by rw[<-hw1];simp
 have x4:w1.drew.cell? ⟨W.heap.size,4,none⟩=some (.int .i64 x.2.2.2.2):=by rw[<-hw1];simp
 have y0:w1.drew.cell? ⟨W.heap.size+1,0,none⟩=some (.int .i64 y.1):=by rw[<-hw1];simp
 have y1:w1.drew.cell? ⟨W.heap.size+1,1,none⟩=some (.int .i64 y.2.1):=by rw[<-hw1];simp
 have y2:w1.drew.cell? ⟨W.heap.size+1,2,none⟩=some (.int .i64 y.2.2.1):=by rw[<-hw1];simp
 have y3:w1.drew.cell? ⟨W.heap.size+1,3,none⟩=some (.int .i64 y.2.2.2.1):=by rw[<-hw1];simp
 have y4:w1.drew.cell? ⟨W.heap.size+1,4,none⟩=some (.int .i64 y.2.2.2.2):=by rw[<-hw1];simp
 refine wp_region_still_tail 25 (by kernel_rfl) (by kernel_rfl) ?_
 have e9:({w1 with drawn:=w1.drawn+1}:World)=w1.drew:=rfl
 rw[e9]
 clear e9
 generalize hw2:w1.drew=w2 at x0 x1 x2 x3 x4 y0 y1 y2 y3 y4⊢
 simp only[List.take_succ_cons,S7,List.drop_succ_cons,List.drop_zero]
 repeat still_step
 still_call (c1 _)
 repeat still_step
 still_call (c2 _)
 repeat still_step
 still_call (c3 _)
 repeat still_step
 still_call (c4 _)
 repeat still_step
 still_call (c5 _)
 refine wpStill_nil ?_
 clear c1 c2 c3 c4 c5
 have hor:Calls Tryz.prog 72 #[.slice (some ⟨w2.heap.size,0,none⟩) 5 5] (w2.alloc (.cells #[.int .i64 r1,.int .i64 r2,.int .i64 r3,.int .i64 r4,.int .i64 r5] 3)) λe w'=>e=.returned (.int .i64 (Xa [r1,r2,r3,r4,r5]))/\w'=w2.alloc (.cells #[.int .i64 r1,.int .i64 r2,.int .i64 r3,.int .i64 r4,.int .i64 r5] 3):=
  YrL r1 r2 r3 r4 r5 w2.heap.size _ (by simp) (by simp) (by simp) (by simp) (by simp)
 generalize Xa [r1,r2,r3,r4,r5]=r at hor⊢
 clear x0 x1 x2 x3 x4 y0 y1 y2 y3 y4
 go_wp2_with (go_at_call 72;refine hor.mono ?_;rintro e w' ⟨rfl,rfl⟩)
 go_ret
 refine⟨by first|rfl|kernel_rfl|simp,1,#[.cells #[.int .i64 x.1,.int .i64 x.2.1,.int .i64 x.2.2.1,.int .i64 x.2.2.2.1,.int .i64 x.2.2.2.2] 48 (0,0),.cells #[.int .i64 y.1,.int .i64 y.2.1,.int .i64 y.2.2.1,.int .i64 y.2.2.2.1,.int .i64 y.2.2.2.2] 48 (0,0),.cells #[.int .i64 r1,.int .i64 r2,.int .i64 r3,.int .i64 r4,.int .i64 r5] 3 (0,0)],?_⟩
 rw[<-hw2,<-hw1,alloc_eq_grow]
 rfl
theorem Yuh(x y:Cel):cfC x y=cmpV (nums x) (nums y):=YjW (nums x) (nums y) rfl
theorem YlC(x y:Cel):ltOf cfC x y=Y4 x y:=by
 rw[Nv]
 unfold ltOf
 rw[To,Yuh,Yaj]
theorem swoC:SWO (ltOf cfC) where
 irrefl x:=by rw[YlC];exact Jy x
 trans x y z h1 h2:=by rw[YlC]at*;exact ZZ h1 h2
 ntrans x y z h1 h2:=by
  rw[YlC]at*
  cases h:Y4 x z with
  |false=>rfl
  |true=>
   cases h3:Y4 z y with
   |true=>rw[ZZ h h3]at h1;cases h1
   |false=>rw[Qu h2 h3]at h1;rw[h]at h1;cases h1
theorem Ygs(l:List Cel)(hl:l.length<=100000000){A:Option Addr}{cap B:Nat}{w0:World}{H:List HP}{w:World}(hw:St B w0 (cels A cap l::H) w):
 CX B w0 168 [.slice A l.length cap,.func (.func 169) #[] #[]] w λv K=>v=.tuple #[]/\∃l',l'.Perm l/\OrdW l'/\K=cels A cap l'::H:=by
 by_cases h0:l.length=0
 ·have hl0:l=[]:=RS h0
  rw[h0]
  refine(AnyF.slices_SortFunc_none Tryz.sortCels A cap (.func (.func 169) #[] #[]) w).mono ?_
  rintro e w' ⟨rfl,rfl⟩
  exact⟨_,_,rfl,hw,rfl,l,List.Perm.refl _,by rw[hl0];exact .nil,rfl⟩
 have ho:=hw.sl (TB)
 obtain⟨g,rfl⟩:∃g,A=some ⟨g,0,none⟩:=by
  rcases ho.2 with⟨h1,h2⟩|⟨g,c,cur,h1,h2,h3,h4,h5,h6,h7⟩
  ·omega
  ·injection h1 with e1 e2 e3
   exact⟨g,e1⟩
 obtain⟨hH,hg,hst⟩:=YnI (enc:=celF) (λ_=>rfl) (by decide) (Ti _) hw
 have eg:∀args w,(callFunc 169 args).run Tryz.prog w=.ok (.enter 169 args) w:=YoY
 rw[List.drop_zero,Nat.zero_mul]at hH
 have hsz:l.toArray.size=l.length:=by simp
 have hcon:=AnyQ.slices_SortFunc Tryz.sortCels 5 Tryz.isAgg48 Tryz.sizeOf48 celF (λ_=>rfl) (λx v hv=>by simp[celF]at hv;rcases hv with rfl|rfl|rfl|rfl|rfl<;>rfl) cfC swoC 169 #[] g 0 cap l.toArray w eg (λ_ _ _ _ x y=>Yuj x y _) hH hg (by rw[hsz];omega)
 rw[hsz]at hcon
 refine hcon.mono ?_
 rintro e w' ⟨rfl,d',n,os,hp,hs,rfl⟩
 have hp:d'.toList.Perm l:=Yj4 (d:=l.toArray) (by rw[hsz];exact hp)
 have h5:=hst d'.toList n os (by rw[hp.length_eq];rfl)
 rw[Array.toArray_toList,Nat.zero_mul,S7,TE]at h5
 refine⟨_,_,rfl,h5,rfl,d'.toList,hp,?_,?_⟩
 ·have hdl:d'.toList.length=l.length:=hp.length_eq
  rw[OrdW,Rb]
  intro i j hi hj hij
  have h6:=hs i j (Ti _) hij (by omega)
  rw[YlC,getElem!_pos d' j (by simpa using hj),getElem!_pos d' i (by simpa using hi)]at h6
  simpa using h6
 ·unfold cels
  rw[hp.length_eq]
structure BuM where
 n:NetM
 qA:Option Addr
 qcap:Nat
 q:List RqM
 s:SchM
 cA:Option Addr
 ccap:Nat
 c:List ClM
 fA:Option Addr
 fcap:Nat
 f:List Int
 e:Int
abbrev bldA(g:Nat)(b:BuM):HP:=blk g (.cells #[.int .i64 b.n.nodes,.slice b.n.pA b.n.rows.length b.n.pcap,.int .i64 b.n.noise,.int .i64 b.n.thr,.slice b.n.lA b.n.links.length b.n.lcap,.slice b.n.mA b.n.margin.length b.n.mcap,.slice b.qA b.q.length b.qcap,.int .i64 b.s.len,.int .i64 b.s.off,.slice b.s.A b.s.cells.length b.s.cap,.slice b.cA b.c.length b.ccap,.slice b.fA b.f.length b.fcap,.int .i64 b.e] 164 (0,0))
def BuM.fail(b:BuM)(e:Int):BuM:={b with e:=Xn b.e e}
theorem V2(b:BuM)(g:Nat)(e:Int){B:Nat}{w0:World}{H:List HP}{w:World}(hw:St B w0 (bldA g b::H) w):
 CX B w0 84 [.pointer (some ⟨g,0,none⟩),.int .i64 e] w λv K=>v=.tuple #[]/\K=bldA g (b.fail e)::H:=by
 refine Ya Tryz.func84 Tryz.ntmps84 rfl rfl hw ?_
 unfold BuM.fail Xn
 by_cases h:b.e=0
 ·rw[Tn h]
  refine zX24 ?_<;>intros
  all_goals first|(exfalso;contradiction)|skip
  exact YiX
 ·rw[Tf h]
  refine zX24 ?_<;>intros
  all_goals first|(exfalso;contradiction)|skip
  exact YiX
theorem YkT:∀(a:Cel) (l:List Cel),Y8 (a::l)=a::(Y8 (a::l)).drop 1
 |_,[]=>rfl
 |a,b::l=>by
  have ih:=YkT b l
  unfold Y8
  grind
variable {l:List Cel}{m:Nat}{a:Cel}
theorem Oi(h:l[m]? =some a):l.drop m=a::l.drop (m+1):=by
 grind [Rh]
theorem Yeq(h:l[m]? =some a)(h2:l[m+1]? =some a):Y8 (l.drop m)=Y8 (l.drop (m+1)):=by
 simp_all [Oi,Y8]
theorem Yep{b:Cel}(h:l[m]? =some a)(h2:l[m+1]? =some b)(hne:a≠b):Y8 (l.drop m)=a::Y8 (l.drop (m+1)):=by
 simp_all [Oi,Y8]
theorem YkS(h:l[m]? =some a):Y8 (l.drop m)=a::(Y8 (l.drop m)).drop 1:=by
 rw[Oi h];exact YkT _ _
structure CpM where
 i:Nat
 j:Nat
 M:List Cel
theorem YdT(l:List Cel)(hlen:l.length<=100000){A:Option Addr}{cap B:Nat}{w0:World}{H:List HP}{w:World}(hw:St B w0 (cels A cap l::H) w):
 CX B w0 170 [.slice A l.length cap] w λv K=>v=.slice A (Y8 l).length cap/\K=cels A cap (Y8 l)::H:=by
 refine Ya Tryz.func170 Tryz.ntmps170 rfl rfl hw ?_
 refine Oc (e:=48) (size:=5) (A:=A) (xs:=l.flatMap celF) (k:=l.length) (cap:=cap) TB λhcap=>?_
 by_cases hl2:l.length<2
 ·have e:Y8 l=l:=by
   match l,hl2 with
   |[],_=>rfl
   |[_],_=>rfl
  rw[e]
  refine zX3 ?_<;>intros
  exact zc13
 refine zX3 ?_<;>intros
 refine Yg (λk:Nat=>[(3,.int .i64 k),(0,.slice A l.length cap)]) (λ_=>cels A cap l::H) (λk=>1<=k/\k<=l.length/\Y8 l=l.take (k-1)++Y8 (l.drop (k-1))) (λk=>l.length-k) 1 ⟨TI _,by omega,by simp⟩ ?_ (λw hw=>hw) ?_
 ·exact zc1
 rintro k ⟨hk1,hk,hce⟩ K hK
 by_cases hlt:k<l.length
 rotate_left
 ·obtain rfl:k=l.length:=by omega
  obtain⟨a,ha⟩:∃a,l[l.length-1]? =some a:=⟨_,Ta (by omega)⟩
  have e:Y8 l=l:=by
   rw[hce,Oi ha,Rf (by omega)]
   show l.take (l.length-1)++[a]=l
   conv=>rhs;rw[<-RN (l.length-1) l,Oi ha,Rf (show l.length<=l.length-1+1 by omega)]
  rw[e]
  refine zX1 ?_<;>intros
  exact zc4
 obtain⟨m,rfl⟩:∃m,k=m+1:=⟨k-1,by omega⟩
 rw[R7]at hce
 obtain⟨a,ha⟩:∃a,l[m]? =some a:=⟨_,Ta (by omega)⟩
 obtain⟨b,hb⟩:∃b,l[m+1]? =some b:=⟨_,Ta hlt⟩
 have hm1:(((m+1:Nat):Int)-1).toNat=m:=by omega
 have ha2:l[(((m+1:Nat):Int)-1).toNat]? =some a:=by rw[hm1];exact ha
 have hr0:Rd B w0 (cels A cap l::H) A (l.flatMap celF):=.sl TB
 repeat'(first|(apply YqS b a;(iterate 3 exact rfl);all_goals intro hca)|refine zgd ?_|(refine zge ?_ ?_<;>intro _<;>try exact zo)|fail)
 rotate_left
 ·apply hK (m+1+1)
  ·refine⟨by omega,by omega,?_⟩
   rw[R7,TF,ha,hce,Yep ha hb (λe=>hca e.symm)]
   simp
  ·omega
  ·exact zc1
  exact zc20
 obtain rfl:=hca
 clear hK
 obtain⟨N,hN⟩:∃N,l.length=m+1+N:=⟨l.length-(m+1),by omega⟩
 apply XV T (n':=(l.drop (m+1)).length);(iterate 4 exact rfl);omega;(rw[TZ];omega)
 rw[Rx]
 refine zX8 ?_
 refine Yg (λz:CpM=>[(5,.int .i64 z.j),(3,.int .i64 z.i),(4,.slice (subA A (m+1) cap 5) (z.M.drop (m+1)).length (cap-(m+1))),(0,.slice A z.M.length cap)]) (λz=>cels A cap z.M::H)
  (λz=>z.M.length=l.length/\(1<=z.j/\z.j<=N)/\z.i<=m+z.j/\Y8 l=z.M.take z.i++(Y8 (l.drop (m+z.j))).drop 1/\∀i,m+z.j<=i->z.M[i]? =l[i]?) (λz=>N-z.j) ⟨m+1,1,l⟩ ⟨rfl,⟨TI _,by show 1<=N;omega⟩,TI _,?_,λ_ _=>rfl⟩ ?_ (λw hw=>hw) ?_
 ·show Y8 l=l.take (m+1)++(Y8 (l.drop (m+1))).drop 1
  rw[TF,ha,hce,Yeq ha hb,YkS hb]
  simp
 ·exact zc1
 rintro⟨i,j,M⟩ ⟨hM,⟨hj1,hj⟩,hi,hco,hsame⟩ K hK
 dsimp only at hM hj1 hj hi hco hsame⊢
 have hdl:(M.drop (m+1)).length=N:=by rw[TZ];omega
 by_cases hjl:j<N
 ·obtain⟨x,hx⟩:∃x,l[m+j]? =some x:=⟨_,Ta (by omega)⟩
  obtain⟨y,hy⟩:∃y,l[m+1+j]? =some y:=⟨_,Ta (by omega)⟩
  have hj3:((j:Int)-1).toNat=j-1:=by omega
  have hx2:(M.drop (m+1))[((j:Int)-1).toNat]? =some x:=by
   rw[hj3,RL,show m+1+(j-1)=m+j by omega,hsame _ (TI _)];exact hx
  have hy2:(M.drop (m+1))[j]? =some y:=by
   rw[RL,hsame _ (by omega)];exact hy
  have hy3:l[m+j+1]? =some y:=by rw[show m+j+1=m+1+j by omega];exact hy
  have hs2:Rd B w0 (cels A cap M::H) (subA A (m+1) cap 5) ((M.drop (m+1)).flatMap celF):=by
   have h1:=Rd.sub (B:=B) (w0:=w0) (H:=cels A cap M::H) (q:=5) (f:=celF) (l:=M) (o:=m+1) (k:=M.length) (cap:=cap) (A:=A) (λ_=>rfl) (.sl TB) (by omega)
   rwa [TL (by rw[TZ];omega)]at h1
  unfold cels at hs2⊢
  have hMl:(M.set i y).length=M.length:=TQ
  have hMd:((M.set i y).drop (m+1)).length=(M.drop (m+1)).length:=by rw[TZ,TZ,hMl]
  repeat'(first|(apply YkD y x;(iterate 3 exact rfl);all_goals intro hca)|(apply XJ T (f:=celF) (l:=M) (i:=i) (a:=y);(iterate 3 exact rfl);exact zd;exactλ_=>rfl;(iterate 3 exact rfl);omega)|refine zgd ?_|(refine zge ?_ ?_<;>intro _<;>try exact zo)|fail)
  ·apply hK ⟨i+1,j+1,M.set i y⟩
   ·refine⟨hMl.trans hM,⟨by show 1<=j+1;omega,hjl⟩,by show i+1<=m+(j+1);omega,?_,λt ht=>?_⟩
    ·show Y8 l=(M.set i y).take (i+1)++(Y8 (l.drop (m+(j+1)))).drop 1
     rw[hco,Yep hx hy3 (λe=>hca e.symm),List.drop_one,List.tail_cons,TF,SJ (by omega),List.take_set_of_le (TI _),show m+(j+1)=m+j+1 by omega,YkS hy3]
     simp
    ·dsimp only at ht⊢
     rw[Nn (by omega)]
     exact hsame t (by omega)
   ·exact zc47
   ·dsimp only
    rw[hMl,hMd]
    exact zc1
   ·unfold cels
    dsimp only
    rw[hMl]
    exact Yfl
  ·apply hK ⟨i,j+1,M⟩
   ·refine⟨hM,⟨by show 1<=j+1;omega,hjl⟩,by show i<=m+(j+1);omega,?_,λt ht=>hsame t (by dsimp only at ht;omega)⟩
    show Y8 l=M.take i++(Y8 (l.drop (m+(j+1)))).drop 1
    rw[hco,Yeq hx (by rw[hy3,hca]),show m+(j+1)=m+j+1 by omega]
   ·exact zc47
   ·exact zc1
   exact zc20
 ·obtain rfl:j=N:=by omega
  clear hK
  have hce2:Y8 l=M.take i:=by
   obtain⟨x,hx⟩:∃x,l[m+j]? =some x:=⟨_,Ta (by omega)⟩
   have hd:l.drop (m+j+1)=[]:=Rf (by omega)
   rw[hco,Oi hx,hd]
   exact Rr _
  have hil:(Y8 l).length=i:=by rw[hce2,TT];omega
  have hfl:(M.flatMap celF).take (i*5)=(Y8 l).flatMap celF:=by rw[<-Xr (q:=5) (λ_=>rfl),hce2]
  unfold cels
  refine zX37 ?_<;>intros
  rw[Rx]
  apply Xy (sl 48 5 A i cap ((Y8 l).flatMap celF)::H)
  ·exact zc73
  apply Ql T T2 (e:=48) (size:=5) (k:=i) (xs:=(Y8 l).flatMap celF);exact rfl;exact TB;(iterate 3 exact rfl);omega
  repeat'(first|(apply Zk T (l:=M) (n':=i);(iterate 4 exact rfl);omega;omega;omega)|refine zgd ?_|fail)
  exact Yth
variable {A:Option Addr}{cap B:Nat}{w0 w:World}{H:List HP}
theorem Ycg(l:List RowM)(hlen:l.length<=1000)(hr:Rd B w0 H A (l.flatMap rowF))(hw:St B w0 H w):
 CX B w0 174 [.slice A l.length cap] w λv K=>∃A' cap',v=.slice A' l.length cap'/\K=sl 104 1 A' l.length cap' (l.flatMap rowF)::H:=by
 cases A with
 |none=>
  have hl:l=[]:=by
   cases l with
   |nil=>rfl
   |cons x l=>
    exact zc36
  subst hl
  refine Ya Tryz.func174 Tryz.ntmps174 rfl rfl hw ?_
  refine zX7 ?_
  apply XW 104 1;exact zc39
 |some a=>
  refine Ya Tryz.func174 Tryz.ntmps174 rfl rfl hw ?_
  repeat'(first|(apply Zq;(iterate 3 exact rfl))|(apply Xt T;exact rfl;exact rfl;intro g2)|refine zgb ?_|fail)
  apply XE T (f:=rowF) (l2:=l) (e:=104) (size:=1) (xs:=[]);(iterate 3 exact rfl);exact hr.cons;exact(λ_=>rfl);exact(λ_=>rfl);exact rfl;(intro _ _;exact zd);omega;intro A' cap'
  exact zc26
theorem Ycf(l:List Lk)(hlen:l.length<=1000)(hr:Rd B w0 H A (l.flatMap lkF))(hw:St B w0 H w):
 CX B w0 171 [.slice A l.length cap] w λv K=>∃A' cap',v=.slice A' l.length cap'/\K=sl 145 3 A' l.length cap' (l.flatMap lkF)::H:=by
 cases A with
 |none=>
  have hl:l=[]:=by
   cases l with
   |nil=>rfl
   |cons x l=>
    exact zc36
  subst hl
  refine Ya Tryz.func171 Tryz.ntmps171 rfl rfl hw ?_
  refine zX7 ?_
  apply XW 145 3;exact zc39
 |some a=>
  refine Ya Tryz.func171 Tryz.ntmps171 rfl rfl hw ?_
  repeat'(first|(apply Zq;(iterate 3 exact rfl))|(apply Xt T;exact rfl;exact rfl;intro g2)|refine zgb ?_|fail)
  apply XE T (f:=lkF) (l2:=l) (e:=145) (size:=3) (xs:=[]);(iterate 3 exact rfl);exact hr.cons;exact(λ_=>rfl);exact(λ_=>rfl);exact rfl;(intro _ _;exact zd);omega;intro A' cap'
  exact zc26
structure PnM where
 n:NetM
 qA:Option Addr
 qcap:Nat
 q:List RqM
 s:SchM
 cA:Option Addr
 ccap:Nat
 c:List ClM
 fA:Option Addr
 fcap:Nat
 f:List Int
def PnM.val(p:PnM):Value:=.agg #[.int .i64 p.n.nodes,.slice p.n.pA p.n.rows.length p.n.pcap,.int .i64 p.n.noise,.int .i64 p.n.thr,.slice p.n.lA p.n.links.length p.n.lcap,.slice p.n.mA p.n.margin.length p.n.mcap,.slice p.qA p.q.length p.qcap,.int .i64 p.s.len,.int .i64 p.s.off,.slice p.s.A p.s.cells.length p.s.cap,.slice p.cA p.c.length p.ccap,.slice p.fA p.f.length p.fcap]
def PnM.pln(p:PnM):Pln:=⟨p.n.net,p.q.map RqM.rq,p.s.sch,p.c.map ClM.clm,p.f⟩
structure PnM.In(B:Nat)(w0:World)(H:List HP)(p:PnM):Prop where
 n:p.n.In B w0 H
 q:QIn B w0 H p.qA p.q
 s:Rd B w0 H p.s.A (p.s.cells.flatMap celF)
 sl:p.s.cells.length<=1000000000000
 c:CIn B w0 H p.cA p.c
 f:Rd B w0 H p.fA (p.f.flatMap numF)
 fl:p.f.length<=1000000000000
variable {p:PnM}
theorem PnM.In.mono{H':List HP}(h:p.In B w0 H)(hH:∀w,St B w0 H' w->St B w0 H w):p.In B w0 H':=⟨h.n.mono hH,h.q.mono hH,h.s.mono hH,h.sl,h.c.mono hH,h.f.mono hH,h.fl⟩
theorem PnM.In.cons{X:HP}(h:p.In B w0 H):p.In B w0 (X::H):=h.mono λ_ hw=>hw.tail
def zeroPnV:Value:=.agg #[.int .i64 0,.slice none 0 0,.int .i64 0,.int .i64 0,.slice none 0 0,.slice none 0 0,.slice none 0 0,.int .i64 0,.int .i64 0,.slice none 0 0,.slice none 0 0,.slice none 0 0]
def YkA(B:Nat)(w0:World)(H:List HP)(R:Option Pln×Int)(v:Value)(K:List HP):Prop:=
 (R.1=none/\v=.tuple #[zeroPnV,.int .i64 R.2]/\K=H)\/∃(p:PnM) (X:List HP),R.1=some p.pln/\v=.tuple #[p.val,.int .i64 R.2]/\p.In B w0 [many X]/\K=many X::H
def YuS(B:Nat)(w0:World)(H:List HP)(s:SchM)(R:Option Pln×Int)(v:Value)(K:List HP):Prop:=
 (R.1=none/\v=.tuple #[zeroPnV,.int .i64 R.2]/\K=H)\/∃(p:PnM) (X:List HP),R.1=some p.pln/\v=.tuple #[p.val,.int .i64 R.2]/\(∀H',Rd B w0 H' s.A (s.cells.flatMap celF)->p.In B w0 (many X::H'))/\K=many X::H
structure RwsM where
 i:Nat
 R:List RowM
structure RqsM where
 i:Nat
 Q:List RqM
variable {i:Nat}
theorem YlN{l:List RowM}{r:RowM}{A:Option Addr}{cap:Nat}(h:l[i]? =some r):(l.set i ⟨A,cap,r.xs⟩).map (·.xs)=l.map (·.xs):=by
 apply Sl
 grind
variable {α:Type}
theorem take_set{l:List α}{a:α}(h:i<l.length):(l.set i a).take (i+1)=l.take i++[a]:=by
 simp_all [List.take_add_one,List.take_set_of_le]
theorem Ycq{l m:List α}{a:α}(h:l.drop i=m.drop i):(l.set i a).drop (i+1)=m.drop (i+1):=by
 rw[List.drop_set_of_lt (by omega),<-Nl,<-Nl,h]
theorem YfK{l m:List α}{a:α}(h:l.drop i=m.drop i)(hm:m[i]? =some a):l[i]? =some a:=by
 have e1:(l.drop i)[0]? =(m.drop i)[0]? :=by rw[h]
 grind
theorem Uh(b:BuM)(g:Nat){B:Nat}{w0:World}{H:List HP}{w:World}(ht:TabsB B w0)(hin:b.n.In B w0 H)(hq:QIn B w0 H b.qA b.q)(hrs:Rd B w0 H b.s.A (b.s.cells.flatMap celF))(hsl:b.s.cells.length<=1000000000000)(hw:St B w0 (bldA g b::H) w):
 CX B w0 86 [.pointer (some ⟨g,0,none⟩)] w (YuS B w0 H b.s (finE b.n.net (b.q.map RqM.rq) b.s.sch b.e)):=by
 refine Ya Tryz.func86 Tryz.ntmps86 rfl rfl hw ?_
 obtain⟨n,qA,qcap,q,s,cA,ccap,c,fA,fcap,f,e⟩:=b
 dsimp only at hin hq hrs hsl⊢
 have hop:∀w,St B w0 [many H] w->St B w0 H w:=λw hw=>hw.perm (.openT H)
 have hin0:=hin
 have hq0:=hq
 have hin:=hin.mono hop
 have hq:=hq.mono hop
 have hrs:=hrs.mono hop
 have p1:=λ{H':List HP}{w:World}(hin:n.In B w0 H') (hq:QIn B w0 H' qA q) (hrs:Rd B w0 H' s.A (s.cells.flatMap celF)) (hw:St B w0 H' w)=>UG n q s (cap:=qcap) ht hin hq hrs hsl hw
 have p2:=λ{H':List HP}{w:World}(hrs:Rd B w0 H' s.A (s.cells.flatMap celF)) (hw:St B w0 H' w)=>Yec s ht hrs hsl hw
 unfold OutC NetM.val SchM.val at p1
 unfold SchM.val at p2
 refine XD (bldA g ⟨n,qA,qcap,q,s,cA,ccap,c,fA,fcap,f,e⟩::[many H]) (λw hw=>hw.perm (.cons _ (.closeT H))) ?_
 dsimp only[bldA]
 unfold finE YfW
 by_cases he:e=0
 rotate_left
 ·rw[Tn he,Tn he]
  refine Yta ?_<;>intros
  apply YI [0,1,2,3,4,5,6] [] [false,true,true]
  kernel_rfl
  kernel_rfl
  exact zy
  (simp only[Yd,nthO];rfl)
  exact rfl
  refine YiU ?_
  apply Yv T (H2:=H);(iterate 3 exact rfl);(focus exact zc2);exact rfl;exact rfl
  ·intro w hw
   have h5:St B w0 [many H] w:=by
    revert w
    exact zc0
   exact hop w h5
  exact .inl ⟨rfl,rfl,rfl⟩
 subst he
 rw[Tf (show¬(0:Int)≠0 fromλe=>e rfl)]
 obtain⟨⟨RC,ri,re⟩,hR⟩:∃R,YO n.net (q.map RqM.rq) s.sch=R:=⟨_,rfl⟩
 obtain⟨⟨RF,fe⟩,hRF⟩:∃R,Jg s.sch=R:=⟨_,rfl⟩
 rw[hR]at p1⊢
 rw[hRF]at p2⊢
 dsimp only at p1 p2⊢
 have p3:=λ(b:BuM) (e:Int) {H':List HP}{w:World}(hw:St B w0 (bldA g b::H') w)=>V2 b g e hw
 unfold BuM.fail at p3
 refine Yta ?_<;>intros
 rename_i g2 _
 apply Um [0,1,2,3,4,5,6,7,8,9,10,11,12,13,14,15,16,17,19,20,18,21,22,23] [0,19,20,24,25] [24,25] [true,true,true]
 kernel_rfl
 kernel_rfl
 exact zy
 (simp only[Yd,nthO];rfl)
 (simp only[Yd,nthO];rfl)
 refine UR ?_
 apply Yf _ en40
 exact za
 exact rfl
 exactλ_ hw=>(p1 (hin.mono zc0) (hq.mono zc0) (hrs.mono zc0) (hw))
 rintro _ _ ⟨A2,c2,C,rfl,hC,hCl,rfl⟩
 refine YiU ?_
 apply Xl [bldA g ⟨n,qA,qcap,q,s,A2,c2,C,fA,fcap,f,0⟩] _ en84
 exact za
 try exact zl
 exact zp
 exact rfl
 exactλ_ hw=>(p3 ⟨n,qA,qcap,q,s,A2,c2,C,fA,fcap,f,0⟩ re hw)
 rintro _ _ ⟨rfl,rfl⟩
 rw[show Xn (BuM.e ⟨n,qA,qcap,q,s,A2,c2,C,fA,fcap,f,0⟩) re=re from Tn rfl]
 dsimp only[bldA]
 refine UR ?_
 apply Yf _ en42
 exact za
 exact rfl
 exactλ_ hw=>(p2 (hrs.mono zc0) (hw))
 rintro _ _ ⟨A3,rfl,rfl⟩
 refine UR ?_
 apply Xl [bldA g ⟨n,qA,qcap,q,s,A2,c2,C,A3,RF.length,RF,re⟩] _ en84
 exact za
 try exact zl
 exact zp
 exact rfl
 exactλ_ hw=>(p3 ⟨n,qA,qcap,q,s,A2,c2,C,A3,RF.length,RF,re⟩ fe hw)
 rintro _ _ ⟨rfl,rfl⟩
 obtain⟨fin,hfin⟩:∃fin,Xn re fe=fin:=⟨_,rfl⟩
 dsimp only[bldA]
 rw[hfin]
 by_cases hE:fin=0
 rotate_left
 ·rw[Tn hE]
  refine zX69 ?_<;>intros
  apply YI [0,1,2,3,4,5,6] [] [true]
  kernel_rfl
  kernel_rfl
  exact zy
  (simp only[Yd,nthO];rfl)
  exact rfl
  refine YiU ?_
  apply Yv T (H2:=H);(iterate 3 exact rfl);(focus exact zc2);exact rfl;exact rfl
  ·intro w hw
   have h5:St B w0 [many H] w:=by
    revert w
    exact zc0
   exact hop w h5
  exact .inl ⟨rfl,rfl,rfl⟩
 subst hE
 rw[Tf (show¬(0:Int)≠0 fromλe=>e rfl)]
 have hre:re=0/\fe=0:=by
  unfold Xn at hfin
  split at hfin
  ·exact⟨by assumption,hfin⟩
  ·exact absurd hfin (by assumption)
 obtain⟨rfl,rfl⟩:=hre
 have hce:(YO n.net (q.map RqM.rq) s.sch).2.2=0:=by rw[hR]
 have hrq:(rqsE n.net (q.map RqM.rq)).2=0:=Rw.1 λh1=>by
  unfold YO at hce;rw[Tn h1]at hce;exact h1 hce
 obtain⟨hck,-,hrt⟩:=VM hrq
 have hql:q.length<=16:=(Ykg hrq).1
 have hok:=YK hck
 have hrowl:n.rows.length<=32:=by
  have h1:=hok.p0;have h2:=hok.n1
  have h3:n.net.power.length=n.rows.length:=by simp[NetM.net]
  omega
 have hrow1:∀r∈n.rows,r.xs.length<=32:=λr hr=>by
  have h1:=hok.p1 r.xs (by show r.xs∈n.rows.map (·.xs);exact TC.2 ⟨r,hr,rfl⟩)
  have h2:=hok.n1
  omega
 have hlk:n.links.length<=128:=hok.k0
 have hmg:n.margin.length<=128:=by
  have h1:n.margin.length=n.links.length:=hok.k1
  omega
 have hqx:∀x∈q,x.rows.length<=2/\∀r∈x.rows,r.xs.length<=9:=λx hx=>by
  have h1:=hrt x.rq (TC.2 ⟨x,hx,rfl⟩)
  refine⟨?_,λr hr=>?_⟩
  ·have h2:=Ow h1
   have h4:x.rq.2.length=x.rows.length:=Tt _
   omega
  ·exact(JA (ZN h1 r.xs (TC.2 ⟨r,hr,rfl⟩))).2.1.2
 have hCn:C.length<=1000000000000:=by
  have h1:=TG List.length hC
  have h2:=TG (λz=>z.1.length) hR
  dsimp only at h1 h2
  rw[YkQ hce]at h2
  simp only[Tt]at h1 h2
  omega
 have hFn:RF.length<=1000000000000:=by
  have h2:=TG (λz=>z.1.length) hRF
  dsimp only at h2
  unfold Jg at h2
  split at h2
  ·simp only[RB]at h2;omega
  ·unfold VF at h2
   rw[UH,Rj]at h2
   have h3:=(JM.1 (Zw.1 (Za.1 hce).1)).frm.sized
   exact YtX
 refine zX69 ?_<;>intros
 clear p1 p2 p3
 have hinM:∀{H':List HP},many H∈H'->n.In B w0 H':=λhm=>hin0.mono λw hw=>hw.inM hm
 have hqM:∀{H':List HP},many H∈H'->QIn B w0 H' qA q:=λhm=>hq0.mono λw hw=>hw.inM hm
 apply Um [1,0,2,3,4,5,6,7,9,10,11,12,13,14,8,15,16,17,18,19] [1,20,21,22,23,24,25] [20,21,22,23,24,25] [true,true,true,true,true,true]
 kernel_rfl
 kernel_rfl
 exact zy
 (simp only[Yd,nthO];rfl)
 (simp only[Yd,nthO];rfl)
 refine UR ?_
 apply Yf _ Yu5
 exact za
 exact rfl
 exactλ_ hw=>(Ycf n.links (by omega) (hinM (by(focus exact zc2))).lk (hw))
 rintro _ _ ⟨lA,lcap,rfl,rfl⟩
 refine YiU ?_
 apply Yf _ Ysl
 exact za
 exact rfl
 exactλ_ hw=>(Wr n.margin (by omega) (hinM (by(focus exact zc2))).mg (hw))
 rintro _ _ ⟨mA,mcap,rfl,rfl⟩
 refine YiU ?_
 apply Yf _ Yu6
 exact za
 exact rfl
 exactλ_ hw=>(Ybu n.rows (by omega) (hinM (by(focus exact zc2))).pw (hw))
 rintro _ _ ⟨pA,pcap,rfl,rfl⟩
 refine UR ?_
 refine Yg (λz:RwsM=>[(112,.int .i64 (z.i:Nat)),(111,.int .i64 n.rows.length),(110,.slice pA n.rows.length pcap),(0,.pointer (some ⟨g,0,none⟩)),(2,.pointer (some ⟨g2,0,none⟩)),(3,.int .i64 0)])
  (λz=>sl 24 1 pA n.rows.length pcap (z.R.flatMap rowF)::many ((z.R.take z.i).map rowQ)::blk g (.cells #[.int .i64 n.nodes,.slice pA n.rows.length pcap,.int .i64 n.noise,.int .i64 n.thr,.slice lA n.links.length lcap,.slice mA n.margin.length mcap,.slice qA q.length qcap,.int .i64 s.len,.int .i64 s.off,.slice s.A s.cells.length s.cap,.slice A2 C.length c2,.slice A3 RF.length RF.length,.int .i64 0] 164 (0,0))::sl 145 3 lA n.links.length lcap (n.links.flatMap lkF)::ints mA mcap n.margin::blk g2 (.cells zeroPnV.cells 35 (0,0))::nrs A3 RF.length RF::clsP A2 c2 C::many (C.map clQ)::[many H])
  (λz=>z.i<=n.rows.length/\z.R.length=n.rows.length/\z.R.map (·.xs)=n.rows.map (·.xs)/\z.R.drop z.i=n.rows.drop z.i) (λz=>n.rows.length-z.i) ⟨0,n.rows⟩ ⟨Ti _,rfl,rfl,rfl⟩ ?_ ?_ ?_
 ·exact zc1
 ·intro w hw
  have h5:St B w0 (sl 24 1 pA n.rows.length pcap (n.rows.flatMap rowF)::blk g (.cells #[.int .i64 n.nodes,.slice pA n.rows.length pcap,.int .i64 n.noise,.int .i64 n.thr,.slice lA n.links.length lcap,.slice mA n.margin.length mcap,.slice qA q.length qcap,.int .i64 s.len,.int .i64 s.off,.slice s.A s.cells.length s.cap,.slice A2 C.length c2,.slice A3 RF.length RF.length,.int .i64 0] 164 (0,0))::sl 145 3 lA n.links.length lcap (n.links.flatMap lkF)::ints mA mcap n.margin::blk g2 (.cells zeroPnV.cells 35 (0,0))::nrs A3 RF.length RF::clsP A2 c2 C::many (C.map clQ)::[many H]) w:=by
   dsimp only[zeroPnV]
   revert w
   exact zc0
  exact YqI
 rintro⟨i,R⟩ ⟨hi,hRl,hRm,hRd⟩ K hK
 dsimp only at hi hRl hRm hRd⊢
 by_cases hlt:i<n.rows.length
 ·obtain⟨r,hr⟩:∃r,n.rows[i]? =some r:=⟨_,Ta hlt⟩
  have hrm:=Tc hr
  have hRi:=YfK hRd hr
  have hr32:=hrow1 r hrm
  refine zX69 ?_<;>intros
  apply YI [0,1,2,3,4,5,6,7,8,9] [10] [true,true,true]
  kernel_rfl
  kernel_rfl
  exact zy
  (simp only[Yd,nthO];rfl)
  (simp only[Yd,nthO];rfl)
  refine UR ?_
  apply Yf _ Ysl
  exact za
  exact rfl
  exactλ_ hw=>(Wr r.xs (by omega) ((hinM (by(focus exact zc2))).rw_ r hrm) (hw))
  rintro _ _ ⟨A',cap',rfl,rfl⟩
  repeat'(first|(apply Yi T;exact rfl;exact zm;exact rfl;exact zv;exact rfl;exact rfl)|(apply Xm T (f:=rowF) (l:=R) (i:=i) (a:=⟨A',cap',r.xs⟩) (e:=24) (k:=n.rows.length) (cap:=pcap);(iterate 3 exact rfl);exact zd;exact rfl;exact(λ_=>rfl);exact rfl;omega)|(apply Yj;try exact zl)|refine zgd ?_|fail)
  apply hK ⟨i+1,R.set i ⟨A',cap',r.xs⟩⟩
  ·exact⟨by exact zc86,by show(R.set i _).length=_;rw[TQ,hRl],by show(R.set i _).map _=_;rw[YlN hRi,hRm],Ycq hRd⟩
  ·exact zc47
  ·exact zc1
  ·intro w hw
   dsimp only
   rw[take_set (by omega)]
   have h5:St B w0 (ints A' cap' r.xs::many ((R.take i).map rowQ)::sl 24 1 pA n.rows.length pcap ((R.set i ⟨A',cap',r.xs⟩).flatMap rowF)::blk g (.cells #[.int .i64 n.nodes,.slice pA n.rows.length pcap,.int .i64 n.noise,.int .i64 n.thr,.slice lA n.links.length lcap,.slice mA n.margin.length mcap,.slice qA q.length qcap,.int .i64 s.len,.int .i64 s.off,.slice s.A s.cells.length s.cap,.slice A2 C.length c2,.slice A3 RF.length RF.length,.int .i64 0] 164 (0,0))::sl 145 3 lA n.links.length lcap (n.links.flatMap lkF)::ints mA mcap n.margin::blk g2 (.cells zeroPnV.cells 35 (0,0))::nrs A3 RF.length RF::clsP A2 c2 C::many (C.map clQ)::[many H]) w:=by
    revert w
    exact zc0
   exact(h5.perm (Oq rowQ (R.take i) ⟨A',cap',r.xs⟩ _)).perm (.swap _ _ _)
 obtain rfl:i=n.rows.length:=by omega
 rw[<-hRl,TM,hRl]
 clear hK hRd hlt hi
 refine zX69 ?_<;>intros
 apply Yf _ en90
 exact za
 exact rfl
 exactλ_ hw=>(WJ q (by omega) (hqM (by(focus exact zc2))).rd (hw))
 rintro _ _ ⟨q1A,q1c,rfl,rfl⟩
 refine UR ?_
 refine Yg (λz:RqsM=>[(144,.int .i64 (z.i:Nat)),(143,.int .i64 q.length),(142,.slice q1A q.length q1c),(0,.pointer (some ⟨g,0,none⟩)),(2,.pointer (some ⟨g2,0,none⟩)),(3,.int .i64 0)])
  (λz=>sl 69 7 q1A q.length q1c (z.Q.flatMap rqF)::many ((z.Q.take z.i).map rqQ)::blk g (.cells #[.int .i64 n.nodes,.slice pA n.rows.length pcap,.int .i64 n.noise,.int .i64 n.thr,.slice lA n.links.length lcap,.slice mA n.margin.length mcap,.slice q1A q.length q1c,.int .i64 s.len,.int .i64 s.off,.slice s.A s.cells.length s.cap,.slice A2 C.length c2,.slice A3 RF.length RF.length,.int .i64 0] 164 (0,0))::sl 24 1 pA n.rows.length pcap (R.flatMap rowF)::many (R.map rowQ)::sl 145 3 lA n.links.length lcap (n.links.flatMap lkF)::ints mA mcap n.margin::blk g2 (.cells zeroPnV.cells 35 (0,0))::nrs A3 RF.length RF::clsP A2 c2 C::many (C.map clQ)::[many H])
  (λz=>z.i<=q.length/\z.Q.length=q.length/\z.Q.map RqM.rq=q.map RqM.rq/\z.Q.drop z.i=q.drop z.i/\∀x∈z.Q.take z.i,x.lens) (λz=>q.length-z.i) ⟨0,q⟩ ⟨Ti _,rfl,rfl,rfl,(λx hx=>by cases hx)⟩ ?_ ?_ ?_
 ·exact zc1
 ·intro w hw
  have h5:St B w0 (sl 69 7 q1A q.length q1c (q.flatMap rqF)::blk g (.cells #[.int .i64 n.nodes,.slice pA n.rows.length pcap,.int .i64 n.noise,.int .i64 n.thr,.slice lA n.links.length lcap,.slice mA n.margin.length mcap,.slice q1A q.length q1c,.int .i64 s.len,.int .i64 s.off,.slice s.A s.cells.length s.cap,.slice A2 C.length c2,.slice A3 RF.length RF.length,.int .i64 0] 164 (0,0))::sl 24 1 pA n.rows.length pcap (R.flatMap rowF)::many (R.map rowQ)::sl 145 3 lA n.links.length lcap (n.links.flatMap lkF)::ints mA mcap n.margin::blk g2 (.cells zeroPnV.cells 35 (0,0))::nrs A3 RF.length RF::clsP A2 c2 C::many (C.map clQ)::[many H]) w:=by
   unfold rqs at hw
   revert w
   exact zc0
  exact YqI
 rintro⟨i,Q⟩ ⟨hi,hQl,hQm,hQd,hQs⟩ K hK
 dsimp only at hi hQl hQm hQd hQs⊢
 by_cases hlt:i<q.length
 ·obtain⟨x,hx⟩:∃x,q[i]? =some x:=⟨_,Ta hlt⟩
  have hxm:=Tc hx
  have hQi:=YfK hQd hx
  obtain⟨hx2,hx9⟩:=hqx x hxm
  refine YiT ?_<;>intros
  rename_i g8
  apply Yf _ Yu7
  exact za
  exact rfl
  exactλ_ hw=>(Ycg x.rows (by omega) ((hqM (by(focus exact zc2))).x x hxm).rt (hw))
  rintro _ _ ⟨bA,bc,rfl,rfl⟩
  refine UR ?_
  refine Yg (λz:RwsM=>[(156,.int .i64 (z.i:Nat)),(155,.int .i64 x.rows.length),(154,.slice bA x.rows.length bc),(7,.int .i64 (i:Nat)),(8,.pointer (some ⟨g8,0,none⟩)),(144,.int .i64 (i:Nat)),(143,.int .i64 q.length),(142,.slice q1A q.length q1c),(0,.pointer (some ⟨g,0,none⟩)),(2,.pointer (some ⟨g2,0,none⟩)),(3,.int .i64 0)])
   (λz=>sl 104 1 bA x.rows.length bc (z.R.flatMap rowF)::many ((z.R.take z.i).map rowQ)::blk g8 (.cells #[.int .i64 x.f.1,.int .i64 x.f.2.1,.int .i64 x.f.2.2.1,.int .i64 x.f.2.2.2.1,.int .i64 x.f.2.2.2.2.1,.int .i64 x.f.2.2.2.2.2,.slice bA x.rows.length bc] 69 (0,0))::sl 69 7 q1A q.length q1c (Q.flatMap rqF)::many ((Q.take i).map rqQ)::blk g (.cells #[.int .i64 n.nodes,.slice pA n.rows.length pcap,.int .i64 n.noise,.int .i64 n.thr,.slice lA n.links.length lcap,.slice mA n.margin.length mcap,.slice q1A q.length q1c,.int .i64 s.len,.int .i64 s.off,.slice s.A s.cells.length s.cap,.slice A2 C.length c2,.slice A3 RF.length RF.length,.int .i64 0] 164 (0,0))::sl 24 1 pA n.rows.length pcap (R.flatMap rowF)::many (R.map rowQ)::sl 145 3 lA n.links.length lcap (n.links.flatMap lkF)::ints mA mcap n.margin::blk g2 (.cells zeroPnV.cells 35 (0,0))::nrs A3 RF.length RF::clsP A2 c2 C::many (C.map clQ)::[many H])
   (λz=>z.i<=x.rows.length/\z.R.length=x.rows.length/\z.R.map (·.xs)=x.rows.map (·.xs)/\z.R.drop z.i=x.rows.drop z.i/\∀r∈z.R.take z.i,r.xs.length<=1000/\r.xs.length<=r.cap) (λz=>x.rows.length-z.i) ⟨0,x.rows⟩ ⟨Ti _,rfl,rfl,rfl,(λx hx=>by cases hx)⟩ ?_ ?_ ?_
  ·exact zc1
  ·intro w hw
   have h5:St B w0 (sl 104 1 bA x.rows.length bc (x.rows.flatMap rowF)::blk g8 (.cells #[.int .i64 x.f.1,.int .i64 x.f.2.1,.int .i64 x.f.2.2.1,.int .i64 x.f.2.2.2.1,.int .i64 x.f.2.2.2.2.1,.int .i64 x.f.2.2.2.2.2,.slice bA x.rows.length bc] 69 (0,0))::sl 69 7 q1A q.length q1c (Q.flatMap rqF)::many ((Q.take i).map rqQ)::blk g (.cells #[.int .i64 n.nodes,.slice pA n.rows.length pcap,.int .i64 n.noise,.int .i64 n.thr,.slice lA n.links.length lcap,.slice mA n.margin.length mcap,.slice q1A q.length q1c,.int .i64 s.len,.int .i64 s.off,.slice s.A s.cells.length s.cap,.slice A2 C.length c2,.slice A3 RF.length RF.length,.int .i64 0] 164 (0,0))::sl 24 1 pA n.rows.length pcap (R.flatMap rowF)::many (R.map rowQ)::sl 145 3 lA n.links.length lcap (n.links.flatMap lkF)::ints mA mcap n.margin::blk g2 (.cells zeroPnV.cells 35 (0,0))::nrs A3 RF.length RF::clsP A2 c2 C::many (C.map clQ)::[many H]) w:=by
    revert w
    exact zc0
   exact YqI
  rintro⟨k,S⟩ ⟨hk,hSl,hSm,hSd,hSs⟩ K2 hK2
  dsimp only at hk hSl hSm hSd hSs⊢
  by_cases hlk2:k<x.rows.length
  ·obtain⟨r,hr⟩:∃r,x.rows[k]? =some r:=⟨_,Ta hlk2⟩
   have hrm:=Tc hr
   have hRi:=YfK hSd hr
   have hr9:=hx9 r hrm
   clear hK hQi
   refine zX69 ?_<;>intros
   apply YI [0,1,2,3,4,5] [6] [true,true,true]
   kernel_rfl
   kernel_rfl
   exact zy
   (simp only[Yd,nthO];rfl)
   (simp only[Yd,nthO];rfl)
   refine UR ?_
   apply Yf _ YoZ
   exact za
   exact rfl
   exactλ_ hw=>(JY r.xs (by omega) (((hqM (by(focus exact zc2))).x x hxm).rw_ r hrm) (hw))
   rintro _ _ ⟨A',cap',rfl,rfl⟩
   apply UT (e:=3) (size:=1) (k:=r.xs.length) (cap:=cap') (A:=A') (xs:=r.xs.flatMap numF) (by(focus exact zc2))
   intro hcap
   repeat'(first|(apply Yi T;exact rfl;exact zm;exact rfl;exact zv;exact rfl;exact rfl)|(apply Xm T (f:=rowF) (l:=S) (i:=k) (a:=⟨A',cap',r.xs⟩) (e:=104) (k:=x.rows.length) (cap:=bc);(iterate 3 exact rfl);exact zd;exact rfl;exact(λ_=>rfl);exact rfl;omega)|(apply Yj;try exact zl)|refine zgd ?_|fail)
   apply hK2 ⟨k+1,S.set k ⟨A',cap',r.xs⟩⟩
   ·refine⟨by show k+1<=_;omega,by show(S.set k _).length=_;rw[TQ,hSl],by show(S.set k _).map _=_;rw[YlN hRi,hSm],Ycq hSd,λy hy=>?_⟩
    dsimp only at hy
    rw[take_set (by omega)]at hy
    rcases TU.1 hy with hy|hy
    ·exact hSs y hy
    ·rw[TX.1 hy]
     exact⟨by show r.xs.length<=_;omega,hcap⟩
   ·exact zc47
   ·exact zc1
   ·intro w hw
    dsimp only
    rw[take_set (by omega)]
    have h5:St B w0 (ints A' cap' r.xs::many ((S.take k).map rowQ)::sl 104 1 bA x.rows.length bc ((S.set k ⟨A',cap',r.xs⟩).flatMap rowF)::blk g8 (.cells #[.int .i64 x.f.1,.int .i64 x.f.2.1,.int .i64 x.f.2.2.1,.int .i64 x.f.2.2.2.1,.int .i64 x.f.2.2.2.2.1,.int .i64 x.f.2.2.2.2.2,.slice bA x.rows.length bc] 69 (0,0))::sl 69 7 q1A q.length q1c (Q.flatMap rqF)::many ((Q.take i).map rqQ)::blk g (.cells #[.int .i64 n.nodes,.slice pA n.rows.length pcap,.int .i64 n.noise,.int .i64 n.thr,.slice lA n.links.length lcap,.slice mA n.margin.length mcap,.slice q1A q.length q1c,.int .i64 s.len,.int .i64 s.off,.slice s.A s.cells.length s.cap,.slice A2 C.length c2,.slice A3 RF.length RF.length,.int .i64 0] 164 (0,0))::sl 24 1 pA n.rows.length pcap (R.flatMap rowF)::many (R.map rowQ)::sl 145 3 lA n.links.length lcap (n.links.flatMap lkF)::ints mA mcap n.margin::blk g2 (.cells zeroPnV.cells 35 (0,0))::nrs A3 RF.length RF::clsP A2 c2 C::many (C.map clQ)::[many H]) w:=by
     revert w
     exact zc0
    exact(h5.perm (Oq rowQ (S.take k) ⟨A',cap',r.xs⟩ _)).perm (.swap _ _ _)
  obtain rfl:k=x.rows.length:=by omega
  have hSt:S.take x.rows.length=S:=by rw[<-hSl,TM]
  rw[hSt]at hSs⊢
  clear hK2 hSd hlk2 hk
  have hrqv:rqF ⟨x.f,bA,bc,S⟩=[.int .i64 x.f.1,.int .i64 x.f.2.1,.int .i64 x.f.2.2.1,.int .i64 x.f.2.2.2.1,.int .i64 x.f.2.2.2.2.1,.int .i64 x.f.2.2.2.2.2,.slice bA x.rows.length bc]:=by
   unfold rqF;rw[hSl]
  refine YdK ?_<;>intros
  apply YI [0,1,2,3,4,5,6,7] [8] [true,true,true,true,true,true]
  kernel_rfl
  kernel_rfl
  exact zy
  (simp only[Yd,nthO];rfl)
  (simp only[Yd,nthO];rfl)
  repeat'(first|(apply Yi T;exact rfl;exact zm;exact rfl;exact zv;exact rfl;exact rfl)|(apply XJ T (f:=rqF) (l:=Q) (i:=i) (a:=⟨x.f,bA,bc,S⟩);exact rfl;exact rfl;exact hrqv;exact zd;exactλ_=>rfl;(iterate 3 exact rfl);omega)|refine zgd ?_|fail)
  apply hK ⟨i+1,Q.set i ⟨x.f,bA,bc,S⟩⟩
  ·refine⟨by exact zc86,by show(Q.set i _).length=_;rw[TQ,hQl],?_,Ycq hQd,λy hy=>?_⟩
   ·show(Q.set i _).map RqM.rq=_
    rw[<-hQm]
    apply Sl
    intro j
    rw[TJ,TJ]
    by_cases hj:i=j
    ·subst hj
     rw[SJ (by omega),hQi]
     show some (RqM.rq ⟨x.f,bA,bc,S⟩)=some x.rq
     unfold RqM.rq
     dsimp only
     rw[hSm]
    ·rw[Nn hj]
   ·dsimp only at hy
    rw[take_set (by omega)]at hy
    rcases TU.1 hy with hy|hy
    ·exact hQs y hy
    ·rw[TX.1 hy]
     exact⟨by show S.length<=_;omega,hSs⟩
  ·exact zc47
  ·exact zc1
  ·intro w hw
   dsimp only
   rw[take_set (by omega)]
   have h5:St B w0 (sl 104 1 bA x.rows.length bc (S.flatMap rowF)::many (S.map rowQ)::many ((Q.take i).map rqQ)::sl 69 7 q1A q.length q1c ((Q.set i ⟨x.f,bA,bc,S⟩).flatMap rqF)::blk g (.cells #[.int .i64 n.nodes,.slice pA n.rows.length pcap,.int .i64 n.noise,.int .i64 n.thr,.slice lA n.links.length lcap,.slice mA n.margin.length mcap,.slice q1A q.length q1c,.int .i64 s.len,.int .i64 s.off,.slice s.A s.cells.length s.cap,.slice A2 C.length c2,.slice A3 RF.length RF.length,.int .i64 0] 164 (0,0))::sl 24 1 pA n.rows.length pcap (R.flatMap rowF)::many (R.map rowQ)::sl 145 3 lA n.links.length lcap (n.links.flatMap lkF)::ints mA mcap n.margin::blk g2 (.cells zeroPnV.cells 35 (0,0))::nrs A3 RF.length RF::clsP A2 c2 C::many (C.map clQ)::[many H]) w:=by
    revert w
    exact zc0
   rw[<-hSl]at h5
   have h6:=h5.perm (.close [_,_] _)
   exact(h6.perm (YcY (Q.take i) ⟨x.f,bA,bc,S⟩ _)).perm (.swap _ _ _)
 obtain rfl:i=q.length:=by omega
 have hQt:Q.take q.length=Q:=by rw[<-hQl,TM]
 rw[hQt]at hQs⊢
 clear hK hQd hlt hi
 refine zX69 ?_<;>intros
 apply Yv T (H2:=many [sl 69 7 q1A Q.length q1c (Q.flatMap rqF),many (Q.map rqQ),sl 24 1 pA R.length pcap (R.flatMap rowF),many (R.map rowQ),sl 145 3 lA n.links.length lcap (n.links.flatMap lkF),ints mA mcap n.margin,nrs A3 RF.length RF,clsP A2 c2 C,many (C.map clQ)]::H);(iterate 3 exact rfl);(focus exact zc2);exact rfl;exact rfl
 ·intro w hw
  have h5:St B w0 (sl 69 7 q1A q.length q1c (Q.flatMap rqF)::many (Q.map rqQ)::sl 24 1 pA n.rows.length pcap (R.flatMap rowF)::many (R.map rowQ)::sl 145 3 lA n.links.length lcap (n.links.flatMap lkF)::ints mA mcap n.margin::nrs A3 RF.length RF::clsP A2 c2 C::many (C.map clQ)::[many H]) w:=by
   revert w
   exact zc0
  rw[<-hQl,<-hRl]at h5
  exact(h5.perm (.close [_,_,_,_,_,_,_,_,_] _)).perm (.cons _ (.openT H))
 have hC:C.map ClM.clm=RC:=hC
 refine .inr ⟨⟨⟨n.nodes,pA,pcap,R,n.noise,n.thr,lA,lcap,n.links,mA,mcap,n.margin⟩,q1A,q1c,Q,s,A2,c2,C,A3,RF.length,RF⟩,_,?_,?_,λH' hrs'=>?_,rfl⟩
 ·show some (Pln.mk n.net (q.map RqM.rq) s.sch RC RF)=some (Pln.mk ⟨n.nodes,R.map (·.xs),n.noise,n.thr,n.links,n.margin⟩ (Q.map RqM.rq) s.sch (C.map ClM.clm) RF)
  rw[hRm,hQm,hC];rfl
 ·unfold PnM.val
  dsimp only
  rw[hRl,hQl]
 ·have hb:∀{L:List HP}(w:World),St B w0 (many L::H') w->St B w0 L w:=λw hw=>hw.inM (.head _)
  refine⟨⟨Rd.mono (.sl (.tail _ (.tail _ (.head _)))) hb,λr hr=>Rd.mono (Rd.many (L:=R.map rowQ) (.tail _ (.tail _ (.tail _ (.head _)))) (RX hr)) hb,Rd.mono (.sl (.tail _ (.tail _ (.tail _ (.tail _ (.head _)))))) hb,Rd.mono (.sl (.tail _ (.tail _ (.tail _ (.tail _ (.tail _ (.head _))))))) hb,by show R.length<=_;omega,λr hr=>?_,by show n.links.length<=_;omega,by show n.margin.length<=_;omega⟩,
   ⟨Rd.mono (.sl (.head _)) hb,λx hx=>RqM.In.mono (YlH (q:=Q) (.tail _ (.head _)) hx (hQs x hx)) hb,by show Q.length<=_;omega⟩,hrs'.cons,hsl,
   ⟨Rd.mono (.sl (.tail _ (.tail _ (.tail _ (.tail _ (.tail _ (.tail _ (.tail _ (.head _))))))))) hb,λx hx=>ClM.In.mono (Yj2 (C:=C) (.tail _ (.tail _ (.tail _ (.tail _ (.tail _ (.tail _ (.tail _ (.tail _ (.head _))))))))) hx (hCl x hx)) hb,hCn⟩,
   Rd.mono (.sl (.tail _ (.tail _ (.tail _ (.tail _ (.tail _ (.tail _ (.head _)))))))) hb,hFn⟩
  have h1:r.xs∈n.rows.map (·.xs):=by rw[<-hRm];exact TC.2 ⟨r,hr,rfl⟩
  obtain⟨r2,h2,h3⟩:=TC.1 h1
  have h4:=hrow1 r2 h2
  have h3:r2.xs=r.xs:=h3
  rw[h3]at h4
  omega
theorem Yqr(es:XU)(k k':KL)(v:Value)(b:Nat):vget (es++[(k,v,b)]) k'=match vget es k' with|some u=>some u|none=>if k=k' then some v else none:=by
 unfold vget
 grind
structure CSet(es:XU)(p:Cel->Bool):Prop where
 len:∀e∈es,e.1.length=5
 val:∀e∈es,e.2.1=.bool true
 mem:∀c,vget es (nums c)=if p c=true then some (.bool true)else none
theorem CSet.nil:CSet [] λ_=>false:=⟨(λe h=>by cases h),(λe h=>by cases h),λc=>rfl⟩
section
variable {n:Shp}{B d:Nat}{w0:World}{ops:Array Oper}{Q:Exit->Act->World->Prop}{rest:List Oper}{env:Env}{H:List HP}{ty:TypeId}{pos:String}{after:Array Edge}
theorem YqT{es:XU}{clock g:Nat}{p p':Cel->Bool}(c:Cel)(hS:CSet es p)(hp:∀x,p' x=(p x||decide (c=x))){x y u:Operand}{K:XU->Nat->List HP}(hx:evo env x=some (.map (some g)))(hy:evo env y=some (kv (nums c)))(hv:evo env u=some (.bool true))
 (hu:∀es' cl',Upd (blk g (vobj es clock)) (blk g (vobj es' cl')) H (K es' cl')) (h:∀es' cl',CSet es' p'->VL Tryz.prog none n B w0 ops Q rest env (K es' cl')):
 VL Tryz.prog none n B w0 ops Q (⟨none,.mapUpdate 328 x y u,ty,pos,after,none⟩::rest) env H:=by
 by_cases hc:p c=true
 ·have hg:=hS.mem c
  rw[Tn hc]at hg
  obtain⟨l1,b,l2,e,hn⟩:=YdE hg
  subst e
  refine Yja (kt:=48) (et:=4) (N:=5) (nums c) hx hy hv (by kernel_rfl) rfl (λe he=>hS.len e (List.mem_append_left _ he)) (hu _ clock) hn ?_
  refine h _ _ ⟨hS.len,hS.val,λx=>?_⟩
  rw[hS.mem x,hp]
  grind
 ·have hg:=hS.mem c
  rw[Tf hc]at hg
  refine Yi9 (kt:=48) (et:=4) (N:=5) (nums c) hx hy hv (by kernel_rfl) rfl hS.len (hu _ _) hg ?_
  refine h _ _ ⟨λe he=>?_,λe he=>?_,λx=>?_⟩
  ·rcases TU.1 he with he|he
   ·exact hS.len e he
   ·rw[TX.1 he];rfl
  ·rcases TU.1 he with he|he
   ·exact hS.val e he
   simp_all
  ·rw[Yqr,hS.mem x,hp]
   by_cases hx2:c=x
   all_goals grind [Yib]
end
def usR(n:Net)(s:Sch)(f:Flw)(r:List Int)(i:Nat)(c:Cel):Bool:=(List.range i).any λt=>decide (f.2.2.2.2.1+t*f.2.2.2.1<s.len)&&(runP s.len (Xz s f.1) (f.2.2.2.2.1+t*f.2.2.2.1+f.2.2.2.1) (Yp n r) (f.2.2.2.2.1+t*f.2.2.2.1)).any λp=>decide (p.1=c)
variable {n:Net}{s:Sch}{f:Flw}{r:List Int}{i:Nat}
theorem Yr4(h:f.2.2.2.2.1+i*f.2.2.2.1<s.len)(c:Cel):usR n s f r (i+1) c=(usR n s f r i c||(runP s.len (Xz s f.1) (f.2.2.2.2.1+i*f.2.2.2.1+f.2.2.2.1) (Yp n r) (f.2.2.2.2.1+i*f.2.2.2.1)).any λp=>decide (p.1=c)):=by
 simp_all [usR,List.range_succ]
theorem Yr3(h:¬f.2.2.2.2.1+i*f.2.2.2.1<s.len)(hp:1<=f.2.2.2.1)(_h0:0<=f.2.2.2.2.1)(hi:i<=s.len.toNat)(c:Cel):W9 n s f r c=usR n s f r i c:=by
 have key:∀k,usR n s f r (i+k) c=usR n s f r i c:=by
  intro k
  induction k with
  |zero=>rfl
  |succ k ih=>
   rw[<-ih]
   unfold usR
   rw[show i+(k+1)=i+k+1 from rfl,Rq,SR]
   have h2:¬f.2.2.2.2.1+(i+k:Nat)*f.2.2.2.1<s.len:=by
    have:(i:Int)*f.2.2.2.1<=((i+k:Nat):Int)*f.2.2.2.1:=RO (by omega) (by omega)
    omega
   simp_all [decide_eq_false]
 have:=key (s.len.toNat-i)
 rw[show i+(s.len.toNat-i)=s.len.toNat by omega]at this
 exact this
theorem YjS(c:Cel)(p:Cel->Bool)(gp gm:Nat)(es:XU)(clock:Nat)(hS:CSet es p){B:Nat}{w0:World}{H:List HP}{w:World}(h1:blk gp (.cells #[.map (some gm)] 328 (0,0))∈H)(h2:blk gm (vobj es clock)∈H)(hw:St B w0 H w):
 CX B w0 269 [celV c,.pointer (some ⟨gp,0,none⟩)] w λv K=>v=.bool (!(p c))/\K=H:=by
 refine Ya Tryz.func269 Tryz.ntmps269 rfl rfl hw ?_
 have hz:∀w,(zeroValue 4).run Tryz.prog w=.ok (.bool false) w:=λw=>by kernel_rfl
 have hm:=hS.mem c
 have hl:=hS.len
 cases hpc:p c with
 |true=>
  rw[hpc,Tn rfl]at hm
  repeat'(first|(apply YaL (kt:=48) (et:=4) (N:=5) (nums c) (v:=.bool true);exact rfl;exact rfl;exact(by simp only[TV];exact .inr h2);kernel_rfl;exact rfl;exact hl;exact rfl;exact .inl hm)|refine zgd ?_|(refine zgh ?_;intro _)|fail)
  apply Yh H
  ·exact zc0
  exact zc13
 |false=>
  rw[hpc,Tf (by decide)]at hm
  repeat'(first|(apply YaL (kt:=48) (et:=4) (N:=5) (nums c) (v:=.bool false);exact rfl;exact rfl;exact(by simp only[TV];exact .inr h2);kernel_rfl;exact rfl;exact hl;exact rfl;exact .inr ⟨hm,hz⟩)|refine zgd ?_|(refine zgh ?_;intro _)|fail)
  apply Yh H
  ·exact zc0
  exact zc13
end Go.Proofs.YtjlgijpmnfabcaaGreatDoor
