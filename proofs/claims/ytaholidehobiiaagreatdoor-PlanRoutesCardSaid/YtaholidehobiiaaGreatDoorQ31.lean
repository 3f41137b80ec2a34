/- Lemmas for the claim, part 31. -/
import Derived.Test.YtaholidehobiiaaGreatDoorQ29
import Derived.Test.YtaholidehobiiaaGreatDoorQ30
set_option maxRecDepth 100000
set_option maxHeartbeats 8000000
set_option linter.all false
namespace Go.Proofs.YtaholidehobiiaaGreatDoor
open Go.RowKit Go.Eng Go.Nw Go.Rt
variable {B cap:Nat}{w0 w:World}{H:List HP}
theorem YrC(y:Flw)(len:Int)(g:Nat)(hl:0<=len)(hp:1<=y.2.2.2.1)(hm:intA g len∈H)(hw:St B w0 H w):
 CX B w0 67 [flwV y,.pointer (some ⟨g,0,none⟩)] w λv K=>v=.bool (decide (len.tmod y.2.2.2.1≠0))/\K=H:=by
 refine Yc Tryz.func67 Tryz.ntmps67 rfl rfl hw ?_
 unfold flwV
 rw[RE hl]
 by_cases h:len%y.2.2.2.1=0
 ·have h2:decide (len%y.2.2.2.1≠0)=false:=Ti (λe=>e h)
  rw[h2]
  refine zX48 ?_<;>intros
  all_goals(apply Yi H;((intro w hw;refine hw.perm ?_;focus exact zc3));exact zc11)
 ·have h2:decide (len%y.2.2.2.1≠0)=true:=Td h
  rw[h2]
  refine zX48 ?_<;>intros
  all_goals(apply Yi H;((intro w hw;refine hw.perm ?_;focus exact zc3));exact zc11)
structure MkOk(n:NetM)(qA:Option Addr)(qcap:Nat)(ql:Nat)(RR:Option Pln×Int)(z:BuM):Prop where
 eqn:z.n=n
 eqA:z.qA=qA
 eqc:z.qcap=qcap
 eql:z.q.length=ql
 lens:∀x∈z.q,x.lens
 sl:z.s.cells.length<=1000000000000
 res:fin2 n.net (z.q.map RqM.rq) z.s.sch z.e=RR
theorem Yda(n:Net)(q:List Rqs)(len off:Int):(XB n q len off).1.1.cells.length<=512:=by
 unfold XB
 split
 ·exact Qa
 split
 ·exact Qa
 split
 ·exact Qa
 have hrq:(rqsE n q).2=0:=by omega
 have:=YcH hrq (len:=len) (off:=off) (by omega) (by omega) q.length (TJ _)
 exact(ZV.1 (XT.1 (XC.1 this.ok).1)).frm.few
theorem Ytf(n:Net)(q:List Rqs)(len off:Int):(XB n q len off).1.2.length<=q.length:=by
 unfold XB
 split
 ·simp_all
 split
 ·simp_all
 split
 ·simp_all
 have hrq:(rqsE n q).2=0:=by omega
 have:=YcH hrq (len:=len) (off:=off) (by omega) (by omega) q.length (TJ _)
 rw[this.cnt];exact this.few
variable {A:Option Addr}
theorem Yr0{l:List Int}(h:Jl A cap l∈H):Rd B w0 H A (l.flatMap numF):=Rd.sl h
theorem Ymo(n:Net)(q:List Rqs)(s:Sch):(YeT n q s).1.cells.length<=s.cells.length:=by
 unfold YeT
 split
 ·exact Qa
 ·exact Yn2
theorem YoU(e:Int):XM 0 e=e:=Tn rfl
theorem Ybm{a:Int}(b:Int)(h:a≠0):XM a b=a:=Tf h
theorem YdK{n:Net}{q:List Rqs}{s:Sch}{e:Int}(h:e≠0):fin2 n q s e=(none,e):=Tf h
theorem YjR(n:NetM)(l:List Flw)(len off:Int)(h24:len<=24\/512<len)(hll:l.length<=1000000000000)(hrun:∀f∈l,Vu 100000 n.net f.2.1 f.2.2.1=some (Jr n.net f))(ht:TabsB B w0)(hin:n.In B w0 H)(hr:Rd B w0 H A (l.flatMap flwF))(hw:St B w0 H w):
 CX B w0 16 [n.val,.slice A l.length cap,.int .i64 len,.int .i64 off] w (Yah B w0 H (YnE n.net l len off)):=by
 refine Yc Tryz.func16 Tryz.ntmps16 rfl rfl hw ?_
 have p1:=λ{H':List HP}{w:World}(hin:n.In B w0 H') (hw:St B w0 H' w)=>W7 n hin hw
 have p2:=λ{H':List HP}{w:World}(hr:Rd B w0 H' A (l.flatMap flwF)) (hw:St B w0 H' w)=>Xe n.nodes l (T9 hll (by decide)) (cap:=cap) hr hw
 have p3:=λ{H':List HP}{w:World}(hin:n.In B w0 H') (hr:Rd B w0 H' A (l.flatMap flwF)) (hw:St B w0 H' w)=>U6 n l hll hrun (cap:=cap) hin hr hw
 have hop:∀w,St B w0 [many H] w->St B w0 H w:=λw hw=>hw.perm (.openT H)
 have hinM:∀{H':List HP},many H∈H'->n.In B w0 H':=λhm=>hin.mono λw hw=>hw.inM hm
 have hrM:∀{H':List HP},many H∈H'->Rd B w0 H' A (l.flatMap flwF):=λhm=>hr.mono λw hw=>hw.inM hm
 unfold NetM.val at p1 p3⊢
 refine ZW [many H] (λw hw=>hw.perm (.closeT H)) ?_
 unfold YnE
 by_cases hck:Yo n.net=0
 rotate_left
 ·rw[Tn (.inl hck)]
  rw[Ti hck]at p1
  refine O9 ?_<;>intros
  first|apply Ya en58|apply Yb en58
  exact za
  exact rfl
  exactλ_ hw=>(p1 (hinM (by(focus exact zc2))) hw)
  refine zX2 ?_
  apply Yq T (H2:=H);(iterate 3 exact rfl);(focus exact zc2);exact rfl;exact rfl
  ·intro w hw
   have h5:St B w0 [many H] w:=by
    revert w
    exact zc0
   exact hop w h5
  exact zc73
 rw[Td hck]at p1
 have hnd:n.net.nodes=n.nodes:=rfl
 rw[hnd]
 obtain⟨⟨fi,fe⟩,hF⟩:∃R,Yu n.nodes l=R:=⟨_,rfl⟩
 rw[hF]at p2⊢
 dsimp only at p2⊢
 by_cases hfe:fe=0
 rotate_left
 ·rw[Tn (.inr hfe)]
  refine O9 ?_<;>intros
  first|apply Ya en58|apply Yb en58
  exact za
  exact rfl
  exactλ_ hw=>(p1 (hinM (by(focus exact zc2))) hw)
  refine zX2 ?_
  first|apply Ya en59|apply Yb en59
  exact za
  exact rfl
  exactλ_ hw=>(p2 (hrM (by(focus exact zc2))) hw)
  refine zX0 ?_<;>intros
  apply Yq T (H2:=H);(iterate 3 exact rfl);(focus exact zc2);exact rfl;exact rfl
  ·intro w hw
   have h5:St B w0 [many H] w:=by
    revert w
    exact zc0
   exact hop w h5
  exact zc73
 subst hfe
 rw[Tf (by rintro(h|h);exact h hck;exact h rfl)]
 have hl16:l.length<=16:=zc79
 have hper:∀f∈l,1<=f.2.2.2.1:=λf hf=>(XK (Vf (nodes:=n.nodes) (by rw[hF]) hf)).2.1.1
 refine O9 ?_<;>intros
 rename_i g4 g6 g8
 first|apply Ya en58|apply Yb en58
 exact za
 exact rfl
 exactλ_ hw=>(p1 (hinM (by(focus exact zc2))) hw)
 refine zX2 ?_
 first|apply Ya en59|apply Yb en59
 exact za
 exact rfl
 exactλ_ hw=>(p2 (hrM (by(focus exact zc2))) hw)
 by_cases hrg:len<1\/512<len\/off<1\/16<off
 ·rw[Tn hrg]
  repeat'(first|refine zgd ?_|(refine zgf ?_ ?_<;>intro _<;>try exact zo)|fail)
  all_goals try exact zo
  all_goals(
   apply Yq T (H2:=H);(iterate 3 exact rfl);exact zm;exact rfl;exact rfl
   ·intro w hw
    have h5:St B w0 [many H] w:=by
     revert w
     exact zk
    exact hop w h5
   exact .inl ⟨rfl,rfl,rfl⟩)
 rw[Tf hrg]
 refine Yvn ?_<;>intros
 all_goals try exact zo
 first|apply Ya en66|apply Yb en66
 exact za
 exact rfl
 exactλ_ hw=>(OC (λy=>decide (len.tmod y.2.2.2.1≠0)) l 67 [.pointer (some ⟨g6,0,none⟩)] en67 (by omega) (hrM (by(focus exact zc2))) (λa ha w hw=>YrC a len g6 (by omega) (hper a ha) (by(focus exact zc2)) hw) hw)
 have hpb:(l.any λy:Flw=>decide (len.tmod y.2.2.2.1≠0))=perB l len:=rfl
 rw[hpb]
 cases hh:perB l len with
 |true=>
  rw[Tn rfl]
  refine zX2 ?_
  apply Yq T (H2:=H);(iterate 3 exact rfl);(focus exact zc2);exact rfl;exact rfl
  ·intro w hw
   have h5:St B w0 [many H] w:=by
    revert w
    exact zc0
   exact hop w h5
  exact zc73
 |false=>
 rw[Tf (by decide)]
 have hrf:=Yl8 (n:=n.net) (l:=l)
 generalize Zd n.net l=R at p3 hrf
 obtain⟨RQ,ri,re⟩:=R
 unfold Ymy at p3
 dsimp only at p3 hrf⊢
 refine zX11 ?_
 apply Ye _ en13
 exact za
 exact rfl
 exactλ_ hw=>(p3 (hinM (by(focus exact zc2))) (hrM (by(focus exact zc2))) (hw))
 rintro _ _ ⟨A1,c1,q,rfl,hq,hql,rfl⟩
 by_cases hre:re=0
 rotate_left
 ·rw[Tn hre]
  refine zX0 ?_<;>intros
  apply Yq T (H2:=H);(iterate 3 exact rfl);(focus exact zc2);exact rfl;exact rfl
  ·intro w hw
   have h5:St B w0 [many H] w:=by
    revert w
    exact zc0
   exact hop w h5
  exact zc73
 subst hre
 rw[Tf (show¬(0:Int)≠0 fromλe=>e rfl)]
 have hqn:q.length<=16:=by
  have h1:=TE List.length (hrf rfl)
  have h2:=TE List.length hq
  unfold Y0 at h1
  rw[TB]at h1 h2
  omega
 have hRQn:RQ.length=q.length:=by rw[<-hq,TB]
 have hQI:∀{H':List HP}{Q:List RqM},rqs A1 c1 Q∈H'->many (Q.map rqQ)∈H'->Q.length<=16->(∀x∈Q,x.lens)->QIn B w0 H' A1 Q:=λh1 h2 h3 h4=>⟨YhS h1,λx hx=>YcQ h2 hx (h4 x hx),by omega⟩
 clear p1 p2 p3
 iterate 30 (first|refine zgd ?_|(refine zge ?_ ?_<;>intro _<;>try exact zo)|(refine zgh ?_;intro _)|fail)
 rename_i g15
 have p4:=λ(b:BuM) {H':List HP}{w:World}(hin:b.n.In B w0 H') (hq:QIn B w0 H' b.qA b.q) (hw:St B w0 (bldA g15 b::H') w)=>Yjo b g15 len off h24 ht hin hq hw
 have p5:=λ(b:BuM) (ia:List Int) (hia:ia.length<=1000) (hql:b.q.length<=1000) (hqs:∀x∈b.q,x.lens) {iA:Option Addr}{icap:Nat}{H':List HP}{w:World}(hin:b.n.In B w0 H') (hra:Rd B w0 H' iA (ia.flatMap numF)) (hw:St B w0 (bldA g15 b::rqs b.qA b.qcap b.q::many (b.q.map rqQ)::H') w)=>YhD b g15 ia hia hql hqs (icap:=icap) hin hra hw
 have p6:=λ(b:BuM) (e:Int) {H':List HP}{w:World}(hw:St B w0 (bldA g15 b::H') w)=>UK b g15 e hw
 obtain⟨RR,hRR⟩:∃RR,Yhk n.net RQ len off=RR:=⟨_,rfl⟩
 rw[hRR]
 refine Zf (λz:{z:BuM//MkOk n A1 c1 q.length RR z}=>[(15,.pointer (some ⟨g15,0,none⟩)),(4,.pointer (some ⟨g4,0,none⟩)),(8,.pointer (some ⟨g8,0,none⟩)),(9,.int .i64 0)])
  (λz=>bldA g15 z.1::rqs A1 c1 z.1.q::many (z.1.q.map rqQ)::cels z.1.s.A z.1.s.cap z.1.s.cells::netA g4 n::blk g8 (.cells zeroPnV.cells 42 (0,0))::[many H]) ?_ ?_
 ·intro K hK
  refine zX8 ?_
  apply XU (bldA g15 ⟨n,A1,c1,q,⟨0,0,none,0,[]⟩,none,0,[],none,0,[],0⟩::rqs A1 c1 q::many (q.map rqQ)::blk g8 (.cells zeroPnV.cells 42 (0,0))::intA g6 len::netA g4 n::[many H])
  ·intro w hw
   have h5:St B w0 (blk g15 (.cells #[.int .i64 n.nodes,.slice n.pA n.rows.length n.pcap,.int .i64 n.noise,.int .i64 n.thr,.slice n.lA n.links.length n.lcap,.slice n.mA n.margin.length n.mcap,.slice A1 q.length c1,.int .i64 0,.int .i64 0,.slice none 0 0,.slice none 0 0,.slice none 0 0,.int .i64 0] 114 (0,0))::rqs A1 c1 q::many (q.map rqQ)::blk g8 (.cells (Value.agg #[.int .i64 0,.slice none 0 0,.int .i64 0,.int .i64 0,.slice none 0 0,.slice none 0 0,.slice none 0 0,.int .i64 0,.int .i64 0,.slice none 0 0,.slice none 0 0,.slice none 0 0]).cells 42 (0,0))::intA g6 len::netA g4 n::[many H]) w:=by
    revert w
    exact zc0
   exact h5
  have hc1:=Yda n.net RQ len off
  have ha1:=Ytf n.net RQ len off
  unfold Yhk at hRR
  have p7:=λ{H':List HP}{w:World}(hin:n.In B w0 H') (hqi:QIn B w0 H' A1 q) (hw:St B w0 (bldA g15 ⟨n,A1,c1,q,⟨0,0,none,0,[]⟩,none,0,[],none,0,[],0⟩::H') w)=>p4 ⟨n,A1,c1,q,⟨0,0,none,0,[]⟩,none,0,[],none,0,[],0⟩ hin hqi hw
  dsimp only at p7
  rw[hq]at p7
  generalize XB n.net RQ len off=R1 at p7 hc1 ha1 hRR
  obtain⟨⟨⟨rl,ro,rc⟩,ra⟩,re⟩:=R1
  dsimp only at p7 hc1 ha1 hRR
  rw[YoU]at p7
  apply Xd [bldA g15 ⟨n,A1,c1,q,⟨0,0,none,0,[]⟩,none,0,[],none,0,[],0⟩] _ en68
  exact za
  try exact zl
  exact zp
  exact rfl
  exactλ_ hw=>(p7 (hinM (by(focus exact zc2))) (hQI (by(focus exact zc2)) (by(focus exact zc2)) hqn hql) hw)
  rintro _ _ ⟨A2,c2,iA,ic,rfl,rfl⟩
  by_cases hl1:ra.length=q.length
  ·rw[Tn (by rw[hl1,hRQn])]at hRR
   rw[Td hl1]
   refine zX2 ?_
   apply hK ⟨⟨n,A1,c1,q,⟨rl,ro,A2,c2,rc⟩,none,0,[],none,0,[],re⟩,⟨rfl,rfl,rfl,rfl,hql,by show rc.length<=_;omega,by rw[<-hRR,<-hq];rfl⟩⟩
   ·exact zc1
   ·exact zc0
  rw[Tf (by rw[hRQn];exact hl1)]at hRR
  rw[Ti hl1]
  refine zX2 ?_
  apply Xd [bldA g15 ⟨n,A1,c1,q,⟨rl,ro,A2,c2,rc⟩,none,0,[],none,0,[],re⟩,rqs A1 c1 q,many (q.map rqQ)] _ en69
  exact za
  try exact zl
  exact zp
  exact rfl
  exactλ_ hw=>(p5 ⟨n,A1,c1,q,⟨rl,ro,A2,c2,rc⟩,none,0,[],none,0,[],re⟩ ra (by omega) (by show q.length<=_;omega) hql (hinM (by(focus exact zc2))) (Yr0 (cap:=ic) (by(focus exact zc2))) hw)
  rintro _ _ ⟨q',e',rfl,hl',hs',hc',rfl⟩
  dsimp only at hl' hc'
  rw[hq]at hc'
  have hl'16:q'.length<=16:=by omega
  have hRR2:(e'=re/\(if(XB n.net (q'.map RqM.rq) len off).1.2.length=q'.length then fin2 n.net (q'.map RqM.rq) (XB n.net (q'.map RqM.rq) len off).1.1 (XM re (XB n.net (q'.map RqM.rq) len off).2)else(none,XM (XM re (XB n.net (q'.map RqM.rq) len off).2) 18))=RR)\/(e'≠0/\RR=(none,e')):=by
   rcases hc' with⟨hb,hm,he⟩|⟨hb,he⟩
   ·left
    rw[Tf (by rw[hb];decide),<-hm]at hRR
    unfold fin3 at hRR
    rw[TB]at hRR
    exact⟨he,hRR⟩
   ·right
    rw[Tn hb]at hRR
    exact⟨by rw[he];exact Ynv (by decide),by rw[<-hRR,he]⟩
  have hc2:=Yda n.net (q'.map RqM.rq) len off
  have p8:=λ{H':List HP}{w:World}(hin:n.In B w0 H') (hqi:QIn B w0 H' A1 q') (hw:St B w0 (bldA g15 ⟨n,A1,c1,q',⟨rl,ro,A2,c2,rc⟩,none,0,[],none,0,[],e'⟩::H') w)=>p4 ⟨n,A1,c1,q',⟨rl,ro,A2,c2,rc⟩,none,0,[],none,0,[],e'⟩ hin hqi hw
  dsimp only at p8
  clear p4 p5 p7
  generalize XB n.net (q'.map RqM.rq) len off=R2 at p8 hc2 hRR2
  obtain⟨⟨⟨rl2,ro2,rc2⟩,ra2⟩,re2⟩:=R2
  dsimp only at p8 hc2 hRR2
  refine zX8 ?_
  apply Xd [bldA g15 ⟨n,A1,c1,q',⟨rl,ro,A2,c2,rc⟩,none,0,[],none,0,[],e'⟩] _ en68
  exact za
  try exact zl
  exact zp
  exact rfl
  exactλ_ hw=>(p8 (hinM (by(focus exact zc2))) (hQI (by(focus exact zc2)) (by(focus exact zc2)) hl'16 hs') hw)
  rintro _ _ ⟨A3,c3,iA3,ic3,rfl,rfl⟩
  by_cases hl2:ra2.length=q'.length
  ·rw[Tn hl2]at hRR2
   rw[Td hl2]
   refine zX2 ?_
   apply hK ⟨⟨n,A1,c1,q',⟨rl2,ro2,A3,c3,rc2⟩,none,0,[],none,0,[],XM e' re2⟩,⟨rfl,rfl,rfl,hl',hs',by show rc2.length<=_;omega,?_⟩⟩
   ·exact zc1
   ·exact zc0
   rcases hRR2 with⟨he,h⟩|⟨he,h⟩
   ·rw[<-h,he];rfl
   ·show fin2 _ _ _ (XM e' re2)=_
    rw[Ybm _ he,YdK he,h]
  rw[Tf hl2]at hRR2
  rw[Ti hl2]
  refine zX2 ?_
  apply Xd [bldA g15 ⟨n,A1,c1,q',⟨rl2,ro2,A3,c3,rc2⟩,none,0,[],none,0,[],XM e' re2⟩] _ en70
  exact za
  try exact zl
  exact zp
  exact rfl
  exactλ_ hw=>(p6 ⟨n,A1,c1,q',⟨rl2,ro2,A3,c3,rc2⟩,none,0,[],none,0,[],XM e' re2⟩ 18 hw)
  rintro _ _ ⟨rfl,rfl⟩
  unfold BuM.fail
  dsimp only
  refine zX4 ?_
  apply hK ⟨⟨n,A1,c1,q',⟨rl2,ro2,A3,c3,rc2⟩,none,0,[],none,0,[],XM (XM e' re2) 18⟩,⟨rfl,rfl,rfl,hl',hs',by show rc2.length<=_;omega,?_⟩⟩
  ·exact zc1
  ·exact zc0
  rcases hRR2 with⟨he,h⟩|⟨he,h⟩
  ·rw[<-h,he]
   exact YdK (Ynv (by decide))
  ·show fin2 _ _ _ (XM (XM e' re2) 18)=_
   rw[Ybm _ he,Ybm _ he,YdK he,h]
 rintro⟨⟨n',qA',qc',Q,S,cA',cc',C',fA',fc',F',e'⟩,hz⟩
 obtain⟨h1,h2,h3,hQl,hQs,hSl,hres⟩:=hz
 dsimp only at h1 h2 h3 hQl hQs hSl hres⊢
 subst h1 h2 h3
 clear p4 p5 p6 hRR
 dsimp only[bldA]
 have hQ16:Q.length<=16:=by omega
 unfold fin2 at hres
 have p7:=λ{H':List HP}{w:World}(hin:n'.In B w0 H') (hqi:QIn B w0 H' qA' Q) (hrs:Rd B w0 H' S.A (S.cells.flatMap celF)) (hw:St B w0 H' w)=>Yoa n' Q S (cap:=qc') ht hin hqi hrs hSl hw
 have htc:=Ymo n'.net (Q.map RqM.rq) S.sch
 by_cases he:e'=0
 ·subst he
  rw[Tn rfl]at hres
  unfold OutS NetM.val SchM.val at p7
  generalize YeT n'.net (Q.map RqM.rq) S.sch=RT at p7 hres htc
  obtain⟨t,te⟩:=RT
  dsimp only at p7 hres htc
  have htl:t.cells.length<=1000000000000:=T9 htc hSl
  refine QO ?_<;>intros
  apply U9 [1,0,2,3,4,5,6,7,8,9,10,11,12,13,14,16,15,17,18,19] [0,1,16,20,21,22,23] [20,21,22,23] [true,true,true,true,true,true,true]
  kernel_rfl
  kernel_rfl
  exact zy
  (simp only[Yh,nthO];rfl)
  (simp only[Yh,nthO];rfl)
  refine J5 ?_
  apply Ye _ en71
  exact za
  exact rfl
  exactλ_ hw=>(p7 (hinM (by(focus exact zc2))) (hQI (by(focus exact zc2)) (by(focus exact zc2)) hQ16 hQs) (UW (cap:=S.cap) (by(focus exact zc2))) (hw))
  rintro _ _ ⟨A4,c4,rfl,rfl⟩
  refine Ye6 ?_
  apply Xd [bldA g15 ⟨n',qA',qc',Q,⟨t.len,t.off,A4,c4,t.cells⟩,cA',cc',C',fA',fc',F',te⟩] _ en72
  exact za
  try exact zl
  exact zp
  exact rfl
  exactλ_ hw=>(Vr ⟨n',qA',qc',Q,⟨t.len,t.off,A4,c4,t.cells⟩,cA',cc',C',fA',fc',F',te⟩ g15 ht (hinM (by(focus exact zc2))) (hQI (by(focus exact zc2)) (by(focus exact zc2)) hQ16 hQs) (UW (cap:=c4) (by(focus exact zc2))) htl hw)
  rintro _ _ hO
  rcases hO with⟨h1,rfl,rfl⟩|⟨p,X,h1,rfl,hp,rfl⟩
  ·unfold zeroPnV
   refine zX11 ?_
   apply Yq T (H2:=H);(iterate 3 exact rfl);(focus exact zc2);exact rfl;exact rfl
   ·intro w hw
    have h5:St B w0 [many H] w:=by
     revert w
     exact zc0
    exact hop w h5
   rw[<-hres]
   exact .inl ⟨h1,rfl,rfl⟩
  ·unfold PnM.val
   refine zX11 ?_
   apply Yq T (H2:=many [many X,cels A4 c4 t.cells]::H);(iterate 3 exact rfl);(focus exact zc2);exact rfl;exact rfl
   ·intro w hw
    have h5:St B w0 (many X::cels A4 c4 t.cells::[many H]) w:=by
     revert w
     exact zc0
    exact YvT
   rw[<-hres]
   exact zc99
 ·rw[Tf he]at hres
  have hfe:finE n'.net (Q.map RqM.rq) S.sch e'=(none,e'):=by
   have h:Ybn n'.net (Q.map RqM.rq) S.sch e'=e':=Tn he
   unfold finE
   rw[h,Tn he]
  refine QO ?_<;>intros
  apply Xd [bldA g15 ⟨n',qA',qc',Q,S,cA',cc',C',fA',fc',F',e'⟩] _ en72
  exact za
  try exact zl
  exact zp
  exact rfl
  exactλ_ hw=>(Vr ⟨n',qA',qc',Q,S,cA',cc',C',fA',fc',F',e'⟩ g15 ht (hinM (by(focus exact zc2))) (hQI (by(focus exact zc2)) (by(focus exact zc2)) hQ16 hQs) (UW (cap:=S.cap) (by(focus exact zc2))) hSl hw)
  rintro _ _ hO
  dsimp only at hO
  rw[hfe]at hO
  rcases hO with⟨h1,rfl,rfl⟩|⟨p,X,h1,rfl,hp,rfl⟩
  ·unfold zeroPnV
   refine zX11 ?_
   apply Yq T (H2:=H);(iterate 3 exact rfl);(focus exact zc2);exact rfl;exact rfl
   ·intro w hw
    have h5:St B w0 [many H] w:=by
     revert w
     exact zc0
    exact hop w h5
   rw[<-hres]
   exact .inl ⟨h1,rfl,rfl⟩
  ·cases h1
variable {A:Option Addr}{cap B:Nat}{w0 w:World}{H:List HP}
theorem YdE(l m:List Int)(hlen:l.length<=9223372036854775807){A2:Option Addr}{cap2:Nat}(hr:Rd B w0 H A (l.flatMap numF))(hr2:Rd B w0 H A2 (m.flatMap numF))(hw:St B w0 H w):
 CX B w0 56 [.slice A l.length cap,.slice A2 m.length cap2] w λu K=>u=.bool (decide (l=m))/\K=H:=by
 refine Yc Tryz.func56 Tryz.ntmps56 rfl rfl hw ?_
 by_cases hll:l.length=m.length
 rotate_left
 ·exact zc12
 refine zX3 ?_<;>intros
 refine Yg (λ(k:Nat)=>[(13,.int .i64 k),(12,.int .i64 l.length),(0,.slice A l.length cap),(1,.slice A2 m.length cap2)]) (λ_=>H) (λk=>k<=l.length/\l.take k=m.take k) (λk=>l.length-k) 0 ⟨Tm _,by simp⟩ ?_ (λw hw=>hw) ?_
 ·exact zc1
 rintro k ⟨hk,hi⟩ K hK
 by_cases hlt:k<l.length
 ·obtain⟨a,ha⟩:∃a,l[k]? =some a:=⟨_,Ta hlt⟩
  obtain⟨b,hb⟩:∃b,m[k]? =some b:=⟨_,Ta (by omega)⟩
  repeat'(first|refine zgd ?_|(refine zge ?_ ?_<;>intro _<;>try exact zo)|fail)
  ·exact zc50
  ·rename_i h
   apply hK (k+1)
   ·exact⟨by omega,by exact zc90⟩
   ·omega
   ·exact zc1
   exact zc17
 exact zc9
theorem Je(p:PnM)(ht:TabsB B w0)(hp:p.In B w0 H)(hw:St B w0 H w):
 CX B w0 21 [p.val] w λv K=>v=.int .i64 (chkP p.pln)/\K=H:=by
 refine Yc Tryz.func21 Tryz.ntmps21 rfl rfl hw ?_
 obtain⟨n,qA,qcap,q,s,cA,ccap,c,fA,fcap,f⟩:=p
 obtain⟨hin,hq,hrs,hsl,hc,hf,hfl⟩:=hp
 dsimp only at hin hq hrs hsl hc hf hfl
 have p1:=λ{H':List HP}{w:World}(hin:n.In B w0 H') (hw:St B w0 H' w)=>W7 n hin hw
 have p2:=λ{H':List HP}{w:World}(hin:n.In B w0 H') (hq:QIn B w0 H' qA q) (hrs:Rd B w0 H' s.A (s.cells.flatMap celF)) (hw:St B w0 H' w)=>Wt n q s (cap:=qcap) ht hin hq hrs hsl hw
 have p3:=λ{H':List HP}{w:World}(hin:n.In B w0 H') (hq:QIn B w0 H' qA q) (hrs:Rd B w0 H' s.A (s.cells.flatMap celF)) (hc:CIn B w0 H' cA c) (hw:St B w0 H' w)=>Yhm n q s c (cap:=qcap) (cap1:=ccap) ht hin hq hrs hsl hc hw
 have p4:=λ{H':List HP}{w:World}(hrs:Rd B w0 H' s.A (s.cells.flatMap celF)) (hw:St B w0 H' w)=>YfB s ht hrs hsl hw
 unfold PnM.val
 show VC _ _ B w0 _ (bodyPost _ _ (Post B w0 λv K=>v=.int .i64 (chkP ⟨n.net,q.map RqM.rq,s.sch,c.map ClM.clm,f⟩)/\K=H)) _ _
 unfold chkP
 dsimp only
 unfold OutC at p2
 obtain⟨⟨RC,ri,re⟩,hR⟩:∃R,YN n.net (q.map RqM.rq) s.sch=R:=⟨_,rfl⟩
 obtain⟨⟨RF,fe⟩,hRF⟩:∃R,ZQ s.sch=R:=⟨_,rfl⟩
 obtain⟨⟨ki,ke⟩,hRK⟩:∃R,chkE n.net (q.map RqM.rq) s.sch (c.map ClM.clm)=R:=⟨_,rfl⟩
 rw[hR]at p2⊢
 rw[hRF]at p4⊢
 rw[hRK]at p3⊢
 dsimp only at p2 p3 p4⊢
 have hFn:RF.length<=9223372036854775807:=by
  have h2:=TE (λz=>z.1.length) hRF
  dsimp only at h2
  unfold ZQ at h2
  split at h2
  ·simp only[Ry]at h2;omega
  ·rename_i h0
   unfold Up at h2
   rw[Wu,Rr]at h2
   have h3:=(ZA.1 (by simpa using h0)).sized
   exact Yv3
 unfold NetM.val at p1
 unfold NetM.val SchM.val at p2 p3
 unfold SchM.val at p4
 clear hR hRF hRK
 by_cases hck:Yo n.net=0
 rotate_left
 ·rw[Tn hck]
  rw[Ti hck]at p1
  refine Yvp ?_<;>intros
  first|apply Ya en58|apply Yb en58
  exact za
  exact rfl
  exactλ_ hw=>(p1 (hin.mono zc0) hw)
  refine J5 ?_
  apply Yi H
  ·exact zc0
  exact zc4
 rw[Tf (λe=>e hck)]
 rw[Td hck]at p1
 refine Yvp ?_<;>intros
 first|apply Ya en58|apply Yb en58
 exact za
 exact rfl
 exactλ_ hw=>(p1 (hin.mono zc0) hw)
 refine J5 ?_
 apply Ye _ en80
 exact za
 exact rfl
 exactλ_ hw=>(p2 (hin.mono zc0) (hq.mono zc0) (hrs.mono zc0) (hw))
 rintro _ _ ⟨A2,c2,C,rfl,hC,hCl,rfl⟩
 by_cases h18:re=15\/re=1/\ri<0
 ·rw[Tn h18]
  repeat'(first|(apply Yk T;exact rfl;exact zm;exact rfl;exact zv;exact rfl;exact rfl)|refine zgd ?_|(refine zge ?_ ?_<;>intro _<;>try exact zo)|fail)
  all_goals try exact zo
  all_goals(
   apply Yi H
   ·exact zk
   apply Yd;exact rfl;exact rfl;exact⟨rfl,rfl⟩)
 rw[Tf h18]
 by_cases h0:re=0
 rotate_left
 ·rw[Tn h0]
  repeat'(first|(apply Yk T;exact rfl;exact zm;exact rfl;exact zv;exact rfl;exact rfl)|refine zgd ?_|(refine zge ?_ ?_<;>intro _<;>try exact zo)|fail)
  all_goals try exact zo
  all_goals(
   apply Yi H
   ·exact zk
   apply Yd;exact rfl;exact rfl;exact⟨rfl,rfl⟩)
 rw[Tf (λe=>e h0)]
 subst h0
 refine QO ?_<;>intros
 all_goals try exact zo
 first|apply Ya en19|apply Yb en19
 exact za
 exact rfl
 exactλ_ hw=>(p3 (hin.mono zc0) (hq.mono zc0) (hrs.mono zc0) (hc.mono zc0) hw)
 by_cases hk0:ke=0
 rotate_left
 ·rw[Tn hk0]
  refine zX76 ?_<;>intros
  apply Yi H
  ·exact zc0
  exact zc4
 rw[Tf (λe=>e hk0)]
 refine zX76 ?_<;>intros
 apply Ye _ en88
 exact za
 exact rfl
 exactλ_ hw=>(p4 (hrs.mono zc0) (hw))
 rintro _ _ ⟨A3,rfl,rfl⟩
 have p5:=λ{cap1 cap2:Nat}{H':List HP}{w:World}(h1:Rd B w0 H' A3 (RF.flatMap numF)) (h2:Rd B w0 H' fA (f.flatMap numF)) (hw:St B w0 H' w)=>YdE RF f hFn (cap:=cap1) (cap2:=cap2) h1 h2 hw
 by_cases hf0:fe=0
 rotate_left
 ·rw[Tn (.inl hf0)]
  refine QO ?_<;>intros
  all_goals try exact zo
  all_goals(
   apply Yi H
   ·exact zc0
   exact zc4)
 by_cases hff:RF=f
 ·rw[Tf (by rintro(h|h);exact h hf0;exact h hff)]
  rw[Td hff]at p5
  refine Yvq ?_<;>intros
  all_goals try exact zo
  all_goals(
   apply Yi H
   ·exact zc0
   exact zc4)
 ·rw[Tn (.inr hff)]
  rw[Ti hff]at p5
  refine Yvq ?_<;>intros
  all_goals try exact zo
  all_goals(
   apply Yi H
   ·exact zc0
   exact zc4)
theorem Yej(word:List UInt8)(l:List Int)(h:∀n∈l,0<=n/\n<10000)(h5:l.length<=100)(hwd:word.length<=100)(ht:TabsB B w0)(hr:Rd B w0 H A (l.flatMap numF))(hw:St B w0 H w):
 CX B w0 116 [strV word,.slice A l.length cap] w λv K=>v=strV (X0 word l)/\K=H:=by
 refine Yc Tryz.func116 Tryz.ntmps116 rfl rfl hw ?_
 refine zX8 ?_
 refine Yg (λ(i:Nat)=>[(9,.int .i64 i),(8,.int .i64 l.length),(7,.slice A l.length cap),(0,strV (ZO word (l.take i)))]) (λ_=>H) (λi=>i<=l.length) (λi=>l.length-i) 0 (Tm _) ?_ (λw hw=>hw) ?_
 ·have e0:ZO word (l.take 0)=word:=by simp[ZO]
  rw[e0]
  exact zc1
 intro i hi K hK
 have hbl:=Ox (w:=word) (l:=l.take i) λn hn=>h n (SB hn)
 have hlt0:(l.take i).length<=100:=by grind
 by_cases hlt:i<l.length
 ·obtain⟨n,hn⟩:∃n,l[i]? =some n:=⟨_,Ta hlt⟩
  have hnb:=h n (Tc hn)
  have hil:=YaK hnb
  refine zX32 ?_<;>intros
  apply hK (i+1)
  ·show i+1<=l.length
   omega
  ·omega
  ·rw[TN,hn,SL,Ybe]
   exact zc1
  exact zc17
 exact zc14
def YaC(f:Flw):List Int:=[f.1,f.2.1,f.2.2.1,f.2.2.2.1,f.2.2.2.2.1,f.2.2.2.2.2]
def rqT(x:Rqs)(k:Nat):List UInt8:=X0 wordF (YaC x.1)++(List.range k).flatMap λj=>X0 wordR (rtAt x.2 j)
def plnT(q:List Rqs)(k:Nat):List UInt8:=(q.take k).flatMap λx=>rqT x x.2.length
def Q9(p:Pln):List UInt8×Int:=if chkP p≠0 then([],1)else(plnT p.q p.q.length++(X5 p.s).1++(Uq p.c).1,0)
structure RqD(x:Rqs):Prop where
 f:∀n∈YaC x.1,0<=n/\n<10000
 n:x.2.length<=2
 l:∀r∈x.2,r.length<=9
 r:∀r∈x.2,∀n∈r,0<=n/\n<10000
theorem Ydn{p:Pln}(h:chkP p=0):(YN p.n p.q p.s).2.2=0:=by
 unfold chkP at h
 omega
variable {n:Net}{q:List Rqs}
theorem Ydk{s:Sch}(h:(YN n q s).2.2=0):(rqsE n q).2=0:=Rn.1 λh1=>by
 simp_all [YN]
theorem YhX(h:(rqsE n q).2=0):q.length<=16/\∀x∈q,RqD x:=by
 obtain⟨hck,hfl,hrt⟩:=Ut h
 have hok:=YC hck
 have h32:=hok.n1
 refine⟨?_,λx hx=>?_⟩
 ·grind [Yu,Y0]
 have hfx:Xx n.nodes x.1=0:=Vf hfl (TC.2 ⟨x,hx,rfl⟩)
 obtain⟨h1,h2,h3,-,h5⟩:=XK hfx
 have h6:(0<=x.1.2.1/\x.1.2.1<n.nodes)/\0<=x.1.2.2.1/\x.1.2.2.1<n.nodes:=by
  grind [Xx,insE]
 have hrx:=hrt x hx
 refine⟨λz hz=>?_,?_,λr hr=>?_,λr hr z hz=>?_⟩
 ·unfold YaC at hz
  grind
 ·grind [YaZ]
 ·exact(Vc (Vj hrx r hr)).2.1.2
 ·have hc:=Vj hrx r hr
  unfold ZH at hc
  split at hc
  ·exact absurd hc (by assumption)
  have ho:=(YaB hc).2.1
  rw[RD]at ho
  have h8:=ho z hz
  unfold offE at h8
  simp only[Tt]at h8
  omega
theorem YcS{x:Rqs}(h:RqD x):∀k,k<=x.2.length->(rqT x k).length<=35+51*k
 |0,_=>by
  have:=ZB (w:=wordF) h.f
  simp_all [wordF,YaC,rqT]
 |k+1,hk=>by
  have ih:=YcS h k (by omega)
  have hr:rtAt x.2 k∈x.2:=by
   grind [rtAt]
  have h1:=ZB (w:=wordR) (h.r _ hr)
  have h2:=h.l _ hr
  have e:wordR.length=5:=rfl
  grind [rqT,Rx]
theorem Ysa(x:Rqs)(k:Nat):rqT x (k+1)=rqT x k++X0 wordR (rtAt x.2 k):=by
 grind [rqT,Rx]
theorem YgD{k:Nat}{x:Rqs}(h:q[k]? =some x):plnT q (k+1)=plnT q k++rqT x x.2.length:=by
 grind [plnT,TN]
theorem Ykb{q:List Rqs}(h:∀x∈q,RqD x):∀k,k<=q.length->(plnT q k).length<=150*k
 |0,_=>by grind [plnT]
 |k+1,hk=>by
  have ih:=Ykb h k (by omega)
  obtain⟨x,hx⟩:∃x,q[k]? =some x:=⟨_,Ta (by omega)⟩
  have hd:=h x (Tc hx)
  have h1:=YcS hd x.2.length (TJ _)
  grind [Go.Proofs.YtaholidehobiiaaGreatDoor.RqD.n,YgD]
theorem Yl1(s:Sch):(X5 s).1.length<=30000:=by
 unfold X5
 cases hf:XH s with
 |false=>simp_all
 |true=>
  have hfr:=ZA.1 hf
  have h1:=Yag hfr s.cells.length (TJ _)
  grind [Go.Proofs.YtaholidehobiiaaGreatDoor.Frm.few,Jv,YkF]
theorem Yl0(c:List Clm):(Uq c).1.length<=30000:=by
 unfold Uq
 cases hf:Yb8 c with
 |false=>simp_all
 |true=>
  obtain⟨h16,hfd⟩:=Yju hf
  have h1:=Ybg hfd c.length (TJ _)
  grind [YgO]
variable {B:Nat}{w0 w:World}{H:List HP}
theorem NetM.In.here{n:NetM}(h:n.In B w0 H)(hw:St B w0 H w):n.In w.heap.size w []:=⟨h.pw.here hw,λr hr=>(h.rw_ r hr).here hw,h.lk.here hw,h.mg.here hw,h.s1,h.s2,h.s3,h.s4⟩
theorem QIn.here{q:List RqM}{A:Option Addr}(h:QIn B w0 H A q)(hw:St B w0 H w):QIn w.heap.size w [] A q:=⟨h.rd.here hw,λx hx=>⟨(h.x x hx).rt.here hw,λr hr=>((h.x x hx).rw_ r hr).here hw,(h.x x hx).ln,(h.x x hx).rl⟩,h.ln⟩
theorem PnM.In.here{p:PnM}(h:p.In B w0 H)(hw:St B w0 H w):p.In w.heap.size w []:=⟨h.n.here hw,h.q.here hw,h.s.here hw,h.sl,h.c.here hw,h.f.here hw,h.fl⟩
theorem Ypz(p:PnM)(ht:TabsB B w0)(hp:p.In B w0 [])(hw:St B w0 [] w):
 CX B w0 35 [p.val] w λv _=>v=.tuple #[strV (Q9 p.pln).1,.int .i64 (Q9 p.pln).2]:=by
 refine Yc Tryz.func35 Tryz.ntmps35 rfl rfl hw ?_
 have p1:=λ{H':List HP}{w:World}(hp:p.In B w0 H') (hw:St B w0 H' w)=>Je p ht hp hw
 obtain⟨n,qA,qcap,q,s,cA,ccap,c,fA,fcap,f⟩:=p
 have hp0:=hp
 obtain⟨hin,hq,hrs,hsl,hc,hf,hfl⟩:=hp
 dsimp only at hin hq hrs hsl hc hf hfl
 have p2:=λ{H':List HP}{w:World}(hrs:Rd B w0 H' s.A (s.cells.flatMap celF)) (hw:St B w0 H' w)=>WY s ht hrs hsl hw
 have p3:=λ{H':List HP}{w:World}(hc:CIn B w0 H' cA c) (hw:St B w0 H' w)=>Yi6 c (cap:=ccap) ht hc hw
 unfold PnM.val at p1⊢
 unfold SchM.val at p2
 have hpl:(⟨n,qA,qcap,q,s,cA,ccap,c,fA,fcap,f⟩:PnM).pln=⟨n.net,q.map RqM.rq,s.sch,c.map ClM.clm,f⟩:=rfl
 rw[hpl]at p1⊢
 dsimp only at p1⊢
 unfold Q9
 by_cases hk:chkP ⟨n.net,q.map RqM.rq,s.sch,c.map ClM.clm,f⟩=0
 rotate_left
 ·rw[Tn hk]
  refine zX70 ?_<;>intros
  first|apply Ya en21|apply Yb en21
  exact za
  exact rfl
  exactλ_ hw=>(p1 (hp0.mono zc0) hw)
  refine zX3 ?_<;>intros
  apply YM;(iterate 3 exact rfl)
  rfl
 have hrq:=Ydk (Ydn hk)
 dsimp only at hrq
 rw[hk]at p1
 rw[Tf (λe=>e hk)]
 obtain⟨hq16,hqd⟩:=YhX hrq
 rw[TB]at hq16
 have hsL:=Yl1 s.sch
 have hcL:=Yl0 (c.map ClM.clm)
 obtain⟨⟨sT,se⟩,hsT⟩:∃R,X5 s.sch=R:=⟨_,rfl⟩
 obtain⟨⟨cT,ce⟩,hcT⟩:∃R,Uq (c.map ClM.clm)=R:=⟨_,rfl⟩
 rw[hsT]at p2 hsL⊢
 rw[hcT]at p3 hcL⊢
 dsimp only at p2 p3 hsL hcL⊢
 refine zX70 ?_<;>intros
 first|apply Ya en21|apply Yb en21
 exact za
 exact rfl
 exactλ_ hw=>(p1 (hp0.mono zc0) hw)
 refine zX46 ?_<;>intros
 rename_i g1 _ gb
 obtain⟨q0,hq0⟩:∃q0,q.map RqM.rq=q0:=⟨_,rfl⟩
 have hq0l:q0.length=q.length:=by rw[<-hq0,TB]
 rw[hq0]at hqd⊢
 refine Yg (λz:PrM=>[(20,.int .i64 (z.i:Nat)),(19,.int .i64 q.length),(18,.slice qA q.length qcap),(1,.pointer (some ⟨g1,0,none⟩)),(4,.pointer (some ⟨gb,0,none⟩))])
  (λz=>bdP gb (if z.i=0 then .pointer none else .pointer (some ⟨gb,0,none⟩)) z.A z.cap (plnT q0 z.i) [blk g1 (.cells #[.int .i64 n.nodes,.slice n.pA n.rows.length n.pcap,.int .i64 n.noise,.int .i64 n.thr,.slice n.lA n.links.length n.lcap,.slice n.mA n.margin.length n.mcap,.slice qA q.length qcap,.int .i64 s.len,.int .i64 s.off,.slice s.A s.cells.length s.cap,.slice cA c.length ccap,.slice fA f.length fcap] 42 (0,0))]) (λz=>z.i<=q.length) (λz=>q.length-z.i) ⟨0,none,0⟩ (Tm _) ?_ ?_ ?_
 ·exact zc1
 ·intro w hw
  have h5:St B w0 [blk gb (.cells (Value.agg #[.pointer none,.slice none 0 0]).cells 163 (0,0)),blk g1 (.cells #[.int .i64 n.nodes,.slice n.pA n.rows.length n.pcap,.int .i64 n.noise,.int .i64 n.thr,.slice n.lA n.links.length n.lcap,.slice n.mA n.margin.length n.mcap,.slice qA q.length qcap,.int .i64 s.len,.int .i64 s.off,.slice s.A s.cells.length s.cap,.slice cA c.length ccap,.slice fA f.length fcap] 42 (0,0))] w:=by
   revert w
   exact zc0
  exact(h5.nilSlice 5 1).perm (.swap _ _ _)
 rintro⟨k,A1,cap1⟩ hk2 K hK
 dsimp only at hk2⊢
 have htl:=Ykb hqd k (by omega)
 by_cases hlt:k<q.length
 rotate_left
 ·obtain rfl:k=q.length:=by omega
  obtain⟨pp,hpp⟩:∃p,(if q.length=0 then Value.pointer none else .pointer (some ⟨gb,0,none⟩))=p:=⟨_,rfl⟩
  have hp2:pp=.pointer none\/pp=.pointer (some ⟨gb,0,none⟩):=by rw[<-hpp];split<;>simp
  rw[hpp,hq0l]
  clear hK
  unfold bdP
  refine zX76 ?_<;>intros
  first|apply Ya en40|apply Yb en40
  exact za
  exact rfl
  exactλ_ hw=>(p2 (hrs.mono zc0) hw)
  refine YnX ?_
  first|apply Ya en41|apply Yb en41
  exact za
  exact rfl
  exactλ_ hw=>(p3 (hc.mono zc0) hw)
  refine YnX ?_
  apply Ye _ YqY
  exact za
  exact rfl
  exactλ_ hw=>(O2 (l:=plnT q0 q.length) hp2 (hw))
  rintro _ _ ⟨rfl,rfl⟩
  repeat'(first|(apply WF (plnT q0 q.length) sT;(iterate 3 exact rfl);omega)|(apply WF (plnT q0 q.length++sT) cT;(iterate 3 exact rfl);(rw[To];omega))|refine zga ?_|fail)
  apply YM;(iterate 3 exact rfl)
  rfl
 obtain⟨x,hx⟩:∃x,q[k]? =some x:=⟨_,Ta hlt⟩
 have hxm:=Tc hx
 have hx0:q0[k]? =some x.rq:=by rw[<-hq0,TR,hx];rfl
 have hxd:=hqd x.rq (Tc hx0)
 have hxi:=hq.x x hxm
 have hqr:=hq.rd
 obtain⟨pp,hpp⟩:∃p,(if k=0 then Value.pointer none else .pointer (some ⟨gb,0,none⟩))=p:=⟨_,rfl⟩
 have hp2:pp=.pointer none\/pp=.pointer (some ⟨gb,0,none⟩):=by rw[<-hpp];split<;>simp
 rw[hpp]
 have hxn:=hxd.n
 have hxn2:x.rq.2.length=x.rows.length:=TB _
 have hf0:=YcS hxd 0 (Tm _)
 have ef:rqT x.rq 0=X0 wordF (YaC x.f):=by unfold rqT;simp;rfl
 rw[ef]at hf0
 have l1:=λ{g:Nat}{cap:Nat}{H':List HP}{w:World}(hm:blk g (.cells #[.int .i64 x.f.1,.int .i64 x.f.2.1,.int .i64 x.f.2.2.1,.int .i64 x.f.2.2.2.1,.int .i64 x.f.2.2.2.2.1,.int .i64 x.f.2.2.2.2.2] 3 (0,0))∈H') (hw:St B w0 H' w)=>Yej wordF (YaC x.f) hxd.f (by show 6<=100;decide) (by decide) (A:=some ⟨g,0,none⟩) (cap:=cap) ht (show Rd B w0 H' _ ((YaC x.f).flatMap numF) from Rd.blk (cs:=#[.int .i64 x.f.1,.int .i64 x.f.2.1,.int .i64 x.f.2.2.1,.int .i64 x.f.2.2.2.1,.int .i64 x.f.2.2.2.2.1,.int .i64 x.f.2.2.2.2.2]) hm) hw
 obtain⟨s1,hs1⟩:∃s,X0 wordF (YaC x.f)=s:=⟨_,rfl⟩
 rw[hs1]at l1 hf0 ef
 unfold bdP
 refine Ye5 ?_<;>intros
 rename_i gx gf gl
 first|apply Ya YmX|apply Yb YmX
 exact za
 exact rfl
 exactλ_ hw=>(l1 (by(focus exact zc2)) hw)
 apply XU (bdP gb pp A1 cap1 (plnT q0 k) [rqA gx x,blk g1 (.cells #[.int .i64 n.nodes,.slice n.pA n.rows.length n.pcap,.int .i64 n.noise,.int .i64 n.thr,.slice n.lA n.links.length n.lcap,.slice n.mA n.margin.length n.mcap,.slice qA q.length qcap,.int .i64 s.len,.int .i64 s.off,.slice s.A s.cells.length s.cap,.slice cA c.length ccap,.slice fA f.length fcap] 42 (0,0))])
 ·unfold bdP
  exact zc0
 apply Ye _ YfZ
 exact za
 exact rfl
 exactλ_ hw=>(Vn gb pp hp2 A1 cap1 (plnT q0 k) s1 (by omega) (hw))
 rintro _ _ ⟨rfl,A2,cap2,rfl⟩
 unfold bdP
 repeat'(first|(apply Yk T;exact rfl;exact zm;exact rfl;exact zv;exact rfl;exact rfl)|refine zgb ?_|fail)
 refine Yg (λz:PrM=>[(44,.int .i64 (z.i:Nat)),(43,.int .i64 x.rows.length),(42,.slice x.A x.rows.length x.cap),(20,.int .i64 (k:Nat)),(19,.int .i64 q.length),(18,.slice qA q.length qcap),(1,.pointer (some ⟨g1,0,none⟩)),(4,.pointer (some ⟨gb,0,none⟩))])
  (λz=>bdP gb (.pointer (some ⟨gb,0,none⟩)) z.A z.cap (plnT q0 k++rqT x.rq z.i) [blk g1 (.cells #[.int .i64 n.nodes,.slice n.pA n.rows.length n.pcap,.int .i64 n.noise,.int .i64 n.thr,.slice n.lA n.links.length n.lcap,.slice n.mA n.margin.length n.mcap,.slice qA q.length qcap,.int .i64 s.len,.int .i64 s.off,.slice s.A s.cells.length s.cap,.slice cA c.length ccap,.slice fA f.length fcap] 42 (0,0))]) (λz=>z.i<=x.rows.length) (λz=>x.rows.length-z.i) ⟨0,A2,cap2⟩ (Tm _) ?_ ?_ ?_
 ·exact zc1
 ·dsimp only
  rw[ef]
  unfold bdP
  exact zc0
 rintro⟨j,A3,cap3⟩ hj K2 hK2
 dsimp only at hj⊢
 have hjl:=YcS hxd j (by omega)
 by_cases hjx:j<x.rows.length
 rotate_left
 ·obtain rfl:j=x.rows.length:=by omega
  clear hK2
  have hst:=YgD hx0
  rw[hxn2]at hst
  rw[<-hst]
  unfold bdP
  refine zX1 ?_<;>intros
  apply hK ⟨k+1,A3,cap3⟩
  ·show k+1<=q.length
   omega
  ·exact zc39
  ·exact zc1
  ·dsimp only
   rw[Tf (Nat.succ_ne_zero k)]
   unfold bdP
   exact zc0
 obtain⟨r,hr⟩:∃r,x.rows[j]? =some r:=⟨_,Ta hjx⟩
 have hrm:=Tc hr
 have hrt:=hxi.rt
 have hrx:r.xs∈x.rq.2:=TC.2 ⟨r,hrm,rfl⟩
 have hst:=Ysa x.rq j
 have hrj:rtAt x.rq.2 j=r.xs:=WC hr
 rw[hrj]at hst
 have h9:=hxd.l _ hrx
 have l2:=λ{H':List HP}{w:World}(hr:Rd B w0 H' r.A (r.xs.flatMap numF)) (hw:St B w0 H' w)=>Yej wordR r.xs (hxd.r _ hrx) (by omega) (by decide) (cap:=r.cap) ht hr hw
 have hl2:=ZB (w:=wordR) (hxd.r _ hrx)
 have e5:wordR.length=5:=rfl
 obtain⟨s2,hs2⟩:∃s,X0 wordR r.xs=s:=⟨_,rfl⟩
 rw[hs2]at l2 hl2 hst
 unfold bdP
 refine zX1 ?_<;>intros
 first|apply Ya YmX|apply Yb YmX
 exact za
 exact rfl
 exactλ_ hw=>(l2 ((hxi.rw_ r hrm).mono zc0) hw)
 apply XU (bdP gb (.pointer (some ⟨gb,0,none⟩)) A3 cap3 (plnT q0 k++rqT x.rq j) [blk g1 (.cells #[.int .i64 n.nodes,.slice n.pA n.rows.length n.pcap,.int .i64 n.noise,.int .i64 n.thr,.slice n.lA n.links.length n.lcap,.slice n.mA n.margin.length n.mcap,.slice qA q.length qcap,.int .i64 s.len,.int .i64 s.off,.slice s.A s.cells.length s.cap,.slice cA c.length ccap,.slice fA f.length fcap] 42 (0,0))])
 ·unfold bdP
  exact zc0
 apply Ye _ YfZ
 exact za
 exact rfl
 exactλ_ hw=>(Vn gb _ (.inr rfl) A3 cap3 (plnT q0 k++rqT x.rq j) s2 (by rw[To];omega) (hw))
 rintro _ _ ⟨rfl,A4,cap4,rfl⟩
 unfold bdP
 refine zX11 ?_
 apply hK2 ⟨j+1,A4,cap4⟩
 ·show j+1<=x.rows.length
  omega
 ·exact zc39
 ·exact zc1
 ·dsimp only
  intro w hw
  rw[hst,show plnT q0 k++(rqT x.rq j++s2)=plnT q0 k++rqT x.rq j++s2 from(TY _ _ _).symm]
  unfold bdP
  exact hw
theorem Ykd(p:PnM)(ht:TabsB B w0)(hp:p.In B w0 H)(hw:St B w0 H w):
 CX B w0 35 [p.val] w λv K=>v=.tuple #[strV (Q9 p.pln).1,.int .i64 (Q9 p.pln).2]/\K=H:=
 OA hw (Ypz p (ht.here hw) (hp.here hw) (St.start w))
theorem cmpI_zero{a b:Int}:cmpI a b=0↔a=b:=by
 unfold cmpI
 omega
theorem YwK:∀l:List RqM,∀v∈l.flatMap rqF,v.oneCell'=true:=λl v hv=>by
 obtain⟨a,_,ha⟩:=RJ.1 hv
 revert ha
 simp only[rqF,TL,RV,N3]
 rintro h
 repeat'(rcases h with rfl|h)
 all_goals(try subst h)
 all_goals rfl
variable {B:Nat}{w0 w:World}{H:List HP}
theorem Yhp(l:List RqM)(i:Nat)(hi:i<l.length)(hlen:l.length<=1000){A:Option Addr}{cap:Nat}(hw:St B w0 (rqs A cap l::H) w):
 CX B w0 108 [.slice A l.length cap,.int .i64 i,.int .i64 ((i:Int)+1)] w λv K=>v=.slice A (l.eraseIdx i).length cap/\K=rqs A cap (l.eraseIdx i)::H:=by
 refine Yc Tryz.func108 Tryz.ntmps108 rfl rfl hw ?_
 unfold rqs
 refine Qb (k:=l.length) (cap:=cap) (by(focus exact zc2)) λhcap=>?_
 have hel:(l.eraseIdx i).length=l.length-1:=List.length_eraseIdx_of_lt hi
 have hfl:=Yb5 (f:=rqF) (q:=7) (λ_=>rfl) l i hi
 have hone:=YwK l
 repeat'(first|(apply Yom T;(iterate 6 exact rfl);omega)|refine zgb ?_|(refine zge ?_ ?_<;>intro _<;>try exact zo)|fail)
 apply YX [0,1,2,3,4,5,6,7] [] [false]
 kernel_rfl
 kernel_rfl
 exact zy
 (simp only[Yh,nthO];rfl)
 exact rfl
 refine zX4 ?_
 apply ZY T (l:=l) (n':=i);(iterate 4 exact rfl);omega;exact hcap;omega
 rw[YeK]
 refine zX4 ?_
 apply ZZ T (n':=l.length-(i+1));(iterate 4 exact rfl);omega;omega
 rw[show((i:Int)+1).toNat=i+1 by omega]
 refine zX2 ?_
 apply Yg2 T (e:=86) (size:=7) (k:=l.length) (i:=i) (j:=i+1) (xs:=l.flatMap rqF);(iterate 4 exact rfl);exact zd;exact hone;omega
 rw[hfl,show i+(l.length-(i+1))=(l.eraseIdx i).length by omega]
 refine zX18 ?_
 apply Ou T (n':=1);(iterate 5 exact rfl);omega;omega
 rw[show(((l.eraseIdx i).length:Nat):Int).toNat=(l.eraseIdx i).length by omega]
 apply Yal T T2 (e:=86) (size:=7) (k:=(l.eraseIdx i).length) (xs:=(l.eraseIdx i).flatMap rqF);exact rfl;(focus simp_all);(iterate 3 exact rfl);omega
 refine zX4 ?_
 exact zc11
theorem YnA{α β:Type}(g:α->β)(p:β->Bool):∀(l:List α) (k:Int),Ym p (l.map g) k=Ym (λx=>p (g x)) l k
 |[],_=>rfl
 |a::l,k=>by
  rw[Rh]
  unfold Ym
  rw[YnA g p l (k+1)]
theorem Ylx{α:Type}(p:α->Bool):∀(l:List α) (k:Int),0<=k->Ym p l k= -1\/(k<=Ym p l k/\Ym p l k<k+l.length)
 |[],k,_=>.inl rfl
 |a::l,k,h=>by
  have ih:=Ylx p l (k+1) (by omega)
  grind [Ym]
theorem Ysw(y:RqM)(id:Int)(g:Nat)(hm:intA g id∈H)(hw:St B w0 H w):
 CX B w0 107 [rqV y,.pointer (some ⟨g,0,none⟩)] w λv K=>v=.bool (decide (y.f.1=id))/\K=H:=by
 refine Yc Tryz.func107 Tryz.ntmps107 rfl rfl hw ?_
 unfold rqV
 by_cases h:y.f.1=id
 ·rw[Td h]
  refine zX46 ?_<;>intros
  all_goals(apply Yi H;((intro w hw;refine hw.perm ?_;focus exact zc3));exact zc11)
 ·rw[Ti h]
  refine zX46 ?_<;>intros
  all_goals(apply Yi H;((intro w hw;refine hw.perm ?_;focus exact zc3));exact zc11)
theorem Yli(s:Sch)(id:Int):(QB s id).1.cells.length<=s.cells.length:=by
 unfold QB
 split
 ·exact Qa
 ·exact Yn2
theorem VM(p:PnM)(id:Int)(ht:TabsB B w0)(hp:p.In B w0 H)(hw:St B w0 H w):
 CX B w0 29 [p.val,.int .i64 id] w (Yah B w0 H (wdrP p.pln id)):=by
 refine Yc Tryz.func29 Tryz.ntmps29 rfl rfl hw ?_
 have p1:=λ{H':List HP}{w:World}(hp:p.In B w0 H') (hw:St B w0 H' w)=>Je p ht hp hw
 have hop:∀w,St B w0 [many H] w->St B w0 H w:=λw hw=>hw.perm (.openT H)
 have hpM:∀{H':List HP},many H∈H'->p.In B w0 H':=λhm=>hp.mono λw hw=>hw.inM hm
 obtain⟨n,qA,qcap,q,s,cA,ccap,c,fA,fcap,f⟩:=p
 have hinM:∀{H':List HP},many H∈H'->n.In B w0 H':=λhm=>(hpM hm).n
 have hqM:∀{H':List HP},many H∈H'->QIn B w0 H' qA q:=λhm=>(hpM hm).q
 have hrsM:∀{H':List HP},many H∈H'->Rd B w0 H' s.A (s.cells.flatMap celF):=λhm=>(hpM hm).s
 have hsl:s.cells.length<=1000000000000:=hp.sl
 have p2:=λ{H':List HP}{w:World}(hrs:Rd B w0 H' s.A (s.cells.flatMap celF)) (hw:St B w0 H' w)=>Yn7 s id ht hrs hsl hw
 unfold PnM.val at p1⊢
 have hpl:(⟨n,qA,qcap,q,s,cA,ccap,c,fA,fcap,f⟩:PnM).pln=⟨n.net,q.map RqM.rq,s.sch,c.map ClM.clm,f⟩:=rfl
 rw[hpl]at p1⊢
 unfold wdrP
 dsimp only at p1⊢
 refine ZW [many H] (λw hw=>hw.perm (.closeT H)) ?_
 by_cases hk:chkP ⟨n.net,q.map RqM.rq,s.sch,c.map ClM.clm,f⟩=0
 rotate_left
 ·rw[Tn hk]
  refine O9 ?_<;>intros
  first|apply Ya en21|apply Yb en21
  exact za
  exact rfl
  exactλ_ hw=>(p1 (hpM (by(focus exact zc2))) hw)
  refine zX0 ?_<;>intros
  apply Yq T (H2:=H);(iterate 3 exact rfl);(focus exact zc2);exact rfl;exact rfl
  ·intro w hw
   have h5:St B w0 [many H] w:=by
    revert w
    exact zc0
   exact hop w h5
  exact zc73
 have hq16:q.length<=16:=by
  have:=(YhX (Ydk (Ydn hk))).1
  exact Yn5
 rw[hk]at p1
 rw[Tf (λe=>e hk)]
 have hidx:idQ (q.map RqM.rq) id=Ym (λy:RqM=>decide (y.f.1=id)) q 0:=YnA _ _ _ _
 rw[hidx]
 refine O9 ?_<;>intros
 rename_i g2 g3 g4
 first|apply Ya en21|apply Yb en21
 exact za
 exact rfl
 exactλ_ hw=>(p1 (hpM (by(focus exact zc2))) hw)
 repeat'(first|(apply zg29;(apply Yw;exact za;exact rfl))|refine zgb ?_|(refine zge ?_ ?_<;>intro _<;>try exact zo)|fail)
 first|apply Ya YmV|apply Yb YmV
 exact za
 exact rfl
 exactλ_ hw=>(Yd0 (λy=>decide (y.f.1=id)) q 107 [.pointer (some ⟨g3,0,none⟩)] Yw3 (by omega) (hqM (by(focus exact zc2))).rd (λa _ w hw=>Ysw a id g3 (by(focus exact zc2)) hw) hw)
 have hil:=Ylx (λy:RqM=>decide (y.f.1=id)) q 0 (by omega)
 generalize Ym (λy:RqM=>decide (y.f.1=id)) q 0=k at hil⊢
 by_cases hk0:k<0
 ·rw[Tn hk0]
  refine zX0 ?_<;>intros
  apply Yq T (H2:=H);(iterate 3 exact rfl);(focus exact zc2);exact rfl;exact rfl
  ·intro w hw
   have h5:St B w0 [many H] w:=by
    revert w
    exact zc0
   exact hop w h5
  exact zc73
 rw[Tf hk0]
 obtain⟨j,rfl⟩:∃j:Nat,k=j:=⟨k.toNat,by omega⟩
 have hj:j<q.length:=by omega
 rw[RU]
 have hdel:delQ (q.map RqM.rq) j=(q.eraseIdx j).map RqM.rq:=by
  unfold delQ
  rw[List.eraseIdx_eq_take_drop_succ,Rb,List.map_take,N4]
 rw[hdel]
 have hdc:=Yli s.sch id
 unfold OutS SchM.val at p2
 generalize QB s.sch id=R at p2 hdc⊢
 obtain⟨t,te⟩:=R
 dsimp only at p2 hdc⊢
 have htl:t.cells.length<=1000000000000:=T9 hdc hsl
 refine Yvo ?_<;>intros
 apply YX [0,1,2,3,5,6,7,4,8,9,10,11,12] [] [true,true,true,true]
 kernel_rfl
 kernel_rfl
 exact zy
 (simp only[Yh,nthO];rfl)
 exact rfl
 refine J5 ?_
 apply Ye _ Yje
 exact za
 exact rfl
 exactλ_ hw=>(UE q (by omega) (hqM (by(focus exact zc2))).rd (hw))
 rintro _ _ ⟨A1,c1,rfl,rfl⟩
 refine Ye6 ?_
 apply Xd [rqs A1 c1 q] _ Yw4
 exact za
 try exact zl
 exact zp
 exact rfl
 exactλ_ hw=>(Yhp q j hj (by omega) hw)
 rintro _ _ ⟨rfl,rfl⟩
 repeat'(first|(apply Yk T;exact rfl;exact zm;exact rfl;exact zv;exact rfl;exact rfl)|(apply Yl;try exact zl)|refine zgd ?_|(refine zgh ?_;intro _)|fail)
 rename_i g7
 apply Ye _ Yw5
 exact za
 exact rfl
 exactλ_ hw=>(p2 (hrsM (by(focus exact zc2))) (hw))
 rintro _ _ ⟨A4,c4,rfl,rfl⟩
 refine J5 ?_
 apply XU (bldA g7 ⟨n,A1,c1,q.eraseIdx j,⟨t.len,t.off,A4,c4,t.cells⟩,none,0,[],none,0,[],te⟩::rqs A1 c1 (q.eraseIdx j)::cels A4 c4 t.cells::blk g4 (.cells zeroPnV.cells 42 (0,0))::[many H])
 ·intro w hw
  have h5:St B w0 (blk g7 (.cells #[.int .i64 n.nodes,.slice n.pA n.rows.length n.pcap,.int .i64 n.noise,.int .i64 n.thr,.slice n.lA n.links.length n.lcap,.slice n.mA n.margin.length n.mcap,.slice A1 (q.eraseIdx j).length c1,.int .i64 t.len,.int .i64 t.off,.slice A4 t.cells.length c4,.slice none 0 0,.slice none 0 0,.int .i64 te] 114 (0,0))::rqs A1 c1 (q.eraseIdx j)::cels A4 c4 t.cells::blk g4 (.cells (Value.agg #[.int .i64 0,.slice none 0 0,.int .i64 0,.int .i64 0,.slice none 0 0,.slice none 0 0,.slice none 0 0,.int .i64 0,.int .i64 0,.slice none 0 0,.slice none 0 0,.slice none 0 0]).cells 42 (0,0))::[many H]) w:=by
   revert w
   exact zc0
  exact h5
 have hqe:∀{H':List HP},many H∈H'->rqs A1 c1 (q.eraseIdx j)∈H'->QIn B w0 H' A1 (q.eraseIdx j):=λh1 h2=>⟨YhS h2,λx hx=>(hqM h1).x x (List.mem_of_mem_eraseIdx hx),by have:=List.length_eraseIdx_le q j;omega⟩
 apply Xd [bldA g7 ⟨n,A1,c1,q.eraseIdx j,⟨t.len,t.off,A4,c4,t.cells⟩,none,0,[],none,0,[],te⟩] _ en72
 exact za
 try exact zl
 exact zp
 exact rfl
 exactλ_ hw=>(Vr ⟨n,A1,c1,q.eraseIdx j,⟨t.len,t.off,A4,c4,t.cells⟩,none,0,[],none,0,[],te⟩ g7 ht (hinM (by(focus exact zc2))) (hqe (by(focus exact zc2)) (by(focus exact zc2))) (UW (cap:=c4) (by(focus exact zc2))) htl hw)
 rintro _ _ hO
 dsimp only at hO
 rcases hO with⟨h1,rfl,rfl⟩|⟨p,X,h1,rfl,hp,rfl⟩
 ·unfold zeroPnV
  refine zX11 ?_
  apply Yq T (H2:=H);(iterate 3 exact rfl);(focus exact zc2);exact rfl;exact rfl
  ·intro w hw
   have h5:St B w0 [many H] w:=by
    revert w
    exact zc0
   exact hop w h5
  exact .inl ⟨h1,rfl,rfl⟩
 ·unfold PnM.val
  refine zX11 ?_
  apply Yq T (H2:=many [many X,cels A4 c4 t.cells]::H);(iterate 3 exact rfl);(focus exact zc2);exact rfl;exact rfl
  ·intro w hw
   have h5:St B w0 (many X::cels A4 c4 t.cells::[many H]) w:=by
    revert w
    exact zc0
   exact YvT
  exact zc99
end Go.Proofs.YtaholidehobiiaaGreatDoor
namespace Go.Rt
open Go.Nw
def Ylf(nodes:Nat)(l:List Lk)(to:Int)(far:List Int):Bool:=
 decide (far.length=nodes)&&decide (Yf far to=0)&&((List.range nodes).all λv:Nat=>decide (0<=Yf far v/\Yf far v<=YP))&&
 ((List.range nodes).all λv:Nat=>decide ((v:Int)=to)||decide (¬Yf far v<YP)||l.any λa=>decide (a.1=v/\Yf far a.2.1+a.2.2<=Yf far v))&&
 l.all λa=>decide (¬Yf far a.2.1<YP)||decide (Yf far a.1<=Yf far a.2.1+a.2.2)
variable {l:List Lk}{to:Int}{far:List Int}
theorem YoL{nodes:Nat}(h:Ylf nodes l to far=true):Dist nodes l to far:=by
 unfold Ylf at h
 simp only[Tq,TF,R9,Tt,T8,TQ]at h
 obtain⟨⟨⟨⟨h1,h2⟩,h3⟩,h4⟩,h5⟩:=h
 refine⟨h1,h2,λv h0 hn=>?_,λv h0 hn hne hlt=>?_,λa ha hlt=>?_⟩
 ·have:=h3 v.toNat (by omega)
  grind
 ·have:=h4 v.toNat (by omega)
  grind
 grind
def YqI(nodes:Nat)(l:List Lk):Bool:=l.all λa=>decide ((0<=a.1/\a.1<nodes)/\(0<=a.2.1/\a.2.1<nodes)/\(1<=a.2.2/\a.2.2<=1000000))
theorem Yox{nodes:Nat}(h:YqI nodes l=true):ArcsOk nodes l:=λa ha=>by
 have:=TF.1 h a ha
 simp_all
theorem Ylg{nodes:Nat}(h1:YqI nodes l=true)(h:Ylf nodes l to far=true):Ze nodes l to=far:=Wm (Yox h1) (YoL h)
end Go.Rt
namespace Go.Proofs.YtaholidehobiiaaGreatDoor
open Go.RowKit Go.Eng Go.Nw Go.Rt
def exN5:Net:=⟨2,[[0,9],[9,0]],1,1000,[(0,1,0),(1,0,0)],[9,9]⟩
def exF5:Flw:=(1,0,1,2,0,2)
def exS5:Sch:=⟨2,1,[(0,0,0,1,1)]⟩
def exP5:Pln:=⟨exN5,[(exF5,[[0,1]])],exS5,[⟨1,[[0,1]],[1],[0],[[0]]⟩],[0,1]⟩
def exA5:List Lk:=[(0,1,1),(1,0,1)]
theorem Yjg:YI exN5=exA5:=by decide
theorem Yjh:XW exN5 0 1=0:=by decide
theorem Yra:∃x es,Wi 100000 2 exA5 0 0 1 (λ_=>false)=some (x,false,es):=by
 have h:(Wi 100000 2 exA5 0 0 1 (λ_=>false)).map (λr=>r.2.1)=some false:=by decide
 simp_all
theorem Ygb:Vu 100000 exN5 0 1=some (none,17):=by
 obtain⟨x,es,hb⟩:=Yra
 have hp:YaT 100000 2 exA5 0 1=some none:=by
  simp_all [YaT]
 unfold Vu
 rw[Tf (by grind [Yjh]),Yjg,show exN5.nodes.toNat=2 from rfl,hp]
theorem Yrc:Jr exN5 exF5=(none,17):=by
 grind [Jr,exF5,Ygb]
theorem Ytp:Vu 100000 exN5 exF5.2.1 exF5.2.2.1=some (Jr exN5 exF5):=by
 exact Ygb
theorem YoT:XS exN5 0 1=([0,1],0):=by
 have hr:VK exN5 0 1=[0,1]:=by
  unfold VK
  rw[Yjg,show exN5.nodes.toNat=2 from rfl,Ylg (far:=[34,0]) (by decide) (by decide)]
  decide
 grind [XS,Yjh]
theorem Ynt:reqE exN5 exF5=((exF5,[[0,1]]),0):=by
 grind [reqE,Yrc,Zo,exF5,YoT]
theorem YoS:Zd exN5 [exF5]=([(exF5,[[0,1]])],(-1,0)):=by
 have h1:Ycl exN5 [exF5]=(-1,0):=by
  grind [Ycl,YZ,Xj,Ynt]
 unfold Zd
 rw[h1,Tf (by decide),Tf (by decide),Tf (by decide),Rh,Mc,Ynt]
theorem YoR:Yhk exN5 [(exF5,[[0,1]])] 2 1=(some exP5,0):=by rfl
theorem Yrb:YnE exN5 [exF5] 2 1=(some exP5,0):=by
 unfold YnE
 rw[YoS,Tf (by decide),Tf (by decide),Tf (by decide),Tf (by decide)]
 exact YoR
theorem Yns:chkP exP5=0:=by decide
def exR5:Pln:=⟨exN5,[],⟨2,1,[]⟩,[],[1,1]⟩
theorem Ytq:∃p,wdrP exP5 1=(some p,0)/\p.q=[]/\p.s.cells=[]:=⟨exR5,by rfl,rfl,rfl⟩
theorem Ybt{n:Int}(h:0<=n/\n<10):Lib.itoa n=[UInt8.ofNat (48+n.toNat)]:=by
 grind [YjG,Go.Lib.decDigits_one]
def exT5:List UInt8:=[102,108,111,119,32,49,32,48,32,49,32,50,32,48,32,50,10,114,111,117,116,101,32,48,32,49,10,115,99,104,101,100,117,108,101,32,50,32,49,10,99,101,108,108,32,48,32,48,32,48,32,49,32,49,10,102,108,111,119,32,49,10,114,111,117,116,101,32,48,32,49,10,98,111,117,110,100,32,49,32,48,10,115,108,111,116,115,32,48,10]
theorem Yrd:Q9 exP5=(exT5,0):=by
 have h0:Lib.itoa 0=[48]:=Ybt (by omega)
 have h1:Lib.itoa 1=[49]:=Ybt (by omega)
 have h2:Lib.itoa 2=[50]:=Ybt (by omega)
 unfold Q9
 rw[Tf (by grind [Yns])]
 unfold exP5 exS5 exF5 X5 Uq
 rw[Tf (by decide),Tf (by decide)]
 unfold plnT YnT YnL YkF
 simp only[TZ,NY,TM,Ry,List.take,show List.range (0+1)=[0] from rfl]
 unfold YnM rqT X0 ZO YaC nums rtAt
 simp[h0,h1,h2,exT5,wordF,wordR,Ye1,Ye2]
 rfl
variable {B:Nat}{w0 w:World}{H:List HP}
theorem Yll(hw:St B w0 H w):
 CX B w0 55 [] w λv K=>∃(n:NetM) (A:Option Addr),v=.tuple #[n.val,.slice A 1 1]/\n.net=exN5/\n.In B w0 K/\Rd B w0 K A ([exF5].flatMap flwF)/\∀w,St B w0 K w->St B w0 H w:=by
 refine Yc Tryz.func55 Tryz.ntmps55 rfl rfl hw ?_
 refine zX26 ?_<;>intros
 rename_i g0 r1 r2 gp gl gm g2 gf
 apply Yq T;(iterate 3 exact rfl);(focus exact zc2);exact rfl;exact rfl;exactλw hw=>hw
 refine⟨⟨2,(some ⟨gp,0,none⟩),2,[⟨(some ⟨r1,0,none⟩),2,[0,9]⟩,⟨(some ⟨r2,0,none⟩),2,[9,0]⟩],1,1000,(some ⟨gl,0,none⟩),2,[(0,1,0),(1,0,0)],(some ⟨gm,0,none⟩),2,[9,9]⟩,(some ⟨gf,0,none⟩),rfl,rfl,?_,?_,?_⟩
 ·refine⟨Rd.blk (cs:=#[.slice (some ⟨r1,0,none⟩) 2 2,.slice (some ⟨r2,0,none⟩) 2 2]) (t:=24) (fr:=(0,0)) (by simp_all),λr hr=>?_,Rd.blk (cs:=#[.int .i64 0,.int .i64 1,.int .i64 0,.int .i64 1,.int .i64 0,.int .i64 0]) (t:=140) (fr:=(0,0)) (by simp_all),Rd.blk (cs:=#[.int .i64 9,.int .i64 9]) (t:=3) (fr:=(0,0)) (by simp_all),by simp_all,λr hr=>?_,by simp_all,by simp_all⟩
  ·simp only[TL,RV,N3]at hr
   rcases hr with rfl|rfl
   ·exact Rd.blk (cs:=#[.int .i64 0,.int .i64 9]) (t:=3) (fr:=(0,0)) (by simp_all)
   ·exact Rd.blk (cs:=#[.int .i64 9,.int .i64 0]) (t:=3) (fr:=(0,0)) (by simp_all)
  grind
 ·exact Rd.blk (cs:=#[.int .i64 1,.int .i64 0,.int .i64 1,.int .i64 2,.int .i64 0,.int .i64 2]) (t:=53) (fr:=(0,0)) (by simp_all)
 ·exact zc0
theorem Yct(ht:TabsB B w0)(hw:St B w0 H w):
 CX B w0 11 [] w λv K=>v=.bool true/\K=H:=by
 refine Yc Tryz.func11 Tryz.ntmps11 rfl rfl hw ?_
 refine zX4 ?_
 apply Ye _ en55
 exact za
 exact rfl
 exactλ_ hw=>(Yll (hw))
 rintro _ K0 ⟨n,A,rfl,hn,hin,hr,hback⟩
 have p1:∀{H':List HP}{w:World},n.In B w0 H'->Rd B w0 H' A ([exF5].flatMap flwF)->St B w0 H' w->CX B w0 16 [n.val,.slice A 1 1,.int .i64 2,.int .i64 1] w (Yah B w0 H' (some exP5,0)):=λhin hr hw=>by
  have h:=YjR n [exF5] 2 1 (by omega) (by decide) (λf hf=>by rw[TG.1 hf,hn];exact Ytp) (cap:=1) ht hin hr hw
  rw[hn,Yrb]at h
  exact h
 unfold NetM.val
 unfold NetM.val at p1
 refine zX72 ?_<;>intros
 apply Ye _ en16
 exact za
 exact rfl
 exactλ_ hw=>(p1 (hin.mono zc0) (hr.mono zc0) (hw))
 rintro _ K1 (⟨h,-⟩|⟨p,X,hp,rfl,hpin,rfl⟩)
 ·cases h
 have hp:exP5=p.pln:=Tv hp
 have p2:∀{H':List HP}{w:World},p.In B w0 H'->St B w0 H' w->CX B w0 35 [p.val] w λv K=>v=.tuple #[strV exT5,.int .i64 0]/\K=H':=λhpin hw=>by
  have h:=Ykd p ht hpin hw
  rw[<-hp,Yrd]at h
  exact h
 have p3:∀{H':List HP}{w:World},p.In B w0 H'->St B w0 H' w->CX B w0 21 [p.val] w λv K=>v=.int .i64 0/\K=H':=λhpin hw=>by
  have h:=Je p ht hpin hw
  rw[<-hp,Yns]at h
  exact h
 obtain⟨pw,hwd,hq0,hc0⟩:=Ytq
 have p4:∀{H':List HP}{w:World},p.In B w0 H'->St B w0 H' w->CX B w0 29 [p.val,.int .i64 1] w (Yah B w0 H' (some pw,0)):=λhpin hw=>by
  have h:=VM p 1 ht hpin hw
  rw[<-hp,hwd]at h
  exact h
 have hf:p.f=[0,1]:=by have:=TE Pln.f hp;exact this.symm
 have p5:∀{A2:Option Addr}{cap2:Nat}{H':List HP}{w:World},Rd B w0 H' p.fA (p.f.flatMap numF)->Rd B w0 H' A2 ([0,1].flatMap numF)->St B w0 H' w->CX B w0 56 [.slice p.fA p.f.length p.fcap,.slice A2 2 cap2] w λu K=>u=.bool true/\K=H':=λ{A2 cap2 H' w} h1 h2 hw=>by
  have h:=YdE p.f [0,1] (by rw[hf];decide) (cap:=p.fcap) (cap2:=cap2) h1 h2 hw
  rw[hf,Td rfl]at h
  rw[hf]
  exact h
 unfold PnM.val
 unfold PnM.val at p2 p3 p4
 refine zX72 ?_<;>intros
 first|apply Ya en35|apply Yb en35
 exact za
 exact rfl
 exactλ_ hw=>(p2 (hpin.mono zc0) hw)
 refine zX11 ?_
 apply Ye _ en29
 exact za
 exact rfl
 exactλ_ hw=>(p4 (hpin.mono zc0) (hw))
 rintro _ K2 (⟨h,-⟩|⟨p',X',hp',rfl,hpin',rfl⟩)
 ·cases h
 have hp':pw=p'.pln:=Tv hp'
 have hq0':p'.q.length=0:=by
  have h1:(p'.q.map RqM.rq)=[]:=by rw[<-hq0,hp'];rfl
  rw[<-TB (f:=RqM.rq),h1];rfl
 have hc0':p'.s.cells.length=0:=by
  have h1:p'.s.cells=[]:=by rw[<-hc0,hp'];rfl
  rw[h1];rfl
 unfold PnM.val
 rw[hq0',hc0']
 repeat'(first|((first|apply Ya en56|apply Yb en56);exact za;exact rfl;exactλ_ hw=>(p5 (hpin.f.mono zk) (Rd.blk (cs:=#[.int .i64 0,.int .i64 1]) (t:=3) (fr:=(0,0)) zm) hw))|((first|apply Ya en21|apply Yb en21);exact za;exact rfl;exactλ_ hw=>(p3 (hpin.mono zk) hw))|(apply Ys9;(iterate 3 exact rfl);all_goals(intro hE;try(exact absurd rfl hE)))|refine zgc ?_|(refine zge ?_ ?_<;>intro _<;>try exact zo)|(refine zgh ?_;intro _)|fail)
 apply Yi H
 ·intro w hw
  refine hback w ?_
  revert w
  exact zc0
 exact zc74
end Go.Proofs.YtaholidehobiiaaGreatDoor
