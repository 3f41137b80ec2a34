/- Lemmas for the claim, part 36. -/
import Derived.Test.YtaholidehobiiaaGreatDoorQ33
import Derived.Test.YtaholidehobiiaaGreatDoorQ34
set_option maxRecDepth 100000
set_option maxHeartbeats 8000000
set_option linter.all false
namespace Go.Proofs.YtaholidehobiiaaGreatDoor
open Go.RowKit Go.Eng Go.Nw Go.Rt
abbrev plnA(g:Nat)(n:NetM)(qA:Option Addr)(qcap:Nat)(q:List RqM)(s:SchM)(cA:Option Addr)(ccap:Nat)(c:List ClM)(fA:Option Addr)(fcap:Nat)(fm:List Int):HP:=blk g (.cells #[.int .i64 n.nodes,.slice n.pA n.rows.length n.pcap,.int .i64 n.noise,.int .i64 n.thr,.slice n.lA n.links.length n.lcap,.slice n.mA n.margin.length n.mcap,.slice qA q.length qcap,.int .i64 s.len,.int .i64 s.off,.slice s.A s.cells.length s.cap,.slice cA c.length ccap,.slice fA fm.length fcap] 42 (0,0))
abbrev zerA(g:Nat):HP:=blk g (.cells (Value.agg #[.int .i64 0,.slice none 0 0,.int .i64 0,.int .i64 0,.slice none 0 0,.slice none 0 0,.slice none 0 0,.int .i64 0,.int .i64 0,.slice none 0 0,.slice none 0 0,.slice none 0 0]).cells 42 (0,0))
abbrev schD(g:Nat)(t:Sch)(A:Option Addr)(cap:Nat):HP:=blk g (.cells #[.int .i64 t.len,.int .i64 t.off,.slice A t.cells.length cap] 37 (0,0))
structure ExM where
 y:RqM
 t:Sch
 A:Option Addr
 cap:Nat
 e:Int
 X:HP
structure ExOk(B:Nat)(w0:World)(n:Net)(q:List Rqs)(f:Flw)(RR:Option Pln×Int)(z:ExM):Prop where
 yin:∀{H':List HP},z.X∈H'->z.y.In B w0 H'
 id:z.y.f.1=f.1
 tl:z.t.cells.length<=1000000000000
 res:(if z.e=0 then finE n (insQ q z.y.rq) z.t 0 else(none,18))=RR
theorem Yaq(n:Net)(q:List Rqs)(s:Sch)(x:Rqs):(XQ n q s x).1.cells.length<=512:=by
 unfold XQ
 split
 ·exact Qa
 split
 ·exact Qa
 split
 ·exact Qa
 split
 ·exact Qa
 split
 ·exact Qa
 split
 ·exact Qa
 simp_all
theorem Yfl(p:PnM)(f:Flw)(h24:p.s.len<=24\/chkP p.pln≠0){B:Nat}{w0:World}{H:List HP}{w:World}(ht:TabsB B w0)(hp:p.In B w0 H)(hw:St B w0 H w):
 CX B w0 27 [p.val,flwV f] w (Yah B w0 H (extP p.pln f)):=by
 refine Yc Tryz.func27 Tryz.ntmps27 rfl rfl hw ?_
 have p1:=λ{H':List HP}{w:World}(hp:p.In B w0 H') (hw:St B w0 H' w)=>Je p ht hp hw
 have hop:∀w,St B w0 [many H] w->St B w0 H w:=λw hw=>hw.perm (.openT H)
 have hpM:∀{H':List HP},many H∈H'->p.In B w0 H':=λhm=>hp.mono λw hw=>hw.inM hm
 obtain⟨n,qA,qcap,q,s,cA,ccap,c,fA,fcap,fm⟩:=p
 have hinM:∀{H':List HP},many H∈H'->n.In B w0 H':=λhm=>(hpM hm).n
 have hqM:∀{H':List HP},many H∈H'->QIn B w0 H' qA q:=λhm=>(hpM hm).q
 have hrsM:∀{H':List HP},many H∈H'->Rd B w0 H' s.A (s.cells.flatMap celF):=λhm=>(hpM hm).s
 have hsl:s.cells.length<=1000000000000:=hp.sl
 dsimp only at h24
 unfold PnM.val at p1⊢
 have hpl:(⟨n,qA,qcap,q,s,cA,ccap,c,fA,fcap,fm⟩:PnM).pln=⟨n.net,q.map RqM.rq,s.sch,c.map ClM.clm,fm⟩:=rfl
 rw[hpl]at p1 h24⊢
 unfold extP
 dsimp only at p1⊢
 unfold flwV
 refine ZW [many H] (λw hw=>hw.perm (.closeT H)) ?_
 by_cases hk:chkP ⟨n.net,q.map RqM.rq,s.sch,c.map ClM.clm,fm⟩=0
 rotate_left
 ·rw[Tn hk]
  repeat'(first|refine zgb ?_|(refine zgh ?_;intro _)|fail)
  first|apply Ya en21|apply Yb en21
  exact za
  exact rfl
  exactλ_ hw=>(p1 (hpM zm) hw)
  repeat'(first|refine zgd ?_|(refine zge ?_ ?_<;>intro _<;>try exact zo)|fail)
  apply Yq T (H2:=H);(iterate 3 exact rfl);exact zm;exact rfl;exact rfl
  ·intro w hw
   have h5:St B w0 [many H] w:=by
    revert w
    exact zk
   exact hop w h5
  exact .inl ⟨rfl,rfl,rfl⟩
 have hs24:s.len<=24:=by
  rcases h24 with h|h
  ·exact h
  ·exact absurd hk h
 have hce:=Ydn hk
 have hrq:=Ydk hce
 have hq16:q.length<=16:=by
  have:=(YhX hrq).1
  rwa [TB]at this
 have hord:=Yrk hrq
 rw[hk]at p1
 rw[Tf (λe=>e hk)]
 have hpos:posQ (q.map RqM.rq) f.1<=q.length:=by
  have:=(List.takeWhile_prefix (p:=λy:Rqs=>decide (y.1.1<f.1)) (l:=q.map RqM.rq)).length_le
  rw[TB]at this
  exact this
 obtain⟨k,hkp⟩:∃k,posQ (q.map RqM.rq) f.1=k:=⟨_,rfl⟩
 have p2:=λ{H':List HP}{w:World}(hq:QIn B w0 H' qA q) (hw:St B w0 H' w)=>Yh5 q f hord (by omega) (cap:=qcap) hq.rd hw
 rw[hkp]at p2 hpos
 obtain⟨hs,hhs⟩:∃hs,hasQ (q.map RqM.rq) f.1=hs:=⟨_,rfl⟩
 rw[hhs]at p2⊢
 unfold flwV at p2
 repeat'(first|refine zgb ?_|(refine zgh ?_;intro _)|fail)
 rename_i g2 g3 g4
 first|apply Ya en21|apply Yb en21
 exact za
 exact rfl
 exactλ_ hw=>(p1 (hpM zm) hw)
 repeat'(first|refine zgb ?_|(refine zge ?_ ?_<;>intro _<;>try exact zo)|fail)
 first|apply Ya en95|apply Yb en95
 exact za
 exact rfl
 exactλ_ hw=>(p2 (hqM zm) hw)
 cases hs with
 |true=>
  repeat'(first|refine zgd ?_|fail)
  apply Yq T (H2:=H);(iterate 3 exact rfl);exact zm;exact rfl;exact rfl
  ·intro w hw
   have h5:St B w0 [many H] w:=by
    revert w
    exact zk
   exact hop w h5
  exact .inl ⟨rfl,rfl,rfl⟩
 |false=>
 rw[Tf (by decide)]
 have hfl:Y0 (insQ (q.map RqM.rq) (f,[]))=(RqM.fl q).take k++f::(RqM.fl q).drop k:=by
  unfold insQ Y0
  rw[show((f,[]):Rqs).1.1=f.1 from rfl,hkp,Rb,Rh,List.map_take,N4,NX]
  rfl
 rw[hfl]
 have hfll:(RqM.fl q).length=q.length:=by unfold RqM.fl;rw[TB]
 have hil:=Ygj (RqM.fl q) f k (by omega)
 have p3:=λ{H':List HP}{w:World}(hq:QIn B w0 H' qA q) (hw:St B w0 H' w)=>Yj8 q (cap:=qcap) (by omega) hq.rd hw
 have p4:=λ{A2:Option Addr}{cap2 gv:Nat}{H':List HP}{w:World}(hw:St B w0 (flws A2 cap2 (RqM.fl q)::flwB gv f::H') w)=>Yhz (RqM.fl q) k f (by omega) (by omega) hw
 obtain⟨L,hL⟩:∃L,(RqM.fl q).take k++f::(RqM.fl q).drop k=L:=⟨_,rfl⟩
 rw[hL]at p4 hil⊢
 have p5:=λ{A2:Option Addr}{cap2:Nat}{H':List HP}{w:World}(hr:Rd B w0 H' A2 (L.flatMap flwF)) (hw:St B w0 H' w)=>Xe n.nodes L (by omega) (cap:=cap2) hr hw
 obtain⟨fe,hfe⟩:∃fe,(Yu n.net.nodes L).2=fe:=⟨_,rfl⟩
 obtain⟨fi,hfi⟩:∃fi,(Yu n.net.nodes L).1=fi:=⟨_,rfl⟩
 rw[show n.nodes=n.net.nodes from rfl,hfe,hfi]at p5
 rw[hfe]
 repeat'(first|refine zgc ?_|fail)
 refine Zf (λ_:Unit=>[(2,.pointer (some ⟨g2,0,none⟩)),(3,.pointer (some ⟨g3,0,none⟩)),(4,.pointer (some ⟨g4,0,none⟩)),(6,.int .i64 (k:Nat)),(9,.int .i64 fe)]) (λ_=>[plnA g2 n qA qcap q s cA ccap c fA fcap fm,flwB g3 f,zerA g4,many H]) ?_ ?_
 ·intro K hK
  repeat'(first|(apply Yk T;exact rfl;exact zm;exact rfl;exact zv;exact rfl;exact rfl)|fail)
  apply ZN (.n1 0 (.n1 1 (.n1 2 (.n1 3 (.n1 4 (.n1 6 (.n1 7 (.n2 5 (.n1 8 (.n1 9 (.n1 10 (.n1 11 (.n1 12 (.n1 13 (.n1 14 (.n1 15 .done)))))))) 8 (.n1 5 (.n1 9 (.n1 10 (.n1 11 (.n1 12 (.n1 13 (.n1 14 (.n1 15 .done)))))))))))))))) [] [true,true,true,true]
  kernel_rfl
  kernel_rfl
  exact zy
  exact rfl
  repeat'(first|(apply Yk T;exact rfl;exact zm;exact rfl;exact zv;exact rfl;exact rfl)|(apply Yl;try exact zl)|apply(zs91 ?_ ?_)|(apply YG;try exact zl)|refine zgd ?_|(refine zgh ?_;intro _)|fail)
  ·skip
   apply Ye _ en98
   exact za
   exact rfl
   exactλ_ hw=>(p3 (hqM zm) (hw))
   rintro _ _ ⟨A2,cap2,rfl,rfl⟩
   repeat'(first|(apply Yk T;exact rfl;exact zm;exact rfl;exact zv;exact rfl;exact rfl)|(apply Yl;try exact zl)|(apply YG;try exact zl)|refine zgd ?_|(refine zgh ?_;intro _)|fail)
   rename_i gv
   apply Xd [flws A2 cap2 (RqM.fl q),flwB gv f] _ en97
   exact za
   try exact zl
   exact zp
   exact rfl
   exactλ_ hw=>(p4 hw)
   rintro _ _ ⟨A3,cap3,rfl,rfl⟩
   repeat'(first|((first|apply Ya en59|apply Yb en59);exact za;exact rfl;exactλ_ hw=>(p5 (Rd.sl zm) hw))|(apply Yl;try exact zl)|(apply YG;try exact zl)|refine zgd ?_|fail)
   apply hK ()
   ·exact zu
   ·exact zk
  ·rename_i gv
   apply Ye _ en98
   exact za
   exact rfl
   exactλ_ hw=>(p3 (hqM zm) (hw))
   rintro _ _ ⟨A2,cap2,rfl,rfl⟩
   repeat'(first|(apply Yk T;exact rfl;exact zm;exact rfl;exact zv;exact rfl;exact rfl)|(apply Yl;try exact zl)|(apply YG;try exact zl)|refine zgd ?_|fail)
   apply Xd [flws A2 cap2 (RqM.fl q),flwB gv f] _ en97
   exact za
   try exact zl
   exact zp
   exact rfl
   exactλ_ hw=>(p4 hw)
   rintro _ _ ⟨A3,cap3,rfl,rfl⟩
   repeat'(first|((first|apply Ya en59|apply Yb en59);exact za;exact rfl;exactλ_ hw=>(p5 (Rd.sl zm) hw))|(apply Yl;try exact zl)|(apply YG;try exact zl)|refine zgd ?_|fail)
   apply hK ()
   ·exact zu
   ·exact zk
 rintro⟨⟩
 by_cases hfe0:fe=0
 rotate_left
 ·rw[Tn hfe0]
  repeat'(first|refine zgd ?_|(refine zge ?_ ?_<;>intro _<;>try exact zo)|fail)
  apply Yq T (H2:=H);(iterate 3 exact rfl);exact zm;exact rfl;exact rfl
  ·intro w hw
   have h5:St B w0 [many H] w:=by
    revert w
    exact zk
   exact hop w h5
  exact .inl ⟨rfl,rfl,rfl⟩
 rw[Tf (λe=>e hfe0)]
 subst hfe0
 clear p1 p2 p3 p4 p5
 have hflw:=(Qh.1 hfe).2.2.1 f (by rw[<-hL];exact TU _ Tz)
 obtain⟨-,hper,-,-,-⟩:=XK hflw
 have hsz:=(Uy (XT.1 (XC.1 hce).1).whole).2.2.1
 have hl1:1<=s.len:=by
  exact(Rj hsz).1
 rw[show s.sch.len=s.len from rfl,RE (by omega)]
 by_cases hmod:s.len%f.2.2.2.1=0
 rotate_left
 ·rw[Tn hmod]
  repeat'(first|refine zgd ?_|(refine zge ?_ ?_<;>intro _<;>try exact zo)|fail)
  apply Yq T (H2:=H);(iterate 3 exact rfl);exact zm;exact rfl;exact rfl
  ·intro w hw
   have h5:St B w0 [many H] w:=by
    revert w
    exact zk
   exact hop w h5
  exact .inl ⟨rfl,rfl,rfl⟩
 rw[Tf (λe=>e hmod)]
 have p6:=λ{A2:Option Addr}{cap2:Nat}{H':List HP}{w:World}(hin:n.In B w0 H') (hr:Rd B w0 H' A2 ([f].flatMap flwF)) (hw:St B w0 H' w)=>U6 n [f] (by simp) (λf _=>Wy n.net f) (cap:=cap2) hin hr hw
 obtain⟨⟨RQ,ri,re⟩,hR⟩:∃R,Zd n.net [f]=R:=⟨_,rfl⟩
 rw[hR]at p6⊢
 dsimp only at p6⊢
 unfold Ymy NetM.val at p6
 dsimp only at p6
 repeat'(first|(apply Yk T;exact rfl;exact zm;exact rfl;exact zv;exact rfl;exact rfl)|refine zgd ?_|(refine zge ?_ ?_<;>intro _<;>try exact zo)|(refine zgh ?_;intro _)|fail)
 apply Ye _ en13
 exact za
 exact rfl
 exactλ_ hw=>(p6 (hinM zm) (Rd.blk (cs:=#[.int .i64 f.1,.int .i64 f.2.1,.int .i64 f.2.2.1,.int .i64 f.2.2.2.1,.int .i64 f.2.2.2.2.1,.int .i64 f.2.2.2.2.2]) (t:=53) (fr:=(0,0)) zm) (hw))
 rintro _ _ ⟨A4,cap4,qr,rfl,hqr,hqs,rfl⟩
 by_cases hre:re=0
 rotate_left
 ·rw[Tn hre]
  repeat'(first|refine zgd ?_|(refine zge ?_ ?_<;>intro _<;>try exact zo)|fail)
  apply Yq T (H2:=H);(iterate 3 exact rfl);exact zm;exact rfl;exact rfl
  ·intro w hw
   have h5:St B w0 [many H] w:=by
    revert w
    exact zk
   exact hop w h5
  exact .inl ⟨rfl,rfl,rfl⟩
 rw[Tf (λe=>e hre)]
 subst hre
 have hRQ:RQ=[(reqE n.net f).1]:=by
  have h1:=hR
  unfold Zd at h1
  split at h1
  ·cases h1
  split at h1
  ·rename_i h2;injection h1 with _ h3;rw[h3]at h2;exact absurd rfl h2
  split at h1
  ·rename_i h2;injection h1 with _ h3;rw[h3]at h2;exact absurd rfl h2
  ·injection h1 with h2 h3
   rw[<-h2];rfl
 obtain⟨x,rfl,hxr⟩:∃x,qr=[x]/\x.rq=(reqE n.net f).1:=by
  rw[hRQ]at hqr
  match qr,hqr with
  |[],h=>cases h
  |[x],h=>injection h with h1 _;exact⟨x,rfl,h1⟩
  |_::_::_,h=>injection h with _ h1;cases h1
 have hxl:=hqs x Tz
 have hx0:[x][(0:Int).toNat]? =some x:=rfl
 have hx1:[x].length=1:=rfl
 rw[<-hxr]
 have p7:=λ(y:RqM) {H':List HP}{w:World}(hin:n.In B w0 H') (hq:QIn B w0 H' qA q) (hrs:Rd B w0 H' s.A (s.cells.flatMap celF)) (hy:y.In B w0 H') (hw:St B w0 H' w)=>YcW n q s y hs24 (cap:=qcap) ht hin hq hrs hsl hy hw
 unfold OutS NetM.val SchM.val rqV at p7
 have p8:=λ{H':List HP}{w:World}(hin:n.In B w0 H') (hw:St B w0 H' w)=>U7 n f hin hw
 unfold OutQ NetM.val flwV at p8
 unfold rqs
 repeat'(first|(apply Yk T;exact rfl;exact zm;exact rfl;exact zv;exact rfl;exact rfl)|refine zgd ?_|(refine zge ?_ ?_<;>intro _<;>try exact zo)|(refine zgh ?_;intro _)|fail)
 rename_i g13
 have hxin:∀{H':List HP},many ([x].map rqQ)∈H'->x.In B w0 H':=λhm=>YcQ hm Tz hxl
 obtain⟨⟨t,te⟩,hA⟩:∃R,XQ n.net (q.map RqM.rq) s.sch x.rq=R:=⟨_,rfl⟩
 have p9:=λ{H':List HP}{w:World}(hin:n.In B w0 H') (hq:QIn B w0 H' qA q) (hrs:Rd B w0 H' s.A (s.cells.flatMap celF)) (hy:x.In B w0 H') (hw:St B w0 H' w)=>p7 x hin hq hrs hy hw
 rw[hA]at p9
 rw[hA]
 dsimp only at p9⊢
 apply Ye _ en99
 exact za
 exact rfl
 exactλ_ hw=>(p9 (hinM zm) (hqM zm) (hrsM zm) (hxin zm) (hw))
 rintro _ _ ⟨A5,cap5,rfl,rfl⟩
 iterate 9 (first|(apply Yk T;exact rfl;exact zm;exact rfl;exact zv;exact rfl;exact rfl)|refine zgc ?_|(refine zgh ?_;intro _)|fail)
 rename_i g14
 have htl:=Yaq n.net (q.map RqM.rq) s.sch x.rq
 rw[hA]at htl
 dsimp only at htl
 obtain⟨RR,hRR⟩:∃RR,(if te=0 then finE n.net (insQ (q.map RqM.rq) x.rq) t 0 else if(Zo n.net f).2≠0 then(none,18)else ext1 ⟨n.net,q.map RqM.rq,s.sch,c.map ClM.clm,fm⟩ (Zo n.net f).1 (XQ n.net (q.map RqM.rq) s.sch (Zo n.net f).1))=RR:=⟨_,rfl⟩
 rw[hRR]
 have hxf:x.f.1=f.1:=by
  have h1:x.rq.1=f:=by rw[hxr];exact Yeo (Ykk (by rw[hR]))
  exact TE Prod.fst h1
 refine Zf (λz:{z:ExM//ExOk B w0 n.net (q.map RqM.rq) f RR z}=>[(2,.pointer (some ⟨g2,0,none⟩)),(4,.pointer (some ⟨g4,0,none⟩)),(6,.int .i64 (k:Nat)),(12,.int .i64 z.1.e),(13,.pointer (some ⟨g13,0,none⟩)),(14,.pointer (some ⟨g14,0,none⟩))])
  (λz=>[rqA g13 z.1.y,schD g14 z.1.t z.1.A z.1.cap,cels z.1.A z.1.cap z.1.t.cells,z.1.X,plnA g2 n qA qcap q s cA ccap c fA fcap fm,zerA g4,many H]) ?_ ?_
 ·intro K hK
  by_cases hte:te=0
  ·rw[Tn hte]at hRR
   repeat'(first|refine zga ?_|(refine zge ?_ ?_<;>intro _<;>try exact zo)|fail)
   apply hK ⟨⟨x,t,A5,cap5,te,many ([x].map rqQ)⟩,⟨hxin,hxf,by show t.cells.length<=_;omega,by rw[<-hRR];exact Tn hte⟩⟩
   ·exact zu
   ·exact zk
  rw[Tf hte]at hRR
  obtain⟨⟨sy,se⟩,hS⟩:∃R,Zo n.net f=R:=⟨_,rfl⟩
  have hsf:se=0->sy.1=f:=λh=>by have:=@YbI n.net f (by rw[hS];exact h);rwa [hS]at this
  rw[hS]at p8 hRR
  dsimp only at p8 hRR
  repeat'(first|(apply Yk T;exact rfl;exact zm;exact rfl;exact zv;exact rfl;exact rfl)|refine zgb ?_|(refine zge ?_ ?_<;>intro _<;>try exact zo)|fail)
  apply Ye _ YqW
  exact za
  exact rfl
  exactλ_ hw=>(p8 (hinM zm) (hw))
  rintro _ _ ⟨y,rfl,hy,hyl,rfl⟩
  unfold rqV
  by_cases hse:se=0
  rotate_left
  ·rw[Tn hse]at hRR
   repeat'(first|(apply Yk T;exact rfl;exact zm;exact rfl;exact zv;exact rfl;exact rfl)|refine zgd ?_|(refine zge ?_ ?_<;>intro _<;>try exact zo)|(refine zgh ?_;intro _)|fail)
   apply Yq T (H2:=H);(iterate 3 exact rfl);exact zm;exact rfl;exact rfl
   ·intro w hw
    have h5:St B w0 [many H] w:=by
     revert w
     exact zk
    exact hop w h5
   exact .inl ⟨by rw[<-hRR],by rw[<-hRR];rfl,rfl⟩
  rw[Tf (λe=>e hse)]at hRR
  subst hy
  have hyin:∀{H':List HP},rqQ y∈H'->y.In B w0 H':=λhm=>Yr9 hm hyl
  unfold ext1 at hRR
  dsimp only at hRR
  obtain⟨⟨t2,te2⟩,hA2⟩:∃R,XQ n.net (q.map RqM.rq) s.sch y.rq=R:=⟨_,rfl⟩
  have p10:=λ{H':List HP}{w:World}(hin:n.In B w0 H') (hq:QIn B w0 H' qA q) (hrs:Rd B w0 H' s.A (s.cells.flatMap celF)) (hy:y.In B w0 H') (hw:St B w0 H' w)=>p7 y hin hq hrs hy hw
  have htl2:=Yaq n.net (q.map RqM.rq) s.sch y.rq
  rw[hA2]at p10 hRR htl2
  dsimp only at p10 hRR htl2
  repeat'(first|(apply Yk T;exact rfl;exact zm;exact rfl;exact zv;exact rfl;exact rfl)|refine zgc ?_|(refine zge ?_ ?_<;>intro _<;>try exact zo)|(refine zgh ?_;intro _)|fail)
  apply Ye _ en99
  exact za
  exact rfl
  exactλ_ hw=>(p10 (hinM zm) (hqM zm) (hrsM zm) (hyin zm) (hw))
  rintro _ _ ⟨A6,cap6,rfl,rfl⟩
  repeat'(first|(apply Yk T;exact rfl;exact zm;exact rfl;exact zv;exact rfl;exact rfl)|refine zgc ?_|fail)
  apply hK ⟨⟨y,t2,A6,cap6,te2,rqQ y⟩,⟨hyin,TE Prod.fst (hsf hse),by show t2.cells.length<=_;omega,?_⟩⟩
  ·exact zu
  ·exact zk
  ·rw[<-hRR]
   show(if te2=0 then _ else _)=if te2≠0 then _ else _
   by_cases h:te2=0
   ·rw[Tn h,Tf (λe=>e h)]
   ·rw[Tf h,Tn h]
 rintro⟨⟨y,t3,A7,cap7,e3,X⟩,hz⟩
 obtain⟨hyin,hyf,ht3,hres⟩:=hz
 dsimp only at hyin hyf ht3 hres⊢
 clear hRR p7 p8 p9 hA htl hxin
 by_cases he3:e3=0
 rotate_left
 ·rw[Tf he3]at hres
  repeat'(first|refine zgd ?_|(refine zge ?_ ?_<;>intro _<;>try exact zo)|fail)
  apply Yq T (H2:=H);(iterate 3 exact rfl);exact zm;exact rfl;exact rfl
  ·intro w hw
   have h5:St B w0 [many H] w:=by
    revert w
    exact zk
   exact hop w h5
  exact .inl ⟨by rw[<-hres],by rw[<-hres];rfl,rfl⟩
 rw[Tn he3]at hres
 subst he3
 obtain⟨Q,hQ⟩:∃Q,q.take k++y::q.drop k=Q:=⟨_,rfl⟩
 have hQl:=Ql q y k hpos
 rw[hQ]at hQl
 have hQm:Q.map RqM.rq=insQ (q.map RqM.rq) y.rq:=by
  unfold insQ
  rw[show y.rq.1.1=f.1 from hyf,hkp,<-hQ,Rb,Rh,List.map_take,N4]
 rw[<-hQm]at hres
 have p11:=λ{H':List HP}{w:World}(hq:QIn B w0 H' qA q) (hw:St B w0 H' w)=>UE q (by omega) (cap:=qcap) hq.rd hw
 have p12:=λ{A':Option Addr}{cap' gv:Nat}{H':List HP}{w:World}(hw:St B w0 (rqs A' cap' q::rqA gv y::H') w)=>YaJ q k y hpos (by omega) hw
 rw[hQ]at p12
 repeat'(first|refine zga ?_|(refine zge ?_ ?_<;>intro _<;>try exact zo)|fail)
 refine Zf (λz:Option Addr×Nat×Nat=>[(17,.pointer (some ⟨z.2.2,0,none⟩)),(4,.pointer (some ⟨g4,0,none⟩))])
  (λz=>[bldA z.2.2 ⟨n,z.1,z.2.1,Q,⟨t3.len,t3.off,A7,cap7,t3.cells⟩,none,0,[],none,0,[],0⟩,rqs z.1 z.2.1 Q,cels A7 cap7 t3.cells,X,zerA g4,many H]) ?_ ?_
 ·intro K hK
  repeat'(first|(apply Yk T;exact rfl;exact zm;exact rfl;exact zv;exact rfl;exact rfl)|fail)
  apply ZN (.n1 0 (.n1 1 (.n1 2 (.n1 3 (.n1 5 (.n1 6 (.n1 9 (.n2 4 (.n1 7 (.n1 8 (.n1 10 (.n1 11 (.n1 12 (.n1 13 .done)))))) 7 (.n1 4 (.n1 8 (.n1 10 (.n1 11 (.n1 12 (.n1 13 .done)))))))))))))) [] [true,true,true,true,true,true,true]
  kernel_rfl
  kernel_rfl
  exact zy
  exact rfl
  repeat'(first|(apply Yk T;exact rfl;exact zm;exact rfl;exact zv;exact rfl;exact rfl)|(apply Yl;try exact zl)|apply(zs91 ?_ ?_)|(apply YG;try exact zl)|refine zgd ?_|(refine zgh ?_;intro _)|fail)
  ·skip
   apply Ye _ Yje
   exact za
   exact rfl
   exactλ_ hw=>(p11 (hqM zm) (hw))
   rintro _ _ ⟨A1,c1,rfl,rfl⟩
   repeat'(first|(apply Yk T;exact rfl;exact zm;exact rfl;exact zv;exact rfl;exact rfl)|(apply Yl;try exact zl)|(apply YG;try exact zl)|refine zgd ?_|(refine zgh ?_;intro _)|fail)
   rename_i gv
   apply Xd [rqs A1 c1 q,rqA gv y] _ YqX
   exact za
   try exact zl
   exact zp
   exact rfl
   exactλ_ hw=>(p12 hw)
   rintro _ _ ⟨A8,cap8,rfl,rfl⟩
   repeat'(first|(apply Yk T;exact rfl;exact zm;exact rfl;exact zv;exact rfl;exact rfl)|(apply Yl;try exact zl)|(apply YG;try exact zl)|refine zgd ?_|(refine zgh ?_;intro _)|fail)
   rename_i g17
   apply hK ⟨A8,cap8,g17⟩
   ·exact zu
   ·intro w hw
    have h5:St B w0 (blk g17 (.cells #[.int .i64 n.nodes,.slice n.pA n.rows.length n.pcap,.int .i64 n.noise,.int .i64 n.thr,.slice n.lA n.links.length n.lcap,.slice n.mA n.margin.length n.mcap,.slice A8 Q.length cap8,.int .i64 t3.len,.int .i64 t3.off,.slice A7 t3.cells.length cap7,.slice none 0 0,.slice none 0 0,.int .i64 0] 114 (0,0))::rqs A8 cap8 Q::cels A7 cap7 t3.cells::X::zerA g4::[many H]) w:=by
     revert w
     exact zk
    exact h5
  ·rename_i gv
   apply Ye _ Yje
   exact za
   exact rfl
   exactλ_ hw=>(p11 (hqM zm) (hw))
   rintro _ _ ⟨A1,c1,rfl,rfl⟩
   repeat'(first|(apply Yk T;exact rfl;exact zm;exact rfl;exact zv;exact rfl;exact rfl)|(apply Yl;try exact zl)|(apply YG;try exact zl)|refine zgd ?_|fail)
   apply Xd [rqs A1 c1 q,rqA gv y] _ YqX
   exact za
   try exact zl
   exact zp
   exact rfl
   exactλ_ hw=>(p12 hw)
   rintro _ _ ⟨A8,cap8,rfl,rfl⟩
   repeat'(first|(apply Yk T;exact rfl;exact zm;exact rfl;exact zv;exact rfl;exact rfl)|(apply Yl;try exact zl)|(apply YG;try exact zl)|refine zgd ?_|(refine zgh ?_;intro _)|fail)
   rename_i g17
   apply hK ⟨A8,cap8,g17⟩
   ·exact zu
   ·intro w hw
    have h5:St B w0 (blk g17 (.cells #[.int .i64 n.nodes,.slice n.pA n.rows.length n.pcap,.int .i64 n.noise,.int .i64 n.thr,.slice n.lA n.links.length n.lcap,.slice n.mA n.margin.length n.mcap,.slice A8 Q.length cap8,.int .i64 t3.len,.int .i64 t3.off,.slice A7 t3.cells.length cap7,.slice none 0 0,.slice none 0 0,.int .i64 0] 114 (0,0))::rqs A8 cap8 Q::cels A7 cap7 t3.cells::X::zerA g4::[many H]) w:=by
     revert w
     exact zk
    exact h5
 rintro⟨A8,cap8,g17⟩
 dsimp only
 have hqe:∀{H':List HP},many H∈H'->X∈H'->rqs A8 cap8 Q∈H'->QIn B w0 H' A8 Q:=λh1 h2 h3=>⟨YhS h3,λz hz=>by
  rw[<-hQ]at hz
  rcases TI.1 hz with h|h
  ·exact(hqM h1).x z (SB h)
  ·rcases TL.1 h with rfl|h
   ·exact hyin h2
   ·exact(hqM h1).x z (List.mem_of_mem_drop h),by omega⟩
 repeat'(first|refine zga ?_|fail)
 apply Xd [bldA g17 ⟨n,A8,cap8,Q,⟨t3.len,t3.off,A7,cap7,t3.cells⟩,none,0,[],none,0,[],0⟩] _ en72
 exact za
 try exact zl
 exact zp
 exact rfl
 exactλ_ hw=>(Vr ⟨n,A8,cap8,Q,⟨t3.len,t3.off,A7,cap7,t3.cells⟩,none,0,[],none,0,[],0⟩ g17 ht (hinM zm) (hqe zm zm zm) (UW (cap:=cap7) zm) ht3 hw)
 rintro _ _ hO
 dsimp only at hO
 rw[show(⟨t3.len,t3.off,A7,cap7,t3.cells⟩:SchM).sch=t3 from rfl,hres]at hO
 rcases hO with⟨h1,rfl,rfl⟩|⟨p,XX,h1,rfl,hp,rfl⟩
 ·unfold zeroPnV
  repeat'(first|refine zgc ?_|fail)
  apply Yq T (H2:=H);(iterate 3 exact rfl);exact zm;exact rfl;exact rfl
  ·intro w hw
   have h5:St B w0 [many H] w:=by
    revert w
    exact zk
   exact hop w h5
  exact .inl ⟨h1,rfl,rfl⟩
 ·unfold PnM.val
  repeat'(first|refine zgc ?_|fail)
  apply Yq T (H2:=many [many XX,cels A7 cap7 t3.cells]::H);(iterate 3 exact rfl);exact zm;exact rfl;exact rfl
  ·intro w hw
   have h5:St B w0 (many XX::cels A7 cap7 t3.cells::[many H]) w:=by
    revert w
    exact zk
   exact(h5.perm (.cons _ (.cons _ (.openT H)))).perm (.close [_,_] H)
  exact .inr ⟨p,_,h1,rfl,(hp _ (UW (cap:=cap7) (.head _))).mono λw hw=>(hw.perm (.open_ [_,_] H)),rfl⟩
def FewX(x:ClM):Prop:=x.rs.length<=3/\x.bs.length<=8/\x.ws.length<=8/\x.ss.length<=8/\(∀r∈x.rs,r.xs.length<=12)/\∀r∈x.ss,r.xs.length<=70
def FewC(c:List ClM):Prop:=c.length<=17/\∀x∈c,FewX x
variable {B k:Nat}{w0:World}{H:List HP}{A:Option Addr}
theorem CBg.small{c:List ClM}(h:CBg B w0 H A c)(hf:FewC c):CIn B w0 H A c:=by
 refine⟨h.rd,λx hx=>?_,by have:=hf.1;omega⟩
 have h1:=h.x x hx
 obtain⟨f1,f2,f3,f4,f5,f6⟩:=hf.2 x hx
 exact⟨h1.rt,h1.rw_,h1.bd,h1.ws,h1.st,h1.sw,by omega,λr hr=>by grind,λr hr=>by grind⟩
variable {α:Type}
theorem Ov{P:α->Prop}{l:List α}{x:α}(h:∀y∈l.take k,P y)(hx:l[k]? =some x)(hp:P x):∀y∈l.take (k+1),P y:=zc90
theorem Yar{P:α->Prop}{l:List α}(h:∀y∈l.take k,P y)(hk:¬k<l.length):∀y∈l,P y:=by
 grind [T0]
theorem YdG(c:List ClM){cap:Nat}{w:World}(hc:CBg B w0 H A c)(hw:St B w0 H w):
 CX B w0 94 [.slice A c.length cap] w λv K=>(∃b,v=.bool b/\(b=true->FewC c))/\K=H:=by
 refine Yc Tryz.func94 Tryz.ntmps94 rfl rfl hw ?_
 have hcl:=hc.ln
 have hcr:=hc.rd
 repeat'(first|refine zgd ?_|(refine zgf ?_ ?_<;>intro _<;>try exact zo)|fail)
 any_goals(apply Yd;exact rfl;exact rfl;simp_all)
 all_goals(
  have hc17:c.length<=17:=by omega
  refine Yg (λk:Nat=>[(3,.int .i64 (k:Nat)),(0,.slice A c.length cap)]) (λ_=>H) (λk=>k<=c.length/\∀x∈c.take k,FewX x) (λk=>c.length-k) 0 ⟨Tm _,by simp⟩ ?_ (λw hw=>hw) ?_
  ·exact zu
  rintro i ⟨hi,hz⟩ K hK
  by_cases hlt:i<c.length
  rotate_left
  ·repeat'(first|refine zgc ?_|(refine zge ?_ ?_<;>intro _<;>try exact zo)|fail)
   apply Yd;exact rfl;exact rfl;exact⟨⟨_,rfl,λ_=>⟨hc17,Yar hz hlt⟩⟩,rfl⟩
  obtain⟨x,hx⟩:∃x,c[i]? =some x:=⟨_,Ta hlt⟩
  have hxi:=hc.x x (Tc hx)
  have hxl:=hxi.ln
  have hxr:=hxi.rt
  have hxs:=hxi.st
  repeat'(first|refine zgd ?_|(refine zgf ?_ ?_<;>intro _<;>try exact zo)|fail)
  any_goals(apply Yd;exact rfl;exact rfl;exact⟨⟨_,rfl,λh=>by cases h⟩,rfl⟩)
  have hx4:x.rs.length<=3/\x.bs.length<=8/\x.ws.length<=8/\x.ss.length<=8:=by omega
  refine Yg (λk:Nat=>[(4,.int .i64 (k:Nat)),(3,.int .i64 (i:Nat)),(0,.slice A c.length cap)]) (λ_=>H) (λk=>k<=x.rs.length/\∀r∈x.rs.take k,r.xs.length<=12) (λk=>x.rs.length-k) 0 ⟨Tm _,by simp⟩ ?_ (λw hw=>hw) ?_
  ·exact zu
  rintro k ⟨hk,hz2⟩ K2 hK2
  by_cases hlk:k<x.rs.length
  ·obtain⟨r,hr⟩:∃r,x.rs[k]? =some r:=⟨_,Ta hlk⟩
   have hrl:=hxi.rl r (Tc hr)
   repeat'(first|refine zgd ?_|(refine zgf ?_ ?_<;>intro _<;>try exact zo)|fail)
   any_goals(apply Yd;exact rfl;exact rfl;exact⟨⟨_,rfl,λh=>by cases h⟩,rfl⟩)
   apply hK2 (k+1)
   ·exact⟨by omega,Ov hz2 hr (by omega)⟩
   ·omega
   ·exact zu
   ·exactλw hw=>hw
  clear hK2
  repeat'(first|refine zgd ?_|(refine zge ?_ ?_<;>intro _<;>try exact zo)|fail)
  refine Yg (λk:Nat=>[(5,.int .i64 (k:Nat)),(3,.int .i64 (i:Nat)),(0,.slice A c.length cap)]) (λ_=>H) (λk=>k<=x.ss.length/\∀r∈x.ss.take k,r.xs.length<=70) (λk=>x.ss.length-k) 0 ⟨Tm _,by simp⟩ ?_ (λw hw=>hw) ?_
  ·exact zu
  have hz2:=Yar hz2 hlk
  rintro k ⟨hk,hz3⟩ K2 hK2
  by_cases hlk:k<x.ss.length
  ·obtain⟨r,hr⟩:∃r,x.ss[k]? =some r:=⟨_,Ta hlk⟩
   have hrl:=hxi.sl r (Tc hr)
   repeat'(first|refine zgd ?_|(refine zgf ?_ ?_<;>intro _<;>try exact zo)|fail)
   any_goals(apply Yd;exact rfl;exact rfl;exact⟨⟨_,rfl,λh=>by cases h⟩,rfl⟩)
   apply hK2 (k+1)
   ·exact⟨by omega,Ov hz3 hr (by omega)⟩
   ·omega
   ·exact zu
   ·exactλw hw=>hw
  clear hK2
  repeat'(first|refine zgd ?_|(refine zge ?_ ?_<;>intro _<;>try exact zo)|fail)
  apply hK (i+1)
  ·exact⟨by omega,Ov hz hx ⟨hx4.1,hx4.2.1,hx4.2.2.1,hx4.2.2.2,hz2,Yar hz3 hlk⟩⟩
  ·omega
  ·exact zu
  ·exactλw hw=>hw)
open Go.ChangeShapes Go.WideShapes Go.ChangeAt Go.RowKit Go.Eng Go.Nw Go.Rt
section
variable {H:Type}{enc:TypeId×Value->H}{W:World}{spare:Nat->Bool}{held:Bool}
structure RtG(W:World)(r:RowM):Prop where
 old:Old W r.A (r.xs.flatMap numF)
 len:r.xs.length<=9223372036854775807
 cap:r.xs.length<=r.cap
 good:∀z∈r.xs,I64 z
theorem YrR:Opn enc Tryz.prog W spare held 93 rowF (RtG W):=
 U4 (Z7 (q:=1) Tryz.underlying93 (by kernel_rfl) (by decide) op_i) YnJ (λ_=>rfl) (λ_ h=>⟨h.old,T9 h.len maxL,h.cap,h.good⟩)
theorem YhK:Opn enc Tryz.prog W spare held 24 rowF (RtG W):=
 U4 YhJ YnJ (λ_=>rfl) (λ_ h=>⟨h.old,T9 h.len maxL,h.cap,h.good⟩)
theorem Ygw:Opn enc Tryz.prog W spare held 84 (λs:SlM RowM=>[s.val]) (SlG W rowF (RtG W)):=Z7 (q:=1) Tryz.underlying84 (by kernel_rfl) (by decide) YrR
theorem YrP:Opn enc Tryz.prog W spare held 22 (λs:SlM RowM=>[s.val]) (SlG W rowF (RtG W)):=Z7 (q:=1) Tryz.underlying22 (by kernel_rfl) (by decide) YhK
structure RqG(W:World)(x:RqM):Prop where
 f:FlwG x.f
 old:Old W x.A (x.rows.flatMap rowF)
 len:x.rows.length<=9223372036854775807
 cap:x.rows.length<=x.cap
 good:∀r∈x.rows,RtG W r
theorem YlS:Opn enc Tryz.prog W spare held 86 rqF (RqG W):=
 U4 (JH (ts:=[53,84]) (by kernel_rfl) (YD YhI (YD Ygw UM)))
  (λx=>⟨x.1,x.2.1.A,x.2.1.cap,x.2.1.xs⟩) (λx=>by simp[rqF,flwF,SlM.val]) (λx h=>by
   obtain⟨h1,h2,_⟩:=h
   exact⟨h1,h2.old,T9 h2.len maxL,h2.cap,h2.good⟩)
theorem Yj2:Opn enc Tryz.prog W spare held 30 (λs:SlM RqM=>[s.val]) (SlG W rqF (RqG W)):=Z7 (q:=7) Tryz.underlying30 (by kernel_rfl) (by decide) YlS
structure ClG(W:World)(c:ClM):Prop where
 f:I64 c.flow
 rt:Old W c.rA (c.rs.flatMap rowF)
 rg:∀r∈c.rs,RtG W r
 bd:RtG W ⟨c.bA,c.bcap,c.bs⟩
 ws:RtG W ⟨c.wA,c.wcap,c.ws⟩
 st:Old W c.sA (c.ss.flatMap rowF)
 sg:∀r∈c.ss,RtG W r
 rl:c.rs.length<=9223372036854775807
 sl:c.ss.length<=9223372036854775807
 rc:c.rs.length<=c.rcap
 sc:c.ss.length<=c.scap
theorem YrM:Opn enc Tryz.prog W spare held 132 clF (ClG W):=
 U4 (JH (ts:=[3,84,24,24,22]) (by kernel_rfl) (YD op_i (YD Ygw (YD YhK (YD YhK (YD YrP UM))))))
  (λx=>⟨x.1,x.2.1.A,x.2.1.cap,x.2.1.xs,x.2.2.1.A,x.2.2.1.cap,x.2.2.1.xs,x.2.2.2.1.A,x.2.2.2.1.cap,x.2.2.2.1.xs,x.2.2.2.2.1.A,x.2.2.2.2.1.cap,x.2.2.2.2.1.xs⟩) (λx=>by simp[clF,numF,rowF,SlM.val]) (λx h=>by
   obtain⟨h1,h2,h3,h4,h5,_⟩:=h
   exact⟨h1,h2.old,h2.good,h3,h4,h5.old,h5.good,T9 h2.len maxL,T9 h5.len maxL,h2.cap,h5.cap⟩)
theorem Ypr:Opn enc Tryz.prog W spare held 39 (λs:SlM ClM=>[s.val]) (SlG W clF (ClG W)):=Z7 (q:=5) Tryz.underlying39 (by kernel_rfl) (by decide) YrM
end
variable {W:World}{K:List HP}
theorem ClG.bg{c:ClM}(h:ClG W c):c.Bg W.heap.size W K:=
 ⟨h.rt.rd,λr hr=>(h.rg r hr).old.rd,h.bd.old.rd,h.ws.old.rd,h.st.rd,λr hr=>(h.sg r hr).old.rd,⟨h.rl,h.bd.len,h.ws.len,h.sl⟩,λr hr=>(h.rg r hr).len,λr hr=>(h.sg r hr).len⟩
theorem Ytl{s:SlM ClM}(h:SlG W clF (ClG W) s):CBg W.heap.size W K s.A s.xs:=
 ⟨h.old.rd,λx hx=>(h.good x hx).bg,T9 h.len maxL⟩
def FewR(l:List RowM):Prop:=l.length<=3/\∀r∈l,r.xs.length<=12
def FewQ(q:List RqM)(s:SchM):Prop:=q.length<=4/\s.cells.length<=30/\∀x∈q,FewR x.rows
variable {B cap:Nat}{w0 w:World}{H:List HP}{A:Option Addr}
theorem QBg.small{q:List RqM}{s:SchM}(h:QBg B w0 H A q)(hf:FewQ q s):QIn B w0 H A q:=by
 refine⟨h.rd,λx hx=>?_,by have:=hf.1;omega⟩
 have h1:=h.x x hx
 obtain⟨f1,f2⟩:=hf.2.2 x hx
 exact⟨h1.rt,h1.rw_,by omega,λr hr=>⟨by grind,(h1.rl r hr).2⟩⟩
theorem YwJ{W:World}{s:SlM RqM}{K:List HP}(h:SlG W rqF (RqG W) s):QBg W.heap.size W K s.A s.xs:=
 ⟨h.old.rd,λx hx=>⟨(h.good x hx).old.rd,λr hr=>((h.good x hx).good r hr).old.rd,(h.good x hx).len,λr hr=>⟨((h.good x hx).good r hr).len,((h.good x hx).good r hr).cap⟩⟩,T9 h.len maxL⟩
theorem Ylm(n:NetM)(s:SchM)(l:List RowM)(hin:n.In B w0 H)(hr:Rd B w0 H A (l.flatMap rowF))(hll:l.length<=9223372036854775807)(_hsl:s.cells.length<=9223372036854775807)(hlr:∀r∈l,r.xs.length<=9223372036854775807)(hw:St B w0 H w):
 CX B w0 194 [n.val,s.val,.slice A l.length cap] w λv K=>(∃b,v=.bool b/\(b=true->FewR l))/\K=H:=by
 refine Yc Tryz.func194 Tryz.ntmps194 rfl rfl hw ?_
 unfold NetM.val SchM.val
 have p1:=λ{H':List HP}{w:World}(hin:n.In B w0 H') (hw:St B w0 H' w)=>YdH n hin hw
 unfold NetM.val at p1
 repeat'(first|refine zgb ?_|(refine zgh ?_;intro _)|fail)
 rename_i g3 g4
 refine Yg (λk:Nat=>[(7,.int .i64 (k:Nat)),(2,.slice A l.length cap),(4,.pointer (some ⟨g4,0,none⟩)),(3,.pointer (some ⟨g3,0,none⟩))]) (λ_=>schA g4 s::netA g3 n::H) (λk=>k<=l.length/\∀r∈l.take k,r.xs.length<=12) (λk=>l.length-k) 0 ⟨Tm _,by simp⟩ ?_ (λw hw=>hw) ?_
 ·exact zc1
 rintro k ⟨hk,hz⟩ K hK
 have hr2:Rd B w0 (schA g4 s::netA g3 n::H) A (l.flatMap rowF):=hr.cons.cons
 by_cases hlt:k<l.length
 ·obtain⟨r,hx⟩:∃r,l[k]? =some r:=⟨_,Ta hlt⟩
  have hrl:=hlr r (Tc hx)
  repeat'(first|refine zgd ?_|(refine zgf ?_ ?_<;>intro _<;>try exact zo)|fail)
  ·apply Yi H
   ·exact zc0
   exact zc62
  ·apply hK (k+1)
   ·exact⟨by omega,Ov hz hx (by omega)⟩
   ·omega
   ·exact zc1
   exact zc17
 ·have hz:=Yar hz hlt
  clear hK
  cases hb:fewE n.net<;>(
   rw[hb]at p1
   repeat'(first|refine zgc ?_|(refine zge ?_ ?_<;>intro _<;>try exact zo)|fail)
   first|apply Ya en57|apply Yb en57
   exact za
   exact rfl
   exactλ_ hw=>(p1 (hin.mono zk) hw)
   repeat'(first|refine zgd ?_|(refine zgf ?_ ?_<;>intro _<;>try exact zo)|fail)
   all_goals(
    apply Yi H
    ·exact zk
    apply Yd;exact rfl;exact rfl
    exact⟨⟨_,rfl,λh=>by first|(exact absurd h (by decide))|(rw[Tt]at h;exact⟨by omega,hz⟩)|exact⟨by omega,hz⟩⟩,rfl⟩))
theorem Yln(n:NetM)(q:List RqM)(s:SchM)(hin:n.In B w0 H)(hq:QBg B w0 H A q)(hsl:s.cells.length<=9223372036854775807)(hw:St B w0 H w):
 CX B w0 93 [n.val,.slice A q.length cap,s.val] w λv K=>(∃b,v=.bool b/\(b=true->FewQ q s))/\K=H:=by
 refine Yc Tryz.func93 Tryz.ntmps93 rfl rfl hw ?_
 unfold NetM.val SchM.val
 have p1:=λ{H':List HP}{w:World}(hin:n.In B w0 H') (hw:St B w0 H' w)=>YdH n hin hw
 have p2:=λ{x:RqM}{H':List HP}{w:World}(hin:n.In B w0 H') (hx:x.Bg B w0 H') (hw:St B w0 H' w)=>Ylm n ⟨0,0,none,0,[]⟩ x.rows (cap:=x.cap) hin hx.rt hx.ln (by simp) (λr hr=>(hx.rl r hr).1) hw
 unfold NetM.val at p1 p2
 have hql:=hq.ln
 repeat'(first|refine zgb ?_|(refine zgh ?_;intro _)|fail)
 rename_i g3 g4
 refine Yg (λk:Nat=>[(7,.int .i64 (k:Nat)),(1,.slice A q.length cap),(5,.pointer (some ⟨g4,0,none⟩)),(3,.pointer (some ⟨g3,0,none⟩))]) (λ_=>schA g4 s::netA g3 n::H) (λk=>k<=q.length/\∀x∈q.take k,FewR x.rows) (λk=>q.length-k) 0 ⟨Tm _,by simp⟩ ?_ (λw hw=>hw) ?_
 ·exact zc1
 rintro k ⟨hk,hz⟩ K hK
 have hr2:Rd B w0 (schA g4 s::netA g3 n::H) A (q.flatMap rqF):=hq.rd.cons.cons
 by_cases hlt:k<q.length
 ·obtain⟨x,hx⟩:∃x,q[k]? =some x:=⟨_,Ta hlt⟩
  have hxb:=hq.x x (Tc hx)
  repeat'(first|refine zgb ?_|(refine zge ?_ ?_<;>intro _<;>try exact zo)|fail)
  apply XA [0,1,2,3,4,5,6,7,8] []
  kernel_rfl
  kernel_rfl
  (simp only[Yh,nthO];rfl)
  exact rfl
  repeat'(first|refine zgd ?_|fail)
  apply Ye _ Yxi
  exact za
  exact rfl
  exactλ_ hw=>(p2 (hin.mono zc0) (hxb.mono zc0) (hw))
  rintro _ _ ⟨⟨b,rfl,hb⟩,hK0⟩
  rw[hK0]
  cases b with
  |false=>
   repeat'(first|(apply Yl;(repeat(first|with_reducible exact YW|(with_reducible apply YL;(repeat(first|with_reducible exact Ys|with_reducible apply YA))))))|refine zgd ?_|fail)
   ·show Perm H (H++[])
    exact zc29
   repeat'(first|fail)
   apply Yi H
   ·exact zc0
   exact zc62
  |true=>
   have hb:=hb rfl
   repeat'(first|(apply Yl;(repeat(first|with_reducible exact YW|(with_reducible apply YL;(repeat(first|with_reducible exact Ys|with_reducible apply YA))))))|refine zgd ?_|fail)
   ·show Perm H (H++[])
    exact zc29
   repeat'(first|fail)
   apply hK (k+1)
   ·exact⟨by omega,Ov hz hx hb⟩
   ·omega
   ·exact zc1
   exact zc17
 ·have hz:=Yar hz hlt
  clear hK
  cases hb:fewE n.net<;>(
   rw[hb]at p1
   repeat'(first|refine zgc ?_|(refine zge ?_ ?_<;>intro _<;>try exact zo)|fail)
   first|apply Ya en57|apply Yb en57
   exact za
   exact rfl
   exactλ_ hw=>(p1 (hin.mono zk) hw)
   repeat'(first|refine zgd ?_|(refine zgf ?_ ?_<;>intro _<;>try exact zo)|fail)
   all_goals(
    apply Yi H
    ·exact zk
    apply Yd;exact rfl;exact rfl
    exact⟨⟨_,rfl,λh=>by first|(exact absurd h (by decide))|(rw[Tt]at h;exact⟨by omega,by omega,hz⟩)|exact⟨by omega,by omega,hz⟩⟩,rfl⟩))
theorem YpC{rs rs':List RowM}(h:rs.map (·.xs)=rs'.map (·.xs)):rs.length=rs'.length:=by simpa using TE List.length h
variable {B:Nat}{w0 w:World}{H:List HP}
theorem YgI(l m:List Int)(h:l=m)(hlen:l.length<=9223372036854775807){A A2:Option Addr}{cap cap2:Nat}(hr:Rd B w0 H A (l.flatMap numF))(hr2:Rd B w0 H A2 (m.flatMap numF))(hw:St B w0 H w):
 CX B w0 89 [.slice A l.length cap,.slice A2 m.length cap2] w λu K=>u=.bool true/\K=H:=by
 refine Yc Tryz.func89 Tryz.ntmps89 rfl rfl hw ?_
 subst h
 refine zX3 ?_<;>intros
 refine Yg (λ(k:Nat)=>[(5,.int .i64 k),(0,.slice A l.length cap),(1,.slice A2 l.length cap2)]) (λ_=>H) (λk=>k<=l.length) (λk=>l.length-k) 0 (Tm _) ?_ (λw hw=>hw) ?_
 ·exact zc1
 rintro k hk K hK
 by_cases hlt:k<l.length
 ·obtain⟨a,ha⟩:∃a,l[k]? =some a:=⟨_,Ta hlt⟩
  refine zX0 ?_<;>intros
  apply hK (k+1)
  ·omega
  ·omega
  ·exact zc1
  exact zc17
 ·refine zX1 ?_<;>intros
  exact zc11
theorem Ymg(n m:NetM)(h:n.net=m.net)(hin:n.In B w0 H)(hin2:m.In B w0 H)(hw:St B w0 H w):
 CX B w0 24 [n.val,m.val] w λu K=>u=.bool true/\K=H:=by
 refine Yc Tryz.func24 Tryz.ntmps24 rfl rfl hw ?_
 obtain⟨hpw,hrw,hlk,hmg,hs1,hs2,hs3,hs4⟩:=id hin
 obtain⟨hpw',hrw',hlk',hmg',hs1',hs2',hs3',hs4'⟩:=id hin2
 simp only[NetM.net,Net.mk.injEq]at h
 obtain⟨e1,e2,e3,e4,e5,e6⟩:=h
 have e7:=YpC e2
 have e8:n.links.length=m.links.length:=by rw[e5]
 have e9:n.margin.length=m.margin.length:=by rw[e6]
 (apply YY;apply Yx;apply Yr;exact rfl;exact rfl;intro g)
 apply Yr;exact rfl;exact rfl;intro g2
 refine zX1 ?_<;>intros
 refine Yg (λ(k:Nat)=>[(5,.int .i64 k),(2,.pointer (some ⟨g,0,none⟩)),(3,.pointer (some ⟨g2,0,none⟩))]) (λ_=>netB g2 m::netB g n::H) (λk=>k<=n.rows.length) (λk=>n.rows.length-k) 0 (Tm _) ?_ (λw hw=>hw) ?_
 ·exact zc1
 rintro k hk K hK
 by_cases hlt:k<n.rows.length
 ·obtain⟨a,ha⟩:∃a,n.rows[k]? =some a:=⟨_,Ta hlt⟩
  obtain⟨b,hb⟩:∃b,m.rows[k]? =some b:=⟨_,Ta (by omega)⟩
  have hab:a.xs=b.xs:=by
   have h1:(n.rows.map (·.xs))[k]? =some a.xs:=by simp[ha]
   have h2:(m.rows.map (·.xs))[k]? =some b.xs:=by simp[hb]
   rw[e2,h2]at h1
   exact(Tv h1).symm
  have ham:=Tc ha
  have hbm:=Tc hb
  repeat'(first|((first|apply Ya en89|apply Yb en89);exact za;exact rfl;exactλ_ hw=>(YgI a.xs b.xs hab (hs2 a ham) (hrw a ham).cons.cons (hrw' b hbm).cons.cons hw))|(apply zg28;refine zs84 ?_)|refine zgd ?_|(refine zge ?_ ?_<;>intro _<;>try exact zo)|fail)
  apply hK (k+1)
  ·omega
  ·omega
  ·exact zc1
  exact zc17
 clear hK
 refine zX1 ?_<;>intros
 refine Yg (λ(k:Nat)=>[(6,.int .i64 k),(2,.pointer (some ⟨g,0,none⟩)),(3,.pointer (some ⟨g2,0,none⟩))]) (λ_=>netB g2 m::netB g n::H) (λk=>k<=n.links.length) (λk=>n.links.length-k) 0 (Tm _) ?_ (λw hw=>hw) ?_
 ·exact zc1
 rintro k hk K hK
 by_cases hlt:k<n.links.length
 ·obtain⟨a,ha⟩:∃a,n.links[k]? =some a:=⟨_,Ta hlt⟩
  have hb:m.links[k]? =some a:=by rw[<-e5];exact ha
  repeat'(first|(apply Yg0 (xs:=lkF a) (ys:=lkF a);(iterate 3 exact rfl);kernel_rfl;kernel_rfl;(intro hne;exact absurd rfl hne);intro _)|refine zgd ?_|(refine zge ?_ ?_<;>intro _<;>try exact zo)|fail)
  apply hK (k+1)
  ·omega
  ·omega
  ·exact zc1
  exact zc17
 clear hK
 repeat'(first|((first|apply Ya en89|apply Yb en89);exact za;exact rfl;exactλ_ hw=>(YgI n.margin m.margin e6 hs4 hmg.cons.cons hmg'.cons.cons hw))|refine zgc ?_|(refine zge ?_ ?_<;>intro _<;>try exact zo)|fail)
 apply Yj;apply Yj;exact zc11
variable {B:Nat}{w0 w:World}{H:List HP}
theorem YhY(l:List Int)(hlen:l.length<=1000000000000){A A2:Option Addr}{cap cap2:Nat}(hr:Rd B w0 H A (l.flatMap numF))(hr2:Rd B w0 H A2 (l.flatMap numF))(hw:St B w0 H w):
 CX B w0 79 [.slice A l.length cap,.slice A2 l.length cap2] w λu K=>u=.bool true/\K=H:=by
 refine Yc Tryz.func79 Tryz.ntmps79 rfl rfl hw ?_
 refine zX3 ?_<;>intros
 refine Yg (λ(k:Nat)=>[(5,.int .i64 k),(0,.slice A l.length cap),(1,.slice A2 l.length cap2)]) (λ_=>H) (λk=>k<=l.length) (λk=>l.length-k) 0 (Tm _) ?_ (λw hw=>hw) ?_
 ·exact zc1
 rintro k hk K hK
 by_cases hlt:k<l.length
 ·obtain⟨a,ha⟩:∃a,l[k]? =some a:=⟨_,Ta hlt⟩
  refine zX0 ?_<;>intros
  apply hK (k+1)
  ·omega
  ·omega
  ·exact zc1
  exact zc17
 ·refine zX1 ?_<;>intros
  exact zc11
theorem Yks(p p2:PnM)(he:p.pln=p2.pln)(hp:p.In B w0 H)(hp2:p2.In B w0 H)(hw:St B w0 H w):
 CX B w0 18 [p.val,p2.val] w λu K=>u=.bool true/\K=H:=by
 refine Yc Tryz.func18 Tryz.ntmps18 rfl rfl hw ?_
 have hn:p.n.net=p2.n.net:=TE Pln.n he
 have hq:p.q.map RqM.rq=p2.q.map RqM.rq:=TE Pln.q he
 have hs:p.s.sch=p2.s.sch:=TE Pln.s he
 have hc:p.c.map ClM.clm=p2.c.map ClM.clm:=TE Pln.c he
 have hf:p.f=p2.f:=TE Pln.f he
 have p1:=λ{H':List HP}{w:World}(hp:p.In B w0 H') (hp2:p2.In B w0 H') (hw:St B w0 H' w)=>Ymg p.n p2.n hn hp.n hp2.n hw
 have p2':=λ{H':List HP}{w:World}(hp:p.In B w0 H') (hp2:p2.In B w0 H') (hw:St B w0 H' w)=>Ya1 p.q p2.q hq (cap:=p.qcap) (cap2:=p2.qcap) hp.q hp2.q hw
 have p3:=λ{H':List HP}{w:World}(hp:p.In B w0 H') (hp2:p2.In B w0 H') (hw:St B w0 H' w)=>Ymd p.s p2.s hp.sl hp2.sl hp.s hp2.s hw
 have hs2:p.s.len=p2.s.len/\p.s.off=p2.s.off/\p.s.cells=p2.s.cells:=⟨TE Sch.len hs,TE Sch.off hs,TE Sch.cells hs⟩
 rw[Td hs2]at p3
 have p4:=λ{H':List HP}{w:World}(hp:p.In B w0 H') (hp2:p2.In B w0 H') (hw:St B w0 H' w)=>Yew p.c p2.c (cap:=p.ccap) (cap2:=p2.ccap) hp.c hp2.c hw
 rw[Td hc]at p4
 have p5:∀{H':List HP}{w:World},p.In B w0 H'->p2.In B w0 H'->St B w0 H' w->CX B w0 79 [.slice p.fA p.f.length p.fcap,.slice p2.fA p2.f.length p2.fcap] w λu K=>u=.bool true/\K=H':=λhp hp2 hw=>by
  have h2:=hp2.f
  rw[<-hf]at h2⊢
  exact YhY p.f hp.fl (cap:=p.fcap) (cap2:=p2.fcap) hp.f h2 hw
 unfold PnM.val
 unfold NetM.val at p1
 unfold SchM.val at p3
 (apply YY;apply Yx;apply Yr;exact rfl;exact rfl;intro g)
 apply Yr;exact rfl;exact rfl;intro g2
 repeat'(first|(apply Yk T;exact rfl;exact zm;exact rfl;exact zv;exact rfl;exact rfl)|((first|apply Ya en24|apply Yb en24);exact za;exact rfl;exactλ_ hw=>(p1 hp.cons.cons hp2.cons.cons hw))|((first|apply Ya en15|apply Yb en15);exact za;exact rfl;exactλ_ hw=>(p2' hp.cons.cons hp2.cons.cons hw))|((first|apply Ya en78|apply Yb en78);exact za;exact rfl;exactλ_ hw=>(p3 hp.cons.cons hp2.cons.cons hw))|((first|apply Ya en44|apply Yb en44);exact za;exact rfl;exactλ_ hw=>(p4 hp.cons.cons hp2.cons.cons hw))|((first|apply Ya en79|apply Yb en79);exact za;exact rfl;exactλ_ hw=>(p5 hp.cons.cons hp2.cons.cons hw))|refine zgc ?_|fail)
 apply Yj;apply Yj;exact zc4
def FewP(p:PnM):Prop:=FewQ p.q p.s/\FewC p.c/\p.f.length<=600/\(p.s.len<=24\/512<p.s.len)
variable {B:Nat}{w0:World}{H:List HP}
theorem PnM.Bg.small{p:PnM}(h:p.Bg B w0 H)(hf:FewP p):p.In B w0 H:=
 ⟨h.n,h.q.small hf.1,h.s,by have:=hf.1.2.1;omega,h.c.small hf.2.1,h.f,by have:=hf.2.2.1;omega⟩
theorem Ylo(p:PnM){w:World}(hp:p.Bg B w0 H)(hw:St B w0 H w):
 CX B w0 26 [p.val] w λv K=>(∃b,v=.bool b/\(b=true->FewP p))/\K=H:=by
 refine Yc Tryz.func26 Tryz.ntmps26 rfl rfl hw ?_
 have p1:=λ{H':List HP}{w:World}(hin:p.n.In B w0 H') (hq:QBg B w0 H' p.qA p.q) (hw:St B w0 H' w)=>Yln p.n p.q p.s (cap:=p.qcap) hin hq hp.sl hw
 have p2:=λ{H':List HP}{w:World}(hc:CBg B w0 H' p.cA p.c) (hw:St B w0 H' w)=>YdG p.c (cap:=p.ccap) hc hw
 have hfl:=hp.fl
 have hs1:=hp.n.s1
 unfold PnM.val
 unfold NetM.val SchM.val at p1
 (apply YY;apply Yx;apply Yr;exact rfl;exact rfl;intro g)
 repeat'(first|(apply Yk T;exact rfl;exact zm;exact rfl;exact zv;exact rfl;exact rfl)|refine zgd ?_|(refine zgf ?_ ?_<;>intro _<;>try exact zo)|fail)
 rotate_left
 ·apply Yj;exact zc11
 apply Ye _ en93
 exact za
 exact rfl
 exactλ_ hw=>(p1 (hp.n.mono zc0) (hp.q.mono zc0) (hw))
 rintro _ _ ⟨⟨b,rfl,hb⟩,hK⟩
 rw[hK]
 cases b with
 |false=>
  refine J5 ?_
  apply Yj;exact zc11
 |true=>
 refine YnX ?_
 apply Ye _ en94
 exact za
 exact rfl
 exactλ_ hw=>(p2 (hp.c.mono5 zc0) (hw))
 rintro _ _ ⟨⟨b2,rfl,hb2⟩,hK2⟩
 rw[hK2]
 cases b2 with
 |false=>
  refine J5 ?_
  apply Yj;exact zc62
 |true=>
 repeat'(first|(apply Yk T;exact rfl;exact zm;exact rfl;exact zv;exact rfl;exact rfl)|refine zgd ?_|(refine zgf ?_ ?_<;>intro _<;>try exact zo)|fail)
 all_goals(
  apply Yj
  apply Yd;exact rfl;exact rfl
  exact⟨⟨_,rfl,λh=>by first|(exact absurd h (by decide))|exact⟨hb rfl,hb2 rfl,by omega,by omega⟩⟩,rfl⟩)
variable {B:Nat}{w0 w:World}{H:List HP}
theorem YrV(p:PnM)(c:Cel)(id:Int)(g gi:Nat)(hg:plnA g p.n p.qA p.qcap p.q p.s p.cA p.ccap p.c p.fA p.fcap p.f∈H)(hgi:intA gi id∈H)(hs:Rd B w0 H p.s.A (p.s.cells.flatMap celF))(hsl:p.s.cells.length<=1000000000000)(hw:St B w0 H w):
 CX B w0 33 [celV c,.pointer (some ⟨g,0,none⟩),.pointer (some ⟨gi,0,none⟩)] w λv K=>v=.bool (decide (c∈p.s.cells)!=decide (Xf c≠id))/\K=H:=by
 refine Yc Tryz.func33 Tryz.ntmps33 rfl rfl hw ?_
 unfold celV
 have p1:=λ{H':List HP}{w:World}(hs:Rd B w0 H' p.s.A (p.s.cells.flatMap celF)) (hw:St B w0 H' w)=>Yfi p.s.cells c hsl (cap:=p.s.cap) hs hw
 unfold celV at p1
 obtain⟨b,hb⟩:∃b,decide (c∈p.s.cells)=b:=⟨_,rfl⟩
 rw[hb]at p1⊢
 by_cases hid:Xf c=id
 ·rw[Ti (λh=>h hid)]
  have hid2:c.2.2.2.2=id:=hid
  exact zc15
 ·rw[Td hid]
  have hid2:¬c.2.2.2.2=id:=hid
  exact zc15
theorem YwA(p:PnM)(f:Flw)(id:Int)(ht:TabsB B w0)(hp:p.Bg B w0 H)(hw:St B w0 H w):
 CX B w0 7 [p.val,flwV f,.int .i64 id] w λv K=>v=.bool true/\K=H:=by
 refine Yc Tryz.func7 Tryz.ntmps7 rfl rfl hw ?_
 have p0:=λ{H':List HP}{w:World}(hp:p.Bg B w0 H') (hw:St B w0 H' w)=>Ylo p hp hw
 have hop:∀w,St B w0 [many H] w->St B w0 H w:=λw hw=>hw.perm (.openT H)
 have hbM:∀{H':List HP},many H∈H'->p.Bg B w0 H':=λhm=>hp.mono λw hw=>hw.inM hm
 unfold PnM.val flwV
 unfold PnM.val at p0
 refine ZW [many H] (λw hw=>hw.perm (.closeT H)) ?_
 repeat'(first|(apply zg23;first|(refine zs52 ?_;intro _)|(refine zs53 ?_;intro _))|refine zga ?_|fail)
 rename_i g3 g4 g5
 first|apply Ya en11|apply Yb en11
 exact za
 exact rfl
 exactλ_ hw=>(Yct ht hw)
 refine zX2 ?_
 apply Ye _ en26
 exact za
 exact rfl
 exactλ_ hw=>(p0 (hbM (by simp_all)) (hw))
 rintro _ _ ⟨⟨b,rfl,hfew⟩,hK0⟩
 rw[hK0]
 cases b with
 |false=>
  refine zX2 ?_
  apply Yi H
  ·intro w hw
   have h5:St B w0 [many H] w:=by
    revert w
    exact zc0
   simp_all
  exact zc11
 |true=>
 have hfew:=hfew rfl
 have hpM:∀{H':List HP},many H∈H'->p.In B w0 H':=λhm=>(hbM hm).small hfew
 have p1:=λ{H':List HP}{w:World}(hp:p.In B w0 H') (hw:St B w0 H' w)=>Je p ht hp hw
 unfold PnM.val at p1
 by_cases hk:chkP p.pln=0
 rotate_left
 ·skip
  repeat'(first|((first|apply Ya en21|apply Yb en21);exact za;exact rfl;exactλ_ hw=>(p1 (hpM zm) hw))|refine zgd ?_|(refine zge ?_ ?_<;>intro _<;>try exact zo)|fail)
  apply Yi H
  ·intro w hw
   have h5:St B w0 [many H] w:=by
    revert w
    exact zc0
   exact hop w h5
  exact zc4
 rw[hk]at p1
 refine zX2 ?_
 first|apply Ya en21|apply Yb en21
 exact za
 exact rfl
 exactλ_ hw=>(p1 (hpM (by(focus exact zc2))) hw)
 iterate 9 (first|refine zgc ?_|(refine zge ?_ ?_<;>intro _<;>try exact zo)|fail)
 have hok:=Yla hk
 have h24:p.s.len<=24\/chkP p.pln≠0:=by
  rcases hfew.2.2.2 with h|h
  ·exact .inl h
  ·have h1:p.s.len<=512:=(Rj (Uy (XT.1 (XC.1 hok.cert).1).whole).2.2.1).2.1
   omega
 have hext:=Yre (f:=f) hk
 have p2:=λ{H':List HP}{w:World}(hp:p.In B w0 H') (hw:St B w0 H' w)=>Yfl p f h24 ht hp hw
 obtain⟨⟨E1,E2⟩,hE⟩:∃R,extP p.pln f=R:=⟨_,rfl⟩
 rw[hE]at p2 hext
 unfold Yah PnM.val flwV at p2
 dsimp only at p2 hext
 refine Zf (λ_:Unit=>[(3,.pointer (some ⟨g3,0,none⟩)),(5,.pointer (some ⟨g5,0,none⟩)),(6,.bool false)]) (λ_=>[plnA g3 p.n p.qA p.qcap p.q p.s p.cA p.ccap p.c p.fA p.fcap p.f,intA g5 id,many H]) ?_ ?_
 ·intro K hK
  refine zX8 ?_
  apply Ye _ en27
  exact za
  exact rfl
  exactλ_ hw=>(p2 (hpM (by(focus exact zc2))) (hw))
  rintro _ K1 (⟨h,rfl,rfl⟩|⟨q,X,hq,rfl,hqin,rfl⟩)
  ·have hE2:E2≠0:=by
    rcases hext with⟨-,h⟩|⟨q,h1,-⟩
    ·exact h
    ·rw[h]at h1;cases h1
   unfold zeroPnV
   refine O8 ?_<;>intros
   apply hK ()
   ·exact zc1
   ·exact zc0
  obtain⟨hE2,hqok,hql,hqw⟩:E2=0/\PlnOk q.pln/\q.pln.q.length=p.pln.q.length+1/\wdrP q.pln f.1=(some p.pln,0):=by
   rcases hext with⟨h,-⟩|⟨q',h1,h2,h3,h4⟩
   ·rw[hq]at h;cases h
   ·obtain rfl:q.pln=q':=by rw[hq]at h1;exact Tv (TE Prod.fst h1)
    exact⟨TE Prod.snd h1,h2,h3,h4⟩
  subst hE2
  have hqn:q.q.length=p.q.length+1:=by
   have h1:(q.q.map RqM.rq).length=(p.q.map RqM.rq).length+1:=hql
   rwa [TB,TB]at h1
  have hpl:=hfew.1.1
  have p3:∀{H':List HP}{w:World},q.In B w0 H'->St B w0 H' w->CX B w0 29 [q.val,.int .i64 f.1] w (Yah B w0 H' (some p.pln,0)):=λhqin hw=>by
   have h:=VM q f.1 ht hqin hw
   rwa [hqw]at h
  have p4:∀{H':List HP}{w:World},q.In B w0 H'->St B w0 H' w->CX B w0 21 [q.val] w λv K=>v=.int .i64 0/\K=H':=λhqin hw=>by
   exact Yv5
  unfold Yah PnM.val at p3
  unfold PnM.val at p4
  dsimp only at p3
  refine O8 ?_<;>intros
  apply Ye _ en29
  exact za
  exact rfl
  exactλ_ hw=>(p3 (hqin.mono zc0) (hw))
  rintro _ K2 (⟨h,-⟩|⟨back,X2,hbk,rfl,hbin,rfl⟩)
  ·cases h
  have p5:=λ{H':List HP}{w:World}(h1:back.In B w0 H') (h2:p.In B w0 H') (hw:St B w0 H' w)=>Yks back p (Tv hbk).symm h1 h2 hw
  unfold PnM.val at p5
  refine zX72 ?_<;>intros
  first|apply Ya en21|apply Yb en21
  exact za
  exact rfl
  exactλ_ hw=>(p4 (hqin.mono zc0) hw)
  refine zX1 ?_<;>intros
  first|apply Ya en18|apply Yb en18
  exact za
  exact rfl
  exactλ_ hw=>(p5 (hbin.mono zc0) (hpM (by(focus exact zc2))) hw)
  refine zX0 ?_<;>intros
  apply hK ()
  ·exact zc1
  ·exact zc0
 rintro⟨⟩
 clear hext p2 hE
 have hwd:=YgS hk id
 have p3:=λ{H':List HP}{w:World}(hp:p.In B w0 H') (hw:St B w0 H' w)=>VM p id ht hp hw
 obtain⟨⟨W1,W2⟩,hW⟩:∃R,wdrP p.pln id=R:=⟨_,rfl⟩
 rw[hW]at p3 hwd
 unfold Yah PnM.val at p3
 dsimp only at p3
 rcases hwd with⟨hno,h7⟩|⟨i,x,q',-,-,h7,hqok,hq',-⟩
 ·obtain⟨rfl,rfl⟩:W1=none/\W2=7:=⟨TE Prod.fst h7,TE Prod.snd h7⟩
  have hfd:Z1 (RqM.fl p.q) id= -1:=by
   rcases Ylx (λf:Flw=>decide (f.1=id)) (RqM.fl p.q) 0 (by omega)with h|h
   ·exact h
   ·exfalso
    obtain⟨g,hg,e⟩:=ZF.1 (show 0<=Z1 (RqM.fl p.q) id from h.1)
    obtain⟨y,hy,rfl⟩:=TC.1 hg
    exact hno y.rq (Sr hy) e
  have p4:=λ{H':List HP}{w:World}(hp:p.In B w0 H') (hw:St B w0 H' w)=>Yki p.q (cap:=p.qcap) (by have:=hfew.1.1;omega) hp.q.rd hw
  have p5:=λ{A2:Option Addr}{cap2:Nat}{H':List HP}{w:World}(h1:Rd B w0 H' A2 ((RqM.fl p.q).flatMap flwF)) (hw:St B w0 H' w)=>YdI (RqM.fl p.q) id (cap:=cap2) (by have:=hfew.1.1;exact YsM) h1 hw
  rw[hfd]at p5
  refine zX8 ?_
  apply Ye _ en29
  exact za
  exact rfl
  exactλ_ hw=>(p3 (hpM (by(focus exact zc2))) (hw))
  rintro _ K2 (⟨-,rfl,rfl⟩|⟨q,X,h,-⟩)
  rotate_left
  ·cases h
  unfold zeroPnV
  refine O8 ?_<;>intros
  apply YX [0,1,2,3,4,6,5,7,8,9,10] [] [true,true,true,true]
  kernel_rfl
  kernel_rfl
  exact zy
  (simp only[Yh,nthO];rfl)
  exact rfl
  refine zX0 ?_<;>intros
  apply Ye _ en23
  exact za
  exact rfl
  exactλ_ hw=>(p4 (hpM (by(focus exact zc2))) (hw))
  rintro _ _ ⟨A2,cap2,rfl,rfl⟩
  repeat'(first|((first|apply Ya en31|apply Yb en31);exact za;exact rfl;exactλ_ hw=>(p5 (Rd.sl zm) hw))|(apply Yl;try exact zl)|refine zgd ?_|(refine zge ?_ ?_<;>intro _<;>try exact zo)|fail)
  apply Yi H
  ·intro w hw
   have h5:St B w0 [many H] w:=by
    revert w
    exact zc0
   exact hop w h5
  exact zc4
 obtain⟨rfl,rfl⟩:W1=some q'/\W2=0:=⟨TE Prod.fst h7,TE Prod.snd h7⟩
 refine zX8 ?_
 apply Ye _ en29
 exact za
 exact rfl
 exactλ_ hw=>(p3 (hpM (by(focus exact zc2))) (hw))
 rintro _ K2 (⟨h,-⟩|⟨q,X,hqe,rfl,hqin,rfl⟩)
 ·cases h
 obtain rfl:q'=q.pln:=Tv hqe
 have hcs:q.s.cells=(OE p.s.sch id).cells:=TE (λz:Pln=>z.s.cells) hq'
 have hany:p.s.cells.any (λc=>decide (c∈q.s.cells)!=decide (Xf c≠id))=false:=by
  rw[RD]
  intro c hc
  have h1:(c∈q.s.cells)↔Xf c≠id:=by
   rw[hcs]
   unfold OE
   rw[Re,Tt]
   exact⟨λh=>h.2,λh=>⟨hc,h⟩⟩
  by_cases h2:Xf c=id
  ·rw[Ti (λh=>h1.1 h h2),Ti (λh=>h h2)];decide
  ·rw[Td (h1.2 h2),Td h2];decide
 have p4:∀{H':List HP}{w:World},q.In B w0 H'->St B w0 H' w->CX B w0 21 [q.val] w λv K=>v=.int .i64 0/\K=H':=λhqin hw=>by
  exact Yv5
 unfold PnM.val at p4
 have p5:=λ(g:Nat) {H':List HP}{w:World}(hp:p.In B w0 H') (hg:plnA g q.n q.qA q.qcap q.q q.s q.cA q.ccap q.c q.fA q.fcap q.f∈H') (hgi:intA g5 id∈H') (hq:q.In B w0 H') (hw:St B w0 H' w)=>Uj (λc=>decide (c∈q.s.cells)!=decide (Xf c≠id)) p.s.cells 33 [.pointer (some ⟨g,0,none⟩),.pointer (some ⟨g5,0,none⟩)] en33 (by have:=hfew.1.2.1;omega) (cap:=p.s.cap) hp.s (λc _ w hw=>YrV q c id g g5 hg hgi hq.s hq.sl hw) hw
 rw[hany]at p5
 refine O8 ?_<;>intros
 rename_i g11 _
 first|apply Ya en21|apply Yb en21
 exact za
 exact rfl
 exactλ_ hw=>(p4 (hqin.mono zc0) hw)
 repeat'(first|(apply Yk T;exact rfl;exact zm;exact rfl;exact zv;exact rfl;exact rfl)|(apply zg29;(apply Yw;exact za;exact rfl))|refine zgc ?_|(refine zge ?_ ?_<;>intro _<;>try exact zo)|fail)
 first|apply Ya en32|apply Yb en32
 exact za
 exact rfl
 exactλ_ hw=>(p5 g11 (hpM (by(focus exact zc2))) (by(focus exact zc2)) (by(focus exact zc2)) (hqin.mono zc0) hw)
 refine zX2 ?_
 apply Yi H
 ·intro w hw
  have h5:St B w0 [many H] w:=by
   revert w
   exact zc0
  exact hop w h5
 exact zc4
end Go.Proofs.YtaholidehobiiaaGreatDoor
