/- Lemmas. -/
import Derived.Test.YtambgjgljcadlaaGreatDoorQ19
set_option maxRecDepth 100000
set_option maxHeartbeats 8000000
set_option linter.all false
namespace Go.Proofs.YtambgjgljcadlaaGreatDoor
open Go.RowKit Go.Eng Go.Nw Go.Rt
structure RwsM where
 i:Nat
 R:List RowM
structure RqsM where
 i:Nat
 Q:List RqM
variable {i:Nat}
theorem Ymb{l:List RowM}{r:RowM}{A:Option Addr}{cap:Nat}(h:l[i]? =some r):(l.set i ⟨A,cap,r.xs⟩).map (·.xs)=l.map (·.xs):=by
 apply Su
 grind
variable {α:Type}
theorem take_set{l:List α}{a:α}(h:i<l.length):(l.set i a).take (i+1)=l.take i++[a]:=by
 simp_all [List.take_add_one,List.take_set_of_le]
theorem Ycr{l m:List α}{a:α}(h:l.drop i=m.drop i):(l.set i a).drop (i+1)=m.drop (i+1):=by
 rw[List.drop_set_of_lt (by omega),<-NB,<-NB,h]
theorem YfW{l m:List α}{a:α}(h:l.drop i=m.drop i)(hm:m[i]? =some a):l[i]? =some a:=by
 have e1:(l.drop i)[0]? =(m.drop i)[0]? :=by rw[h]
 grind
theorem Un(b:BuM)(g:Nat){B:Nat}{w0:World}{H:List HP}{w:World}(ht:TabsB B w0)(hin:b.n.In B w0 H)(hq:QIn B w0 H b.qA b.q)(hrs:Rd B w0 H b.s.A (b.s.cells.flatMap celF))(hsl:b.s.cells.length<=1000000000000)(hw:St B w0 (bldA g b::H) w):
 CX B w0 82 [.pointer (some ⟨g,0,none⟩)] w (Yvy B w0 H b.s (finE b.n.net (b.q.map RqM.rq) b.s.sch b.e)):=by
 refine Ya Tryz.func82 Tryz.ntmps82 rfl rfl hw ?_
 obtain⟨n,qA,qcap,q,s,cA,ccap,c,fA,fcap,f,e⟩:=b
 dsimp only at hin hq hrs hsl⊢
 have hop:∀w,St B w0 [many H] w->St B w0 H w:=λw hw=>hw.perm (.openT H)
 have hin0:=hin
 have hq0:=hq
 have hin:=hin.mono hop
 have hq:=hq.mono hop
 have hrs:=hrs.mono hop
 have p1:=λ{H':List HP}{w:World}(hin:n.In B w0 H') (hq:QIn B w0 H' qA q) (hrs:Rd B w0 H' s.A (s.cells.flatMap celF)) (hw:St B w0 H' w)=>UG n q s (cap:=qcap) ht hin hq hrs hsl hw
 have p2:=λ{H':List HP}{w:World}(hrs:Rd B w0 H' s.A (s.cells.flatMap celF)) (hw:St B w0 H' w)=>Yeg s ht hrs hsl hw
 unfold OutC NetM.val SchM.val at p1
 unfold SchM.val at p2
 refine XM (bldA g ⟨n,qA,qcap,q,s,cA,ccap,c,fA,fcap,f,e⟩::[many H]) (λw hw=>hw.perm (.cons _ (.closeT H))) ?_
 dsimp only[bldA]
 unfold finE Yf9
 by_cases he:e=0
 rotate_left
 ·rw[Tj he,Tj he]
  refine Q5 ?_<;>intros
  apply YD [0,1,2,3,4,5,6] [] [false,true,true]
  kernel_rfl
  kernel_rfl
  exact zy
  (simp only[Yd,nthO];rfl)
  exact rfl
  refine Yjk ?_
  apply Yw T (H2:=H);(iterate 3 exact rfl);(focus exact zc2);exact rfl;exact rfl
  ·intro w hw
   have h5:St B w0 [many H] w:=by
    revert w
    exact zc0
   exact hop w h5
  exact .inl ⟨rfl,rfl,rfl⟩
 subst he
 rw[Tf (show¬(0:Int)≠0 fromλe=>e rfl)]
 obtain⟨⟨RC,ri,re⟩,hR⟩:∃R,YS n.net (q.map RqM.rq) s.sch=R:=⟨_,rfl⟩
 obtain⟨⟨RF,fe⟩,hRF⟩:∃R,Jm s.sch=R:=⟨_,rfl⟩
 rw[hR]at p1⊢
 rw[hRF]at p2⊢
 dsimp only at p1 p2⊢
 have p3:=λ(b:BuM) (e:Int) {H':List HP}{w:World}(hw:St B w0 (bldA g b::H') w)=>Ub b g e hw
 unfold BuM.fail at p3
 refine Q5 ?_<;>intros
 rename_i g2 _
 apply Us [0,1,2,3,4,5,6,7,8,9,10,11,12,13,14,15,16,17,19,20,18,21,22,23] [0,19,20,24,25] [24,25] [true,true,true]
 kernel_rfl
 kernel_rfl
 exact zy
 (simp only[Yd,nthO];rfl)
 (simp only[Yd,nthO];rfl)
 refine Um ?_
 apply Ye _ en38
 exact za
 exact rfl
 exactλ_ hw=>(p1 (hin.mono zc0) (hq.mono zc0) (hrs.mono zc0) (hw))
 rintro _ _ ⟨A2,c2,C,rfl,hC,hCl,rfl⟩
 refine Yjk ?_
 apply Xt [bldA g ⟨n,qA,qcap,q,s,A2,c2,C,fA,fcap,f,0⟩] _ en80
 exact za
 try exact zl
 exact zp
 exact rfl
 exactλ_ hw=>(p3 ⟨n,qA,qcap,q,s,A2,c2,C,fA,fcap,f,0⟩ re hw)
 rintro _ _ ⟨rfl,rfl⟩
 rw[show Xx (BuM.e ⟨n,qA,qcap,q,s,A2,c2,C,fA,fcap,f,0⟩) re=re from Tj rfl]
 dsimp only[bldA]
 refine Um ?_
 apply Ye _ en40
 exact za
 exact rfl
 exactλ_ hw=>(p2 (hrs.mono zc0) (hw))
 rintro _ _ ⟨A3,rfl,rfl⟩
 refine Um ?_
 apply Xt [bldA g ⟨n,qA,qcap,q,s,A2,c2,C,A3,RF.length,RF,re⟩] _ en80
 exact za
 try exact zl
 exact zp
 exact rfl
 exactλ_ hw=>(p3 ⟨n,qA,qcap,q,s,A2,c2,C,A3,RF.length,RF,re⟩ fe hw)
 rintro _ _ ⟨rfl,rfl⟩
 obtain⟨fin,hfin⟩:∃fin,Xx re fe=fin:=⟨_,rfl⟩
 dsimp only[bldA]
 rw[hfin]
 by_cases hE:fin=0
 rotate_left
 ·rw[Tj hE]
  refine zX67 ?_<;>intros
  apply YD [0,1,2,3,4,5,6] [] [true]
  kernel_rfl
  kernel_rfl
  exact zy
  (simp only[Yd,nthO];rfl)
  exact rfl
  refine Yjk ?_
  apply Yw T (H2:=H);(iterate 3 exact rfl);(focus exact zc2);exact rfl;exact rfl
  ·intro w hw
   have h5:St B w0 [many H] w:=by
    revert w
    exact zc0
   exact hop w h5
  exact .inl ⟨rfl,rfl,rfl⟩
 subst hE
 rw[Tf (show¬(0:Int)≠0 fromλe=>e rfl)]
 have hre:re=0/\fe=0:=by
  unfold Xx at hfin
  split at hfin
  ·exact⟨by assumption,hfin⟩
  ·exact absurd hfin (by assumption)
 obtain⟨rfl,rfl⟩:=hre
 have hce:(YS n.net (q.map RqM.rq) s.sch).2.2=0:=by rw[hR]
 have hrq:(rqsE n.net (q.map RqM.rq)).2=0:=RE.1 λh1=>by
  unfold YS at hce;rw[Tj h1]at hce;exact h1 hce
 obtain⟨hck,-,hrt⟩:=Uq hrq
 have hql:q.length<=16:=(YkJ hrq).1
 have hok:=YM hck
 have hrowl:n.rows.length<=32:=by
  have h1:=hok.p0;have h2:=hok.n1
  have h3:n.net.power.length=n.rows.length:=by simp[NetM.net]
  omega
 have hrow1:∀r∈n.rows,r.xs.length<=32:=λr hr=>by
  have h1:=hok.p1 r.xs (by show r.xs∈n.rows.map (·.xs);exact TE.2 ⟨r,hr,rfl⟩)
  have h2:=hok.n1
  omega
 have hlk:n.links.length<=128:=hok.k0
 have hmg:n.margin.length<=128:=by
  have h1:n.margin.length=n.links.length:=hok.k1
  omega
 have hqx:∀x∈q,x.rows.length<=2/\∀r∈x.rows,r.xs.length<=9:=λx hx=>by
  have h1:=hrt x.rq (TE.2 ⟨x,hx,rfl⟩)
  refine⟨?_,λr hr=>?_⟩
  ·have h2:=QT h1
   have h4:x.rq.2.length=x.rows.length:=Tv _
   omega
  ·exact(Zp (JL h1 r.xs (TE.2 ⟨r,hr,rfl⟩))).2.1.2
 have hCn:C.length<=1000000000000:=by
  have h1:=TC List.length hC
  have h2:=TC (λz=>z.1.length) hR
  dsimp only at h1 h2
  rw[YrH hce]at h2
  simp only[Tv]at h1 h2
  omega
 have hFn:RF.length<=1000000000000:=by
  have h2:=TC (λz=>z.1.length) hRF
  dsimp only at h2
  unfold Jm at h2
  split at h2
  ·simp only[Rj]at h2;omega
  ·unfold VJ at h2
   rw[UH,Rm]at h2
   have h3:=(Vo.1 (ZW.1 (Zo.1 hce).1)).frm.sized
   exact Yuu
 refine zX67 ?_<;>intros
 clear p1 p2 p3
 have hinM:∀{H':List HP},many H∈H'->n.In B w0 H':=λhm=>hin0.mono λw hw=>hw.inM hm
 have hqM:∀{H':List HP},many H∈H'->QIn B w0 H' qA q:=λhm=>hq0.mono λw hw=>hw.inM hm
 apply Us [1,0,2,3,4,5,6,7,9,10,11,12,13,14,8,15,16,17,18,19] [1,20,21,22,23,24,25] [20,21,22,23,24,25] [true,true,true,true,true,true]
 kernel_rfl
 kernel_rfl
 exact zy
 (simp only[Yd,nthO];rfl)
 (simp only[Yd,nthO];rfl)
 refine Um ?_
 apply Ye _ YvT
 exact za
 exact rfl
 exactλ_ hw=>(Ycf n.links (by omega) (hinM (by(focus exact zc2))).lk (hw))
 rintro _ _ ⟨lA,lcap,rfl,rfl⟩
 refine Yjk ?_
 apply Ye _ YsT
 exact za
 exact rfl
 exactλ_ hw=>(Wq n.margin (by omega) (hinM (by(focus exact zc2))).mg (hw))
 rintro _ _ ⟨mA,mcap,rfl,rfl⟩
 refine Yjk ?_
 apply Ye _ YvU
 exact za
 exact rfl
 exactλ_ hw=>(Ybo n.rows (by omega) (hinM (by(focus exact zc2))).pw (hw))
 rintro _ _ ⟨pA,pcap,rfl,rfl⟩
 refine Um ?_
 refine Yh (λz:RwsM=>[(112,.int .i64 (z.i:Nat)),(111,.int .i64 n.rows.length),(110,.slice pA n.rows.length pcap),(0,.pointer (some ⟨g,0,none⟩)),(2,.pointer (some ⟨g2,0,none⟩)),(3,.int .i64 0)])
  (λz=>sl 24 1 pA n.rows.length pcap (z.R.flatMap rowF)::many ((z.R.take z.i).map rowQ)::blk g (.cells #[.int .i64 n.nodes,.slice pA n.rows.length pcap,.int .i64 n.noise,.int .i64 n.thr,.slice lA n.links.length lcap,.slice mA n.margin.length mcap,.slice qA q.length qcap,.int .i64 s.len,.int .i64 s.off,.slice s.A s.cells.length s.cap,.slice A2 C.length c2,.slice A3 RF.length RF.length,.int .i64 0] 164 (0,0))::sl 124 3 lA n.links.length lcap (n.links.flatMap lkF)::ints mA mcap n.margin::blk g2 (.cells zeroPnV.cells 35 (0,0))::nrs A3 RF.length RF::clsP A2 c2 C::many (C.map clQ)::[many H])
  (λz=>z.i<=n.rows.length/\z.R.length=n.rows.length/\z.R.map (·.xs)=n.rows.map (·.xs)/\z.R.drop z.i=n.rows.drop z.i) (λz=>n.rows.length-z.i) ⟨0,n.rows⟩ ⟨Tm _,rfl,rfl,rfl⟩ ?_ ?_ ?_
 ·exact zc1
 ·intro w hw
  have h5:St B w0 (sl 24 1 pA n.rows.length pcap (n.rows.flatMap rowF)::blk g (.cells #[.int .i64 n.nodes,.slice pA n.rows.length pcap,.int .i64 n.noise,.int .i64 n.thr,.slice lA n.links.length lcap,.slice mA n.margin.length mcap,.slice qA q.length qcap,.int .i64 s.len,.int .i64 s.off,.slice s.A s.cells.length s.cap,.slice A2 C.length c2,.slice A3 RF.length RF.length,.int .i64 0] 164 (0,0))::sl 124 3 lA n.links.length lcap (n.links.flatMap lkF)::ints mA mcap n.margin::blk g2 (.cells zeroPnV.cells 35 (0,0))::nrs A3 RF.length RF::clsP A2 c2 C::many (C.map clQ)::[many H]) w:=by
   dsimp only[zeroPnV]
   revert w
   exact zc0
  exact YqZ
 rintro⟨i,R⟩ ⟨hi,hRl,hRm,hRd⟩ K hK
 dsimp only at hi hRl hRm hRd⊢
 by_cases hlt:i<n.rows.length
 ·obtain⟨r,hr⟩:∃r,n.rows[i]? =some r:=⟨_,Ta hlt⟩
  have hrm:=Tc hr
  have hRi:=YfW hRd hr
  have hr32:=hrow1 r hrm
  refine zX67 ?_<;>intros
  apply YD [0,1,2,3,4,5,6,7,8,9] [10] [true,true,true]
  kernel_rfl
  kernel_rfl
  exact zy
  (simp only[Yd,nthO];rfl)
  (simp only[Yd,nthO];rfl)
  refine Um ?_
  apply Ye _ YsT
  exact za
  exact rfl
  exactλ_ hw=>(Wq r.xs (by omega) ((hinM (by(focus exact zc2))).rw_ r hrm) (hw))
  rintro _ _ ⟨A',cap',rfl,rfl⟩
  repeat'(first|(apply Yk T;exact rfl;exact zm;exact rfl;exact zv;exact rfl;exact rfl)|(apply Xu T (f:=rowF) (l:=R) (i:=i) (a:=⟨A',cap',r.xs⟩) (e:=24) (k:=n.rows.length) (cap:=pcap);(iterate 3 exact rfl);exact zd;exact rfl;exact(λ_=>rfl);exact rfl;omega)|(apply Yj;try exact zl)|refine zgd ?_|fail)
  apply hK ⟨i+1,R.set i ⟨A',cap',r.xs⟩⟩
  ·exact⟨by exact zc71,by show(R.set i _).length=_;rw[TT,hRl],by show(R.set i _).map _=_;rw[Ymb hRi,hRm],Ycr hRd⟩
  ·exact zc36
  ·exact zc1
  ·intro w hw
   dsimp only
   rw[take_set (by omega)]
   have h5:St B w0 (ints A' cap' r.xs::many ((R.take i).map rowQ)::sl 24 1 pA n.rows.length pcap ((R.set i ⟨A',cap',r.xs⟩).flatMap rowF)::blk g (.cells #[.int .i64 n.nodes,.slice pA n.rows.length pcap,.int .i64 n.noise,.int .i64 n.thr,.slice lA n.links.length lcap,.slice mA n.margin.length mcap,.slice qA q.length qcap,.int .i64 s.len,.int .i64 s.off,.slice s.A s.cells.length s.cap,.slice A2 C.length c2,.slice A3 RF.length RF.length,.int .i64 0] 164 (0,0))::sl 124 3 lA n.links.length lcap (n.links.flatMap lkF)::ints mA mcap n.margin::blk g2 (.cells zeroPnV.cells 35 (0,0))::nrs A3 RF.length RF::clsP A2 c2 C::many (C.map clQ)::[many H]) w:=by
    revert w
    exact zc0
   exact(h5.perm (Ov rowQ (R.take i) ⟨A',cap',r.xs⟩ _)).perm (.swap _ _ _)
 obtain rfl:i=n.rows.length:=by omega
 rw[<-hRl,TP,hRl]
 clear hK hRd hlt hi
 refine zX67 ?_<;>intros
 apply Ye _ en91
 exact za
 exact rfl
 exactλ_ hw=>(WK q (by omega) (hqM (by(focus exact zc2))).rd (hw))
 rintro _ _ ⟨q1A,q1c,rfl,rfl⟩
 refine Um ?_
 refine Yh (λz:RqsM=>[(144,.int .i64 (z.i:Nat)),(143,.int .i64 q.length),(142,.slice q1A q.length q1c),(0,.pointer (some ⟨g,0,none⟩)),(2,.pointer (some ⟨g2,0,none⟩)),(3,.int .i64 0)])
  (λz=>sl 56 7 q1A q.length q1c (z.Q.flatMap rqF)::many ((z.Q.take z.i).map rqQ)::blk g (.cells #[.int .i64 n.nodes,.slice pA n.rows.length pcap,.int .i64 n.noise,.int .i64 n.thr,.slice lA n.links.length lcap,.slice mA n.margin.length mcap,.slice q1A q.length q1c,.int .i64 s.len,.int .i64 s.off,.slice s.A s.cells.length s.cap,.slice A2 C.length c2,.slice A3 RF.length RF.length,.int .i64 0] 164 (0,0))::sl 24 1 pA n.rows.length pcap (R.flatMap rowF)::many (R.map rowQ)::sl 124 3 lA n.links.length lcap (n.links.flatMap lkF)::ints mA mcap n.margin::blk g2 (.cells zeroPnV.cells 35 (0,0))::nrs A3 RF.length RF::clsP A2 c2 C::many (C.map clQ)::[many H])
  (λz=>z.i<=q.length/\z.Q.length=q.length/\z.Q.map RqM.rq=q.map RqM.rq/\z.Q.drop z.i=q.drop z.i/\∀x∈z.Q.take z.i,x.lens) (λz=>q.length-z.i) ⟨0,q⟩ ⟨Tm _,rfl,rfl,rfl,(λx hx=>by cases hx)⟩ ?_ ?_ ?_
 ·exact zc1
 ·intro w hw
  have h5:St B w0 (sl 56 7 q1A q.length q1c (q.flatMap rqF)::blk g (.cells #[.int .i64 n.nodes,.slice pA n.rows.length pcap,.int .i64 n.noise,.int .i64 n.thr,.slice lA n.links.length lcap,.slice mA n.margin.length mcap,.slice q1A q.length q1c,.int .i64 s.len,.int .i64 s.off,.slice s.A s.cells.length s.cap,.slice A2 C.length c2,.slice A3 RF.length RF.length,.int .i64 0] 164 (0,0))::sl 24 1 pA n.rows.length pcap (R.flatMap rowF)::many (R.map rowQ)::sl 124 3 lA n.links.length lcap (n.links.flatMap lkF)::ints mA mcap n.margin::blk g2 (.cells zeroPnV.cells 35 (0,0))::nrs A3 RF.length RF::clsP A2 c2 C::many (C.map clQ)::[many H]) w:=by
   unfold rqs at hw
   revert w
   exact zc0
  exact YqZ
 rintro⟨i,Q⟩ ⟨hi,hQl,hQm,hQd,hQs⟩ K hK
 dsimp only at hi hQl hQm hQd hQs⊢
 by_cases hlt:i<q.length
 ·obtain⟨x,hx⟩:∃x,q[i]? =some x:=⟨_,Ta hlt⟩
  have hxm:=Tc hx
  have hQi:=YfW hQd hx
  obtain⟨hx2,hx9⟩:=hqx x hxm
  refine Q5 ?_<;>intros
  rename_i g8
  apply Ye _ YvV
  exact za
  exact rfl
  exactλ_ hw=>(Ycg x.rows (by omega) ((hqM (by(focus exact zc2))).x x hxm).rt (hw))
  rintro _ _ ⟨bA,bc,rfl,rfl⟩
  refine Um ?_
  refine Yh (λz:RwsM=>[(156,.int .i64 (z.i:Nat)),(155,.int .i64 x.rows.length),(154,.slice bA x.rows.length bc),(7,.int .i64 (i:Nat)),(8,.pointer (some ⟨g8,0,none⟩)),(144,.int .i64 (i:Nat)),(143,.int .i64 q.length),(142,.slice q1A q.length q1c),(0,.pointer (some ⟨g,0,none⟩)),(2,.pointer (some ⟨g2,0,none⟩)),(3,.int .i64 0)])
   (λz=>sl 64 1 bA x.rows.length bc (z.R.flatMap rowF)::many ((z.R.take z.i).map rowQ)::blk g8 (.cells #[.int .i64 x.f.1,.int .i64 x.f.2.1,.int .i64 x.f.2.2.1,.int .i64 x.f.2.2.2.1,.int .i64 x.f.2.2.2.2.1,.int .i64 x.f.2.2.2.2.2,.slice bA x.rows.length bc] 56 (0,0))::sl 56 7 q1A q.length q1c (Q.flatMap rqF)::many ((Q.take i).map rqQ)::blk g (.cells #[.int .i64 n.nodes,.slice pA n.rows.length pcap,.int .i64 n.noise,.int .i64 n.thr,.slice lA n.links.length lcap,.slice mA n.margin.length mcap,.slice q1A q.length q1c,.int .i64 s.len,.int .i64 s.off,.slice s.A s.cells.length s.cap,.slice A2 C.length c2,.slice A3 RF.length RF.length,.int .i64 0] 164 (0,0))::sl 24 1 pA n.rows.length pcap (R.flatMap rowF)::many (R.map rowQ)::sl 124 3 lA n.links.length lcap (n.links.flatMap lkF)::ints mA mcap n.margin::blk g2 (.cells zeroPnV.cells 35 (0,0))::nrs A3 RF.length RF::clsP A2 c2 C::many (C.map clQ)::[many H])
   (λz=>z.i<=x.rows.length/\z.R.length=x.rows.length/\z.R.map (·.xs)=x.rows.map (·.xs)/\z.R.drop z.i=x.rows.drop z.i/\∀r∈z.R.take z.i,r.xs.length<=1000/\r.xs.length<=r.cap) (λz=>x.rows.length-z.i) ⟨0,x.rows⟩ ⟨Tm _,rfl,rfl,rfl,(λx hx=>by cases hx)⟩ ?_ ?_ ?_
  ·exact zc1
  ·intro w hw
   have h5:St B w0 (sl 64 1 bA x.rows.length bc (x.rows.flatMap rowF)::blk g8 (.cells #[.int .i64 x.f.1,.int .i64 x.f.2.1,.int .i64 x.f.2.2.1,.int .i64 x.f.2.2.2.1,.int .i64 x.f.2.2.2.2.1,.int .i64 x.f.2.2.2.2.2,.slice bA x.rows.length bc] 56 (0,0))::sl 56 7 q1A q.length q1c (Q.flatMap rqF)::many ((Q.take i).map rqQ)::blk g (.cells #[.int .i64 n.nodes,.slice pA n.rows.length pcap,.int .i64 n.noise,.int .i64 n.thr,.slice lA n.links.length lcap,.slice mA n.margin.length mcap,.slice q1A q.length q1c,.int .i64 s.len,.int .i64 s.off,.slice s.A s.cells.length s.cap,.slice A2 C.length c2,.slice A3 RF.length RF.length,.int .i64 0] 164 (0,0))::sl 24 1 pA n.rows.length pcap (R.flatMap rowF)::many (R.map rowQ)::sl 124 3 lA n.links.length lcap (n.links.flatMap lkF)::ints mA mcap n.margin::blk g2 (.cells zeroPnV.cells 35 (0,0))::nrs A3 RF.length RF::clsP A2 c2 C::many (C.map clQ)::[many H]) w:=by
    revert w
    exact zc0
   exact YqZ
  rintro⟨k,S⟩ ⟨hk,hSl,hSm,hSd,hSs⟩ K2 hK2
  dsimp only at hk hSl hSm hSd hSs⊢
  by_cases hlk2:k<x.rows.length
  ·obtain⟨r,hr⟩:∃r,x.rows[k]? =some r:=⟨_,Ta hlk2⟩
   have hrm:=Tc hr
   have hRi:=YfW hSd hr
   have hr9:=hx9 r hrm
   clear hK hQi
   refine zX67 ?_<;>intros
   apply YD [0,1,2,3,4,5] [6] [true,true,true]
   kernel_rfl
   kernel_rfl
   exact zy
   (simp only[Yd,nthO];rfl)
   (simp only[Yd,nthO];rfl)
   refine Um ?_
   apply Ye _ Ypo
   exact za
   exact rfl
   exactλ_ hw=>(J5 r.xs (by omega) (((hqM (by(focus exact zc2))).x x hxm).rw_ r hrm) (hw))
   rintro _ _ ⟨A',cap',rfl,rfl⟩
   apply UP (e:=3) (size:=1) (k:=r.xs.length) (cap:=cap') (A:=A') (xs:=r.xs.flatMap numF) (by(focus exact zc2))
   intro hcap
   repeat'(first|(apply Yk T;exact rfl;exact zm;exact rfl;exact zv;exact rfl;exact rfl)|(apply Xu T (f:=rowF) (l:=S) (i:=k) (a:=⟨A',cap',r.xs⟩) (e:=64) (k:=x.rows.length) (cap:=bc);(iterate 3 exact rfl);exact zd;exact rfl;exact(λ_=>rfl);exact rfl;omega)|(apply Yj;try exact zl)|refine zgd ?_|fail)
   apply hK2 ⟨k+1,S.set k ⟨A',cap',r.xs⟩⟩
   ·refine⟨by exact Yjp,by show(S.set k _).length=_;rw[TT,hSl],by show(S.set k _).map _=_;rw[Ymb hRi,hSm],Ycr hSd,λy hy=>?_⟩
    dsimp only at hy
    rw[take_set (by omega)]at hy
    rcases TF.1 hy with hy|hy
    ·exact hSs y hy
    ·rw[TO.1 hy]
     exact⟨by show r.xs.length<=_;omega,hcap⟩
   ·exact zc36
   ·exact zc1
   ·intro w hw
    dsimp only
    rw[take_set (by omega)]
    have h5:St B w0 (ints A' cap' r.xs::many ((S.take k).map rowQ)::sl 64 1 bA x.rows.length bc ((S.set k ⟨A',cap',r.xs⟩).flatMap rowF)::blk g8 (.cells #[.int .i64 x.f.1,.int .i64 x.f.2.1,.int .i64 x.f.2.2.1,.int .i64 x.f.2.2.2.1,.int .i64 x.f.2.2.2.2.1,.int .i64 x.f.2.2.2.2.2,.slice bA x.rows.length bc] 56 (0,0))::sl 56 7 q1A q.length q1c (Q.flatMap rqF)::many ((Q.take i).map rqQ)::blk g (.cells #[.int .i64 n.nodes,.slice pA n.rows.length pcap,.int .i64 n.noise,.int .i64 n.thr,.slice lA n.links.length lcap,.slice mA n.margin.length mcap,.slice q1A q.length q1c,.int .i64 s.len,.int .i64 s.off,.slice s.A s.cells.length s.cap,.slice A2 C.length c2,.slice A3 RF.length RF.length,.int .i64 0] 164 (0,0))::sl 24 1 pA n.rows.length pcap (R.flatMap rowF)::many (R.map rowQ)::sl 124 3 lA n.links.length lcap (n.links.flatMap lkF)::ints mA mcap n.margin::blk g2 (.cells zeroPnV.cells 35 (0,0))::nrs A3 RF.length RF::clsP A2 c2 C::many (C.map clQ)::[many H]) w:=by
     revert w
     exact zc0
    exact(h5.perm (Ov rowQ (S.take k) ⟨A',cap',r.xs⟩ _)).perm (.swap _ _ _)
  obtain rfl:k=x.rows.length:=by omega
  have hSt:S.take x.rows.length=S:=by rw[<-hSl,TP]
  rw[hSt]at hSs⊢
  clear hK2 hSd hlk2 hk
  have hrqv:rqF ⟨x.f,bA,bc,S⟩=[.int .i64 x.f.1,.int .i64 x.f.2.1,.int .i64 x.f.2.2.1,.int .i64 x.f.2.2.2.1,.int .i64 x.f.2.2.2.2.1,.int .i64 x.f.2.2.2.2.2,.slice bA x.rows.length bc]:=by
   unfold rqF;rw[hSl]
  refine Ybj ?_<;>intros
  apply YD [0,1,2,3,4,5,6,7] [8] [true,true,true,true,true,true]
  kernel_rfl
  kernel_rfl
  exact zy
  (simp only[Yd,nthO];rfl)
  (simp only[Yd,nthO];rfl)
  repeat'(first|(apply Yk T;exact rfl;exact zm;exact rfl;exact zv;exact rfl;exact rfl)|(apply Xw T (f:=rqF) (l:=Q) (i:=i) (a:=⟨x.f,bA,bc,S⟩);exact rfl;exact rfl;exact hrqv;exact zd;exactλ_=>rfl;(iterate 3 exact rfl);omega)|refine zgd ?_|fail)
  apply hK ⟨i+1,Q.set i ⟨x.f,bA,bc,S⟩⟩
  ·refine⟨by exact zc71,by show(Q.set i _).length=_;rw[TT,hQl],?_,Ycr hQd,λy hy=>?_⟩
   ·show(Q.set i _).map RqM.rq=_
    rw[<-hQm]
    apply Su
    intro j
    rw[TM,TM]
    by_cases hj:i=j
    ·subst hj
     rw[Si (by omega),hQi]
     show some (RqM.rq ⟨x.f,bA,bc,S⟩)=some x.rq
     unfold RqM.rq
     dsimp only
     rw[hSm]
    ·rw[S7 hj]
   ·dsimp only at hy
    rw[take_set (by omega)]at hy
    rcases TF.1 hy with hy|hy
    ·exact hQs y hy
    ·rw[TO.1 hy]
     exact⟨by show S.length<=_;omega,hSs⟩
  ·exact zc36
  ·exact zc1
  ·intro w hw
   dsimp only
   rw[take_set (by omega)]
   have h5:St B w0 (sl 64 1 bA x.rows.length bc (S.flatMap rowF)::many (S.map rowQ)::many ((Q.take i).map rqQ)::sl 56 7 q1A q.length q1c ((Q.set i ⟨x.f,bA,bc,S⟩).flatMap rqF)::blk g (.cells #[.int .i64 n.nodes,.slice pA n.rows.length pcap,.int .i64 n.noise,.int .i64 n.thr,.slice lA n.links.length lcap,.slice mA n.margin.length mcap,.slice q1A q.length q1c,.int .i64 s.len,.int .i64 s.off,.slice s.A s.cells.length s.cap,.slice A2 C.length c2,.slice A3 RF.length RF.length,.int .i64 0] 164 (0,0))::sl 24 1 pA n.rows.length pcap (R.flatMap rowF)::many (R.map rowQ)::sl 124 3 lA n.links.length lcap (n.links.flatMap lkF)::ints mA mcap n.margin::blk g2 (.cells zeroPnV.cells 35 (0,0))::nrs A3 RF.length RF::clsP A2 c2 C::many (C.map clQ)::[many H]) w:=by
    revert w
    exact zc0
   rw[<-hSl]at h5
   have h6:=h5.perm (.close [_,_] _)
   exact(h6.perm (Yc3 (Q.take i) ⟨x.f,bA,bc,S⟩ _)).perm (.swap _ _ _)
 obtain rfl:i=q.length:=by omega
 have hQt:Q.take q.length=Q:=by rw[<-hQl,TP]
 rw[hQt]at hQs⊢
 clear hK hQd hlt hi
 refine zX67 ?_<;>intros
 apply Yw T (H2:=many [sl 56 7 q1A Q.length q1c (Q.flatMap rqF),many (Q.map rqQ),sl 24 1 pA R.length pcap (R.flatMap rowF),many (R.map rowQ),sl 124 3 lA n.links.length lcap (n.links.flatMap lkF),ints mA mcap n.margin,nrs A3 RF.length RF,clsP A2 c2 C,many (C.map clQ)]::H);(iterate 3 exact rfl);(focus exact zc2);exact rfl;exact rfl
 ·intro w hw
  have h5:St B w0 (sl 56 7 q1A q.length q1c (Q.flatMap rqF)::many (Q.map rqQ)::sl 24 1 pA n.rows.length pcap (R.flatMap rowF)::many (R.map rowQ)::sl 124 3 lA n.links.length lcap (n.links.flatMap lkF)::ints mA mcap n.margin::nrs A3 RF.length RF::clsP A2 c2 C::many (C.map clQ)::[many H]) w:=by
   revert w
   exact zc0
  rw[<-hQl,<-hRl]at h5
  exact(h5.perm (.close [_,_,_,_,_,_,_,_,_] _)).perm (.cons _ (.openT H))
 have hC:C.map ClM.clm=RC:=hC
 refine .inr ⟨⟨⟨n.nodes,pA,pcap,R,n.noise,n.thr,lA,lcap,n.links,mA,mcap,n.margin⟩,q1A,q1c,Q,s,A2,c2,C,A3,RF.length,RF⟩,_,?_,?_,λH' hrs'=>?_,rfl⟩
 ·show some (Pln.mk n.net (q.map RqM.rq) s.sch RC RF)=some (Pln.mk ⟨n.nodes,R.map (·.xs),n.noise,n.thr,n.links,n.margin⟩ (Q.map RqM.rq) s.sch (C.map ClM.clm) RF)
  rw[hRm,hQm,hC];rfl
 ·unfold PnM.val
  dsimp only
  rw[hRl,hQl]
 ·have hb:∀{L:List HP}(w:World),St B w0 (many L::H') w->St B w0 L w:=λw hw=>hw.inM (.head _)
  refine⟨⟨Rd.mono (.sl (.tail _ (.tail _ (.head _)))) hb,λr hr=>Rd.mono (Rd.many (L:=R.map rowQ) (.tail _ (.tail _ (.tail _ (.head _)))) (RX hr)) hb,Rd.mono (.sl (.tail _ (.tail _ (.tail _ (.tail _ (.head _)))))) hb,Rd.mono (.sl (.tail _ (.tail _ (.tail _ (.tail _ (.tail _ (.head _))))))) hb,by show R.length<=_;omega,λr hr=>?_,by show n.links.length<=_;omega,by show n.margin.length<=_;omega⟩,
   ⟨Rd.mono (.sl (.head _)) hb,λx hx=>RqM.In.mono (Yl8 (q:=Q) (.tail _ (.head _)) hx (hQs x hx)) hb,by show Q.length<=_;omega⟩,hrs'.cons,hsl,
   ⟨Rd.mono (.sl (.tail _ (.tail _ (.tail _ (.tail _ (.tail _ (.tail _ (.tail _ (.head _))))))))) hb,λx hx=>ClM.In.mono (Ykt (C:=C) (.tail _ (.tail _ (.tail _ (.tail _ (.tail _ (.tail _ (.tail _ (.tail _ (.head _))))))))) hx (hCl x hx)) hb,hCn⟩,
   Rd.mono (.sl (.tail _ (.tail _ (.tail _ (.tail _ (.tail _ (.tail _ (.head _)))))))) hb,hFn⟩
  have h1:r.xs∈n.rows.map (·.xs):=by rw[<-hRm];exact TE.2 ⟨r,hr,rfl⟩
  obtain⟨r2,h2,h3⟩:=TE.1 h1
  have h4:=hrow1 r2 h2
  have h3:r2.xs=r.xs:=h3
  rw[h3]at h4
  omega
theorem YqK(es:YR)(k k':KL)(v:Value)(b:Nat):vget (es++[(k,v,b)]) k'=match vget es k' with|some u=>some u|none=>if k=k' then some v else none:=by
 unfold vget
 grind
structure CSet(es:YR)(p:Cel->Bool):Prop where
 len:∀e∈es,e.1.length=5
 val:∀e∈es,e.2.1=.bool true
 mem:∀c,vget es (nums c)=if p c=true then some (.bool true)else none
theorem CSet.nil:CSet [] λ_=>false:=⟨(λe h=>by cases h),(λe h=>by cases h),λc=>rfl⟩
section
variable {n:Shp}{B d:Nat}{w0:World}{ops:Array Oper}{Q:Exit->Act->World->Prop}{rest:List Oper}{env:Env}{H:List HP}{ty:TypeId}{pos:String}{after:Array Edge}
theorem Yri{es:YR}{clock g:Nat}{p p':Cel->Bool}(c:Cel)(hS:CSet es p)(hp:∀x,p' x=(p x||decide (c=x))){x y u:Operand}{K:YR->Nat->List HP}(hx:evo env x=some (.map (some g)))(hy:evo env y=some (kv (nums c)))(hv:evo env u=some (.bool true))
 (hu:∀es' cl',Upd (blk g (vobj es clock)) (blk g (vobj es' cl')) H (K es' cl')) (h:∀es' cl',CSet es' p'->VL Tryz.prog none n B w0 ops Q rest env (K es' cl')):
 VL Tryz.prog none n B w0 ops Q (⟨none,.mapUpdate 312 x y u,ty,pos,after,none⟩::rest) env H:=by
 by_cases hc:p c=true
 ·have hg:=hS.mem c
  rw[Tj hc]at hg
  obtain⟨l1,b,l2,e,hn⟩:=JO hg
  subst e
  refine YbY (kt:=117) (et:=4) (N:=5) (nums c) hx hy hv (by kernel_rfl) rfl (λe he=>hS.len e (List.mem_append_left _ he)) (hu _ clock) hn ?_
  refine h _ _ ⟨hS.len,hS.val,λx=>?_⟩
  rw[hS.mem x,hp]
  grind
 ·have hg:=hS.mem c
  rw[Tf hc]at hg
  refine US (kt:=117) (et:=4) (N:=5) (nums c) hx hy hv (by kernel_rfl) rfl hS.len (hu _ _) hg ?_
  refine h _ _ ⟨λe he=>?_,λe he=>?_,λx=>?_⟩
  ·rcases TF.1 he with he|he
   ·exact hS.len e he
   ·rw[TO.1 he];rfl
  ·rcases TF.1 he with he|he
   ·exact hS.val e he
   simp_all
  ·rw[YqK,hS.mem x,hp]
   by_cases hx2:c=x
   all_goals grind [Yix]
end
def usR(n:Net)(s:Sch)(f:Flw)(r:List Int)(i:Nat)(c:Cel):Bool:=(List.range i).any λt=>decide (f.2.2.2.2.1+t*f.2.2.2.1<s.len)&&(runP s.len (YZ s f.1) (f.2.2.2.2.1+t*f.2.2.2.1+f.2.2.2.1) (Yq n r) (f.2.2.2.2.1+t*f.2.2.2.1)).any λp=>decide (p.1=c)
variable {n:Net}{s:Sch}{f:Flw}{r:List Int}{i:Nat}
theorem YsH(h:f.2.2.2.2.1+i*f.2.2.2.1<s.len)(c:Cel):usR n s f r (i+1) c=(usR n s f r i c||(runP s.len (YZ s f.1) (f.2.2.2.2.1+i*f.2.2.2.1+f.2.2.2.1) (Yq n r) (f.2.2.2.2.1+i*f.2.2.2.1)).any λp=>decide (p.1=c)):=by
 simp_all [usR,List.range_succ]
theorem YsG(h:¬f.2.2.2.2.1+i*f.2.2.2.1<s.len)(hp:1<=f.2.2.2.1)(_h0:0<=f.2.2.2.2.1)(hi:i<=s.len.toNat)(c:Cel):Og n s f r c=usR n s f r i c:=by
 have key:∀k,usR n s f r (i+k) c=usR n s f r i c:=by
  intro k
  induction k with
  |zero=>rfl
  |succ k ih=>
   rw[<-ih]
   unfold usR
   rw[show i+(k+1)=i+k+1 from rfl,RD,Nj]
   have h2:¬f.2.2.2.2.1+(i+k:Nat)*f.2.2.2.1<s.len:=by
    have:(i:Int)*f.2.2.2.1<=((i+k:Nat):Int)*f.2.2.2.1:=RY (by omega) (by omega)
    omega
   simp_all [decide_eq_false]
 have:=key (s.len.toNat-i)
 rw[show i+(s.len.toNat-i)=s.len.toNat by omega]at this
 exact this
theorem Ykj(c:Cel)(p:Cel->Bool)(gp gm:Nat)(es:YR)(clock:Nat)(hS:CSet es p){B:Nat}{w0:World}{H:List HP}{w:World}(h1:blk gp (.cells #[.map (some gm)] 312 (0,0))∈H)(h2:blk gm (vobj es clock)∈H)(hw:St B w0 H w):
 CX B w0 226 [celV c,.pointer (some ⟨gp,0,none⟩)] w λv K=>v=.bool (!(p c))/\K=H:=by
 refine Ya Tryz.func226 Tryz.ntmps226 rfl rfl hw ?_
 have hz:∀w,(zeroValue 4).run Tryz.prog w=.ok (.bool false) w:=λw=>by kernel_rfl
 have hm:=hS.mem c
 have hl:=hS.len
 cases hpc:p c with
 |true=>
  rw[hpc,Tj rfl]at hm
  repeat'(first|(apply WD (kt:=117) (et:=4) (N:=5) (nums c) (v:=.bool true);exact rfl;exact rfl;exact(by simp only[TV];exact .inr h2);kernel_rfl;exact rfl;exact hl;exact rfl;exact .inl hm)|refine zgd ?_|(refine zgh ?_;intro _)|fail)
  apply Yg H
  ·exact zc0
  exact zc13
 |false=>
  rw[hpc,Tf (by decide)]at hm
  repeat'(first|(apply WD (kt:=117) (et:=4) (N:=5) (nums c) (v:=.bool false);exact rfl;exact rfl;exact(by simp only[TV];exact .inr h2);kernel_rfl;exact rfl;exact hl;exact rfl;exact .inr ⟨hm,hz⟩)|refine zgd ?_|(refine zgh ?_;intro _)|fail)
  apply Yg H
  ·exact zc0
  exact zc13
structure NdM where
 k:Nat
 i:Nat
 es:YR
 cl:Nat
 Ds:List Nat
theorem Ykk(n:NetM)(s:SchM)(f:Flw)(l:List RowM)(h1:1<=l.length/\l.length<=1000)(hok:∀r∈l,(Y4 n.net s.sch f r.xs).2=0){A:Option Addr}{cap B:Nat}{w0:World}{H:List HP}{w:World}(ht:TabsB B w0)(hin:n.In B w0 H)(hrs:Rd B w0 H s.A (s.cells.flatMap celF))(hsl:s.cells.length<=1000000000000)(hrt:Rd B w0 H A (l.flatMap rowF))(hrw:∀r∈l,Rd B w0 H r.A (r.xs.flatMap numF))(hrl:∀r∈l,r.xs.length<=1000000000000/\r.xs.length<=r.cap)(hw:St B w0 H w):
 CX B w0 145 [n.val,s.val,flwV f,.slice A l.length cap] w λv K=>∃A' cap',v=.tuple #[.slice A' (s.cells.filter (OQ n.net s.sch (f,l.map (·.xs)))).length cap',.int .i64 0]/\K=cels A' cap' (s.cells.filter (OQ n.net s.sch (f,l.map (·.xs))))::H:=by
 refine XK Tryz.func145 Tryz.ntmps145 rfl rfl hw ?_
 have hop:∀w,St B w0 [many H] w->St B w0 H w:=λw hw=>hw.perm (.openT H)
 have hwi:∀r∈l,(WayM.mk n s f r.A r.cap r.xs).In B w0 [many H]:=λr hr=>WayM.In.mono (H:=H) ⟨hin,hrs,hrw r hr,hsl,(hrl r hr).1,(hrl r hr).2⟩ hop
 have hrs:=hrs.mono hop
 have hrt:=hrt.mono hop
 have hWok:∀r∈l,Wo (WayM.mk n s f r.A r.cap r.xs):=λr hr=>YgX (Ob (hok r hr)).1
 obtain⟨r0,hr0⟩:∃r0,l[0]? =some r0:=⟨_,Ta (by omega)⟩
 have hW0:=hWok r0 (Tc hr0)
 have hper:1<=f.2.2.2.1/\f.2.2.2.1<=512:=hW0.per
 have hph:0<=f.2.2.2.2.1/\f.2.2.2.2.1<f.2.2.2.1:=hW0.ph
 have hlen:1<=s.len/\s.len<=512:=hW0.slen
 have hfew:s.cells.length<=512:=hW0.few
 have p1:=λ(r:RowM) {H':List HP}{w:World}(hi:(WayM.mk n s f r.A r.cap r.xs).In B w0 H') (hw:St B w0 H' w)=>Ydi ⟨n,s,f,r.A,r.cap,r.xs⟩ ht hi hw
 have p2:=λ(r:RowM) (a:Int) {H':List HP}{w:World}(hw:St B w0 H' w)=>YaL ⟨n,s,f,r.A,r.cap,r.xs⟩ a (B:=B) (w0:=w0) (H:=H') (w:=w) hw
 unfold NetM.val SchM.val flwV at p1
 unfold WayM.val intB at p2
 dsimp only at p1 p2
 unfold NetM.val SchM.val flwV
 refine XM [many H] (λw hw=>hw.perm (.closeT H)) ?_
 repeat'(first|(apply YaE;exact rfl;intro _)|refine zgd ?_|(refine zge ?_ ?_<;>intro _<;>try exact zo)|(refine zgh ?_;intro _)|fail)
 rename_i g4 g5 g6 _ gm g10
 refine Yg1 (λz:NdM=>z.Ds.map mkD++[]) (λz:NdM=>[(26,.int .i64 (z.k:Nat)),(25,.int .i64 l.length),(24,.slice A l.length cap),(10,.pointer (some ⟨g10,0,none⟩)),(6,.pointer (some ⟨g6,0,none⟩)),(5,.pointer (some ⟨g5,0,none⟩)),(4,.pointer (some ⟨g4,0,none⟩))])
  (λz=>blk g10 (.cells #[.map (some gm)] 312 (0,0))::blk gm (vobj z.es z.cl)::flwB g6 f::schA g5 s::netA g4 n::many (z.Ds.map mkB)::[many H])
  (λz=>z.k<=l.length/\CSet z.es λc=>((l.map (·.xs)).take z.k).any λr=>Og n.net s.sch f r c) (λz=>l.length-z.k) ⟨0,0,[],0,[]⟩ ⟨Tm _,CSet.nil⟩ rfl ?_ ?_ ?_
 ·exact zc1
 ·intro w hw
  have h5:St B w0 (blk g10 (.cells #[.map (some gm)] 312 (0,0))::blk gm (vobj [] 0)::flwB g6 f::schA g5 s::netA g4 n::[many H]) w:=by
   revert w
   exact zc0
  have h6:=h5.perm (.noMany _)
  clear hw h5
  have h7:St B w0 (blk g10 (.cells #[.map (some gm)] 312 (0,0))::blk gm (vobj [] 0)::flwB g6 f::schA g5 s::netA g4 n::many []::[many H]) w:=by
   revert w
   exact zc0
  exact h7
 rintro⟨k,_,es,cl,Ds⟩ ⟨hk,hS⟩ K hK
 dsimp only at hk hS⊢
 by_cases hlt:k<l.length
 rotate_left
 ·obtain rfl:k=l.length:=by omega
  clear hK
  have hS:CSet es (OQ n.net s.sch (f,l.map (·.xs))):=by
   rw[Rl (by rw[Tv];exact Ybk)]at hS
   exact hS
  generalize OQ n.net s.sch (f,l.map (·.xs))=p at hS⊢
  refine zX0 ?_<;>intros
  apply Ye _ YeD
  exact za
  exact rfl
  exactλ_ hw=>(Z7 s.cells (by omega) (hrs.mono zc0) (hw))
  rintro _ _ ⟨A1,c1,rfl,rfl⟩
  refine YdI ?_
  apply Ye _ Ylv
  exact za
  exact rfl
  exactλ_ hw=>(V8 (λc=>!(p c)) s.cells 226 [.pointer (some ⟨g10,0,none⟩)] Ywd (by omega) (λc _ X w hw=>Ykj c p g10 gm es cl hS (TZ _ (by(focus exact zc2))) (TZ _ (by(focus exact zc2))) hw) (hw))
  rintro _ _ ⟨rfl,rfl⟩
  have e:s.cells.filter (λc=>!!(p c))=s.cells.filter p:=Nq λc _=>Bool.not_not _
  rw[e]
  refine zX4 ?_
  apply Yhh (H':=cels A1 c1 (s.cells.filter p)::H)
  ·intro w hw
   have h5:St B w0 (many (Ds.map mkB)::cels A1 c1 (s.cells.filter p)::[many H]) w:=by
    revert w
    exact zc0
   exact(h5.perm (.cons _ (.cons _ (.openT H)))).perm (.open_ (Ds.map mkB) _)
  apply VQ_m
  apply YL;(iterate 3 exact rfl)
  exact⟨A1,c1,rfl,rfl⟩
 obtain⟨r,hr⟩:∃r,l[k]? =some r:=⟨_,Ta hlt⟩
 have hrm:=Tc hr
 have hri:=hwi r hrm
 have hWr:=hWok r hrm
 have p3:=λ{H':List HP}{w:World}(hi:(WayM.mk n s f r.A r.cap r.xs).In B w0 H') (hw:St B w0 H' w)=>p1 r hi hw
 rw[hok r hrm]at p3
 have hiter:=λ(a:Int) (ha:0<=a/\a<=1000000) {ga gw:Nat}{H':List HP}(hi:(WayM.mk n s f r.A r.cap r.xs).In B w0 H')=>Qw ⟨n,s,f,r.A,r.cap,r.xs⟩ a hWr ha ga gw hi
 unfold intB YhG runW at hiter
 dsimp only at hiter
 have hst:∀c,((l.map (·.xs)).take (k+1)).any (λr=>Og n.net s.sch f r c)=(((l.map (·.xs)).take k).any (λr=>Og n.net s.sch f r c)||Og n.net s.sch f r.xs c):=λc=>by
  rw[TG,TM,hr,Nj]
  simp
 generalize hbp:(λc=>((l.map (·.xs)).take k).any λr=>Og n.net s.sch f r c)=bp at hS
 have hst:∀c,((l.map (·.xs)).take (k+1)).any (λr=>Og n.net s.sch f r c)=(bp c||Og n.net s.sch f r.xs c):=λc=>by rw[hst,<-hbp]
 refine zX1 ?_<;>intros
 apply Ye _ YsW
 exact za
 exact rfl
 exactλ_ hw=>(p3 (hri.mono zc0) (hw))
 rintro _ _ ⟨A2,c2,rfl,rfl⟩
 refine zX44 ?_<;>intros
 rename_i g17
 refine Yg1 (λz:NdM=>z.Ds.map mkD++[]) (λz:NdM=>[(18,.int .i64 (f.2.2.2.2.1+(z.i:Int)*f.2.2.2.1)),(17,.pointer (some ⟨g17,0,none⟩)),(26,.int .i64 (k:Nat)),(25,.int .i64 l.length),(24,.slice A l.length cap),(10,.pointer (some ⟨g10,0,none⟩)),(6,.pointer (some ⟨g6,0,none⟩)),(5,.pointer (some ⟨g5,0,none⟩)),(4,.pointer (some ⟨g4,0,none⟩))])
  (λz=>blk gm (vobj z.es z.cl)::wayB g17 ⟨n,s,f,r.A,r.cap,r.xs⟩::blk g10 (.cells #[.map (some gm)] 312 (0,0))::flwB g6 f::schA g5 s::netA g4 n::many (z.Ds.map mkB)::[many H])
  (λz=>z.i<=s.len.toNat/\CSet z.es λc=>(bp c||usR n.net s.sch f r.xs z.i c)) (λz=>s.len.toNat-z.i) ⟨k,0,es,cl,Ds⟩ ⟨Tm _,?_⟩ rfl ?_ ?_ ?_
 ·have:(λc=>(bp c||usR n.net s.sch f r.xs 0 c))=bp:=by
   funext c
   unfold usR
   simp
  show CSet es λc=>(bp c||usR n.net s.sch f r.xs 0 c)
  rw[this];exact hS
 ·dsimp only
  rw[show f.2.2.2.2.1+((0:Nat):Int)*f.2.2.2.1=f.2.2.2.2.1 by simp]
  exact zc1
 ·exact zc0
 rintro⟨_,i,es2,cl2,Ds2⟩ ⟨hi,hS2⟩ K2 hK2
 dsimp only at hi hS2⊢
 obtain⟨y,hy⟩:∃y:Int,f.2.2.2.2.1+(i:Int)*f.2.2.2.1=y:=⟨_,rfl⟩
 have hiy:(i:Int)<=(i:Int)*f.2.2.2.1:=by
  have:=Ry hper.1 (show(0:Int)<=i by omega)
  rw[Int.mul_one]at this
  exact this
 by_cases hyl:f.2.2.2.2.1+(i:Int)*f.2.2.2.1<s.len
 rotate_left
 ·have hud:=YsG (n:=n.net) (s:=s.sch) (f:=f) (r:=r.xs) (i:=i) hyl hper.1 hph.1 hi
  clear hK2
  rw[hy]at hyl⊢
  refine zX0 ?_<;>intros
  apply hK ⟨k+1,0,es2,cl2,Ds2⟩
  ·refine⟨by exact Yjp,?_⟩
   have:(λc=>((l.map (·.xs)).take (k+1)).any λr=>Og n.net s.sch f r c)=λc=>(bp c||usR n.net s.sch f r.xs i c):=by
    funext c
    rw[hst,hud]
   show CSet es2 λc=>((l.map (·.xs)).take (k+1)).any λr=>Og n.net s.sch f r c
   rw[this];exact hS2
  ·exact zc36
  ·exact zc1
  ·exact zc0
 have hus:=YsH (n:=n.net) (s:=s.sch) (f:=f) (r:=r.xs) (i:=i) hyl
 have he18:f.2.2.2.2.1+((i+1:Nat):Int)*f.2.2.2.1=y+f.2.2.2.1:=by
  rw[<-hy,Int.natCast_add,Mc]
  omega
 rw[hy]at hyl hus⊢
 have hit:=λ{ga gw:Nat}{H':List HP}(hi:(WayM.mk n s f r.A r.cap r.xs).In B w0 H')=>hiter y ⟨by omega,by omega⟩ (ga:=ga) (gw:=gw) hi
 clear hiter hK
 have hsl2:s.sch.len=s.len:=rfl
 rw[hsl2]at hus
 generalize runP s.len (YZ s.sch f.1) (y+f.2.2.2.1) (Yq n.net r.xs) y=W at hus hit
 have p5:=λ{H':List HP}{w:World}(hw:St B w0 H' w)=>p2 r y hw
 refine zX98 ?_<;>intros
 apply Ye _ YsZ
 exact za
 exact rfl
 exactλ_ hw=>(p5 (hw))
 rintro _ _ ⟨ga,gw,rfl,rfl⟩
 refine zX7 ?_
 refine XL (gf:=274) (lb:=[.pointer (some ⟨ga,0,none⟩),.pointer (some ⟨gw,0,none⟩)]) (xs:=W.map cntV)
  (blk ga (.cells #[.int .i64 y] 3 (0,0))::wayB gw ⟨n,s,f,r.A,r.cap,r.xs⟩::wayB g17 ⟨n,s,f,r.A,r.cap,r.xs⟩::blk g10 (.cells #[.map (some gm)] 312 (0,0))::flwB g6 f::schA g5 s::netA g4 n::many (Ds2.map mkB)::[many H])
  (λz:YR×Nat=>[blk gm (vobj z.1 z.2)]) (λj z=>CSet z.1 λc=>((bp c||usR n.net s.sch f r.xs i c)||(W.take j).any λp=>decide (p.1=c))) (λ_ _=>False) (es2,cl2) rfl Ys7 (hit (hri.mono zc0)) rfl ?_ (by kernel_rfl) (by kernel_rfl) ?_ ?_ ?_ ?_ (λ_ _ _ h=>h.elim)
 ·exact Yur
 ·simp only[TA,TD]
  exact zc0
 ·simpa using hS2
 ·rintro lb j args R ⟨es3,cl3⟩ hk hI
  rw[TM]at hk
  obtain⟨⟨d,sl⟩,hz,rfl⟩:∃z,W[j]? =some z/\args=cntV z:=by
   cases h:W[j]? with
   |none=>rw[h]at hk;cases hk
   |some z=>exact Yus
  dsimp only at hI
  dsimp only[VP,cntV,List.cons_append,List.nil_append]
  unfold celV
  refine zX64 ?_<;>intros
  apply Z5 (YB Ys)
  intro R'
  refine zX7 ?_
  apply Yri d hI (p':=λc=>((bp c||usR n.net s.sch f r.xs i c)||(W.take (j+1)).any λp=>decide (p.1=c))) (λc=>by rw[TG,hz,Nj];simp[Bool.or_assoc]);(iterate 3 exact rfl);(intro _ _;exact zd);intro es4 cl4 hS4
  refine zX9 ?_
  apply Ve (es4,cl4)
  ·exact hS4
  ·dsimp only[List.cons_append,List.nil_append]
   exact zc0
 ·rintro D ⟨es3,cl3⟩ hI
  dsimp only at hI
  rw[Tv,TP]at hI
  dsimp only[List.cons_append,List.nil_append]
  refine zX9 ?_
  apply hK2 ⟨k,i+1,es3,cl3,D::Ds2⟩
  ·refine⟨by exact zc71,?_⟩
   have:(λc=>(bp c||usR n.net s.sch f r.xs (i+1) c))=λc=>((bp c||usR n.net s.sch f r.xs i c)||W.any λp=>decide (p.1=c)):=by
    funext c
    rw[hus,Bool.or_assoc]
   show CSet es3 λc=>(bp c||usR n.net s.sch f r.xs (i+1) c)
   rw[this];exact hI
  ·exact zc36
  ·dsimp only
   rw[he18]
   exact zc1
  ·intro w hw
   have h5:St B w0 (mkB D::many (Ds2.map mkB)::blk gm (vobj es3 cl3)::wayB g17 ⟨n,s,f,r.A,r.cap,r.xs⟩::blk g10 (.cells #[.map (some gm)] 312 (0,0))::flwB g6 f::schA g5 s::netA g4 n::[many H]) w:=by
    revert w
    exact zc0
   have h6:=h5.perm (((Perm.open_ (Ds2.map mkB) _).cons _).trans (.close (mkB D::Ds2.map mkB) _))
   clear hw h5
   have h7:St B w0 (blk gm (vobj es3 cl3)::wayB g17 ⟨n,s,f,r.A,r.cap,r.xs⟩::blk g10 (.cells #[.map (some gm)] 312 (0,0))::flwB g6 f::schA g5 s::netA g4 n::many (mkB D::Ds2.map mkB)::[many H]) w:=by
    revert w
    exact zc0
   exact h7
structure FtM where
 g8:Nat
 A:Option Addr
 cap:Nat
 iA:Option Addr
 icap:Nat
theorem YhV(b:BuM)(g:Nat)(len off:Int)(h24:len<=24\/512<len){B:Nat}{w0:World}{H:List HP}{w:World}(ht:TabsB B w0)(hin:b.n.In B w0 H)(hq:QIn B w0 H b.qA b.q)(hw:St B w0 (bldA g b::H) w):
 CX B w0 78 [.pointer (some ⟨g,0,none⟩),.int .i64 len,.int .i64 off] w λv K=>∃A cap iA icap,v=.tuple #[.slice iA (Xo b.n.net (b.q.map RqM.rq) len off).1.2.length icap,.bool (decide ((Xo b.n.net (b.q.map RqM.rq) len off).1.2.length=b.q.length))]/\
  K=bldA g {b with s:=⟨(Xo b.n.net (b.q.map RqM.rq) len off).1.1.len,(Xo b.n.net (b.q.map RqM.rq) len off).1.1.off,A,cap,(Xo b.n.net (b.q.map RqM.rq) len off).1.1.cells⟩,e:=Xx b.e (Xo b.n.net (b.q.map RqM.rq) len off).2}::cels A cap (Xo b.n.net (b.q.map RqM.rq) len off).1.1.cells::ZN iA icap (Xo b.n.net (b.q.map RqM.rq) len off).1.2::H:=by
 refine Ya Tryz.func78 Tryz.ntmps78 rfl rfl hw ?_
 obtain⟨n,qA,qcap,q,s,cA,ccap,c,fA,fcap,f,e⟩:=b
 dsimp only at hin hq⊢
 have hop:∀w,St B w0 [many H] w->St B w0 H w:=λw hw=>hw.perm (.openT H)
 have hin:=hin.mono hop
 have hq:=hq.mono hop
 have p1:=λ{H':List HP}{w:World}(hin:n.In B w0 H') (hq:QIn B w0 H' qA q) (hw:St B w0 H' w)=>Yop n q len off h24 (cap:=qcap) ht hin hq hw
 have p2:=λ(b:BuM) (e:Int) {H':List HP}{w:World}(hw:St B w0 (bldA g b::H') w)=>Ub b g e hw
 unfold OutA NetM.val at p1
 generalize Xo n.net (q.map RqM.rq) len off=R at p1⊢
 obtain⟨⟨⟨rl,ro,rc⟩,ra⟩,re⟩:=R
 dsimp only at p1⊢
 refine XM (bldA g ⟨n,qA,qcap,q,s,cA,ccap,c,fA,fcap,f,e⟩::[many H]) (λw hw=>hw.perm (.cons _ (.closeT H))) ?_
 dsimp only[bldA]
 iterate 6 (first|refine zga ?_|fail)
 apply Xm
 refine XE (λz:FtM=>[(8,.pointer (some ⟨z.g8,0,none⟩)),(9,.slice z.iA ra.length z.icap),(10,.int .i64 re),(0,.pointer (some ⟨g,0,none⟩))])
  (λz=>blk z.g8 (.cells #[.int .i64 rl,.int .i64 ro,.slice z.A rc.length z.cap] 30 (0,0))::cels z.A z.cap rc::ZN z.iA z.icap ra::bldA g ⟨n,qA,qcap,q,s,cA,ccap,c,fA,fcap,f,e⟩::[many H]) ?_ ?_
 ·intro K hK
  repeat'(first|(apply Yk T;exact rfl;exact zm;exact rfl;exact zv;exact rfl;exact rfl)|fail)
  apply Je (.n1 0 (.n1 1 (.n1 2 (.n1 3 (.n1 4 (.n1 5 (.n1 6 (.n1 7 (.n1 8 (.n1 9 (.n1 10 (.n1 11 (.n2 12 (.n1 13 (.n1 14 (.n1 15 (.n1 16 (.n1 17 (.n1 18 (.n1 19 (.n1 20 .done)))))))) 17 (.n1 12 (.n1 13 (.n1 14 (.n1 15 (.n1 16 (.n1 18 (.n1 19 (.n1 20 .done))))))))))))))))))))) [] [true,true]
  kernel_rfl
  kernel_rfl
  exact zy
  exact rfl
  repeat'(first|(apply Yk T;exact rfl;exact zm;exact rfl;exact zv;exact rfl;exact rfl)|((apply Ye _ YvP);exact za;exact rfl;exactλ_ hw=>p1 (hin.mono zk) (hq.mono zk) hw;rintro _ _ ⟨A1,cap1,iA1,ic1,rfl,rfl⟩)|(apply Yj;try exact zl)|apply(zs91 ?_ ?_)|(apply YW;try exact zl)|refine zgd ?_|(refine zgh ?_;intro _)|fail)
  all_goals(
   rename_i gA
   apply hK ⟨gA,A1,cap1,iA1,ic1⟩
   ·exact zu
   ·exact zk)
 rintro⟨g8,A1,c1,iA,ic⟩
 dsimp only
 refine zX4 ?_
 apply Xt [bldA g ⟨n,qA,qcap,q,s,cA,ccap,c,fA,fcap,f,e⟩] _ en80
 exact za
 try exact zl
 exact zp
 exact rfl
 exactλ_ hw=>(p2 ⟨n,qA,qcap,q,s,cA,ccap,c,fA,fcap,f,e⟩ re hw)
 rintro _ _ ⟨rfl,rfl⟩
 unfold BuM.fail
 dsimp only[bldA]
 by_cases hll:ra.length=q.length
 ·rw[Ti hll]
  refine zX1 ?_<;>intros
  apply Yg (bldA g ⟨n,qA,qcap,q,⟨rl,ro,A1,c1,rc⟩,cA,ccap,c,fA,fcap,f,Xx e re⟩::cels A1 c1 rc::ZN iA ic ra::H)
  ·intro w hw
   have h5:St B w0 (bldA g ⟨n,qA,qcap,q,⟨rl,ro,A1,c1,rc⟩,cA,ccap,c,fA,fcap,f,Xx e re⟩::cels A1 c1 rc::ZN iA ic ra::[many H]) w:=by
    revert w
    exact zc0
   exact zc87
  exact Yt1
 ·rw[Tn hll]
  refine zX1 ?_<;>intros
  apply Yg (bldA g ⟨n,qA,qcap,q,⟨rl,ro,A1,c1,rc⟩,cA,ccap,c,fA,fcap,f,Xx e re⟩::cels A1 c1 rc::ZN iA ic ra::H)
  ·intro w hw
   have h5:St B w0 (bldA g ⟨n,qA,qcap,q,⟨rl,ro,A1,c1,rc⟩,cA,ccap,c,fA,fcap,f,Xx e re⟩::cels A1 c1 rc::ZN iA ic ra::[many H]) w:=by
    revert w
    exact zc0
   exact zc87
  exact Yt1
theorem YiE{α:Type}(f:α->HP)(y:α):∀(L:List α) (i:Nat) (T:List HP),i<L.length->Perm (f y::(L.map f++T)) ((L.set i y).map f++T)
 |[],i,_,h=>by cases h
 |x::L,0,T,_=>by
  rw[NF,Rh,Rh,TA,TA]
  exact .cons _ (.drop _ _)
 |x::L,i+1,T,h=>by
  rw[NX,Rh,Rh,TA,TA]
  exact(Perm.swap _ _ _).trans (.cons _ (YiE f y L i T (by simp_all)))
variable {i:Nat}
theorem YnG{Q:List RqM}{y:RqM}(h:i<Q.length)(T:List HP):Perm (rqQ y::many (Q.map rqQ)::T) (many ((Q.set i y).map rqQ)::T):=
 ((Perm.open_ (Q.map rqQ) T).cons _).trans ((YiE rqQ y Q i T h).trans (.close _ T))
noncomputable def J0(n:Net)(ia:List Int)(q:List Rqs)(i:Nat):List Rqs:=(List.range q.length).map λj=>if j<i then lowQ n ia q j else rqAt q j
theorem YpX(n:Net)(ia:List Int)(q:List Rqs):J0 n ia q 0=q:=by
 unfold J0
 apply Su
 all_goals grind [Vv]
theorem Yr5(n:Net)(ia:List Int)(q:List Rqs):J0 n ia q q.length=lowL n ia q:=by
 simp_all [J0,lowL]
theorem Yr6(n:Net)(ia:List Int)(q:List Rqs)(i:Nat):(J0 n ia q i).length=q.length:=by grind [J0]
variable {n:Net}{ia:List Int}{q:List Rqs}
theorem YpW(h:i<q.length):(J0 n ia q i)[i]? =some (rqAt q i):=by
 grind [J0]
theorem Yil(h:i<q.length):J0 n ia q (i+1)=(J0 n ia q i).set i (lowQ n ia q i):=by
 apply Su
 intro j
 by_cases hj:i=j
 ·simp_all [J0]
 ·unfold J0
  grind
structure LwM where
 i:Nat
 Q:List RqM
structure LxM where
 g6:Nat
 y:RqM
theorem Ygh(b:BuM)(g:Nat)(ia:List Int)(hia:ia.length<=1000)(hql:b.q.length<=1000)(hqs:∀x∈b.q,x.lens){iA:Option Addr}{icap B:Nat}{w0:World}{H:List HP}{w:World}(hin:b.n.In B w0 H)(hra:Rd B w0 H iA (ia.flatMap numF))(hw:St B w0 (bldA g b::rqs b.qA b.qcap b.q::many (b.q.map rqQ)::H) w):
 CX B w0 79 [.pointer (some ⟨g,0,none⟩),.slice iA ia.length icap] w λv K=>∃q' e',v=.tuple #[]/\q'.length=b.q.length/\(∀x∈q',x.lens)/\((lowB b.n.net ia (b.q.map RqM.rq)=true/\q'.map RqM.rq=lowL b.n.net ia (b.q.map RqM.rq)/\e'=b.e)\/(lowB b.n.net ia (b.q.map RqM.rq)=false/\e'=Xx b.e 18))/\
  K=bldA g {b with q:=q',e:=e'}::rqs b.qA b.qcap q'::many (q'.map rqQ)::H:=by
 refine Ya Tryz.func79 Tryz.ntmps79 rfl rfl hw ?_
 obtain⟨n,qA,qcap,q,s,cA,ccap,c,fA,fcap,f,e⟩:=b
 dsimp only at hin hql hqs⊢
 have hinM:∀{H':List HP},many H∈H'->n.In B w0 H':=λhm=>hin.mono λw hw=>hw.inM hm
 have hraM:∀{H':List HP},many H∈H'->Rd B w0 H' iA (ia.flatMap numF):=λhm=>hra.mono λw hw=>hw.inM hm
 have p1:=λ(v:Int) {H':List HP}{w:World}(hr:Rd B w0 H' iA (ia.flatMap numF)) (hw:St B w0 H' w)=>YdY ia v (by omega) (cap:=icap) hr hw
 have p2:=λ(f:Flw) {H':List HP}{w:World}(hin:n.In B w0 H') (hw:St B w0 H' w)=>OP n f hin hw
 have p3:=λ(b:BuM) (e:Int) {H':List HP}{w:World}(hw:St B w0 (bldA g b::H') w)=>Ub b g e hw
 unfold NetM.val flwV at p2
 refine XM (bldA g ⟨n,qA,qcap,q,s,cA,ccap,c,fA,fcap,f,e⟩::rqs qA qcap q::many (q.map rqQ)::[many H]) (λw hw=>hw.perm (.cons _ (.cons _ (.cons _ (.closeT H))))) ?_
 dsimp only[bldA]
 obtain⟨q0,hq0⟩:∃q0,q.map RqM.rq=q0:=⟨_,rfl⟩
 have hq0l:q0.length=q.length:=by rw[<-hq0,Tv]
 rw[hq0]
 refine Um ?_
 refine Yh (λz:LwM=>[(14,.int .i64 (z.i:Nat)),(13,.int .i64 q.length),(12,.slice qA q.length qcap),(0,.pointer (some ⟨g,0,none⟩)),(1,.slice iA ia.length icap)])
  (λz=>blk g (.cells #[.int .i64 n.nodes,.slice n.pA n.rows.length n.pcap,.int .i64 n.noise,.int .i64 n.thr,.slice n.lA n.links.length n.lcap,.slice n.mA n.margin.length n.mcap,.slice qA q.length qcap,.int .i64 s.len,.int .i64 s.off,.slice s.A s.cells.length s.cap,.slice cA c.length ccap,.slice fA f.length fcap,.int .i64 e] 164 (0,0))::sl 56 7 qA q.length qcap (z.Q.flatMap rqF)::many (z.Q.map rqQ)::[many H])
  (λz=>z.i<=q.length/\z.Q.length=q.length/\(∀x∈z.Q,x.lens)/\z.Q.map RqM.rq=J0 n.net ia q0 z.i/\∀j,j<z.i->(j:Int)∈ia\/(VX n.net (rqAt q0 j).1).2=0) (λz=>q.length-z.i) ⟨0,q⟩ ⟨Tm _,rfl,hqs,by rw[YpX];exact hq0,λj hj=>absurd hj (RP _)⟩ ?_ ?_ ?_
 ·exact zc1
 ·unfold rqs
  exact zc0
 rintro⟨i,Q⟩ ⟨hi,hQl,hQs,hQm,hQk⟩ K hK
 dsimp only at hi hQl hQs hQm hQk⊢
 by_cases hlt:i<q.length
 rotate_left
 ·obtain rfl:i=q.length:=by omega
  clear hK
  have hb:lowB n.net ia q0=true:=TK.2 λj hj=>by
   have hj:=TN.1 hj
   rw[RO,Tt,Tt]
   exact hQk j (by omega)
  rw[<-hq0l,Yr5]at hQm
  refine Ybj ?_<;>intros
  apply Yg (bldA g ⟨n,qA,qcap,Q,s,cA,ccap,c,fA,fcap,f,e⟩::rqs qA qcap Q::many (Q.map rqQ)::H)
  ·intro w hw
   have h5:St B w0 (blk g (.cells #[.int .i64 n.nodes,.slice n.pA n.rows.length n.pcap,.int .i64 n.noise,.int .i64 n.thr,.slice n.lA n.links.length n.lcap,.slice n.mA n.margin.length n.mcap,.slice qA q.length qcap,.int .i64 s.len,.int .i64 s.off,.slice s.A s.cells.length s.cap,.slice cA c.length ccap,.slice fA f.length fcap,.int .i64 e] 164 (0,0))::sl 56 7 qA q.length qcap (Q.flatMap rqF)::many (Q.map rqQ)::[many H]) w:=by
    revert w
    exact zc0
   rw[<-hQl]at h5
   exact zc87
  apply X7;exact rfl
  exact⟨Q,e,rfl,hQl,hQs,.inl ⟨hb,hQm,rfl⟩,rfl⟩
 obtain⟨x,hx⟩:∃x,Q[i]? =some x:=⟨_,Ta (by omega)⟩
 have hxm:=Tc hx
 have hxq:x.rq=rqAt q0 i:=by
  have h1:(Q.map RqM.rq)[i]? =some x.rq:=by rw[TM,hx];rfl
  rw[hQm,YpW (by omega)]at h1
  exact(Tz h1).symm
 have hxf:x.f=(rqAt q0 i).1:=TC Prod.fst hxq
 by_cases hmem:(i:Int)∈ia
 ·have p4:=λ{H':List HP}{w:World}(hr:Rd B w0 H' iA (ia.flatMap numF)) (hw:St B w0 H' w)=>p1 i hr hw
  rw[Ti hmem]at p4
  have hlq:J0 n.net ia q0 (i+1)=J0 n.net ia q0 i:=by
   rw[Yil (by omega)]
   unfold lowQ
   rw[Tj hmem]
   apply Su
   intro j
   by_cases hj:i=j
   ·subst hj
    rw[Si (by rw[Yr6];omega),YpW (by omega)]
   ·rw[S7 hj]
  refine Q5 ?_<;>intros
  first|apply Yb Ylp|apply Yc Ylp
  exact za
  exact rfl
  exactλ_ hw=>(p4 (hraM (by(focus exact zc2))) hw)
  refine YdJ ?_
  apply hK ⟨i+1,Q⟩
  ·exact⟨by exact zc71,hQl,hQs,hQm.trans hlq.symm,λj hj=>by
    rcases RN.1 hj with h|rfl
    ·exact hQk j h
    ·exact .inl hmem⟩
  ·exact zc36
  ·exact zc1
  ·exact zc0
 have p4:=λ{H':List HP}{w:World}(hr:Rd B w0 H' iA (ia.flatMap numF)) (hw:St B w0 H' w)=>p1 i hr hw
 rw[Tn hmem]at p4
 have p5:=λ{H':List HP}{w:World}(hin:n.In B w0 H') (hw:St B w0 H' w)=>p2 x.f hin hw
 clear p1 p2
 have hlq:J0 n.net ia q0 (i+1)=(J0 n.net ia q0 i).set i (VX n.net x.f).1:=by
  rw[Yil (by omega)]
  unfold lowQ
  rw[Tf hmem,hxf]
 have hsk:∀j,j=i->(VX n.net (rqAt q0 j).1).2=(VX n.net x.f).2:=λj hj=>by rw[hj,hxf]
 generalize VX n.net x.f=R at p5 hlq hsk
 obtain⟨ry,re⟩:=R
 unfold OutQ rqV at p5
 dsimp only at p5 hlq hsk
 refine Q5 ?_<;>intros
 rename_i g5
 first|apply Yb Ylp|apply Yc Ylp
 exact za
 exact rfl
 exactλ_ hw=>(p4 (hraM (by(focus exact zc2))) hw)
 repeat'(first|(apply Yk T;exact rfl;exact zm;exact rfl;exact zv;exact rfl;exact rfl)|refine zgb ?_|fail)
 refine XE (λz:{z:LxM//z.y.rq=ry/\z.y.lens}=>[(6,.pointer (some ⟨z.1.g6,0,none⟩)),(7,.int .i64 re),(4,.int .i64 (i:Nat)),(14,.int .i64 (i:Nat)),(13,.int .i64 q.length),(12,.slice qA q.length qcap),(0,.pointer (some ⟨g,0,none⟩)),(1,.slice iA ia.length icap)])
  (λz=>rqA z.1.g6 z.1.y::rqQ z.1.y::blk g (.cells #[.int .i64 n.nodes,.slice n.pA n.rows.length n.pcap,.int .i64 n.noise,.int .i64 n.thr,.slice n.lA n.links.length n.lcap,.slice n.mA n.margin.length n.mcap,.slice qA q.length qcap,.int .i64 s.len,.int .i64 s.off,.slice s.A s.cells.length s.cap,.slice cA c.length ccap,.slice fA f.length fcap,.int .i64 e] 164 (0,0))::sl 56 7 qA q.length qcap (Q.flatMap rqF)::many (Q.map rqQ)::[many H]) ?_ ?_
 ·intro K2 hK2
  apply Je (.n1 0 (.n1 1 (.n1 2 (.n1 3 (.n1 4 (.n1 5 (.n1 6 (.n2 7 (.n1 8 (.n1 9 (.n1 10 (.n1 11 (.n1 12 (.n1 13 .done)))))) 11 (.n1 7 (.n1 8 (.n1 9 (.n1 10 (.n1 12 (.n1 13 .done)))))))))))))) [] [true,true]
  kernel_rfl
  kernel_rfl
  exact zy
  exact rfl
  repeat'(first|(apply Yk T;exact rfl;exact zm;exact rfl;exact zv;exact rfl;exact rfl)|((apply Ye _ YsS);exact za;exact rfl;exactλ_ hw=>p5 (hinM zm) hw;rintro _ _ ⟨y,rfl,hy,hyl,rfl⟩)|(apply Yj;try exact zl)|apply(zs91 ?_ ?_)|(apply YW;try exact zl)|refine zgd ?_|(refine zgh ?_;intro _)|fail)
  all_goals(
   rename_i gA
   apply hK2 ⟨⟨gA,y⟩,hy,hyl⟩
   ·exact zu
   ·exact zk)
 rintro⟨⟨g6,y⟩,hy,hyl⟩
 dsimp only at hy hyl⊢
 by_cases hre:re=0
 rotate_left
 ·have hb:lowB n.net ia q0=false:=by
   cases h:lowB n.net ia q0 with
   |false=>rfl
   |true=>
    have h1:=TK.1 h i (TN.2 (by omega))
    rw[RO,Tt,Tt,hsk i rfl]at h1
    rcases h1 with h1|h1
    ·exact absurd h1 hmem
    ·exact absurd h1 hre
  clear hK
  refine Yml ?_<;>intros
  apply Xv (bldA g ⟨n,qA,qcap,Q,s,cA,ccap,c,fA,fcap,f,e⟩::rqs qA qcap Q::many (Q.map rqQ)::[many H])
  ·intro w hw
   have h5:St B w0 (blk g (.cells #[.int .i64 n.nodes,.slice n.pA n.rows.length n.pcap,.int .i64 n.noise,.int .i64 n.thr,.slice n.lA n.links.length n.lcap,.slice n.mA n.margin.length n.mcap,.slice qA q.length qcap,.int .i64 s.len,.int .i64 s.off,.slice s.A s.cells.length s.cap,.slice cA c.length ccap,.slice fA f.length fcap,.int .i64 e] 164 (0,0))::sl 56 7 qA q.length qcap (Q.flatMap rqF)::many (Q.map rqQ)::[many H]) w:=by
    revert w
    exact zc0
   rw[<-hQl]at h5
   exact h5
  apply Xt [bldA g ⟨n,qA,qcap,Q,s,cA,ccap,c,fA,fcap,f,e⟩] _ en80
  exact za
  try exact zl
  exact zp
  exact rfl
  exactλ_ hw=>(p3 ⟨n,qA,qcap,Q,s,cA,ccap,c,fA,fcap,f,e⟩ 18 hw)
  rintro _ _ ⟨rfl,rfl⟩
  refine Um ?_
  apply Yg (bldA g (BuM.fail ⟨n,qA,qcap,Q,s,cA,ccap,c,fA,fcap,f,e⟩ 18)::rqs qA qcap Q::many (Q.map rqQ)::H)
  ·intro w hw
   have h5:St B w0 (bldA g (BuM.fail ⟨n,qA,qcap,Q,s,cA,ccap,c,fA,fcap,f,e⟩ 18)::rqs qA qcap Q::many (Q.map rqQ)::[many H]) w:=by
    revert w
    exact zc0
   exact zc87
  apply ZD;exact rfl
  exact⟨Q,Xx e 18,rfl,hQl,hQs,.inr ⟨hb,rfl⟩,rfl⟩
 subst hre
 refine Yml ?_<;>intros
 apply YD [0,1,2,3,4,5,6,7] [8] [true,true,true,true,true,true]
 kernel_rfl
 kernel_rfl
 exact zy
 (simp only[Yd,nthO];rfl)
 (simp only[Yd,nthO];rfl)
 repeat'(first|(apply Yk T;exact rfl;exact zm;exact rfl;exact zv;exact rfl;exact rfl)|(apply Xw T (f:=rqF) (l:=Q) (i:=i) (a:=y);(iterate 3 exact rfl);exact zd;exactλ_=>rfl;(iterate 3 exact rfl);omega)|refine zgd ?_|fail)
 apply hK ⟨i+1,Q.set i y⟩
 ·refine⟨by exact zc71,by show(Q.set i _).length=_;rw[TT,hQl],λz hz=>?_,?_,λj hj=>?_⟩
  ·rcases Ni hz with h|rfl
   ·exact hQs z h
   ·exact hyl
  ·show(Q.set i y).map RqM.rq=_
   rw[List.map_set,hQm,hlq,hy]
  ·rcases RN.1 hj with h|rfl
   ·exact hQk j h
   ·exact .inr (hsk j rfl)
 ·exact zc36
 ·exact zc1
 ·intro w hw
  dsimp only
  have h5:St B w0 (rqQ y::many (Q.map rqQ)::blk g (.cells #[.int .i64 n.nodes,.slice n.pA n.rows.length n.pcap,.int .i64 n.noise,.int .i64 n.thr,.slice n.lA n.links.length n.lcap,.slice n.mA n.margin.length n.mcap,.slice qA q.length qcap,.int .i64 s.len,.int .i64 s.off,.slice s.A s.cells.length s.cap,.slice cA c.length ccap,.slice fA f.length fcap,.int .i64 e] 164 (0,0))::sl 56 7 qA q.length qcap ((Q.set i y).flatMap rqF)::[many H]) w:=by
   revert w
   exact zc0
  have h6:=h5.perm (YnG (Q:=Q) (i:=i) (y:=y) (by omega) _)
  clear hw h5
  revert w
  exact zc0
structure TmM where
 i:Nat
 A:Option Addr
 cap:Nat
 l:List Cel
theorem Ymu(n:NetM)(q:List RqM)(s:SchM){A:Option Addr}{cap B:Nat}{w0:World}{H:List HP}{w:World}(ht:TabsB B w0)(hin:n.In B w0 H)(hq:QIn B w0 H A q)(hrs:Rd B w0 H s.A (s.cells.flatMap celF))(hsl:s.cells.length<=1000000000000)(hw:St B w0 H w):
 CX B w0 81 [n.val,.slice A q.length cap,s.val] w (OutS H (YdB n.net (q.map RqM.rq) s.sch)):=by
 refine Ya Tryz.func81 Tryz.ntmps81 rfl rfl hw ?_
 have hop:∀w,St B w0 [many H] w->St B w0 H w:=λw hw=>hw.perm (.openT H)
 have hin:=hin.mono hop
 have hq:=hq.mono hop
 have hrs:=hrs.mono hop
 have p1:=λ{H':List HP}{w:World}(hin:n.In B w0 H') (hq:QIn B w0 H' A q) (hrs:Rd B w0 H' s.A (s.cells.flatMap celF)) (hw:St B w0 H' w)=>Ybb n q s (cap:=cap) ht hin hq hrs hsl hw
 have p2:=λ(x:RqM) (h1:1<=x.rows.length/\x.rows.length<=1000) (hok:∀r∈x.rows,(Y4 n.net s.sch x.f r.xs).2=0) {H':List HP}{w:World}(hin:n.In B w0 H') (hrs:Rd B w0 H' s.A (s.cells.flatMap celF)) (hx:x.In B w0 H') (hw:St B w0 H' w)=>Ykk n s x.f x.rows h1 hok (cap:=x.cap) ht hin hrs hsl hx.rt hx.rw_ hx.rl hw
 unfold NetM.val SchM.val at p1 p2⊢
 unfold flwV at p2
 refine XM [many H] (λw hw=>hw.perm (.closeT H)) ?_
 unfold YdB
 refine zX97 ?_<;>intros
 rename_i g3 g5 g6
 first|apply Yb Ylq|apply Yc Ylq
 exact za
 exact rfl
 exactλ_ hw=>(p1 hin.cons.cons.cons hq.cons.cons.cons hrs.cons.cons.cons hw)
 by_cases hc:(YS n.net (q.map RqM.rq) s.sch).2.2=0
 rotate_left
 ·rw[Tn hc,Tj hc]
  refine zX2 ?_
  apply Yw T (H2:=cels none 0 []::H);(iterate 3 exact rfl);(focus exact zc2);exact rfl;exact rfl
  ·intro w hw
   have h5:St B w0 [many H] w:=by
    revert w
    exact zc0
   exact zc57
  exact Uj 1 rfl rfl
 rw[Ti hc,Tf (λe=>e hc)]
 have hrq:(rqsE n.net (q.map RqM.rq)).2=0:=RE.1 λh1=>by
  unfold YS at hc;rw[Tj h1]at hc;exact h1 hc
 have hql:q.length<=16:=(YkJ hrq).1
 obtain⟨hval,hwant⟩:=Zo.1 hc
 have hfrm:=(Vo.1 (ZW.1 hval)).frm
 have hfew:s.cells.length<=512:=hfrm.few
 have hord:Ord s.cells:=hfrm.ord
 have hwx:∀x∈q,(1<=x.rows.length/\x.rows.length<=1000)/\∀r∈x.rows,(Y4 n.net s.sch x.f r.xs).2=0:=λx hx=>by
  have h1:=hwant x.rq (TE.2 ⟨x,hx,rfl⟩)
  unfold Oh at h1
  rw[Tq,Tt,RZ]at h1
  obtain⟨h2,h3⟩:=h1
  have h4:x.rq.2.length=x.rows.length:=Tv _
  refine⟨by omega,λr hr=>?_⟩
  exact(Ygg h3 (TE.2 ⟨r,hr,rfl⟩)).1
 refine zX2 ?_
 refine Yh (λz:TmM=>[(21,.int .i64 (z.i:Nat)),(20,.int .i64 q.length),(19,.slice A q.length cap),(8,.slice z.A z.l.length z.cap),(6,.pointer (some ⟨g6,0,none⟩)),(5,.pointer (some ⟨g5,0,none⟩)),(3,.pointer (some ⟨g3,0,none⟩))])
  (λz=>cels z.A z.cap z.l::blk g6 (.cells (Value.agg #[.int .i64 0,.int .i64 0,.slice none 0 0]).cells 30 (0,0))::schA g5 s::netA g3 n::[many H])
  (λz=>z.i<=q.length/\z.l=YcS n.net s.sch ((q.map RqM.rq).take z.i)) (λz=>q.length-z.i) ⟨0,none,0,[]⟩ ⟨Tm _,rfl⟩ ?_ ?_ ?_
 ·exact zc1
 ·intro w hw
  have h5:St B w0 (blk g6 (.cells (Value.agg #[.int .i64 0,.int .i64 0,.slice none 0 0]).cells 30 (0,0))::schA g5 s::netA g3 n::[many H]) w:=by
   revert w
   exact zc0
  exact h5.nilSlice 117 5
 rintro⟨i,A1,c1,l⟩ ⟨hi,hl⟩ K hK
 dsimp only at hi hl⊢
 have hll:l.length<=16*512:=by
  have h1:=Yic n.net s.sch ((q.map RqM.rq).take i)
  rw[<-hl]at h1
  have h2:((q.map RqM.rq).take i).length<=16:=by rw[TX,Tv];omega
  have h3:=Nat.mul_le_mul h2 hfew
  have h4:s.sch.cells.length=s.cells.length:=rfl
  rw[h4]at h1
  omega
 by_cases hlt:i<q.length
 rotate_left
 ·obtain rfl:i=q.length:=by omega
  rw[Rl (by rw[Tv];exact Ybk)]at hl
  clear hK
  refine zX0 ?_<;>intros
  apply Xt [cels A1 c1 l] _ YvR
  exact za
  try exact zl
  exact zp
  exact rfl
  exactλ_ hw=>(YgQ l (by omega) hw)
  rintro _ _ ⟨rfl,l2,hp,ho,rfl⟩
  have hl2:l2.length=l.length:=hp.length_eq
  rw[<-hl2]
  refine zX4 ?_
  apply Xt [cels A1 c1 l2] _ YvS
  exact za
  try exact zl
  exact zp
  exact rfl
  exactλ_ hw=>(YdW l2 (by omega) hw)
  rintro _ _ ⟨rfl,rfl⟩
  rw[Ynx hord (hl▸hp) ho]
  refine zX2 ?_
  apply Yw T (H2:=cels A1 c1 (s.sch.cells.filter (Yja n.net s.sch (q.map RqM.rq)))::H);(iterate 3 exact rfl);(focus exact zc2);exact rfl;exact rfl
  ·intro w hw
   have h5:St B w0 (cels A1 c1 (s.sch.cells.filter (Yja n.net s.sch (q.map RqM.rq)))::[many H]) w:=by
    revert w
    exact zc0
   exact Yjm
  exact⟨A1,c1,rfl,rfl⟩
 obtain⟨x,hx⟩:∃x,q[i]? =some x:=⟨_,Ta hlt⟩
 have hxm:=Tc hx
 obtain⟨hx1,hx2⟩:=hwx x hxm
 have hqr:Rd B w0 (cels A1 c1 l::blk g6 (.cells (Value.agg #[.int .i64 0,.int .i64 0,.slice none 0 0]).cells 30 (0,0))::schA g5 s::netA g3 n::[many H]) A (q.flatMap rqF):=hq.rd.cons.cons.cons.cons
 have hst:YcS n.net s.sch ((q.map RqM.rq).take (i+1))=l++s.cells.filter (OQ n.net s.sch (x.f,x.rows.map (·.xs))):=by
  rw[hl,TG,TM,hx]
  unfold YcS
  rw[T9]
  simp only[Sl,SE,TR,ND,Ri]
  rfl
 have p3:=λ{H':List HP}{w:World}(hin:n.In B w0 H') (hrs:Rd B w0 H' s.A (s.cells.flatMap celF)) (hxi:x.In B w0 H') (hw:St B w0 H' w)=>p2 x hx1 hx2 hin hrs hxi hw
 have hfl:=RB (OQ n.net s.sch (x.f,x.rows.map (·.xs))) s.cells
 clear p2
 generalize s.cells.filter (OQ n.net s.sch (x.f,x.rows.map (·.xs)))=m at p3 hst hfl
 refine Q5 ?_<;>intros
 apply Ye _ YvQ
 exact za
 exact rfl
 exactλ_ hw=>(p3 (hin.mono zc0) (hrs.mono zc0) ((hq.x x hxm).mono zc0) (hw))
 rintro _ _ ⟨A2,c2,rfl,rfl⟩
 unfold cels
 repeat'(first|(apply XN T (f:=celF) (l2:=m) (e:=117) (size:=5) (xs:=l.flatMap celF);(iterate 3 exact rfl);exact Rd.sl zm;exact(λ_=>rfl);exact(λ_=>rfl);exact rfl;(intro _ _;exact zd);omega;intro A3 c3)|refine zgc ?_|(refine zge ?_ ?_<;>intro _<;>try exact zo)|fail)
 rename_i A3 c3
 apply hK ⟨i+1,A3,c3,l++m⟩
 ·exact⟨by exact zc71,hst.symm⟩
 ·exact zc36
 ·rw[To]
  exact zc1
 ·intro w hw
  dsimp only
  unfold cels
  rw[To,T9]
  revert w
  exact zc0
structure YsM(p:Pln):Prop where
 cert:(YS p.n p.q p.s).2.2=0
 c:p.c=(YS p.n p.q p.s).1
 free:(Jm p.s).2=0
 f:p.f=(Jm p.s).1
def Made(n:Net)(l:List Flw)(len off:Int)(R:Option Pln×Int):Prop:=(R.2≠0/\R.1=none)\/∃p,R=(some p,0)/\YsM p/\p.n=n/\Y6 p.q=l/\p.s.len=len/\p.s.off=off
variable {n:Net}{f:Flw}
theorem Yn5(h:(VX n f).2=0):(VX n f).1.1=f:=by
 unfold VX at h⊢
 split
 ·rename_i h1;rw[Tj h1]at h;exact absurd h h1
 ·rfl
theorem Yqp(h:(reqE n f).2=0):(reqE n f).1.1=f:=by
 unfold reqE at h⊢
 split
 ·rfl
 ·rename_i h1
  rw[h1]at h
  exact Yn5 h
theorem YlT{a b:Int}(h:b≠0):Xx a b≠0:=by
 unfold Xx
 split
 ·exact h
 ·assumption
theorem YkG{l:List Flw}(h:(VW n l).2.2=0):Y6 (VW n l).1=l:=by
 unfold VW at h⊢
 by_cases h1:Yp n=0
 rotate_left
 ·rw[Tj h1]at h;cases h
 rw[Tf (λe=>e h1)]at h⊢
 by_cases h2:(Yz n.nodes l).2=0
 rotate_left
 ·rw[Tj h2]at h;exact absurd h h2
 rw[Tf (λe=>e h2)]at h⊢
 by_cases h3:(Ydf n l).2=0
 rotate_left
 ·rw[Tj h3]at h;exact absurd h h3
 rw[Tf (λe=>e h3)]
 unfold Ydf at h3
 unfold Y6
 show(l.map λf=>(reqE n f).1).map Prod.fst=l
 rw[N7]
 apply List.ext_getElem (by simp)
 intro i hi hi2
 rw[List.getElem_map]
 have:=YG.1 h3 i (Tm _) (by omega)
 unfold Xk at this
 rw[Tu,Ta hi2]at this
 exact Yqp this
variable {A:Option Addr}{cap B:Nat}{w0 w:World}{H:List HP}
theorem Ycs(l m:List Int)(hlen:l.length<=9223372036854775807){A2:Option Addr}{cap2:Nat}(hr:Rd B w0 H A (l.flatMap numF))(hr2:Rd B w0 H A2 (m.flatMap numF))(hw:St B w0 H w):
 CX B w0 34 [.slice A l.length cap,.slice A2 m.length cap2] w λu K=>u=.bool (decide (l=m))/\K=H:=by
 refine Ya Tryz.func34 Tryz.ntmps34 rfl rfl hw ?_
 by_cases hll:l.length=m.length
 rotate_left
 ·exact zc17
 refine zX0 ?_<;>intros
 refine Yh (λ(k:Nat)=>[(13,.int .i64 k),(12,.int .i64 l.length),(0,.slice A l.length cap),(1,.slice A2 m.length cap2)]) (λ_=>H) (λk=>k<=l.length/\l.take k=m.take k) (λk=>l.length-k) 0 ⟨Tm _,by simp⟩ ?_ (λw hw=>hw) ?_
 ·exact zc1
 rintro k ⟨hk,hi⟩ K hK
 by_cases hlt:k<l.length
 ·obtain⟨a,ha⟩:∃a,l[k]? =some a:=⟨_,Ta hlt⟩
  obtain⟨b,hb⟩:∃b,m[k]? =some b:=⟨_,Ta (by omega)⟩
  repeat'(first|refine zgd ?_|(refine zge ?_ ?_<;>intro _<;>try exact zo)|fail)
  ·exact zc55
  ·rename_i h
   apply hK (k+1)
   ·exact⟨by omega,by exact YdK⟩
   ·omega
   ·exact zc1
   exact zc19
 exact zc9
theorem Vf(p:PnM)(ht:TabsB B w0)(hp:p.In B w0 H)(hw:St B w0 H w):
 CX B w0 9 [p.val] w λv K=>v=.int .i64 (chkP p.pln)/\K=H:=by
 refine Ya Tryz.func9 Tryz.ntmps9 rfl rfl hw ?_
 obtain⟨n,qA,qcap,q,s,cA,ccap,c,fA,fcap,f⟩:=p
 obtain⟨hin,hq,hrs,hsl,hc,hf,hfl⟩:=hp
 dsimp only at hin hq hrs hsl hc hf hfl
 have p1:=λ{H':List HP}{w:World}(hin:n.In B w0 H') (hw:St B w0 H' w)=>Wm n hin hw
 have p2:=λ{H':List HP}{w:World}(hin:n.In B w0 H') (hq:QIn B w0 H' qA q) (hrs:Rd B w0 H' s.A (s.cells.flatMap celF)) (hw:St B w0 H' w)=>UG n q s (cap:=qcap) ht hin hq hrs hsl hw
 have p3:=λ{H':List HP}{w:World}(hin:n.In B w0 H') (hq:QIn B w0 H' qA q) (hrs:Rd B w0 H' s.A (s.cells.flatMap celF)) (hc:CIn B w0 H' cA c) (hw:St B w0 H' w)=>Yf0 n q s c (cap:=qcap) (cap1:=ccap) ht hin hq hrs hsl hc hw
 have p4:=λ{H':List HP}{w:World}(hrs:Rd B w0 H' s.A (s.cells.flatMap celF)) (hw:St B w0 H' w)=>Yeg s ht hrs hsl hw
 unfold PnM.val
 show VC _ _ B w0 _ (bodyPost _ _ (Post B w0 λv K=>v=.int .i64 (chkP ⟨n.net,q.map RqM.rq,s.sch,c.map ClM.clm,f⟩)/\K=H)) _ _
 unfold chkP
 dsimp only
 unfold OutC at p2
 obtain⟨⟨RC,ri,re⟩,hR⟩:∃R,YS n.net (q.map RqM.rq) s.sch=R:=⟨_,rfl⟩
 obtain⟨⟨RF,fe⟩,hRF⟩:∃R,Jm s.sch=R:=⟨_,rfl⟩
 obtain⟨⟨ki,ke⟩,hRK⟩:∃R,chkE n.net (q.map RqM.rq) s.sch (c.map ClM.clm)=R:=⟨_,rfl⟩
 rw[hR]at p2⊢
 rw[hRF]at p4⊢
 rw[hRK]at p3⊢
 dsimp only at p2 p3 p4⊢
 have hFn:RF.length<=9223372036854775807:=by
  have h2:=TC (λz=>z.1.length) hRF
  dsimp only at h2
  unfold Jm at h2
  split at h2
  ·simp only[Rj]at h2;omega
  ·rename_i h0
   unfold VJ at h2
   rw[UH,Rm]at h2
   have h3:=(Zt.1 (by simpa using h0)).sized
   exact Yuu
 unfold NetM.val at p1
 unfold NetM.val SchM.val at p2 p3
 unfold SchM.val at p4
 clear hR hRF hRK
 by_cases hck:Yp n.net=0
 rotate_left
 ·rw[Tj hck]
  rw[Tn hck]at p1
  refine Yty ?_<;>intros
  first|apply Yb en37|apply Yc en37
  exact za
  exact rfl
  exactλ_ hw=>(p1 (hin.mono zc0) hw)
  refine Um ?_
  apply Yg H
  ·exact zc0
  exact zc5
 rw[Tf (λe=>e hck)]
 rw[Ti hck]at p1
 refine Yty ?_<;>intros
 first|apply Yb en37|apply Yc en37
 exact za
 exact rfl
 exactλ_ hw=>(p1 (hin.mono zc0) hw)
 refine Um ?_
 apply Ye _ en38
 exact za
 exact rfl
 exactλ_ hw=>(p2 (hin.mono zc0) (hq.mono zc0) (hrs.mono zc0) (hw))
 rintro _ _ ⟨A2,c2,C,rfl,hC,hCl,rfl⟩
 by_cases h18:re=15\/re=1/\ri<0
 ·rw[Tj h18]
  repeat'(first|(apply Yk T;exact rfl;exact zm;exact rfl;exact zv;exact rfl;exact rfl)|refine zgd ?_|(refine zge ?_ ?_<;>intro _<;>try exact zo)|fail)
  all_goals try exact zo
  all_goals(
   apply Yg H
   ·exact zk
   apply Yf;exact rfl;exact rfl;exact⟨rfl,rfl⟩)
 rw[Tf h18]
 by_cases h0:re=0
 rotate_left
 ·rw[Tj h0]
  repeat'(first|(apply Yk T;exact rfl;exact zm;exact rfl;exact zv;exact rfl;exact rfl)|refine zgd ?_|(refine zge ?_ ?_<;>intro _<;>try exact zo)|fail)
  all_goals try exact zo
  all_goals(
   apply Yg H
   ·exact zk
   apply Yf;exact rfl;exact rfl;exact⟨rfl,rfl⟩)
 rw[Tf (λe=>e h0)]
 subst h0
 refine Ybj ?_<;>intros
 all_goals try exact zo
 first|apply Yb en39|apply Yc en39
 exact za
 exact rfl
 exactλ_ hw=>(p3 (hin.mono zc0) (hq.mono zc0) (hrs.mono zc0) (hc.mono zc0) hw)
 by_cases hk0:ke=0
 rotate_left
 ·rw[Tj hk0]
  refine Ybj ?_<;>intros
  apply Yg H
  ·exact zc0
  exact zc5
 rw[Tf (λe=>e hk0)]
 refine Ybj ?_<;>intros
 apply Ye _ en40
 exact za
 exact rfl
 exactλ_ hw=>(p4 (hrs.mono zc0) (hw))
 rintro _ _ ⟨A3,rfl,rfl⟩
 have p5:=λ{cap1 cap2:Nat}{H':List HP}{w:World}(h1:Rd B w0 H' A3 (RF.flatMap numF)) (h2:Rd B w0 H' fA (f.flatMap numF)) (hw:St B w0 H' w)=>Ycs RF f hFn (cap:=cap1) (cap2:=cap2) h1 h2 hw
 by_cases hf0:fe=0
 rotate_left
 ·rw[Tj (.inl hf0)]
  refine Ybj ?_<;>intros
  all_goals try exact zo
  all_goals(
   apply Yg H
   ·exact zc0
   exact zc5)
 by_cases hff:RF=f
 ·rw[Tf (by rintro(h|h);exact h hf0;exact h hff)]
  rw[Ti hff]at p5
  refine Ytz ?_<;>intros
  all_goals try exact zo
  all_goals(
   apply Yg H
   ·exact zc0
   exact zc5)
 ·rw[Tj (.inr hff)]
  rw[Tn hff]at p5
  refine Ytz ?_<;>intros
  all_goals try exact zo
  all_goals(
   apply Yg H
   ·exact zc0
   exact zc5)
theorem Ydd(word:List UInt8)(l:List Int)(h:∀n∈l,0<=n/\n<10000)(h5:l.length<=100)(hwd:word.length<=100)(ht:TabsB B w0)(hr:Rd B w0 H A (l.flatMap numF))(hw:St B w0 H w):
 CX B w0 84 [strV word,.slice A l.length cap] w λv K=>v=strV (XF word l)/\K=H:=by
 refine Ya Tryz.func84 Tryz.ntmps84 rfl rfl hw ?_
 refine zX9 ?_
 refine Yh (λ(i:Nat)=>[(9,.int .i64 i),(8,.int .i64 l.length),(7,.slice A l.length cap),(0,strV (Zh word (l.take i)))]) (λ_=>H) (λi=>i<=l.length) (λi=>l.length-i) 0 (Tm _) ?_ (λw hw=>hw) ?_
 ·have e0:Zh word (l.take 0)=word:=by simp[Zh]
  rw[e0]
  exact zc1
 intro i hi K hK
 have hbl:=WH (w:=word) (l:=l.take i) λn hn=>h n (SC hn)
 have hlt0:(l.take i).length<=100:=by grind
 by_cases hlt:i<l.length
 ·obtain⟨n,hn⟩:∃n,l[i]? =some n:=⟨_,Ta hlt⟩
  have hnb:=h n (Tc hn)
  have hil:=QI hnb
  refine zX37 ?_<;>intros
  apply hK (i+1)
  ·show i+1<=l.length
   omega
  ·omega
  ·rw[TG,hn,SE,Q9]
   exact zc1
  exact zc19
 exact zc14
variable {B cap:Nat}{w0 w:World}{H:List HP}
theorem Yp2(y:Flw)(len:Int)(g:Nat)(hl:0<=len)(hp:1<=y.2.2.2.1)(hm:intA g len∈H)(hw:St B w0 H w):
 CX B w0 76 [flwV y,.pointer (some ⟨g,0,none⟩)] w λv K=>v=.bool (decide (len.tmod y.2.2.2.1≠0))/\K=H:=by
 refine Ya Tryz.func76 Tryz.ntmps76 rfl rfl hw ?_
 unfold flwV
 rw[Rq hl]
 by_cases h:len%y.2.2.2.1=0
 ·have h2:decide (len%y.2.2.2.1≠0)=false:=Tn (λe=>e h)
  rw[h2]
  refine zX44 ?_<;>intros
  all_goals(apply Yg H;((intro w hw;refine hw.perm ?_;focus exact zc3));exact zc13)
 ·have h2:decide (len%y.2.2.2.1≠0)=true:=Ti h
  rw[h2]
  refine zX44 ?_<;>intros
  all_goals(apply Yg H;((intro w hw;refine hw.perm ?_;focus exact zc3));exact zc13)
structure MkOk(n:NetM)(qA:Option Addr)(qcap:Nat)(ql:Nat)(RR:Option Pln×Int)(z:BuM):Prop where
 eqn:z.n=n
 eqA:z.qA=qA
 eqc:z.qcap=qcap
 eql:z.q.length=ql
 lens:∀x∈z.q,x.lens
 sl:z.s.cells.length<=1000000000000
 res:fin2 n.net (z.q.map RqM.rq) z.s.sch z.e=RR
theorem Yb4(n:Net)(q:List Rqs)(len off:Int):(Xo n q len off).1.1.cells.length<=512:=by
 unfold Xo
 split
 ·exact YdM
 split
 ·exact YdM
 split
 ·exact YdM
 have hrq:(rqsE n q).2=0:=by omega
 have:=Ybu hrq (len:=len) (off:=off) (by omega) (by omega) q.length (TI _)
 exact(Vo.1 (ZW.1 (Zo.1 this.ok).1)).frm.few
theorem Yrz(n:Net)(q:List Rqs)(len off:Int):(Xo n q len off).1.2.length<=q.length:=by
 unfold Xo
 split
 ·simp_all
 split
 ·simp_all
 split
 ·simp_all
 have hrq:(rqsE n q).2=0:=by omega
 have:=Ybu hrq (len:=len) (off:=off) (by omega) (by omega) q.length (TI _)
 rw[this.cnt];exact this.few
variable {A:Option Addr}
theorem Yql{l:List Int}(h:ZN A cap l∈H):Rd B w0 H A (l.flatMap numF):=Rd.sl h
theorem YkT(n:Net)(q:List Rqs)(s:Sch):(YdB n q s).1.cells.length<=s.cells.length:=by
 unfold YdB
 split
 ·exact YdM
 ·exact Ymo
theorem Ynb(e:Int):Xx 0 e=e:=Tj rfl
theorem Yag{a:Int}(b:Int)(h:a≠0):Xx a b=a:=Tf h
theorem Ycx{n:Net}{q:List Rqs}{s:Sch}{e:Int}(h:e≠0):fin2 n q s e=(none,e):=Tf h
theorem Yim(n:NetM)(l:List Flw)(len off:Int)(h24:len<=24\/512<len)(hll:l.length<=1000000000000)(hrun:∀f∈l,Wz 100000 n.net f.2.1 f.2.2.1=some (VM n.net f))(ht:TabsB B w0)(hin:n.In B w0 H)(hr:Rd B w0 H A (l.flatMap flwF))(hw:St B w0 H w):
 CX B w0 31 [n.val,.slice A l.length cap,.int .i64 len,.int .i64 off] w (Yk4 B w0 H (Yl3 n.net l len off)):=by
 refine Ya Tryz.func31 Tryz.ntmps31 rfl rfl hw ?_
 have p1:=λ{H':List HP}{w:World}(hin:n.In B w0 H') (hw:St B w0 H' w)=>Wm n hin hw
 have p2:=λ{H':List HP}{w:World}(hr:Rd B w0 H' A (l.flatMap flwF)) (hw:St B w0 H' w)=>Y9 n.nodes l (TU hll (by decide)) (cap:=cap) hr hw
 have p3:=λ{H':List HP}{w:World}(hin:n.In B w0 H') (hr:Rd B w0 H' A (l.flatMap flwF)) (hw:St B w0 H' w)=>Yd8 n l hll hrun (cap:=cap) hin hr hw
 have hop:∀w,St B w0 [many H] w->St B w0 H w:=λw hw=>hw.perm (.openT H)
 have hinM:∀{H':List HP},many H∈H'->n.In B w0 H':=λhm=>hin.mono λw hw=>hw.inM hm
 have hrM:∀{H':List HP},many H∈H'->Rd B w0 H' A (l.flatMap flwF):=λhm=>hr.mono λw hw=>hw.inM hm
 unfold NetM.val at p1 p3⊢
 refine XM [many H] (λw hw=>hw.perm (.closeT H)) ?_
 unfold Yl3
 by_cases hck:Yp n.net=0
 rotate_left
 ·rw[Tj (.inl hck)]
  rw[Tn hck]at p1
  repeat'(first|(apply zg23;first|(refine zs52 ?_;intro _)|(refine zs53 ?_;intro _))|refine zgb ?_|(refine zgh ?_;intro _)|fail)
  first|apply Yb en37|apply Yc en37
  exact za
  exact rfl
  exactλ_ hw=>(p1 (hinM zm) hw)
  repeat'(first|refine zgd ?_|fail)
  apply Yw T (H2:=H);(iterate 3 exact rfl);exact zm;exact rfl;exact rfl
  ·intro w hw
   have h5:St B w0 [many H] w:=by
    revert w
    exact zk
   exact hop w h5
  exact .inl ⟨rfl,rfl,rfl⟩
 rw[Ti hck]at p1
 have hnd:n.net.nodes=n.nodes:=rfl
 rw[hnd]
 obtain⟨⟨fi,fe⟩,hF⟩:∃R,Yz n.nodes l=R:=⟨_,rfl⟩
 rw[hF]at p2⊢
 dsimp only at p2⊢
 by_cases hfe:fe=0
 rotate_left
 ·rw[Tj (.inr hfe)]
  repeat'(first|(apply zg23;first|(refine zs52 ?_;intro _)|(refine zs53 ?_;intro _))|refine zgb ?_|(refine zgh ?_;intro _)|fail)
  first|apply Yb en37|apply Yc en37
  exact za
  exact rfl
  exactλ_ hw=>(p1 (hinM zm) hw)
  repeat'(first|refine zgd ?_|fail)
  first|apply Yb en74|apply Yc en74
  exact za
  exact rfl
  exactλ_ hw=>(p2 (hrM zm) hw)
  repeat'(first|refine zgd ?_|(refine zge ?_ ?_<;>intro _<;>try exact zo)|fail)
  apply Yw T (H2:=H);(iterate 3 exact rfl);exact zm;exact rfl;exact rfl
  ·intro w hw
   have h5:St B w0 [many H] w:=by
    revert w
    exact zk
   exact hop w h5
  exact .inl ⟨rfl,rfl,rfl⟩
 subst hfe
 rw[Tf (by rintro(h|h);exact h hck;exact h rfl)]
 have hl16:l.length<=16:=by
  unfold Yz at hF
  split at hF
  ·cases hF
  split at hF
  ·cases hF
  ·omega
 have hper:∀f∈l,1<=f.2.2.2.1:=λf hf=>(Zs (Vt (nodes:=n.nodes) (by rw[hF]) hf)).2.1.1
 repeat'(first|(apply zg23;first|(refine zs52 ?_;intro _)|(refine zs53 ?_;intro _))|refine zgb ?_|(refine zgh ?_;intro _)|fail)
 rename_i g4 g6 g8
 first|apply Yb en37|apply Yc en37
 exact za
 exact rfl
 exactλ_ hw=>(p1 (hinM zm) hw)
 repeat'(first|refine zgd ?_|fail)
 first|apply Yb en74|apply Yc en74
 exact za
 exact rfl
 exactλ_ hw=>(p2 (hrM zm) hw)
 by_cases hrg:len<1\/512<len\/off<1\/16<off
 ·rw[Tj hrg]
  repeat'(first|refine zgd ?_|(refine zgf ?_ ?_<;>intro _<;>try exact zo)|fail)
  all_goals try exact zo
  all_goals(
   apply Yw T (H2:=H);(iterate 3 exact rfl);exact zm;exact rfl;exact rfl
   ·intro w hw
    have h5:St B w0 [many H] w:=by
     revert w
     exact zk
    exact hop w h5
   exact .inl ⟨rfl,rfl,rfl⟩)
 rw[Tf hrg]
 repeat'(first|(apply zg29;(apply Yo;exact za;exact rfl))|refine zgc ?_|(refine zgf ?_ ?_<;>intro _<;>try exact zo)|fail)
 all_goals try exact zo
 first|apply Yb en75|apply Yc en75
 exact za
 exact rfl
 exactλ_ hw=>(WN (λy=>decide (len.tmod y.2.2.2.1≠0)) l 76 [.pointer (some ⟨g6,0,none⟩)] en76 (by omega) (hrM zm) (λa ha w hw=>Yp2 a len g6 (by omega) (hper a ha) zm hw) hw)
 have hpb:(l.any λy:Flw=>decide (len.tmod y.2.2.2.1≠0))=perB l len:=rfl
 rw[hpb]
 cases hh:perB l len with
 |true=>
  rw[Tj rfl]
  repeat'(first|refine zgd ?_|fail)
  apply Yw T (H2:=H);(iterate 3 exact rfl);exact zm;exact rfl;exact rfl
  ·intro w hw
   have h5:St B w0 [many H] w:=by
    revert w
    exact zk
   exact hop w h5
  exact .inl ⟨rfl,rfl,rfl⟩
 |false=>
 rw[Tf (by decide)]
 have hrf:=YkG (n:=n.net) (l:=l)
 generalize VW n.net l=R at p3 hrf
 obtain⟨RQ,ri,re⟩:=R
 unfold Yot at p3
 dsimp only at p3 hrf⊢
 repeat'(first|refine zgc ?_|fail)
 apply Ye _ en77
 exact za
 exact rfl
 exactλ_ hw=>(p3 (hinM zm) (hrM zm) (hw))
 rintro _ _ ⟨A1,c1,q,rfl,hq,hql,rfl⟩
 by_cases hre:re=0
 rotate_left
 ·rw[Tj hre]
  repeat'(first|refine zgd ?_|(refine zge ?_ ?_<;>intro _<;>try exact zo)|fail)
  apply Yw T (H2:=H);(iterate 3 exact rfl);exact zm;exact rfl;exact rfl
  ·intro w hw
   have h5:St B w0 [many H] w:=by
    revert w
    exact zk
   exact hop w h5
  exact .inl ⟨rfl,rfl,rfl⟩
 subst hre
 rw[Tf (show¬(0:Int)≠0 fromλe=>e rfl)]
 have hqn:q.length<=16:=by
  have h1:=TC List.length (hrf rfl)
  have h2:=TC List.length hq
  unfold Y6 at h1
  rw[Tv]at h1 h2
  omega
 have hRQn:RQ.length=q.length:=by rw[<-hq,Tv]
 have hQI:∀{H':List HP}{Q:List RqM},rqs A1 c1 Q∈H'->many (Q.map rqQ)∈H'->Q.length<=16->(∀x∈Q,x.lens)->QIn B w0 H' A1 Q:=λh1 h2 h3 h4=>⟨YkA h1,λx hx=>Yl8 h2 hx (h4 x hx),by omega⟩
 clear p1 p2 p3
 iterate 30 (first|refine zgd ?_|(refine zge ?_ ?_<;>intro _<;>try exact zo)|(refine zgh ?_;intro _)|fail)
 rename_i g15
 have p4:=λ(b:BuM) {H':List HP}{w:World}(hin:b.n.In B w0 H') (hq:QIn B w0 H' b.qA b.q) (hw:St B w0 (bldA g15 b::H') w)=>YhV b g15 len off h24 ht hin hq hw
 have p5:=λ(b:BuM) (ia:List Int) (hia:ia.length<=1000) (hql:b.q.length<=1000) (hqs:∀x∈b.q,x.lens) {iA:Option Addr}{icap:Nat}{H':List HP}{w:World}(hin:b.n.In B w0 H') (hra:Rd B w0 H' iA (ia.flatMap numF)) (hw:St B w0 (bldA g15 b::rqs b.qA b.qcap b.q::many (b.q.map rqQ)::H') w)=>Ygh b g15 ia hia hql hqs (icap:=icap) hin hra hw
 have p6:=λ(b:BuM) (e:Int) {H':List HP}{w:World}(hw:St B w0 (bldA g15 b::H') w)=>Ub b g15 e hw
 obtain⟨RR,hRR⟩:∃RR,YfY n.net RQ len off=RR:=⟨_,rfl⟩
 rw[hRR]
 refine XE (λz:{z:BuM//MkOk n A1 c1 q.length RR z}=>[(15,.pointer (some ⟨g15,0,none⟩)),(4,.pointer (some ⟨g4,0,none⟩)),(8,.pointer (some ⟨g8,0,none⟩)),(9,.int .i64 0)])
  (λz=>bldA g15 z.1::rqs A1 c1 z.1.q::many (z.1.q.map rqQ)::cels z.1.s.A z.1.s.cap z.1.s.cells::netA g4 n::blk g8 (.cells zeroPnV.cells 35 (0,0))::[many H]) ?_ ?_
 ·intro K hK
  repeat'(first|refine zga ?_|fail)
  apply Xv (bldA g15 ⟨n,A1,c1,q,⟨0,0,none,0,[]⟩,none,0,[],none,0,[],0⟩::rqs A1 c1 q::many (q.map rqQ)::blk g8 (.cells zeroPnV.cells 35 (0,0))::intA g6 len::netA g4 n::[many H])
  ·intro w hw
   have h5:St B w0 (blk g15 (.cells #[.int .i64 n.nodes,.slice n.pA n.rows.length n.pcap,.int .i64 n.noise,.int .i64 n.thr,.slice n.lA n.links.length n.lcap,.slice n.mA n.margin.length n.mcap,.slice A1 q.length c1,.int .i64 0,.int .i64 0,.slice none 0 0,.slice none 0 0,.slice none 0 0,.int .i64 0] 164 (0,0))::rqs A1 c1 q::many (q.map rqQ)::blk g8 (.cells (Value.agg #[.int .i64 0,.slice none 0 0,.int .i64 0,.int .i64 0,.slice none 0 0,.slice none 0 0,.slice none 0 0,.int .i64 0,.int .i64 0,.slice none 0 0,.slice none 0 0,.slice none 0 0]).cells 35 (0,0))::intA g6 len::netA g4 n::[many H]) w:=by
    revert w
    exact zk
   exact h5
  have hc1:=Yb4 n.net RQ len off
  have ha1:=Yrz n.net RQ len off
  unfold YfY at hRR
  have p7:=λ{H':List HP}{w:World}(hin:n.In B w0 H') (hqi:QIn B w0 H' A1 q) (hw:St B w0 (bldA g15 ⟨n,A1,c1,q,⟨0,0,none,0,[]⟩,none,0,[],none,0,[],0⟩::H') w)=>p4 ⟨n,A1,c1,q,⟨0,0,none,0,[]⟩,none,0,[],none,0,[],0⟩ hin hqi hw
  dsimp only at p7
  rw[hq]at p7
  generalize Xo n.net RQ len off=R1 at p7 hc1 ha1 hRR
  obtain⟨⟨⟨rl,ro,rc⟩,ra⟩,re⟩:=R1
  dsimp only at p7 hc1 ha1 hRR
  rw[Ynb]at p7
  apply Xt [bldA g15 ⟨n,A1,c1,q,⟨0,0,none,0,[]⟩,none,0,[],none,0,[],0⟩] _ en78
  exact za
  try exact zl
  exact zp
  exact rfl
  exactλ_ hw=>(p7 (hinM zm) (hQI zm zm hqn hql) hw)
  rintro _ _ ⟨A2,c2,iA,ic,rfl,rfl⟩
  by_cases hl1:ra.length=q.length
  ·rw[Tj (by rw[hl1,hRQn])]at hRR
   rw[Ti hl1]
   repeat'(first|refine zgd ?_|fail)
   apply hK ⟨⟨n,A1,c1,q,⟨rl,ro,A2,c2,rc⟩,none,0,[],none,0,[],re⟩,⟨rfl,rfl,rfl,rfl,hql,by show rc.length<=_;omega,by rw[<-hRR,<-hq];rfl⟩⟩
   ·exact zu
   ·exact zk
  rw[Tf (by rw[hRQn];exact hl1)]at hRR
  rw[Tn hl1]
  repeat'(first|refine zgd ?_|fail)
  apply Xt [bldA g15 ⟨n,A1,c1,q,⟨rl,ro,A2,c2,rc⟩,none,0,[],none,0,[],re⟩,rqs A1 c1 q,many (q.map rqQ)] _ en79
  exact za
  try exact zl
  exact zp
  exact rfl
  exactλ_ hw=>(p5 ⟨n,A1,c1,q,⟨rl,ro,A2,c2,rc⟩,none,0,[],none,0,[],re⟩ ra (by omega) (by show q.length<=_;omega) hql (hinM zm) (Yql (cap:=ic) zm) hw)
  rintro _ _ ⟨q',e',rfl,hl',hs',hc',rfl⟩
  dsimp only at hl' hc'
  rw[hq]at hc'
  have hl'16:q'.length<=16:=by omega
  have hRR2:(e'=re/\(if(Xo n.net (q'.map RqM.rq) len off).1.2.length=q'.length then fin2 n.net (q'.map RqM.rq) (Xo n.net (q'.map RqM.rq) len off).1.1 (Xx re (Xo n.net (q'.map RqM.rq) len off).2)else(none,Xx (Xx re (Xo n.net (q'.map RqM.rq) len off).2) 18))=RR)\/(e'≠0/\RR=(none,e')):=by
   rcases hc' with⟨hb,hm,he⟩|⟨hb,he⟩
   ·left
    rw[Tf (by rw[hb];decide),<-hm]at hRR
    unfold fin3 at hRR
    rw[Tv]at hRR
    exact⟨he,hRR⟩
   ·right
    rw[Tj hb]at hRR
    exact⟨by rw[he];exact YlT (by decide),by rw[<-hRR,he]⟩
  have hc2:=Yb4 n.net (q'.map RqM.rq) len off
  have p8:=λ{H':List HP}{w:World}(hin:n.In B w0 H') (hqi:QIn B w0 H' A1 q') (hw:St B w0 (bldA g15 ⟨n,A1,c1,q',⟨rl,ro,A2,c2,rc⟩,none,0,[],none,0,[],e'⟩::H') w)=>p4 ⟨n,A1,c1,q',⟨rl,ro,A2,c2,rc⟩,none,0,[],none,0,[],e'⟩ hin hqi hw
  dsimp only at p8
  clear p4 p5 p7
  generalize Xo n.net (q'.map RqM.rq) len off=R2 at p8 hc2 hRR2
  obtain⟨⟨⟨rl2,ro2,rc2⟩,ra2⟩,re2⟩:=R2
  dsimp only at p8 hc2 hRR2
  repeat'(first|refine zga ?_|fail)
  apply Xt [bldA g15 ⟨n,A1,c1,q',⟨rl,ro,A2,c2,rc⟩,none,0,[],none,0,[],e'⟩] _ en78
  exact za
  try exact zl
  exact zp
  exact rfl
  exactλ_ hw=>(p8 (hinM zm) (hQI zm zm hl'16 hs') hw)
  rintro _ _ ⟨A3,c3,iA3,ic3,rfl,rfl⟩
  by_cases hl2:ra2.length=q'.length
  ·rw[Tj hl2]at hRR2
   rw[Ti hl2]
   repeat'(first|refine zgd ?_|fail)
   apply hK ⟨⟨n,A1,c1,q',⟨rl2,ro2,A3,c3,rc2⟩,none,0,[],none,0,[],Xx e' re2⟩,⟨rfl,rfl,rfl,hl',hs',by show rc2.length<=_;omega,?_⟩⟩
   ·exact zu
   ·exact zk
   rcases hRR2 with⟨he,h⟩|⟨he,h⟩
   ·rw[<-h,he];rfl
   ·show fin2 _ _ _ (Xx e' re2)=_
    rw[Yag _ he,Ycx he,h]
  rw[Tf hl2]at hRR2
  rw[Tn hl2]
  repeat'(first|refine zgd ?_|fail)
  apply Xt [bldA g15 ⟨n,A1,c1,q',⟨rl2,ro2,A3,c3,rc2⟩,none,0,[],none,0,[],Xx e' re2⟩] _ en80
  exact za
  try exact zl
  exact zp
  exact rfl
  exactλ_ hw=>(p6 ⟨n,A1,c1,q',⟨rl2,ro2,A3,c3,rc2⟩,none,0,[],none,0,[],Xx e' re2⟩ 18 hw)
  rintro _ _ ⟨rfl,rfl⟩
  unfold BuM.fail
  dsimp only
  repeat'(first|refine zga ?_|fail)
  apply hK ⟨⟨n,A1,c1,q',⟨rl2,ro2,A3,c3,rc2⟩,none,0,[],none,0,[],Xx (Xx e' re2) 18⟩,⟨rfl,rfl,rfl,hl',hs',by show rc2.length<=_;omega,?_⟩⟩
  ·exact zu
  ·exact zk
  rcases hRR2 with⟨he,h⟩|⟨he,h⟩
  ·rw[<-h,he]
   exact Ycx (YlT (by decide))
  ·show fin2 _ _ _ (Xx (Xx e' re2) 18)=_
   rw[Yag _ he,Yag _ he,Ycx he,h]
 rintro⟨⟨n',qA',qc',Q,S,cA',cc',C',fA',fc',F',e'⟩,hz⟩
 obtain⟨h1,h2,h3,hQl,hQs,hSl,hres⟩:=hz
 dsimp only at h1 h2 h3 hQl hQs hSl hres⊢
 subst h1 h2 h3
 clear p4 p5 p6 hRR
 dsimp only[bldA]
 have hQ16:Q.length<=16:=by omega
 unfold fin2 at hres
 have p7:=λ{H':List HP}{w:World}(hin:n'.In B w0 H') (hqi:QIn B w0 H' qA' Q) (hrs:Rd B w0 H' S.A (S.cells.flatMap celF)) (hw:St B w0 H' w)=>Ymu n' Q S (cap:=qc') ht hin hqi hrs hSl hw
 have htc:=YkT n'.net (Q.map RqM.rq) S.sch
 by_cases he:e'=0
 ·subst he
  rw[Tj rfl]at hres
  unfold OutS NetM.val SchM.val at p7
  generalize YdB n'.net (Q.map RqM.rq) S.sch=RT at p7 hres htc
  obtain⟨t,te⟩:=RT
  dsimp only at p7 hres htc
  have htl:t.cells.length<=1000000000000:=TU htc hSl
  repeat'(first|(apply Yk T;exact rfl;exact zm;exact rfl;exact zv;exact rfl;exact rfl)|refine zgd ?_|(refine zge ?_ ?_<;>intro _<;>try exact zo)|fail)
  apply Us [1,0,2,3,4,5,6,7,8,9,10,11,12,13,14,16,15,17,18,19] [0,1,16,20,21,22,23] [20,21,22,23] [true,true,true,true,true,true,true]
  kernel_rfl
  kernel_rfl
  exact zy
  (simp only[Yd,nthO];rfl)
  (simp only[Yd,nthO];rfl)
  repeat'(first|(apply Yk T;exact rfl;exact zm;exact rfl;exact zv;exact rfl;exact rfl)|refine zgd ?_|fail)
  apply Ye _ en81
  exact za
  exact rfl
  exactλ_ hw=>(p7 (hinM zm) (hQI zm zm hQ16 hQs) (Wf (cap:=S.cap) zm) (hw))
  rintro _ _ ⟨A4,c4,rfl,rfl⟩
  repeat'(first|(apply Yk T;exact rfl;exact zm;exact rfl;exact zv;exact rfl;exact rfl)|(apply Yj;try exact zl)|refine zgd ?_|fail)
  apply Xt [bldA g15 ⟨n',qA',qc',Q,⟨t.len,t.off,A4,c4,t.cells⟩,cA',cc',C',fA',fc',F',te⟩] _ en82
  exact za
  try exact zl
  exact zp
  exact rfl
  exactλ_ hw=>(Un ⟨n',qA',qc',Q,⟨t.len,t.off,A4,c4,t.cells⟩,cA',cc',C',fA',fc',F',te⟩ g15 ht (hinM zm) (hQI zm zm hQ16 hQs) (Wf (cap:=c4) zm) htl hw)
  rintro _ _ hO
  rcases hO with⟨h1,rfl,rfl⟩|⟨p,X,h1,rfl,hp,rfl⟩
  ·unfold zeroPnV
   repeat'(first|refine zgc ?_|fail)
   apply Yw T (H2:=H);(iterate 3 exact rfl);exact zm;exact rfl;exact rfl
   ·intro w hw
    have h5:St B w0 [many H] w:=by
     revert w
     exact zk
    exact hop w h5
   rw[<-hres]
   exact .inl ⟨h1,rfl,rfl⟩
  ·unfold PnM.val
   repeat'(first|refine zgc ?_|fail)
   apply Yw T (H2:=many [many X,cels A4 c4 t.cells]::H);(iterate 3 exact rfl);exact zm;exact rfl;exact rfl
   ·intro w hw
    have h5:St B w0 (many X::cels A4 c4 t.cells::[many H]) w:=by
     revert w
     exact zk
    exact(h5.perm (.cons _ (.cons _ (.openT H)))).perm (.close [_,_] H)
   rw[<-hres]
   exact .inr ⟨p,_,h1,rfl,(hp _ (Wf (cap:=c4) (.head _))).mono λw hw=>(hw.perm (.open_ [_,_] [])),rfl⟩
 ·rw[Tf he]at hres
  have hfe:finE n'.net (Q.map RqM.rq) S.sch e'=(none,e'):=by
   have h:Yf9 n'.net (Q.map RqM.rq) S.sch e'=e':=Tj he
   unfold finE
   rw[h,Tj he]
  repeat'(first|(apply Yk T;exact rfl;exact zm;exact rfl;exact zv;exact rfl;exact rfl)|refine zgd ?_|(refine zge ?_ ?_<;>intro _<;>try exact zo)|fail)
  apply Xt [bldA g15 ⟨n',qA',qc',Q,S,cA',cc',C',fA',fc',F',e'⟩] _ en82
  exact za
  try exact zl
  exact zp
  exact rfl
  exactλ_ hw=>(Un ⟨n',qA',qc',Q,S,cA',cc',C',fA',fc',F',e'⟩ g15 ht (hinM zm) (hQI zm zm hQ16 hQs) (Wf (cap:=S.cap) zm) hSl hw)
  rintro _ _ hO
  dsimp only at hO
  rw[hfe]at hO
  rcases hO with⟨h1,rfl,rfl⟩|⟨p,X,h1,rfl,hp,rfl⟩
  ·unfold zeroPnV
   repeat'(first|refine zgc ?_|fail)
   apply Yw T (H2:=H);(iterate 3 exact rfl);exact zm;exact rfl;exact rfl
   ·intro w hw
    have h5:St B w0 [many H] w:=by
     revert w
     exact zk
    exact hop w h5
   rw[<-hres]
   exact .inl ⟨h1,rfl,rfl⟩
  ·cases h1
end Go.Proofs.YtambgjgljcadlaaGreatDoor
