/- Lemmas for the claim, part 30. -/
import Derived.Test.YtaholidehobiiaaGreatDoorQ27
import Derived.Test.YtaholidehobiiaaGreatDoorQ28
set_option maxRecDepth 100000
set_option maxHeartbeats 8000000
set_option linter.all false
namespace Go.Proofs.YtaholidehobiiaaGreatDoor
open Go.RowKit Go.Eng Go.Nw Go.Rt
structure TmM where
 i:Nat
 A:Option Addr
 cap:Nat
 l:List Cel
theorem Yoa(n:NetM)(q:List RqM)(s:SchM){A:Option Addr}{cap B:Nat}{w0:World}{H:List HP}{w:World}(ht:TabsB B w0)(hin:n.In B w0 H)(hq:QIn B w0 H A q)(hrs:Rd B w0 H s.A (s.cells.flatMap celF))(hsl:s.cells.length<=1000000000000)(hw:St B w0 H w):
 CX B w0 71 [n.val,.slice A q.length cap,s.val] w (OutS H (YeT n.net (q.map RqM.rq) s.sch)):=by
 refine Yc Tryz.func71 Tryz.ntmps71 rfl rfl hw ?_
 have hop:∀w,St B w0 [many H] w->St B w0 H w:=λw hw=>hw.perm (.openT H)
 have hin:=hin.mono hop
 have hq:=hq.mono hop
 have hrs:=hrs.mono hop
 have p1:=λ{H':List HP}{w:World}(hin:n.In B w0 H') (hq:QIn B w0 H' A q) (hrs:Rd B w0 H' s.A (s.cells.flatMap celF)) (hw:St B w0 H' w)=>Ycn n q s (cap:=cap) ht hin hq hrs hsl hw
 have p2:=λ(x:RqM) (h1:1<=x.rows.length/\x.rows.length<=1000) (hok:∀r∈x.rows,(Xl n.net s.sch x.f r.xs).2=0) {H':List HP}{w:World}(hin:n.In B w0 H') (hrs:Rd B w0 H' s.A (s.cells.flatMap celF)) (hx:x.In B w0 H') (hw:St B w0 H' w)=>YlM n s x.f x.rows h1 hok (cap:=x.cap) ht hin hrs hsl hx.rt hx.rw_ hx.rl hw
 unfold NetM.val SchM.val at p1 p2⊢
 unfold flwV at p2
 refine ZW [many H] (λw hw=>hw.perm (.closeT H)) ?_
 unfold YeT
 refine zX70 ?_<;>intros
 rename_i g3 g5 g6
 first|apply Ya Ym6|apply Yb Ym6
 exact za
 exact rfl
 exactλ_ hw=>(p1 hin.cons.cons.cons hq.cons.cons.cons hrs.cons.cons.cons hw)
 by_cases hc:(YN n.net (q.map RqM.rq) s.sch).2.2=0
 rotate_left
 ·rw[Ti hc,Tn hc]
  refine zX2 ?_
  apply Yq T (H2:=cels none 0 []::H);(iterate 3 exact rfl);(focus exact zc2);exact rfl;exact rfl
  ·intro w hw
   have h5:St B w0 [many H] w:=by
    revert w
    exact zc0
   exact zc53
  exact UU 1 rfl rfl
 rw[Td hc,Tf (λe=>e hc)]
 have hrq:(rqsE n.net (q.map RqM.rq)).2=0:=Rn.1 λh1=>by
  unfold YN at hc;rw[Tn h1]at hc;exact h1 hc
 have hql:q.length<=16:=(Ymc hrq).1
 obtain⟨hval,hwant⟩:=XC.1 hc
 have hfrm:=(ZV.1 (XT.1 hval)).frm
 have hfew:s.cells.length<=512:=hfrm.few
 have hord:Ord s.cells:=hfrm.ord
 have hwx:∀x∈q,(1<=x.rows.length/\x.rows.length<=1000)/\∀r∈x.rows,(Xl n.net s.sch x.f r.xs).2=0:=λx hx=>by
  have h1:=hwant x.rq (TC.2 ⟨x,hx,rfl⟩)
  unfold O7 at h1
  rw[Tq,Tt,RS]at h1
  obtain⟨h2,h3⟩:=h1
  have h4:x.rq.2.length=x.rows.length:=TB _
  refine⟨by omega,λr hr=>?_⟩
  exact(YhB h3 (TC.2 ⟨r,hr,rfl⟩)).1
 refine zX2 ?_
 refine Yg (λz:TmM=>[(21,.int .i64 (z.i:Nat)),(20,.int .i64 q.length),(19,.slice A q.length cap),(8,.slice z.A z.l.length z.cap),(6,.pointer (some ⟨g6,0,none⟩)),(5,.pointer (some ⟨g5,0,none⟩)),(3,.pointer (some ⟨g3,0,none⟩))])
  (λz=>cels z.A z.cap z.l::blk g6 (.cells (Value.agg #[.int .i64 0,.int .i64 0,.slice none 0 0]).cells 37 (0,0))::schA g5 s::netA g3 n::[many H])
  (λz=>z.i<=q.length/\z.l=Yd2 n.net s.sch ((q.map RqM.rq).take z.i)) (λz=>q.length-z.i) ⟨0,none,0,[]⟩ ⟨Tm _,rfl⟩ ?_ ?_ ?_
 ·exact zc1
 ·intro w hw
  have h5:St B w0 (blk g6 (.cells (Value.agg #[.int .i64 0,.int .i64 0,.slice none 0 0]).cells 37 (0,0))::schA g5 s::netA g3 n::[many H]) w:=by
   revert w
   exact zc0
  exact h5.nilSlice 64 5
 rintro⟨i,A1,c1,l⟩ ⟨hi,hl⟩ K hK
 dsimp only at hi hl⊢
 have hll:l.length<=16*512:=by
  have h1:=YjH n.net s.sch ((q.map RqM.rq).take i)
  rw[<-hl]at h1
  have h2:((q.map RqM.rq).take i).length<=16:=by rw[TT,TB];omega
  have h3:=Nat.mul_le_mul h2 hfew
  have h4:s.sch.cells.length=s.cells.length:=rfl
  rw[h4]at h1
  omega
 by_cases hlt:i<q.length
 rotate_left
 ·obtain rfl:i=q.length:=by omega
  rw[T0 YsN]at hl
  clear hK
  refine zX1 ?_<;>intros
  apply Xd [cels A1 c1 l] _ Yxa
  exact za
  try exact zl
  exact zp
  exact rfl
  exactλ_ hw=>(Yib l (by omega) hw)
  rintro _ _ ⟨rfl,l2,hp,ho,rfl⟩
  have hl2:l2.length=l.length:=hp.length_eq
  rw[<-hl2]
  refine zX4 ?_
  apply Xd [cels A1 c1 l2] _ Yxb
  exact za
  try exact zl
  exact zp
  exact rfl
  exactλ_ hw=>(Yfg l2 (by omega) hw)
  rintro _ _ ⟨rfl,rfl⟩
  rw[Ypc hord (hl▸hp) ho]
  refine zX2 ?_
  apply Yq T (H2:=cels A1 c1 (s.sch.cells.filter (YkJ n.net s.sch (q.map RqM.rq)))::H);(iterate 3 exact rfl);(focus exact zc2);exact rfl;exact rfl
  ·intro w hw
   have h5:St B w0 (cels A1 c1 (s.sch.cells.filter (YkJ n.net s.sch (q.map RqM.rq)))::[many H]) w:=by
    revert w
    exact zc0
   exact Yn1
  exact⟨A1,c1,rfl,rfl⟩
 obtain⟨x,hx⟩:∃x,q[i]? =some x:=⟨_,Ta hlt⟩
 have hxm:=Tc hx
 obtain⟨hx1,hx2⟩:=hwx x hxm
 have hqr:Rd B w0 (cels A1 c1 l::blk g6 (.cells (Value.agg #[.int .i64 0,.int .i64 0,.slice none 0 0]).cells 37 (0,0))::schA g5 s::netA g3 n::[many H]) A (q.flatMap rqF):=hq.rd.cons.cons.cons.cons
 have hst:Yd2 n.net s.sch ((q.map RqM.rq).take (i+1))=l++s.cells.filter (Oo n.net s.sch (x.f,x.rows.map (·.xs))):=by
  rw[hl,TN,TR,hx]
  unfold Yd2
  rw[RB]
  simp only[Ss,SL,TZ,NY,Ro]
  rfl
 have p3:=λ{H':List HP}{w:World}(hin:n.In B w0 H') (hrs:Rd B w0 H' s.A (s.cells.flatMap celF)) (hxi:x.In B w0 H') (hw:St B w0 H' w)=>p2 x hx1 hx2 hin hrs hxi hw
 have hfl:=RX (Oo n.net s.sch (x.f,x.rows.map (·.xs))) s.cells
 clear p2
 generalize s.cells.filter (Oo n.net s.sch (x.f,x.rows.map (·.xs)))=m at p3 hst hfl
 refine Ye5 ?_<;>intros
 apply Ye _ Yw9
 exact za
 exact rfl
 exactλ_ hw=>(p3 (hin.mono zc0) (hrs.mono zc0) ((hq.x x hxm).mono zc0) (hw))
 rintro _ _ ⟨A2,c2,rfl,rfl⟩
 unfold cels
 repeat'(first|(apply Xy T (f:=celF) (l2:=m) (e:=64) (size:=5) (xs:=l.flatMap celF);(iterate 3 exact rfl);exact Rd.sl zm;exact(λ_=>rfl);exact(λ_=>rfl);exact rfl;(intro _ _;exact zd);omega;intro A3 c3)|refine zgc ?_|(refine zge ?_ ?_<;>intro _<;>try exact zo)|fail)
 rename_i A3 c3
 apply hK ⟨i+1,A3,c3,l++m⟩
 ·exact⟨by exact zc71,hst.symm⟩
 ·exact zc39
 ·rw[To]
  exact zc1
 ·intro w hw
  dsimp only
  unfold cels
  rw[To,RB]
  revert w
  exact zc0
end Go.Proofs.YtaholidehobiiaaGreatDoor
