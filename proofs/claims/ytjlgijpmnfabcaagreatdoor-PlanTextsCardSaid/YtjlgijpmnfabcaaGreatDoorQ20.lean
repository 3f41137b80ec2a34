/- Lemmas. -/
import Derived.Test.YtjlgijpmnfabcaaGreatDoorQ19
set_option maxRecDepth 100000
set_option maxHeartbeats 8000000
set_option linter.all false
namespace Go.Proofs.YtjlgijpmnfabcaaGreatDoor
open Go.RowKit Go.Eng Go.Nw Go.Rt
structure NdM where
 k:Nat
 i:Nat
 es:XU
 cl:Nat
 Ds:List Nat
theorem YjT(n:NetM)(s:SchM)(f:Flw)(l:List RowM)(h1:1<=l.length/\l.length<=1000)(hok:∀r∈l,(YP n.net s.sch f r.xs).2=0){A:Option Addr}{cap B:Nat}{w0:World}{H:List HP}{w:World}(ht:TabsB B w0)(hin:n.In B w0 H)(hrs:Rd B w0 H s.A (s.cells.flatMap celF))(hsl:s.cells.length<=1000000000000)(hrt:Rd B w0 H A (l.flatMap rowF))(hrw:∀r∈l,Rd B w0 H r.A (r.xs.flatMap numF))(hrl:∀r∈l,r.xs.length<=1000000000000/\r.xs.length<=r.cap)(hw:St B w0 H w):
 CX B w0 167 [n.val,s.val,flwV f,.slice A l.length cap] w λv K=>∃A' cap',v=.tuple #[.slice A' (s.cells.filter (OZ n.net s.sch (f,l.map (·.xs)))).length cap',.int .i64 0]/\K=cels A' cap' (s.cells.filter (OZ n.net s.sch (f,l.map (·.xs))))::H:=by
 refine XZ Tryz.func167 Tryz.ntmps167 rfl rfl hw ?_
 have hop:∀w,St B w0 [many H] w->St B w0 H w:=λw hw=>hw.perm (.openT H)
 have hwi:∀r∈l,(WayM.mk n s f r.A r.cap r.xs).In B w0 [many H]:=λr hr=>WayM.In.mono (H:=H) ⟨hin,hrs,hrw r hr,hsl,(hrl r hr).1,(hrl r hr).2⟩ hop
 have hrs:=hrs.mono hop
 have hrt:=hrt.mono hop
 have hWok:∀r∈l,Uo (WayM.mk n s f r.A r.cap r.xs):=λr hr=>Q9 (W4 (hok r hr)).1
 obtain⟨r0,hr0⟩:∃r0,l[0]? =some r0:=⟨_,Ta (by omega)⟩
 have hW0:=hWok r0 (Tc hr0)
 have hper:1<=f.2.2.2.1/\f.2.2.2.1<=512:=hW0.per
 have hph:0<=f.2.2.2.2.1/\f.2.2.2.2.1<f.2.2.2.1:=hW0.ph
 have hlen:1<=s.len/\s.len<=512:=hW0.slen
 have hfew:s.cells.length<=512:=hW0.few
 have p1:=λ(r:RowM) {H':List HP}{w:World}(hi:(WayM.mk n s f r.A r.cap r.xs).In B w0 H') (hw:St B w0 H' w)=>Yde ⟨n,s,f,r.A,r.cap,r.xs⟩ ht hi hw
 have p2:=λ(r:RowM) (a:Int) {H':List HP}{w:World}(hw:St B w0 H' w)=>YaO ⟨n,s,f,r.A,r.cap,r.xs⟩ a (B:=B) (w0:=w0) (H:=H') (w:=w) hw
 unfold NetM.val SchM.val flwV at p1
 unfold WayM.val intB at p2
 dsimp only at p1 p2
 unfold NetM.val SchM.val flwV
 refine XD [many H] (λw hw=>hw.perm (.closeT H)) ?_
 repeat'(first|(apply YgO;exact rfl;intro _)|refine zgd ?_|(refine zgf ?_ ?_<;>intro _<;>try exact zo)|(refine zgh ?_;intro _)|fail)
 rename_i g4 g5 g6 _ gm g10
 refine YgD (λz:NdM=>z.Ds.map mkD++[]) (λz:NdM=>[(26,.int .i64 (z.k:Nat)),(25,.int .i64 l.length),(24,.slice A l.length cap),(10,.pointer (some ⟨g10,0,none⟩)),(6,.pointer (some ⟨g6,0,none⟩)),(5,.pointer (some ⟨g5,0,none⟩)),(4,.pointer (some ⟨g4,0,none⟩))])
  (λz=>blk g10 (.cells #[.map (some gm)] 328 (0,0))::blk gm (vobj z.es z.cl)::flwB g6 f::schA g5 s::netA g4 n::many (z.Ds.map mkB)::[many H])
  (λz=>z.k<=l.length/\CSet z.es λc=>((l.map (·.xs)).take z.k).any λr=>W9 n.net s.sch f r c) (λz=>l.length-z.k) ⟨0,0,[],0,[]⟩ ⟨Ti _,CSet.nil⟩ rfl ?_ ?_ ?_
 ·exact zc1
 ·intro w hw
  have h5:St B w0 (blk g10 (.cells #[.map (some gm)] 328 (0,0))::blk gm (vobj [] 0)::flwB g6 f::schA g5 s::netA g4 n::[many H]) w:=by
   revert w
   exact zc0
  have h6:=h5.perm (.noMany _)
  clear hw h5
  have h7:St B w0 (blk g10 (.cells #[.map (some gm)] 328 (0,0))::blk gm (vobj [] 0)::flwB g6 f::schA g5 s::netA g4 n::many []::[many H]) w:=by
   revert w
   exact zc0
  exact h7
 rintro⟨k,_,es,cl,Ds⟩ ⟨hk,hS⟩ K hK
 dsimp only at hk hS⊢
 by_cases hlt:k<l.length
 rotate_left
 ·obtain rfl:k=l.length:=by omega
  clear hK
  have hS:CSet es (OZ n.net s.sch (f,l.map (·.xs))):=by
   rw[TL YqL]at hS
   exact hS
  generalize OZ n.net s.sch (f,l.map (·.xs))=p at hS⊢
  refine zX1 ?_<;>intros
  apply Yf _ Yew
  exact za
  exact rfl
  exactλ_ hw=>(Z0 s.cells (by omega) (hrs.mono zc0) (hw))
  rintro _ _ ⟨A1,c1,rfl,rfl⟩
  refine YdJ ?_
  apply Yf _ Yk5
  exact za
  exact rfl
  exactλ_ hw=>(V0 (λc=>!(p c)) s.cells 269 [.pointer (some ⟨g10,0,none⟩)] Yvl (by omega) (λc _ X w hw=>YjS c p g10 gm es cl hS (TS _ (by(focus exact zc2))) (TS _ (by(focus exact zc2))) hw) (hw))
  rintro _ _ ⟨rfl,rfl⟩
  have e:s.cells.filter (λc=>!!(p c))=s.cells.filter p:=Nk λc _=>Bool.not_not _
  rw[e]
  refine zX4 ?_
  apply Yg1 (H':=cels A1 c1 (s.cells.filter p)::H)
  ·intro w hw
   have h5:St B w0 (many (Ds.map mkB)::cels A1 c1 (s.cells.filter p)::[many H]) w:=by
    revert w
    exact zc0
   exact(h5.perm (.cons _ (.cons _ (.openT H)))).perm (.open_ (Ds.map mkB) _)
  apply VQ_m
  apply YN;(iterate 3 exact rfl)
  exact⟨A1,c1,rfl,rfl⟩
 obtain⟨r,hr⟩:∃r,l[k]? =some r:=⟨_,Ta hlt⟩
 have hrm:=Tc hr
 have hri:=hwi r hrm
 have hWr:=hWok r hrm
 have p3:=λ{H':List HP}{w:World}(hi:(WayM.mk n s f r.A r.cap r.xs).In B w0 H') (hw:St B w0 H' w)=>p1 r hi hw
 rw[hok r hrm]at p3
 have hiter:=λ(a:Int) (ha:0<=a/\a<=1000000) {ga gw:Nat}{H':List HP}(hi:(WayM.mk n s f r.A r.cap r.xs).In B w0 H')=>Qx ⟨n,s,f,r.A,r.cap,r.xs⟩ a hWr ha ga gw hi
 unfold intB Yhl runW at hiter
 dsimp only at hiter
 have hst:∀c,((l.map (·.xs)).take (k+1)).any (λr=>W9 n.net s.sch f r c)=(((l.map (·.xs)).take k).any (λr=>W9 n.net s.sch f r c)||W9 n.net s.sch f r.xs c):=λc=>by
  rw[TF,TJ,hr,SR]
  simp
 generalize hbp:(λc=>((l.map (·.xs)).take k).any λr=>W9 n.net s.sch f r c)=bp at hS
 have hst:∀c,((l.map (·.xs)).take (k+1)).any (λr=>W9 n.net s.sch f r c)=(bp c||W9 n.net s.sch f r.xs c):=λc=>by rw[hst,<-hbp]
 refine zX0 ?_<;>intros
 apply Yf _ Ysr
 exact za
 exact rfl
 exactλ_ hw=>(p3 (hri.mono zc0) (hw))
 rintro _ _ ⟨A2,c2,rfl,rfl⟩
 refine zX44 ?_<;>intros
 rename_i g17
 refine YgD (λz:NdM=>z.Ds.map mkD++[]) (λz:NdM=>[(18,.int .i64 (f.2.2.2.2.1+(z.i:Int)*f.2.2.2.1)),(17,.pointer (some ⟨g17,0,none⟩)),(26,.int .i64 (k:Nat)),(25,.int .i64 l.length),(24,.slice A l.length cap),(10,.pointer (some ⟨g10,0,none⟩)),(6,.pointer (some ⟨g6,0,none⟩)),(5,.pointer (some ⟨g5,0,none⟩)),(4,.pointer (some ⟨g4,0,none⟩))])
  (λz=>blk gm (vobj z.es z.cl)::wayB g17 ⟨n,s,f,r.A,r.cap,r.xs⟩::blk g10 (.cells #[.map (some gm)] 328 (0,0))::flwB g6 f::schA g5 s::netA g4 n::many (z.Ds.map mkB)::[many H])
  (λz=>z.i<=s.len.toNat/\CSet z.es λc=>(bp c||usR n.net s.sch f r.xs z.i c)) (λz=>s.len.toNat-z.i) ⟨k,0,es,cl,Ds⟩ ⟨Ti _,?_⟩ rfl ?_ ?_ ?_
 ·have:(λc=>(bp c||usR n.net s.sch f r.xs 0 c))=bp:=by
   funext c
   unfold usR
   simp
  show CSet es λc=>(bp c||usR n.net s.sch f r.xs 0 c)
  rw[this];exact hS
 ·dsimp only
  rw[show f.2.2.2.2.1+((0:Nat):Int)*f.2.2.2.1=f.2.2.2.2.1 by simp]
  exact zc1
 ·exact zc0
 rintro⟨_,i,es2,cl2,Ds2⟩ ⟨hi,hS2⟩ K2 hK2
 dsimp only at hi hS2⊢
 obtain⟨y,hy⟩:∃y:Int,f.2.2.2.2.1+(i:Int)*f.2.2.2.1=y:=⟨_,rfl⟩
 have hiy:(i:Int)<=(i:Int)*f.2.2.2.1:=by
  have:=SI hper.1 (show(0:Int)<=i by omega)
  rw[Int.mul_one]at this
  exact this
 by_cases hyl:f.2.2.2.2.1+(i:Int)*f.2.2.2.1<s.len
 rotate_left
 ·have hud:=Yr3 (n:=n.net) (s:=s.sch) (f:=f) (r:=r.xs) (i:=i) hyl hper.1 hph.1 hi
  clear hK2
  rw[hy]at hyl⊢
  refine zX1 ?_<;>intros
  apply hK ⟨k+1,0,es2,cl2,Ds2⟩
  ·refine⟨by show k+1<=_;omega,?_⟩
   have:(λc=>((l.map (·.xs)).take (k+1)).any λr=>W9 n.net s.sch f r c)=λc=>(bp c||usR n.net s.sch f r.xs i c):=by
    funext c
    rw[hst,hud]
   show CSet es2 λc=>((l.map (·.xs)).take (k+1)).any λr=>W9 n.net s.sch f r c
   rw[this];exact hS2
  ·exact zc47
  ·exact zc1
  ·exact zc0
 have hus:=Yr4 (n:=n.net) (s:=s.sch) (f:=f) (r:=r.xs) (i:=i) hyl
 have he18:f.2.2.2.2.1+((i+1:Nat):Int)*f.2.2.2.1=y+f.2.2.2.1:=by
  rw[<-hy,Int.natCast_add,Int.add_mul]
  omega
 rw[hy]at hyl hus⊢
 have hit:=λ{ga gw:Nat}{H':List HP}(hi:(WayM.mk n s f r.A r.cap r.xs).In B w0 H')=>hiter y ⟨by omega,by omega⟩ (ga:=ga) (gw:=gw) hi
 clear hiter hK
 have hsl2:s.sch.len=s.len:=rfl
 rw[hsl2]at hus
 generalize runP s.len (Xz s.sch f.1) (y+f.2.2.2.1) (Yp n.net r.xs) y=W at hus hit
 have p5:=λ{H':List HP}{w:World}(hw:St B w0 H' w)=>p2 r y hw
 refine zX3 ?_<;>intros
 apply Yf _ Ysw
 exact za
 exact rfl
 exactλ_ hw=>(p5 (hw))
 rintro _ _ ⟨ga,gw,rfl,rfl⟩
 refine zX8 ?_
 refine X5 (gf:=344) (lb:=[.pointer (some ⟨ga,0,none⟩),.pointer (some ⟨gw,0,none⟩)]) (xs:=W.map cntV)
  (blk ga (.cells #[.int .i64 y] 3 (0,0))::wayB gw ⟨n,s,f,r.A,r.cap,r.xs⟩::wayB g17 ⟨n,s,f,r.A,r.cap,r.xs⟩::blk g10 (.cells #[.map (some gm)] 328 (0,0))::flwB g6 f::schA g5 s::netA g4 n::many (Ds2.map mkB)::[many H])
  (λz:XU×Nat=>[blk gm (vobj z.1 z.2)]) (λj z=>CSet z.1 λc=>((bp c||usR n.net s.sch f r.xs i c)||(W.take j).any λp=>decide (p.1=c))) (λ_ _=>False) (es2,cl2) rfl YsF (hit (hri.mono zc0)) rfl ?_ (by kernel_rfl) (by kernel_rfl) ?_ ?_ ?_ ?_ (λ_ _ _ h=>h.elim)
 ·exact YtT
 ·simp only[TA,TE]
  exact zc0
 ·simpa using hS2
 ·rintro lb j args R ⟨es3,cl3⟩ hk hI
  rw[TJ]at hk
  obtain⟨⟨d,sl⟩,hz,rfl⟩:∃z,W[j]? =some z/\args=cntV z:=by
   cases h:W[j]? with
   |none=>rw[h]at hk;cases hk
   |some z=>exact YtU
  dsimp only at hI
  dsimp only[Ul,cntV,List.cons_append,List.nil_append]
  unfold celV
  refine zX64 ?_<;>intros
  apply Jv (Yu Yq)
  intro R'
  refine zX8 ?_
  apply YqT d hI (p':=λc=>((bp c||usR n.net s.sch f r.xs i c)||(W.take (j+1)).any λp=>decide (p.1=c))) (λc=>by rw[TF,hz,SR];simp[Bool.or_assoc]);(iterate 3 exact rfl);(intro _ _;exact zd);intro es4 cl4 hS4
  refine zX11 ?_
  apply VX (es4,cl4)
  ·exact hS4
  ·dsimp only[List.cons_append,List.nil_append]
   exact zc0
 ·rintro D ⟨es3,cl3⟩ hI
  dsimp only at hI
  rw[Tt,TM]at hI
  dsimp only[List.cons_append,List.nil_append]
  refine zX11 ?_
  apply hK2 ⟨k,i+1,es3,cl3,D::Ds2⟩
  ·refine⟨by exact zc86,?_⟩
   have:(λc=>(bp c||usR n.net s.sch f r.xs (i+1) c))=λc=>((bp c||usR n.net s.sch f r.xs i c)||W.any λp=>decide (p.1=c)):=by
    funext c
    rw[hus,Bool.or_assoc]
   show CSet es3 λc=>(bp c||usR n.net s.sch f r.xs (i+1) c)
   rw[this];exact hI
  ·exact zc47
  ·dsimp only
   rw[he18]
   exact zc1
  ·intro w hw
   have h5:St B w0 (mkB D::many (Ds2.map mkB)::blk gm (vobj es3 cl3)::wayB g17 ⟨n,s,f,r.A,r.cap,r.xs⟩::blk g10 (.cells #[.map (some gm)] 328 (0,0))::flwB g6 f::schA g5 s::netA g4 n::[many H]) w:=by
    revert w
    exact zc0
   have h6:=h5.perm (((Perm.open_ (Ds2.map mkB) _).cons _).trans (.close (mkB D::Ds2.map mkB) _))
   clear hw h5
   have h7:St B w0 (blk gm (vobj es3 cl3)::wayB g17 ⟨n,s,f,r.A,r.cap,r.xs⟩::blk g10 (.cells #[.map (some gm)] 328 (0,0))::flwB g6 f::schA g5 s::netA g4 n::many (mkB D::Ds2.map mkB)::[many H]) w:=by
    revert w
    exact zc0
   exact h7
structure FtM where
 g8:Nat
 A:Option Addr
 cap:Nat
 iA:Option Addr
 icap:Nat
theorem Yhz(b:BuM)(g:Nat)(len off:Int)(h24:len<=24\/512<len){B:Nat}{w0:World}{H:List HP}{w:World}(ht:TabsB B w0)(hin:b.n.In B w0 H)(hq:QIn B w0 H b.qA b.q)(hw:St B w0 (bldA g b::H) w):
 CX B w0 82 [.pointer (some ⟨g,0,none⟩),.int .i64 len,.int .i64 off] w λv K=>∃A cap iA icap,v=.tuple #[.slice iA (Xd b.n.net (b.q.map RqM.rq) len off).1.2.length icap,.bool (decide ((Xd b.n.net (b.q.map RqM.rq) len off).1.2.length=b.q.length))]/\
  K=bldA g {b with s:=⟨(Xd b.n.net (b.q.map RqM.rq) len off).1.1.len,(Xd b.n.net (b.q.map RqM.rq) len off).1.1.off,A,cap,(Xd b.n.net (b.q.map RqM.rq) len off).1.1.cells⟩,e:=Xn b.e (Xd b.n.net (b.q.map RqM.rq) len off).2}::cels A cap (Xd b.n.net (b.q.map RqM.rq) len off).1.1.cells::Zy iA icap (Xd b.n.net (b.q.map RqM.rq) len off).1.2::H:=by
 refine Ya Tryz.func82 Tryz.ntmps82 rfl rfl hw ?_
 obtain⟨n,qA,qcap,q,s,cA,ccap,c,fA,fcap,f,e⟩:=b
 dsimp only at hin hq⊢
 have hop:∀w,St B w0 [many H] w->St B w0 H w:=λw hw=>hw.perm (.openT H)
 have hin:=hin.mono hop
 have hq:=hq.mono hop
 have p1:=λ{H':List HP}{w:World}(hin:n.In B w0 H') (hq:QIn B w0 H' qA q) (hw:St B w0 H' w)=>YnZ n q len off h24 (cap:=qcap) ht hin hq hw
 have p2:=λ(b:BuM) (e:Int) {H':List HP}{w:World}(hw:St B w0 (bldA g b::H') w)=>V2 b g e hw
 unfold OutA NetM.val at p1
 generalize Xd n.net (q.map RqM.rq) len off=R at p1⊢
 obtain⟨⟨⟨rl,ro,rc⟩,ra⟩,re⟩:=R
 dsimp only at p1⊢
 refine XD (bldA g ⟨n,qA,qcap,q,s,cA,ccap,c,fA,fcap,f,e⟩::[many H]) (λw hw=>hw.perm (.cons _ (.closeT H))) ?_
 dsimp only[bldA]
 iterate 6 (first|refine zga ?_|fail)
 apply Xs
 refine ZH (λz:FtM=>[(8,.pointer (some ⟨z.g8,0,none⟩)),(9,.slice z.iA ra.length z.icap),(10,.int .i64 re),(0,.pointer (some ⟨g,0,none⟩))])
  (λz=>blk z.g8 (.cells #[.int .i64 rl,.int .i64 ro,.slice z.A rc.length z.cap] 30 (0,0))::cels z.A z.cap rc::Zy z.iA z.icap ra::bldA g ⟨n,qA,qcap,q,s,cA,ccap,c,fA,fcap,f,e⟩::[many H]) ?_ ?_
 ·intro K hK
  repeat'(first|(apply Yi T;exact rfl;exact zm;exact rfl;exact zv;exact rfl;exact rfl)|fail)
  apply JH (.n1 0 (.n1 1 (.n1 2 (.n1 3 (.n1 4 (.n1 5 (.n1 6 (.n1 7 (.n1 8 (.n1 9 (.n1 10 (.n1 11 (.n2 12 (.n1 13 (.n1 14 (.n1 15 (.n1 16 (.n1 17 (.n1 18 (.n1 19 (.n1 20 .done)))))))) 17 (.n1 12 (.n1 13 (.n1 14 (.n1 15 (.n1 16 (.n1 18 (.n1 19 (.n1 20 .done))))))))))))))))))))) [] [true,true]
  kernel_rfl
  kernel_rfl
  exact zy
  exact rfl
  repeat'(first|(apply Yi T;exact rfl;exact zm;exact rfl;exact zv;exact rfl;exact rfl)|((apply Yf _ Yu1);exact za;exact rfl;exactλ_ hw=>p1 (hin.mono zk) (hq.mono zk) hw;rintro _ _ ⟨A1,cap1,iA1,ic1,rfl,rfl⟩)|(apply Yj;try exact zl)|apply(zs91 ?_ ?_)|(apply Y7;try exact zl)|refine zgd ?_|(refine zgh ?_;intro _)|fail)
  all_goals(
   rename_i gA
   apply hK ⟨gA,A1,cap1,iA1,ic1⟩
   ·exact zu
   ·exact zk)
 rintro⟨g8,A1,c1,iA,ic⟩
 dsimp only
 refine zX4 ?_
 apply Xl [bldA g ⟨n,qA,qcap,q,s,cA,ccap,c,fA,fcap,f,e⟩] _ en84
 exact za
 try exact zl
 exact zp
 exact rfl
 exactλ_ hw=>(p2 ⟨n,qA,qcap,q,s,cA,ccap,c,fA,fcap,f,e⟩ re hw)
 rintro _ _ ⟨rfl,rfl⟩
 unfold BuM.fail
 dsimp only[bldA]
 by_cases hll:ra.length=q.length
 ·rw[Td hll]
  refine zX24 ?_<;>intros
  apply Yh (bldA g ⟨n,qA,qcap,q,⟨rl,ro,A1,c1,rc⟩,cA,ccap,c,fA,fcap,f,Xn e re⟩::cels A1 c1 rc::Zy iA ic ra::H)
  ·intro w hw
   have h5:St B w0 (bldA g ⟨n,qA,qcap,q,⟨rl,ro,A1,c1,rc⟩,cA,ccap,c,fA,fcap,f,Xn e re⟩::cels A1 c1 rc::Zy iA ic ra::[many H]) w:=by
    revert w
    exact zc0
   exact zc84
  exact Ytu
 ·rw[Tj hll]
  refine zX24 ?_<;>intros
  apply Yh (bldA g ⟨n,qA,qcap,q,⟨rl,ro,A1,c1,rc⟩,cA,ccap,c,fA,fcap,f,Xn e re⟩::cels A1 c1 rc::Zy iA ic ra::H)
  ·intro w hw
   have h5:St B w0 (bldA g ⟨n,qA,qcap,q,⟨rl,ro,A1,c1,rc⟩,cA,ccap,c,fA,fcap,f,Xn e re⟩::cels A1 c1 rc::Zy iA ic ra::[many H]) w:=by
    revert w
    exact zc0
   exact zc84
  exact Ytu
theorem Yih{α:Type}(f:α->HP)(y:α):∀(L:List α) (i:Nat) (T:List HP),i<L.length->Perm (f y::(L.map f++T)) ((L.set i y).map f++T)
 |[],i,_,h=>by cases h
 |x::L,0,T,_=>by
  rw[Ny,Ru,Ru,TA,TA]
  exact .cons _ (.drop _ _)
 |x::L,i+1,T,h=>by
  rw[List.set_cons_succ,Ru,Ru,TA,TA]
  exact(Perm.swap _ _ _).trans (.cons _ (Yih f y L i T (by simp_all)))
variable {i:Nat}
theorem Ynj{Q:List RqM}{y:RqM}(h:i<Q.length)(T:List HP):Perm (rqQ y::many (Q.map rqQ)::T) (many ((Q.set i y).map rqQ)::T):=
 ((Perm.open_ (Q.map rqQ) T).cons _).trans ((Yih rqQ y Q i T h).trans (.close _ T))
noncomputable def JV(n:Net)(ia:List Int)(q:List Rqs)(i:Nat):List Rqs:=(List.range q.length).map λj=>if j<i then lowQ n ia q j else rqAt q j
theorem Ypx(n:Net)(ia:List Int)(q:List Rqs):JV n ia q 0=q:=by
 unfold JV
 apply Sl
 all_goals grind [Vl]
theorem Yrx(n:Net)(ia:List Int)(q:List Rqs):JV n ia q q.length=lowL n ia q:=by
 simp_all [JV,lowL]
theorem Yry(n:Net)(ia:List Int)(q:List Rqs)(i:Nat):(JV n ia q i).length=q.length:=by grind [JV]
variable {n:Net}{ia:List Int}{q:List Rqs}
theorem Ypw(h:i<q.length):(JV n ia q i)[i]? =some (rqAt q i):=by
 grind [JV]
theorem Yh0(h:i<q.length):JV n ia q (i+1)=(JV n ia q i).set i (lowQ n ia q i):=by
 apply Sl
 intro j
 by_cases hj:i=j
 ·simp_all [JV]
 ·unfold JV
  grind
structure LwM where
 i:Nat
 Q:List RqM
structure LxM where
 g6:Nat
 y:RqM
theorem Yf3(b:BuM)(g:Nat)(ia:List Int)(hia:ia.length<=1000)(hql:b.q.length<=1000)(hqs:∀x∈b.q,x.lens){iA:Option Addr}{icap B:Nat}{w0:World}{H:List HP}{w:World}(hin:b.n.In B w0 H)(hra:Rd B w0 H iA (ia.flatMap numF))(hw:St B w0 (bldA g b::rqs b.qA b.qcap b.q::many (b.q.map rqQ)::H) w):
 CX B w0 83 [.pointer (some ⟨g,0,none⟩),.slice iA ia.length icap] w λv K=>∃q' e',v=.tuple #[]/\q'.length=b.q.length/\(∀x∈q',x.lens)/\((lowB b.n.net ia (b.q.map RqM.rq)=true/\q'.map RqM.rq=lowL b.n.net ia (b.q.map RqM.rq)/\e'=b.e)\/(lowB b.n.net ia (b.q.map RqM.rq)=false/\e'=Xn b.e 18))/\
  K=bldA g {b with q:=q',e:=e'}::rqs b.qA b.qcap q'::many (q'.map rqQ)::H:=by
 refine Ya Tryz.func83 Tryz.ntmps83 rfl rfl hw ?_
 obtain⟨n,qA,qcap,q,s,cA,ccap,c,fA,fcap,f,e⟩:=b
 dsimp only at hin hql hqs⊢
 have hinM:∀{H':List HP},many H∈H'->n.In B w0 H':=λhm=>hin.mono λw hw=>hw.inM hm
 have hraM:∀{H':List HP},many H∈H'->Rd B w0 H' iA (ia.flatMap numF):=λhm=>hra.mono λw hw=>hw.inM hm
 have p1:=λ(v:Int) {H':List HP}{w:World}(hr:Rd B w0 H' iA (ia.flatMap numF)) (hw:St B w0 H' w)=>YdV ia v (by omega) (cap:=icap) hr hw
 have p2:=λ(f:Flw) {H':List HP}{w:World}(hin:n.In B w0 H') (hw:St B w0 H' w)=>OX n f hin hw
 have p3:=λ(b:BuM) (e:Int) {H':List HP}{w:World}(hw:St B w0 (bldA g b::H') w)=>V2 b g e hw
 unfold NetM.val flwV at p2
 refine XD (bldA g ⟨n,qA,qcap,q,s,cA,ccap,c,fA,fcap,f,e⟩::rqs qA qcap q::many (q.map rqQ)::[many H]) (λw hw=>hw.perm (.cons _ (.cons _ (.cons _ (.closeT H))))) ?_
 dsimp only[bldA]
 obtain⟨q0,hq0⟩:∃q0,q.map RqM.rq=q0:=⟨_,rfl⟩
 have hq0l:q0.length=q.length:=by rw[<-hq0,Tt]
 rw[hq0]
 refine UR ?_
 refine Yg (λz:LwM=>[(14,.int .i64 (z.i:Nat)),(13,.int .i64 q.length),(12,.slice qA q.length qcap),(0,.pointer (some ⟨g,0,none⟩)),(1,.slice iA ia.length icap)])
  (λz=>blk g (.cells #[.int .i64 n.nodes,.slice n.pA n.rows.length n.pcap,.int .i64 n.noise,.int .i64 n.thr,.slice n.lA n.links.length n.lcap,.slice n.mA n.margin.length n.mcap,.slice qA q.length qcap,.int .i64 s.len,.int .i64 s.off,.slice s.A s.cells.length s.cap,.slice cA c.length ccap,.slice fA f.length fcap,.int .i64 e] 164 (0,0))::sl 69 7 qA q.length qcap (z.Q.flatMap rqF)::many (z.Q.map rqQ)::[many H])
  (λz=>z.i<=q.length/\z.Q.length=q.length/\(∀x∈z.Q,x.lens)/\z.Q.map RqM.rq=JV n.net ia q0 z.i/\∀j,j<z.i->(j:Int)∈ia\/(VN n.net (rqAt q0 j).1).2=0) (λz=>q.length-z.i) ⟨0,q⟩ ⟨Ti _,rfl,hqs,by rw[Ypx];exact hq0,λj hj=>absurd hj (RE _)⟩ ?_ ?_ ?_
 ·exact zc1
 ·unfold rqs
  exact zc0
 rintro⟨i,Q⟩ ⟨hi,hQl,hQs,hQm,hQk⟩ K hK
 dsimp only at hi hQl hQs hQm hQk⊢
 by_cases hlt:i<q.length
 rotate_left
 ·obtain rfl:i=q.length:=by omega
  clear hK
  have hb:lowB n.net ia q0=true:=TK.2 λj hj=>by
   have hj:=T8.1 hj
   rw[RG,To,To]
   exact hQk j (by omega)
  rw[<-hq0l,Yrx]at hQm
  refine YdK ?_<;>intros
  apply Yh (bldA g ⟨n,qA,qcap,Q,s,cA,ccap,c,fA,fcap,f,e⟩::rqs qA qcap Q::many (Q.map rqQ)::H)
  ·intro w hw
   have h5:St B w0 (blk g (.cells #[.int .i64 n.nodes,.slice n.pA n.rows.length n.pcap,.int .i64 n.noise,.int .i64 n.thr,.slice n.lA n.links.length n.lcap,.slice n.mA n.margin.length n.mcap,.slice qA q.length qcap,.int .i64 s.len,.int .i64 s.off,.slice s.A s.cells.length s.cap,.slice cA c.length ccap,.slice fA f.length fcap,.int .i64 e] 164 (0,0))::sl 69 7 qA q.length qcap (Q.flatMap rqF)::many (Q.map rqQ)::[many H]) w:=by
    revert w
    exact zc0
   rw[<-hQl]at h5
   exact zc84
  apply Jb;exact rfl
  exact⟨Q,e,rfl,hQl,hQs,.inl ⟨hb,hQm,rfl⟩,rfl⟩
 obtain⟨x,hx⟩:∃x,Q[i]? =some x:=⟨_,Ta (by omega)⟩
 have hxm:=Tc hx
 have hxq:x.rq=rqAt q0 i:=by
  have h1:(Q.map RqM.rq)[i]? =some x.rq:=by rw[TJ,hx];rfl
  rw[hQm,Ypw (by omega)]at h1
  exact(Tv h1).symm
 have hxf:x.f=(rqAt q0 i).1:=TG Prod.fst hxq
 by_cases hmem:(i:Int)∈ia
 ·have p4:=λ{H':List HP}{w:World}(hr:Rd B w0 H' iA (ia.flatMap numF)) (hw:St B w0 H' w)=>p1 i hr hw
  rw[Td hmem]at p4
  have hlq:JV n.net ia q0 (i+1)=JV n.net ia q0 i:=by
   rw[Yh0 (by omega)]
   unfold lowQ
   rw[Tn hmem]
   apply Sl
   intro j
   by_cases hj:i=j
   ·subst hj
    rw[SJ (by rw[Yry];omega),Ypw (by omega)]
   ·rw[Nn hj]
  refine YiT ?_<;>intros
  first|apply Yb Yk3|apply Yc Yk3
  exact za
  exact rfl
  exactλ_ hw=>(p4 (hraM (by(focus exact zc2))) hw)
  refine Yfi ?_
  apply hK ⟨i+1,Q⟩
  ·exact⟨by exact zc86,hQl,hQs,hQm.trans hlq.symm,λj hj=>by
    rcases RD.1 hj with h|rfl
    ·exact hQk j h
    ·exact .inl hmem⟩
  ·exact zc47
  ·exact zc1
  ·exact zc0
 have p4:=λ{H':List HP}{w:World}(hr:Rd B w0 H' iA (ia.flatMap numF)) (hw:St B w0 H' w)=>p1 i hr hw
 rw[Tj hmem]at p4
 have p5:=λ{H':List HP}{w:World}(hin:n.In B w0 H') (hw:St B w0 H' w)=>p2 x.f hin hw
 clear p1 p2
 have hlq:JV n.net ia q0 (i+1)=(JV n.net ia q0 i).set i (VN n.net x.f).1:=by
  rw[Yh0 (by omega)]
  unfold lowQ
  rw[Tf hmem,hxf]
 have hsk:∀j,j=i->(VN n.net (rqAt q0 j).1).2=(VN n.net x.f).2:=λj hj=>by rw[hj,hxf]
 generalize VN n.net x.f=R at p5 hlq hsk
 obtain⟨ry,re⟩:=R
 unfold OutQ rqV at p5
 dsimp only at p5 hlq hsk
 refine YiT ?_<;>intros
 rename_i g5
 first|apply Yb Yk3|apply Yc Yk3
 exact za
 exact rfl
 exactλ_ hw=>(p4 (hraM (by(focus exact zc2))) hw)
 refine Ys9 ?_
 refine ZH (λz:{z:LxM//z.y.rq=ry/\z.y.lens}=>[(6,.pointer (some ⟨z.1.g6,0,none⟩)),(7,.int .i64 re),(4,.int .i64 (i:Nat)),(14,.int .i64 (i:Nat)),(13,.int .i64 q.length),(12,.slice qA q.length qcap),(0,.pointer (some ⟨g,0,none⟩)),(1,.slice iA ia.length icap)])
  (λz=>rqA z.1.g6 z.1.y::rqQ z.1.y::blk g (.cells #[.int .i64 n.nodes,.slice n.pA n.rows.length n.pcap,.int .i64 n.noise,.int .i64 n.thr,.slice n.lA n.links.length n.lcap,.slice n.mA n.margin.length n.mcap,.slice qA q.length qcap,.int .i64 s.len,.int .i64 s.off,.slice s.A s.cells.length s.cap,.slice cA c.length ccap,.slice fA f.length fcap,.int .i64 e] 164 (0,0))::sl 69 7 qA q.length qcap (Q.flatMap rqF)::many (Q.map rqQ)::[many H]) ?_ ?_
 ·intro K2 hK2
  apply JH (.n1 0 (.n1 1 (.n1 2 (.n1 3 (.n1 4 (.n1 5 (.n1 6 (.n2 7 (.n1 8 (.n1 9 (.n1 10 (.n1 11 (.n1 12 (.n1 13 .done)))))) 11 (.n1 7 (.n1 8 (.n1 9 (.n1 10 (.n1 12 (.n1 13 .done)))))))))))))) [] [true,true]
  kernel_rfl
  kernel_rfl
  exact zy
  exact rfl
  repeat'(first|(apply Yi T;exact rfl;exact zm;exact rfl;exact zv;exact rfl;exact rfl)|((apply Yf _ Ysk);exact za;exact rfl;exactλ_ hw=>p5 (hinM zm) hw;rintro _ _ ⟨y,rfl,hy,hyl,rfl⟩)|(apply Yj;try exact zl)|apply(zs91 ?_ ?_)|(apply Y7;try exact zl)|refine zgd ?_|(refine zgh ?_;intro _)|fail)
  all_goals(
   rename_i gA
   apply hK2 ⟨⟨gA,y⟩,hy,hyl⟩
   ·exact zu
   ·exact zk)
 rintro⟨⟨g6,y⟩,hy,hyl⟩
 dsimp only at hy hyl⊢
 by_cases hre:re=0
 rotate_left
 ·have hb:lowB n.net ia q0=false:=by
   cases h:lowB n.net ia q0 with
   |false=>rfl
   |true=>
    have h1:=TK.1 h i (T8.2 (by omega))
    rw[RG,To,To,hsk i rfl]at h1
    rcases h1 with h1|h1
    ·exact absurd h1 hmem
    ·exact absurd h1 hre
  clear hK
  refine YqA ?_<;>intros
  apply Xy (bldA g ⟨n,qA,qcap,Q,s,cA,ccap,c,fA,fcap,f,e⟩::rqs qA qcap Q::many (Q.map rqQ)::[many H])
  ·intro w hw
   have h5:St B w0 (blk g (.cells #[.int .i64 n.nodes,.slice n.pA n.rows.length n.pcap,.int .i64 n.noise,.int .i64 n.thr,.slice n.lA n.links.length n.lcap,.slice n.mA n.margin.length n.mcap,.slice qA q.length qcap,.int .i64 s.len,.int .i64 s.off,.slice s.A s.cells.length s.cap,.slice cA c.length ccap,.slice fA f.length fcap,.int .i64 e] 164 (0,0))::sl 69 7 qA q.length qcap (Q.flatMap rqF)::many (Q.map rqQ)::[many H]) w:=by
    revert w
    exact zc0
   rw[<-hQl]at h5
   exact h5
  apply Xl [bldA g ⟨n,qA,qcap,Q,s,cA,ccap,c,fA,fcap,f,e⟩] _ en84
  exact za
  try exact zl
  exact zp
  exact rfl
  exactλ_ hw=>(p3 ⟨n,qA,qcap,Q,s,cA,ccap,c,fA,fcap,f,e⟩ 18 hw)
  rintro _ _ ⟨rfl,rfl⟩
  refine UR ?_
  apply Yh (bldA g (BuM.fail ⟨n,qA,qcap,Q,s,cA,ccap,c,fA,fcap,f,e⟩ 18)::rqs qA qcap Q::many (Q.map rqQ)::H)
  ·intro w hw
   have h5:St B w0 (bldA g (BuM.fail ⟨n,qA,qcap,Q,s,cA,ccap,c,fA,fcap,f,e⟩ 18)::rqs qA qcap Q::many (Q.map rqQ)::[many H]) w:=by
    revert w
    exact zc0
   exact zc84
  apply UV;exact rfl
  exact⟨Q,Xn e 18,rfl,hQl,hQs,.inr ⟨hb,rfl⟩,rfl⟩
 subst hre
 refine YqA ?_<;>intros
 apply YI [0,1,2,3,4,5,6,7] [8] [true,true,true,true,true,true]
 kernel_rfl
 kernel_rfl
 exact zy
 (simp only[Yd,nthO];rfl)
 (simp only[Yd,nthO];rfl)
 repeat'(first|(apply Yi T;exact rfl;exact zm;exact rfl;exact zv;exact rfl;exact rfl)|(apply XJ T (f:=rqF) (l:=Q) (i:=i) (a:=y);(iterate 3 exact rfl);exact zd;exactλ_=>rfl;(iterate 3 exact rfl);omega)|refine zgd ?_|fail)
 apply hK ⟨i+1,Q.set i y⟩
 ·refine⟨by exact zc86,by show(Q.set i _).length=_;rw[TQ,hQl],λz hz=>?_,?_,λj hj=>?_⟩
  ·rcases List.mem_or_eq_of_mem_set hz with h|rfl
   ·exact hQs z h
   ·exact hyl
  ·show(Q.set i y).map RqM.rq=_
   rw[List.map_set,hQm,hlq,hy]
  ·rcases RD.1 hj with h|rfl
   ·exact hQk j h
   ·exact .inr (hsk j rfl)
 ·exact zc47
 ·exact zc1
 ·intro w hw
  dsimp only
  have h5:St B w0 (rqQ y::many (Q.map rqQ)::blk g (.cells #[.int .i64 n.nodes,.slice n.pA n.rows.length n.pcap,.int .i64 n.noise,.int .i64 n.thr,.slice n.lA n.links.length n.lcap,.slice n.mA n.margin.length n.mcap,.slice qA q.length qcap,.int .i64 s.len,.int .i64 s.off,.slice s.A s.cells.length s.cap,.slice cA c.length ccap,.slice fA f.length fcap,.int .i64 e] 164 (0,0))::sl 69 7 qA q.length qcap ((Q.set i y).flatMap rqF)::[many H]) w:=by
   revert w
   exact zc0
  have h6:=h5.perm (Ynj (Q:=Q) (i:=i) (y:=y) (by omega) _)
  clear hw h5
  revert w
  exact zc0
structure TmM where
 i:Nat
 A:Option Addr
 cap:Nat
 l:List Cel
theorem Yl6(n:NetM)(q:List RqM)(s:SchM){A:Option Addr}{cap B:Nat}{w0:World}{H:List HP}{w:World}(ht:TabsB B w0)(hin:n.In B w0 H)(hq:QIn B w0 H A q)(hrs:Rd B w0 H s.A (s.cells.flatMap celF))(hsl:s.cells.length<=1000000000000)(hw:St B w0 H w):
 CX B w0 85 [n.val,.slice A q.length cap,s.val] w (OutS H (YdC n.net (q.map RqM.rq) s.sch)):=by
 refine Ya Tryz.func85 Tryz.ntmps85 rfl rfl hw ?_
 have hop:∀w,St B w0 [many H] w->St B w0 H w:=λw hw=>hw.perm (.openT H)
 have hin:=hin.mono hop
 have hq:=hq.mono hop
 have hrs:=hrs.mono hop
 have p1:=λ{H':List HP}{w:World}(hin:n.In B w0 H') (hq:QIn B w0 H' A q) (hrs:Rd B w0 H' s.A (s.cells.flatMap celF)) (hw:St B w0 H' w)=>Ybg n q s (cap:=cap) ht hin hq hrs hsl hw
 have p2:=λ(x:RqM) (h1:1<=x.rows.length/\x.rows.length<=1000) (hok:∀r∈x.rows,(YP n.net s.sch x.f r.xs).2=0) {H':List HP}{w:World}(hin:n.In B w0 H') (hrs:Rd B w0 H' s.A (s.cells.flatMap celF)) (hx:x.In B w0 H') (hw:St B w0 H' w)=>YjT n s x.f x.rows h1 hok (cap:=x.cap) ht hin hrs hsl hx.rt hx.rw_ hx.rl hw
 unfold NetM.val SchM.val at p1 p2⊢
 unfold flwV at p2
 refine XD [many H] (λw hw=>hw.perm (.closeT H)) ?_
 unfold YdC
 refine zX70 ?_<;>intros
 rename_i g3 g5 g6
 first|apply Yb Yk4|apply Yc Yk4
 exact za
 exact rfl
 exactλ_ hw=>(p1 hin.cons.cons.cons hq.cons.cons.cons hrs.cons.cons.cons hw)
 by_cases hc:(YO n.net (q.map RqM.rq) s.sch).2.2=0
 rotate_left
 ·rw[Tj hc,Tn hc]
  refine zX2 ?_
  apply Yv T (H2:=cels none 0 []::H);(iterate 3 exact rfl);(focus exact zc2);exact rfl;exact rfl
  ·intro w hw
   have h5:St B w0 [many H] w:=by
    revert w
    exact zc0
   exact zc58
  exact Ub 1 rfl rfl
 rw[Td hc,Tf (λe=>e hc)]
 have hrq:(rqsE n.net (q.map RqM.rq)).2=0:=Rw.1 λh1=>by
  unfold YO at hc;rw[Tn h1]at hc;exact h1 hc
 have hql:q.length<=16:=(Ykg hrq).1
 obtain⟨hval,hwant⟩:=Za.1 hc
 have hfrm:=(JM.1 (Zw.1 hval)).frm
 have hfew:s.cells.length<=512:=hfrm.few
 have hord:Ord s.cells:=hfrm.ord
 have hwx:∀x∈q,(1<=x.rows.length/\x.rows.length<=1000)/\∀r∈x.rows,(YP n.net s.sch x.f r.xs).2=0:=λx hx=>by
  have h1:=hwant x.rq (TC.2 ⟨x,hx,rfl⟩)
  unfold Oa at h1
  rw[Tm,To,RY]at h1
  obtain⟨h2,h3⟩:=h1
  have h4:x.rq.2.length=x.rows.length:=Tt _
  refine⟨by omega,λr hr=>?_⟩
  exact(Yf2 h3 (TC.2 ⟨r,hr,rfl⟩)).1
 refine zX2 ?_
 refine Yg (λz:TmM=>[(21,.int .i64 (z.i:Nat)),(20,.int .i64 q.length),(19,.slice A q.length cap),(8,.slice z.A z.l.length z.cap),(6,.pointer (some ⟨g6,0,none⟩)),(5,.pointer (some ⟨g5,0,none⟩)),(3,.pointer (some ⟨g3,0,none⟩))])
  (λz=>cels z.A z.cap z.l::blk g6 (.cells (Value.agg #[.int .i64 0,.int .i64 0,.slice none 0 0]).cells 30 (0,0))::schA g5 s::netA g3 n::[many H])
  (λz=>z.i<=q.length/\z.l=YcR n.net s.sch ((q.map RqM.rq).take z.i)) (λz=>q.length-z.i) ⟨0,none,0,[]⟩ ⟨Ti _,rfl⟩ ?_ ?_ ?_
 ·exact zc1
 ·intro w hw
  have h5:St B w0 (blk g6 (.cells (Value.agg #[.int .i64 0,.int .i64 0,.slice none 0 0]).cells 30 (0,0))::schA g5 s::netA g3 n::[many H]) w:=by
   revert w
   exact zc0
  exact h5.nilSlice 48 5
 rintro⟨i,A1,c1,l⟩ ⟨hi,hl⟩ K hK
 dsimp only at hi hl⊢
 have hll:l.length<=16*512:=by
  have h1:=YhQ n.net s.sch ((q.map RqM.rq).take i)
  rw[<-hl]at h1
  have h2:((q.map RqM.rq).take i).length<=16:=by rw[TT,Tt];omega
  have h3:=Nat.mul_le_mul h2 hfew
  have h4:s.sch.cells.length=s.cells.length:=rfl
  rw[h4]at h1
  omega
 by_cases hlt:i<q.length
 rotate_left
 ·obtain rfl:i=q.length:=by omega
  rw[TL YqL]at hl
  clear hK
  refine zX1 ?_<;>intros
  apply Xl [cels A1 c1 l] _ Yu3
  exact za
  try exact zl
  exact zp
  exact rfl
  exactλ_ hw=>(Ygs l (by omega) hw)
  rintro _ _ ⟨rfl,l2,hp,ho,rfl⟩
  have hl2:l2.length=l.length:=hp.length_eq
  rw[<-hl2]
  refine zX4 ?_
  apply Xl [cels A1 c1 l2] _ Yu4
  exact za
  try exact zl
  exact zp
  exact rfl
  exactλ_ hw=>(YdT l2 (by omega) hw)
  rintro _ _ ⟨rfl,rfl⟩
  rw[Yna hord (hl▸hp) ho]
  refine zX2 ?_
  apply Yv T (H2:=cels A1 c1 (s.sch.cells.filter (YiL n.net s.sch (q.map RqM.rq)))::H);(iterate 3 exact rfl);(focus exact zc2);exact rfl;exact rfl
  ·intro w hw
   have h5:St B w0 (cels A1 c1 (s.sch.cells.filter (YiL n.net s.sch (q.map RqM.rq)))::[many H]) w:=by
    revert w
    exact zc0
   exact YlW
  exact⟨A1,c1,rfl,rfl⟩
 obtain⟨x,hx⟩:∃x,q[i]? =some x:=⟨_,Ta hlt⟩
 have hxm:=Tc hx
 obtain⟨hx1,hx2⟩:=hwx x hxm
 have hqr:Rd B w0 (cels A1 c1 l::blk g6 (.cells (Value.agg #[.int .i64 0,.int .i64 0,.slice none 0 0]).cells 30 (0,0))::schA g5 s::netA g3 n::[many H]) A (q.flatMap rqF):=hq.rd.cons.cons.cons.cons
 have hst:YcR n.net s.sch ((q.map RqM.rq).take (i+1))=l++s.cells.filter (OZ n.net s.sch (x.f,x.rows.map (·.xs))):=by
  rw[hl,TF,TJ,hx]
  unfold YcR
  rw[Ro]
  simp only[Sr,Sv,TN,List.flatMap_nil,Rr]
  rfl
 have p3:=λ{H':List HP}{w:World}(hin:n.In B w0 H') (hrs:Rd B w0 H' s.A (s.cells.flatMap celF)) (hxi:x.In B w0 H') (hw:St B w0 H' w)=>p2 x hx1 hx2 hin hrs hxi hw
 have hfl:=Ry (OZ n.net s.sch (x.f,x.rows.map (·.xs))) s.cells
 clear p2
 generalize s.cells.filter (OZ n.net s.sch (x.f,x.rows.map (·.xs)))=m at p3 hst hfl
 refine YiT ?_<;>intros
 apply Yf _ Yu2
 exact za
 exact rfl
 exactλ_ hw=>(p3 (hin.mono zc0) (hrs.mono zc0) ((hq.x x hxm).mono zc0) (hw))
 rintro _ _ ⟨A2,c2,rfl,rfl⟩
 unfold cels
 repeat'(first|(apply XE T (f:=celF) (l2:=m) (e:=48) (size:=5) (xs:=l.flatMap celF);(iterate 3 exact rfl);exact Rd.sl zm;exact(λ_=>rfl);exact(λ_=>rfl);exact rfl;(intro _ _;exact zd);omega;intro A3 c3)|refine zgc ?_|(refine zge ?_ ?_<;>intro _<;>try exact zo)|fail)
 rename_i A3 c3
 apply hK ⟨i+1,A3,c3,l++m⟩
 ·exact⟨by exact zc86,hst.symm⟩
 ·exact zc47
 ·rw[Tq]
  exact zc1
 ·intro w hw
  dsimp only
  unfold cels
  rw[Tq,Ro]
  revert w
  exact zc0
structure Yr8(p:Pln):Prop where
 cert:(YO p.n p.q p.s).2.2=0
 c:p.c=(YO p.n p.q p.s).1
 free:(Jg p.s).2=0
 f:p.f=(Jg p.s).1
def Made(n:Net)(l:List Flw)(len off:Int)(R:Option Pln×Int):Prop:=(R.2≠0/\R.1=none)\/∃p,R=(some p,0)/\Yr8 p/\p.n=n/\YR p.q=l/\p.s.len=len/\p.s.off=off
variable {n:Net}{f:Flw}
theorem YnG(h:(VN n f).2=0):(VN n f).1.1=f:=by
 unfold VN at h⊢
 split
 ·rename_i h1;rw[Tn h1]at h;exact absurd h h1
 ·rfl
theorem Yp5(h:(reqE n f).2=0):(reqE n f).1.1=f:=by
 unfold reqE at h⊢
 split
 ·rfl
 ·rename_i h1
  rw[h1]at h
  exact YnG h
theorem Yls{a b:Int}(h:b≠0):Xn a b≠0:=by
 unfold Xn
 split
 ·exact h
 ·assumption
theorem Ykb{l:List Flw}(h:(VK n l).2.2=0):YR (VK n l).1=l:=by
 unfold VK at h⊢
 by_cases h1:Yo n=0
 rotate_left
 ·rw[Tn h1]at h;cases h
 rw[Tf (λe=>e h1)]at h⊢
 by_cases h2:(YE n.nodes l).2=0
 rotate_left
 ·rw[Tn h2]at h;exact absurd h h2
 rw[Tf (λe=>e h2)]at h⊢
 by_cases h3:(Ydb n l).2=0
 rotate_left
 ·rw[Tn h3]at h;exact absurd h h3
 rw[Tf (λe=>e h3)]
 unfold Ydb at h3
 unfold YR
 show(l.map λf=>(reqE n f).1).map Prod.fst=l
 rw[Nq]
 apply List.ext_getElem (by simp)
 intro i hi hi2
 rw[List.getElem_map]
 have:=YD.1 h3 i (Ti _) (by omega)
 unfold Xp at this
 rw[Tz,Ta hi2]at this
 exact Yp5 this
variable {A:Option Addr}{cap B:Nat}{w0 w:World}{H:List HP}
theorem Ycr(l m:List Int)(hlen:l.length<=9223372036854775807){A2:Option Addr}{cap2:Nat}(hr:Rd B w0 H A (l.flatMap numF))(hr2:Rd B w0 H A2 (m.flatMap numF))(hw:St B w0 H w):
 CX B w0 32 [.slice A l.length cap,.slice A2 m.length cap2] w λu K=>u=.bool (decide (l=m))/\K=H:=by
 refine Ya Tryz.func32 Tryz.ntmps32 rfl rfl hw ?_
 by_cases hll:l.length=m.length
 rotate_left
 ·exact zc11
 refine zX3 ?_<;>intros
 refine Yg (λ(k:Nat)=>[(13,.int .i64 k),(12,.int .i64 l.length),(0,.slice A l.length cap),(1,.slice A2 m.length cap2)]) (λ_=>H) (λk=>k<=l.length/\l.take k=m.take k) (λk=>l.length-k) 0 ⟨Ti _,by simp⟩ ?_ (λw hw=>hw) ?_
 ·exact zc1
 rintro k ⟨hk,hi⟩ K hK
 by_cases hlt:k<l.length
 ·obtain⟨a,ha⟩:∃a,l[k]? =some a:=⟨_,Ta hlt⟩
  obtain⟨b,hb⟩:∃b,m[k]? =some b:=⟨_,Ta (by omega)⟩
  repeat'(first|refine zgd ?_|(refine zge ?_ ?_<;>intro _<;>try exact zo)|fail)
  ·exact zc56
  ·rename_i h
   apply hK (k+1)
   ·exact⟨by omega,by exact Ybo⟩
   ·omega
   ·exact zc1
   exact zc20
 exact zc8
theorem J9(p:PnM)(ht:TabsB B w0)(hp:p.In B w0 H)(hw:St B w0 H w):
 CX B w0 10 [p.val] w λv K=>v=.int .i64 (chkP p.pln)/\K=H:=by
 refine Ya Tryz.func10 Tryz.ntmps10 rfl rfl hw ?_
 obtain⟨n,qA,qcap,q,s,cA,ccap,c,fA,fcap,f⟩:=p
 obtain⟨hin,hq,hrs,hsl,hc,hf,hfl⟩:=hp
 dsimp only at hin hq hrs hsl hc hf hfl
 have p1:=λ{H':List HP}{w:World}(hin:n.In B w0 H') (hw:St B w0 H' w)=>Wn n hin hw
 have p2:=λ{H':List HP}{w:World}(hin:n.In B w0 H') (hq:QIn B w0 H' qA q) (hrs:Rd B w0 H' s.A (s.cells.flatMap celF)) (hw:St B w0 H' w)=>UG n q s (cap:=qcap) ht hin hq hrs hsl hw
 have p3:=λ{H':List HP}{w:World}(hin:n.In B w0 H') (hq:QIn B w0 H' qA q) (hrs:Rd B w0 H' s.A (s.cells.flatMap celF)) (hc:CIn B w0 H' cA c) (hw:St B w0 H' w)=>YfO n q s c (cap:=qcap) (cap1:=ccap) ht hin hq hrs hsl hc hw
 have p4:=λ{H':List HP}{w:World}(hrs:Rd B w0 H' s.A (s.cells.flatMap celF)) (hw:St B w0 H' w)=>Yec s ht hrs hsl hw
 unfold PnM.val
 show VC _ _ B w0 _ (bodyPost _ _ (Post B w0 λv K=>v=.int .i64 (chkP ⟨n.net,q.map RqM.rq,s.sch,c.map ClM.clm,f⟩)/\K=H)) _ _
 unfold chkP
 dsimp only
 unfold OutC at p2
 obtain⟨⟨RC,ri,re⟩,hR⟩:∃R,YO n.net (q.map RqM.rq) s.sch=R:=⟨_,rfl⟩
 obtain⟨⟨RF,fe⟩,hRF⟩:∃R,Jg s.sch=R:=⟨_,rfl⟩
 obtain⟨⟨ki,ke⟩,hRK⟩:∃R,chkE n.net (q.map RqM.rq) s.sch (c.map ClM.clm)=R:=⟨_,rfl⟩
 rw[hR]at p2⊢
 rw[hRF]at p4⊢
 rw[hRK]at p3⊢
 dsimp only at p2 p3 p4⊢
 have hFn:RF.length<=9223372036854775807:=by
  have h2:=TG (λz=>z.1.length) hRF
  dsimp only at h2
  unfold Jg at h2
  split at h2
  ·simp only[RB]at h2;omega
  ·rename_i h0
   unfold VF at h2
   rw[UH,Rj]at h2
   have h3:=(Xw.1 (by simpa using h0)).sized
   exact YtX
 unfold NetM.val at p1
 unfold NetM.val SchM.val at p2 p3
 unfold SchM.val at p4
 clear hR hRF hRK
 by_cases hck:Yo n.net=0
 rotate_left
 ·rw[Tn hck]
  rw[Tj hck]at p1
  refine Ys7 ?_<;>intros
  first|apply Yb en39|apply Yc en39
  exact za
  exact rfl
  exactλ_ hw=>(p1 (hin.mono zc0) hw)
  refine UR ?_
  apply Yh H
  ·exact zc0
  exact zc4
 rw[Tf (λe=>e hck)]
 rw[Td hck]at p1
 refine Ys7 ?_<;>intros
 first|apply Yb en39|apply Yc en39
 exact za
 exact rfl
 exactλ_ hw=>(p1 (hin.mono zc0) hw)
 refine UR ?_
 apply Yf _ en40
 exact za
 exact rfl
 exactλ_ hw=>(p2 (hin.mono zc0) (hq.mono zc0) (hrs.mono zc0) (hw))
 rintro _ _ ⟨A2,c2,C,rfl,hC,hCl,rfl⟩
 by_cases h18:re=15\/re=1/\ri<0
 ·rw[Tn h18]
  repeat'(first|(apply Yi T;exact rfl;exact zm;exact rfl;exact zv;exact rfl;exact rfl)|refine zgd ?_|(refine zgf ?_ ?_<;>intro _<;>try exact zo)|fail)
  all_goals try exact zo
  all_goals(
   apply Yh H
   ·exact zk
   apply Ye;exact rfl;exact rfl;exact⟨rfl,rfl⟩)
 rw[Tf h18]
 by_cases h0:re=0
 rotate_left
 ·rw[Tn h0]
  repeat'(first|(apply Yi T;exact rfl;exact zm;exact rfl;exact zv;exact rfl;exact rfl)|refine zgd ?_|(refine zgf ?_ ?_<;>intro _<;>try exact zo)|fail)
  all_goals try exact zo
  all_goals(
   apply Yh H
   ·exact zk
   apply Ye;exact rfl;exact rfl;exact⟨rfl,rfl⟩)
 rw[Tf (λe=>e h0)]
 subst h0
 repeat'(first|(apply Yi T;exact rfl;exact zm;exact rfl;exact zv;exact rfl;exact rfl)|refine zgc ?_|(refine zgf ?_ ?_<;>intro _<;>try exact zo)|fail)
 all_goals try exact zo
 first|apply Yb en41|apply Yc en41
 exact za
 exact rfl
 exactλ_ hw=>(p3 (hin.mono zc0) (hq.mono zc0) (hrs.mono zc0) (hc.mono zc0) hw)
 by_cases hk0:ke=0
 rotate_left
 ·rw[Tn hk0]
  refine YdK ?_<;>intros
  apply Yh H
  ·exact zc0
  exact zc4
 rw[Tf (λe=>e hk0)]
 refine YdK ?_<;>intros
 apply Yf _ en42
 exact za
 exact rfl
 exactλ_ hw=>(p4 (hrs.mono zc0) (hw))
 rintro _ _ ⟨A3,rfl,rfl⟩
 have p5:=λ{cap1 cap2:Nat}{H':List HP}{w:World}(h1:Rd B w0 H' A3 (RF.flatMap numF)) (h2:Rd B w0 H' fA (f.flatMap numF)) (hw:St B w0 H' w)=>Ycr RF f hFn (cap:=cap1) (cap2:=cap2) h1 h2 hw
 by_cases hf0:fe=0
 rotate_left
 ·rw[Tn (.inl hf0)]
  refine YdK ?_<;>intros
  all_goals try exact zo
  all_goals(
   apply Yh H
   ·exact zc0
   exact zc4)
 by_cases hff:RF=f
 ·rw[Tf (by rintro(h|h);exact h hf0;exact h hff)]
  rw[Td hff]at p5
  refine Ys8 ?_<;>intros
  all_goals try exact zo
  all_goals(
   apply Yh H
   ·exact zc0
   exact zc4)
 ·rw[Tn (.inr hff)]
  rw[Tj hff]at p5
  refine Ys8 ?_<;>intros
  all_goals try exact zo
  all_goals(
   apply Yh H
   ·exact zc0
   exact zc4)
theorem Yc7(word:List UInt8)(l:List Int)(h:∀n∈l,0<=n/\n<10000)(h5:l.length<=100)(hwd:word.length<=100)(ht:TabsB B w0)(hr:Rd B w0 H A (l.flatMap numF))(hw:St B w0 H w):
 CX B w0 36 [strV word,.slice A l.length cap] w λv K=>v=strV (Xq word l)/\K=H:=by
 refine Ya Tryz.func36 Tryz.ntmps36 rfl rfl hw ?_
 refine zX8 ?_
 refine Yg (λ(i:Nat)=>[(9,.int .i64 i),(8,.int .i64 l.length),(7,.slice A l.length cap),(0,strV (YA word (l.take i)))]) (λ_=>H) (λi=>i<=l.length) (λi=>l.length-i) 0 (Ti _) ?_ (λw hw=>hw) ?_
 ·have e0:YA word (l.take 0)=word:=by simp[YA]
  rw[e0]
  exact zc1
 intro i hi K hK
 have hbl:=WG (w:=word) (l:=l.take i) λn hn=>h n (SA hn)
 have hlt0:(l.take i).length<=100:=by grind
 by_cases hlt:i<l.length
 ·obtain⟨n,hn⟩:∃n,l[i]? =some n:=⟨_,Ta hlt⟩
  have hnb:=h n (Tc hn)
  have hil:=QK hnb
  refine zX30 ?_<;>intros
  apply hK (i+1)
  ·show i+1<=l.length
   omega
  ·omega
  ·rw[TF,hn,Sv,Yaf]
   exact zc1
  exact zc20
 exact zc14
variable {B cap:Nat}{w0 w:World}{H:List HP}
theorem YpC(y:Flw)(len:Int)(g:Nat)(hl:0<=len)(hp:1<=y.2.2.2.1)(hm:intA g len∈H)(hw:St B w0 H w):
 CX B w0 80 [flwV y,.pointer (some ⟨g,0,none⟩)] w λv K=>v=.bool (decide (len.tmod y.2.2.2.1≠0))/\K=H:=by
 refine Ya Tryz.func80 Tryz.ntmps80 rfl rfl hw ?_
 unfold flwV
 rw[Rn hl]
 by_cases h:len%y.2.2.2.1=0
 ·have h2:decide (len%y.2.2.2.1≠0)=false:=Tj (λe=>e h)
  rw[h2]
  refine zX44 ?_<;>intros
  all_goals(apply Yh H;((intro w hw;refine hw.perm ?_;focus exact zc3));exact zc13)
 ·have h2:decide (len%y.2.2.2.1≠0)=true:=Td h
  rw[h2]
  refine zX44 ?_<;>intros
  all_goals(apply Yh H;((intro w hw;refine hw.perm ?_;focus exact zc3));exact zc13)
structure MkOk(n:NetM)(qA:Option Addr)(qcap:Nat)(ql:Nat)(RR:Option Pln×Int)(z:BuM):Prop where
 eqn:z.n=n
 eqA:z.qA=qA
 eqc:z.qcap=qcap
 eql:z.q.length=ql
 lens:∀x∈z.q,x.lens
 sl:z.s.cells.length<=1000000000000
 res:fin2 n.net (z.q.map RqM.rq) z.s.sch z.e=RR
theorem Yb5(n:Net)(q:List Rqs)(len off:Int):(Xd n q len off).1.1.cells.length<=512:=by
 unfold Xd
 split
 ·exact Ti _
 split
 ·exact Ti _
 split
 ·exact Ti _
 have hrq:(rqsE n q).2=0:=by omega
 have:=YbA hrq (len:=len) (off:=off) (by omega) (by omega) q.length (TI _)
 exact(JM.1 (Zw.1 (Za.1 this.ok).1)).frm.few
theorem Yq8(n:Net)(q:List Rqs)(len off:Int):(Xd n q len off).1.2.length<=q.length:=by
 unfold Xd
 split
 ·simp_all
 split
 ·simp_all
 split
 ·simp_all
 have hrq:(rqsE n q).2=0:=by omega
 have:=YbA hrq (len:=len) (off:=off) (by omega) (by omega) q.length (TI _)
 rw[this.cnt];exact this.few
variable {A:Option Addr}
theorem Yp1{l:List Int}(h:Zy A cap l∈H):Rd B w0 H A (l.flatMap numF):=Rd.sl h
theorem Ykp(n:Net)(q:List Rqs)(s:Sch):(YdC n q s).1.cells.length<=s.cells.length:=by
 unfold YdC
 split
 ·exact Ti _
 ·exact YlX
theorem YmQ(e:Int):Xn 0 e=e:=Tn rfl
theorem Yam{a:Int}(b:Int)(h:a≠0):Xn a b=a:=Tf h
theorem Ycw{n:Net}{q:List Rqs}{s:Sch}{e:Int}(h:e≠0):fin2 n q s e=(none,e):=Tf h
theorem Yh1(n:NetM)(l:List Flw)(len off:Int)(h24:len<=24\/512<len)(hll:l.length<=1000000000000)(hrun:∀f∈l,WA 100000 n.net f.2.1 f.2.2.1=some (VG n.net f))(ht:TabsB B w0)(hin:n.In B w0 H)(hr:Rd B w0 H A (l.flatMap flwF))(hw:St B w0 H w):
 CX B w0 30 [n.val,.slice A l.length cap,.int .i64 len,.int .i64 off] w (YkA B w0 H (YlD n.net l len off)):=by
 refine Ya Tryz.func30 Tryz.ntmps30 rfl rfl hw ?_
 have p1:=λ{H':List HP}{w:World}(hin:n.In B w0 H') (hw:St B w0 H' w)=>Wn n hin hw
 have p2:=λ{H':List HP}{w:World}(hr:Rd B w0 H' A (l.flatMap flwF)) (hw:St B w0 H' w)=>Xe n.nodes l (TY hll (by decide)) (cap:=cap) hr hw
 have p3:=λ{H':List HP}{w:World}(hin:n.In B w0 H') (hr:Rd B w0 H' A (l.flatMap flwF)) (hw:St B w0 H' w)=>Yd2 n l hll hrun (cap:=cap) hin hr hw
 have hop:∀w,St B w0 [many H] w->St B w0 H w:=λw hw=>hw.perm (.openT H)
 have hinM:∀{H':List HP},many H∈H'->n.In B w0 H':=λhm=>hin.mono λw hw=>hw.inM hm
 have hrM:∀{H':List HP},many H∈H'->Rd B w0 H' A (l.flatMap flwF):=λhm=>hr.mono λw hw=>hw.inM hm
 unfold NetM.val at p1 p3⊢
 refine XD [many H] (λw hw=>hw.perm (.closeT H)) ?_
 unfold YlD
 by_cases hck:Yo n.net=0
 rotate_left
 ·rw[Tn (.inl hck)]
  rw[Tj hck]at p1
  repeat'(first|(apply zg23;first|(refine zs52 ?_;intro _)|(refine zs53 ?_;intro _))|refine zgb ?_|(refine zgh ?_;intro _)|fail)
  first|apply Yb en39|apply Yc en39
  exact za
  exact rfl
  exactλ_ hw=>(p1 (hinM zm) hw)
  repeat'(first|refine zgd ?_|fail)
  apply Yv T (H2:=H);(iterate 3 exact rfl);exact zm;exact rfl;exact rfl
  ·intro w hw
   have h5:St B w0 [many H] w:=by
    revert w
    exact zk
   exact hop w h5
  exact .inl ⟨rfl,rfl,rfl⟩
 rw[Td hck]at p1
 have hnd:n.net.nodes=n.nodes:=rfl
 rw[hnd]
 obtain⟨⟨fi,fe⟩,hF⟩:∃R,YE n.nodes l=R:=⟨_,rfl⟩
 rw[hF]at p2⊢
 dsimp only at p2⊢
 by_cases hfe:fe=0
 rotate_left
 ·rw[Tn (.inr hfe)]
  repeat'(first|(apply zg23;first|(refine zs52 ?_;intro _)|(refine zs53 ?_;intro _))|refine zgb ?_|(refine zgh ?_;intro _)|fail)
  first|apply Yb en39|apply Yc en39
  exact za
  exact rfl
  exactλ_ hw=>(p1 (hinM zm) hw)
  repeat'(first|refine zgd ?_|fail)
  first|apply Yb en78|apply Yc en78
  exact za
  exact rfl
  exactλ_ hw=>(p2 (hrM zm) hw)
  repeat'(first|refine zgd ?_|(refine zge ?_ ?_<;>intro _<;>try exact zo)|fail)
  apply Yv T (H2:=H);(iterate 3 exact rfl);exact zm;exact rfl;exact rfl
  ·intro w hw
   have h5:St B w0 [many H] w:=by
    revert w
    exact zk
   exact hop w h5
  exact .inl ⟨rfl,rfl,rfl⟩
 subst hfe
 rw[Tf (by rintro(h|h);exact h hck;exact h rfl)]
 have hl16:l.length<=16:=by
  unfold YE at hF
  split at hF
  ·cases hF
  split at hF
  ·cases hF
  ·omega
 have hper:∀f∈l,1<=f.2.2.2.1:=λf hf=>(X6 (JB (nodes:=n.nodes) (by rw[hF]) hf)).2.1.1
 repeat'(first|(apply zg23;first|(refine zs52 ?_;intro _)|(refine zs53 ?_;intro _))|refine zgb ?_|(refine zgh ?_;intro _)|fail)
 rename_i g4 g6 g8
 first|apply Yb en39|apply Yc en39
 exact za
 exact rfl
 exactλ_ hw=>(p1 (hinM zm) hw)
 repeat'(first|refine zgd ?_|fail)
 first|apply Yb en78|apply Yc en78
 exact za
 exact rfl
 exactλ_ hw=>(p2 (hrM zm) hw)
 by_cases hrg:len<1\/512<len\/off<1\/16<off
 ·rw[Tn hrg]
  repeat'(first|refine zgd ?_|(refine zge ?_ ?_<;>intro _<;>try exact zo)|fail)
  all_goals try exact zo
  all_goals(
   apply Yv T (H2:=H);(iterate 3 exact rfl);exact zm;exact rfl;exact rfl
   ·intro w hw
    have h5:St B w0 [many H] w:=by
     revert w
     exact zk
    exact hop w h5
   exact .inl ⟨rfl,rfl,rfl⟩)
 rw[Tf hrg]
 repeat'(first|(apply zg29;(apply Yr;exact za;exact rfl))|refine zgc ?_|(refine zge ?_ ?_<;>intro _<;>try exact zo)|fail)
 all_goals try exact zo
 first|apply Yb en79|apply Yc en79
 exact za
 exact rfl
 exactλ_ hw=>(WM (λy=>decide (len.tmod y.2.2.2.1≠0)) l 80 [.pointer (some ⟨g6,0,none⟩)] en80 (by omega) (hrM zm) (λa ha w hw=>YpC a len g6 (by omega) (hper a ha) zm hw) hw)
 have hpb:(l.any λy:Flw=>decide (len.tmod y.2.2.2.1≠0))=perB l len:=rfl
 rw[hpb]
 cases hh:perB l len with
 |true=>
  rw[Tn rfl]
  repeat'(first|refine zgd ?_|fail)
  apply Yv T (H2:=H);(iterate 3 exact rfl);exact zm;exact rfl;exact rfl
  ·intro w hw
   have h5:St B w0 [many H] w:=by
    revert w
    exact zk
   exact hop w h5
  exact .inl ⟨rfl,rfl,rfl⟩
 |false=>
 rw[Tf (by decide)]
 have hrf:=Ykb (n:=n.net) (l:=l)
 generalize VK n.net l=R at p3 hrf
 obtain⟨RQ,ri,re⟩:=R
 unfold Yn3 at p3
 dsimp only at p3 hrf⊢
 repeat'(first|refine zgc ?_|fail)
 apply Yf _ en81
 exact za
 exact rfl
 exactλ_ hw=>(p3 (hinM zm) (hrM zm) (hw))
 rintro _ _ ⟨A1,c1,q,rfl,hq,hql,rfl⟩
 by_cases hre:re=0
 rotate_left
 ·rw[Tn hre]
  repeat'(first|refine zgd ?_|(refine zge ?_ ?_<;>intro _<;>try exact zo)|fail)
  apply Yv T (H2:=H);(iterate 3 exact rfl);exact zm;exact rfl;exact rfl
  ·intro w hw
   have h5:St B w0 [many H] w:=by
    revert w
    exact zk
   exact hop w h5
  exact .inl ⟨rfl,rfl,rfl⟩
 subst hre
 rw[Tf (show¬(0:Int)≠0 fromλe=>e rfl)]
 have hqn:q.length<=16:=by
  have h1:=TG List.length (hrf rfl)
  have h2:=TG List.length hq
  unfold YR at h1
  rw[Tt]at h1 h2
  omega
 have hRQn:RQ.length=q.length:=by rw[<-hq,Tt]
 have hQI:∀{H':List HP}{Q:List RqM},rqs A1 c1 Q∈H'->many (Q.map rqQ)∈H'->Q.length<=16->(∀x∈Q,x.lens)->QIn B w0 H' A1 Q:=λh1 h2 h3 h4=>⟨Yj7 h1,λx hx=>YlH h2 hx (h4 x hx),by omega⟩
 clear p1 p2 p3
 iterate 30 (first|refine zgd ?_|(refine zge ?_ ?_<;>intro _<;>try exact zo)|(refine zgh ?_;intro _)|fail)
 rename_i g15
 have p4:=λ(b:BuM) {H':List HP}{w:World}(hin:b.n.In B w0 H') (hq:QIn B w0 H' b.qA b.q) (hw:St B w0 (bldA g15 b::H') w)=>Yhz b g15 len off h24 ht hin hq hw
 have p5:=λ(b:BuM) (ia:List Int) (hia:ia.length<=1000) (hql:b.q.length<=1000) (hqs:∀x∈b.q,x.lens) {iA:Option Addr}{icap:Nat}{H':List HP}{w:World}(hin:b.n.In B w0 H') (hra:Rd B w0 H' iA (ia.flatMap numF)) (hw:St B w0 (bldA g15 b::rqs b.qA b.qcap b.q::many (b.q.map rqQ)::H') w)=>Yf3 b g15 ia hia hql hqs (icap:=icap) hin hra hw
 have p6:=λ(b:BuM) (e:Int) {H':List HP}{w:World}(hw:St B w0 (bldA g15 b::H') w)=>V2 b g15 e hw
 obtain⟨RR,hRR⟩:∃RR,YfM n.net RQ len off=RR:=⟨_,rfl⟩
 rw[hRR]
 refine ZH (λz:{z:BuM//MkOk n A1 c1 q.length RR z}=>[(15,.pointer (some ⟨g15,0,none⟩)),(4,.pointer (some ⟨g4,0,none⟩)),(8,.pointer (some ⟨g8,0,none⟩)),(9,.int .i64 0)])
  (λz=>bldA g15 z.1::rqs A1 c1 z.1.q::many (z.1.q.map rqQ)::cels z.1.s.A z.1.s.cap z.1.s.cells::netA g4 n::blk g8 (.cells zeroPnV.cells 35 (0,0))::[many H]) ?_ ?_
 ·intro K hK
  repeat'(first|refine zga ?_|fail)
  apply Xy (bldA g15 ⟨n,A1,c1,q,⟨0,0,none,0,[]⟩,none,0,[],none,0,[],0⟩::rqs A1 c1 q::many (q.map rqQ)::blk g8 (.cells zeroPnV.cells 35 (0,0))::intA g6 len::netA g4 n::[many H])
  ·intro w hw
   have h5:St B w0 (blk g15 (.cells #[.int .i64 n.nodes,.slice n.pA n.rows.length n.pcap,.int .i64 n.noise,.int .i64 n.thr,.slice n.lA n.links.length n.lcap,.slice n.mA n.margin.length n.mcap,.slice A1 q.length c1,.int .i64 0,.int .i64 0,.slice none 0 0,.slice none 0 0,.slice none 0 0,.int .i64 0] 164 (0,0))::rqs A1 c1 q::many (q.map rqQ)::blk g8 (.cells (Value.agg #[.int .i64 0,.slice none 0 0,.int .i64 0,.int .i64 0,.slice none 0 0,.slice none 0 0,.slice none 0 0,.int .i64 0,.int .i64 0,.slice none 0 0,.slice none 0 0,.slice none 0 0]).cells 35 (0,0))::intA g6 len::netA g4 n::[many H]) w:=by
    revert w
    exact zk
   exact h5
  have hc1:=Yb5 n.net RQ len off
  have ha1:=Yq8 n.net RQ len off
  unfold YfM at hRR
  have p7:=λ{H':List HP}{w:World}(hin:n.In B w0 H') (hqi:QIn B w0 H' A1 q) (hw:St B w0 (bldA g15 ⟨n,A1,c1,q,⟨0,0,none,0,[]⟩,none,0,[],none,0,[],0⟩::H') w)=>p4 ⟨n,A1,c1,q,⟨0,0,none,0,[]⟩,none,0,[],none,0,[],0⟩ hin hqi hw
  dsimp only at p7
  rw[hq]at p7
  generalize Xd n.net RQ len off=R1 at p7 hc1 ha1 hRR
  obtain⟨⟨⟨rl,ro,rc⟩,ra⟩,re⟩:=R1
  dsimp only at p7 hc1 ha1 hRR
  rw[YmQ]at p7
  apply Xl [bldA g15 ⟨n,A1,c1,q,⟨0,0,none,0,[]⟩,none,0,[],none,0,[],0⟩] _ en82
  exact za
  try exact zl
  exact zp
  exact rfl
  exactλ_ hw=>(p7 (hinM zm) (hQI zm zm hqn hql) hw)
  rintro _ _ ⟨A2,c2,iA,ic,rfl,rfl⟩
  by_cases hl1:ra.length=q.length
  ·rw[Tn (by rw[hl1,hRQn])]at hRR
   rw[Td hl1]
   repeat'(first|refine zgd ?_|fail)
   apply hK ⟨⟨n,A1,c1,q,⟨rl,ro,A2,c2,rc⟩,none,0,[],none,0,[],re⟩,⟨rfl,rfl,rfl,rfl,hql,by show rc.length<=_;omega,by rw[<-hRR,<-hq];rfl⟩⟩
   ·exact zu
   ·exact zk
  rw[Tf (by rw[hRQn];exact hl1)]at hRR
  rw[Tj hl1]
  repeat'(first|refine zgd ?_|fail)
  apply Xl [bldA g15 ⟨n,A1,c1,q,⟨rl,ro,A2,c2,rc⟩,none,0,[],none,0,[],re⟩,rqs A1 c1 q,many (q.map rqQ)] _ en83
  exact za
  try exact zl
  exact zp
  exact rfl
  exactλ_ hw=>(p5 ⟨n,A1,c1,q,⟨rl,ro,A2,c2,rc⟩,none,0,[],none,0,[],re⟩ ra (by omega) (by show q.length<=_;omega) hql (hinM zm) (Yp1 (cap:=ic) zm) hw)
  rintro _ _ ⟨q',e',rfl,hl',hs',hc',rfl⟩
  dsimp only at hl' hc'
  rw[hq]at hc'
  have hl'16:q'.length<=16:=by omega
  have hRR2:(e'=re/\(if(Xd n.net (q'.map RqM.rq) len off).1.2.length=q'.length then fin2 n.net (q'.map RqM.rq) (Xd n.net (q'.map RqM.rq) len off).1.1 (Xn re (Xd n.net (q'.map RqM.rq) len off).2)else(none,Xn (Xn re (Xd n.net (q'.map RqM.rq) len off).2) 18))=RR)\/(e'≠0/\RR=(none,e')):=by
   rcases hc' with⟨hb,hm,he⟩|⟨hb,he⟩
   ·left
    rw[Tf (by rw[hb];decide),<-hm]at hRR
    unfold fin3 at hRR
    rw[Tt]at hRR
    exact⟨he,hRR⟩
   ·right
    rw[Tn hb]at hRR
    exact⟨by rw[he];exact Yls (by decide),by rw[<-hRR,he]⟩
  have hc2:=Yb5 n.net (q'.map RqM.rq) len off
  have p8:=λ{H':List HP}{w:World}(hin:n.In B w0 H') (hqi:QIn B w0 H' A1 q') (hw:St B w0 (bldA g15 ⟨n,A1,c1,q',⟨rl,ro,A2,c2,rc⟩,none,0,[],none,0,[],e'⟩::H') w)=>p4 ⟨n,A1,c1,q',⟨rl,ro,A2,c2,rc⟩,none,0,[],none,0,[],e'⟩ hin hqi hw
  dsimp only at p8
  clear p4 p5 p7
  generalize Xd n.net (q'.map RqM.rq) len off=R2 at p8 hc2 hRR2
  obtain⟨⟨⟨rl2,ro2,rc2⟩,ra2⟩,re2⟩:=R2
  dsimp only at p8 hc2 hRR2
  repeat'(first|refine zga ?_|fail)
  apply Xl [bldA g15 ⟨n,A1,c1,q',⟨rl,ro,A2,c2,rc⟩,none,0,[],none,0,[],e'⟩] _ en82
  exact za
  try exact zl
  exact zp
  exact rfl
  exactλ_ hw=>(p8 (hinM zm) (hQI zm zm hl'16 hs') hw)
  rintro _ _ ⟨A3,c3,iA3,ic3,rfl,rfl⟩
  by_cases hl2:ra2.length=q'.length
  ·rw[Tn hl2]at hRR2
   rw[Td hl2]
   repeat'(first|refine zgd ?_|fail)
   apply hK ⟨⟨n,A1,c1,q',⟨rl2,ro2,A3,c3,rc2⟩,none,0,[],none,0,[],Xn e' re2⟩,⟨rfl,rfl,rfl,hl',hs',by show rc2.length<=_;omega,?_⟩⟩
   ·exact zu
   ·exact zk
   rcases hRR2 with⟨he,h⟩|⟨he,h⟩
   ·rw[<-h,he];rfl
   ·show fin2 _ _ _ (Xn e' re2)=_
    rw[Yam _ he,Ycw he,h]
  rw[Tf hl2]at hRR2
  rw[Tj hl2]
  repeat'(first|refine zgd ?_|fail)
  apply Xl [bldA g15 ⟨n,A1,c1,q',⟨rl2,ro2,A3,c3,rc2⟩,none,0,[],none,0,[],Xn e' re2⟩] _ en84
  exact za
  try exact zl
  exact zp
  exact rfl
  exactλ_ hw=>(p6 ⟨n,A1,c1,q',⟨rl2,ro2,A3,c3,rc2⟩,none,0,[],none,0,[],Xn e' re2⟩ 18 hw)
  rintro _ _ ⟨rfl,rfl⟩
  unfold BuM.fail
  dsimp only
  repeat'(first|refine zga ?_|fail)
  apply hK ⟨⟨n,A1,c1,q',⟨rl2,ro2,A3,c3,rc2⟩,none,0,[],none,0,[],Xn (Xn e' re2) 18⟩,⟨rfl,rfl,rfl,hl',hs',by show rc2.length<=_;omega,?_⟩⟩
  ·exact zu
  ·exact zk
  rcases hRR2 with⟨he,h⟩|⟨he,h⟩
  ·rw[<-h,he]
   exact Ycw (Yls (by decide))
  ·show fin2 _ _ _ (Xn (Xn e' re2) 18)=_
   rw[Yam _ he,Yam _ he,Ycw he,h]
 rintro⟨⟨n',qA',qc',Q,S,cA',cc',C',fA',fc',F',e'⟩,hz⟩
 obtain⟨h1,h2,h3,hQl,hQs,hSl,hres⟩:=hz
 dsimp only at h1 h2 h3 hQl hQs hSl hres⊢
 subst h1 h2 h3
 clear p4 p5 p6 hRR
 dsimp only[bldA]
 have hQ16:Q.length<=16:=by omega
 unfold fin2 at hres
 have p7:=λ{H':List HP}{w:World}(hin:n'.In B w0 H') (hqi:QIn B w0 H' qA' Q) (hrs:Rd B w0 H' S.A (S.cells.flatMap celF)) (hw:St B w0 H' w)=>Yl6 n' Q S (cap:=qc') ht hin hqi hrs hSl hw
 have htc:=Ykp n'.net (Q.map RqM.rq) S.sch
 by_cases he:e'=0
 ·subst he
  rw[Tn rfl]at hres
  unfold OutS NetM.val SchM.val at p7
  generalize YdC n'.net (Q.map RqM.rq) S.sch=RT at p7 hres htc
  obtain⟨t,te⟩:=RT
  dsimp only at p7 hres htc
  have htl:t.cells.length<=1000000000000:=TY htc hSl
  repeat'(first|(apply Yi T;exact rfl;exact zm;exact rfl;exact zv;exact rfl;exact rfl)|refine zgd ?_|(refine zgf ?_ ?_<;>intro _<;>try exact zo)|fail)
  apply Um [1,0,2,3,4,5,6,7,8,9,10,11,12,13,14,16,15,17,18,19] [0,1,16,20,21,22,23] [20,21,22,23] [true,true,true,true,true,true,true]
  kernel_rfl
  kernel_rfl
  exact zy
  (simp only[Yd,nthO];rfl)
  (simp only[Yd,nthO];rfl)
  repeat'(first|(apply Yi T;exact rfl;exact zm;exact rfl;exact zv;exact rfl;exact rfl)|refine zgd ?_|fail)
  apply Yf _ en85
  exact za
  exact rfl
  exactλ_ hw=>(p7 (hinM zm) (hQI zm zm hQ16 hQs) (Wf (cap:=S.cap) zm) (hw))
  rintro _ _ ⟨A4,c4,rfl,rfl⟩
  repeat'(first|(apply Yi T;exact rfl;exact zm;exact rfl;exact zv;exact rfl;exact rfl)|(apply Yj;try exact zl)|refine zgd ?_|fail)
  apply Xl [bldA g15 ⟨n',qA',qc',Q,⟨t.len,t.off,A4,c4,t.cells⟩,cA',cc',C',fA',fc',F',te⟩] _ en86
  exact za
  try exact zl
  exact zp
  exact rfl
  exactλ_ hw=>(Uh ⟨n',qA',qc',Q,⟨t.len,t.off,A4,c4,t.cells⟩,cA',cc',C',fA',fc',F',te⟩ g15 ht (hinM zm) (hQI zm zm hQ16 hQs) (Wf (cap:=c4) zm) htl hw)
  rintro _ _ hO
  rcases hO with⟨h1,rfl,rfl⟩|⟨p,X,h1,rfl,hp,rfl⟩
  ·unfold zeroPnV
   repeat'(first|refine zgc ?_|fail)
   apply Yv T (H2:=H);(iterate 3 exact rfl);exact zm;exact rfl;exact rfl
   ·intro w hw
    have h5:St B w0 [many H] w:=by
     revert w
     exact zk
    exact hop w h5
   rw[<-hres]
   exact .inl ⟨h1,rfl,rfl⟩
  ·unfold PnM.val
   repeat'(first|refine zgc ?_|fail)
   apply Yv T (H2:=many [many X,cels A4 c4 t.cells]::H);(iterate 3 exact rfl);exact zm;exact rfl;exact rfl
   ·intro w hw
    have h5:St B w0 (many X::cels A4 c4 t.cells::[many H]) w:=by
     revert w
     exact zk
    exact(h5.perm (.cons _ (.cons _ (.openT H)))).perm (.close [_,_] H)
   rw[<-hres]
   exact .inr ⟨p,_,h1,rfl,(hp _ (Wf (cap:=c4) (.head _))).mono λw hw=>(hw.perm (.open_ [_,_] [])),rfl⟩
 ·rw[Tf he]at hres
  have hfe:finE n'.net (Q.map RqM.rq) S.sch e'=(none,e'):=by
   have h:YfW n'.net (Q.map RqM.rq) S.sch e'=e':=Tn he
   unfold finE
   rw[h,Tn he]
  repeat'(first|(apply Yi T;exact rfl;exact zm;exact rfl;exact zv;exact rfl;exact rfl)|refine zgd ?_|(refine zgf ?_ ?_<;>intro _<;>try exact zo)|fail)
  apply Xl [bldA g15 ⟨n',qA',qc',Q,S,cA',cc',C',fA',fc',F',e'⟩] _ en86
  exact za
  try exact zl
  exact zp
  exact rfl
  exactλ_ hw=>(Uh ⟨n',qA',qc',Q,S,cA',cc',C',fA',fc',F',e'⟩ g15 ht (hinM zm) (hQI zm zm hQ16 hQs) (Wf (cap:=S.cap) zm) hSl hw)
  rintro _ _ hO
  dsimp only at hO
  rw[hfe]at hO
  rcases hO with⟨h1,rfl,rfl⟩|⟨p,X,h1,rfl,hp,rfl⟩
  ·unfold zeroPnV
   repeat'(first|refine zgc ?_|fail)
   apply Yv T (H2:=H);(iterate 3 exact rfl);exact zm;exact rfl;exact rfl
   ·intro w hw
    have h5:St B w0 [many H] w:=by
     revert w
     exact zk
    exact hop w h5
   rw[<-hres]
   exact .inl ⟨h1,rfl,rfl⟩
  ·cases h1
def V4(f:Flw):List Int:=[f.1,f.2.1,f.2.2.1,f.2.2.2.1,f.2.2.2.2.1,f.2.2.2.2.2]
def rqT(x:Rqs)(k:Nat):List UInt8:=Xq wordF (V4 x.1)++(List.range k).flatMap λj=>Xq wordR (rtAt x.2 j)
def plnT(q:List Rqs)(k:Nat):List UInt8:=(q.take k).flatMap λx=>rqT x x.2.length
def Xg(p:Pln):List UInt8×Int:=if chkP p≠0 then([],1)else(plnT p.q p.q.length++(Y3 p.s).1++(Zf p.c).1,0)
structure RqD(x:Rqs):Prop where
 f:∀n∈V4 x.1,0<=n/\n<10000
 n:x.2.length<=2
 l:∀r∈x.2,r.length<=9
 r:∀r∈x.2,∀n∈r,0<=n/\n<10000
theorem JQ{p:Pln}(h:chkP p=0):(YO p.n p.q p.s).2.2=0:=by
 unfold chkP at h
 omega
variable {n:Net}{q:List Rqs}
theorem Us{s:Sch}(h:(YO n q s).2.2=0):(rqsE n q).2=0:=Rw.1 λh1=>by
 simp_all [YO]
theorem Ov(h:(rqsE n q).2=0):q.length<=16/\∀x∈q,RqD x:=by
 obtain⟨hck,hfl,hrt⟩:=VM h
 have hok:=YK hck
 have h32:=hok.n1
 refine⟨?_,λx hx=>?_⟩
 ·grind [YE,YR]
 have hfx:Xv n.nodes x.1=0:=JB hfl (TC.2 ⟨x,hx,rfl⟩)
 obtain⟨h1,h2,h3,-,h5⟩:=X6 hfx
 have h6:(0<=x.1.2.1/\x.1.2.1<n.nodes)/\0<=x.1.2.2.1/\x.1.2.2.1<n.nodes:=by
  grind [Xv,insE]
 have hrx:=hrt x hx
 refine⟨λz hz=>?_,?_,λr hr=>?_,λr hr z hz=>?_⟩
 ·unfold V4 at hz
  grind
 ·grind [Ow]
 ·exact(JA (ZN hrx r hr)).2.1.2
 ·have hc:=ZN hrx r hr
  unfold X0 at hc
  split at hc
  ·exact absurd hc (by assumption)
  have ho:=(WQ hc).2.1
  rw[RJ]at ho
  have h8:=ho z hz
  unfold offE at h8
  simp only[To]at h8
  omega
theorem YbJ{x:Rqs}(h:RqD x):∀k,k<=x.2.length->(rqT x k).length<=35+51*k
 |0,_=>by
  have:=Zb (w:=wordF) h.f
  simp_all [wordF,V4,rqT]
 |k+1,hk=>by
  have ih:=YbJ h k (by omega)
  have hr:rtAt x.2 k∈x.2:=by
   grind [rtAt]
  have h1:=Zb (w:=wordR) (h.r _ hr)
  have h2:=h.l _ hr
  have e:wordR.length=5:=rfl
  grind [rqT,Rq]
theorem Yp9(x:Rqs)(k:Nat):rqT x (k+1)=rqT x k++Xq wordR (rtAt x.2 k):=by
 grind [rqT,Rq]
theorem Ye7{k:Nat}{x:Rqs}(h:q[k]? =some x):plnT q (k+1)=plnT q k++rqT x x.2.length:=by
 grind [plnT,TF]
theorem Yc8{q:List Rqs}(h:∀x∈q,RqD x):∀k,k<=q.length->(plnT q k).length<=150*k
 |0,_=>by grind [plnT]
 |k+1,hk=>by
  have ih:=Yc8 h k (by omega)
  obtain⟨x,hx⟩:∃x,q[k]? =some x:=⟨_,Ta (by omega)⟩
  have hd:=h x (Tc hx)
  have h1:=YbJ hd x.2.length (TI _)
  grind [Go.Proofs.YtjlgijpmnfabcaaGreatDoor.RqD.n,Ye7]
theorem Qc(s:Sch):(Y3 s).1.length<=30000:=by
 unfold Y3
 cases hf:Y1 s with
 |false=>simp_all
 |true=>
  have hfr:=Xw.1 hf
  have h1:=Qh hfr s.cells.length (TI _)
  grind [Go.Proofs.YtjlgijpmnfabcaaGreatDoor.Frm.few,ZQ,Wz]
theorem Qb(c:List Clm):(Zf c).1.length<=30000:=by
 unfold Zf
 cases hf:Jf c with
 |false=>simp_all
 |true=>
  obtain⟨h16,hfd⟩:=QE hf
  have h1:=Yah hfd c.length (TI _)
  grind [Yfg]
variable {B:Nat}{w0 w:World}{H:List HP}
theorem NetM.In.here{n:NetM}(h:n.In B w0 H)(hw:St B w0 H w):n.In w.heap.size w []:=⟨h.pw.here hw,λr hr=>(h.rw_ r hr).here hw,h.lk.here hw,h.mg.here hw,h.s1,h.s2,h.s3,h.s4⟩
theorem QIn.here{q:List RqM}{A:Option Addr}(h:QIn B w0 H A q)(hw:St B w0 H w):QIn w.heap.size w [] A q:=⟨h.rd.here hw,λx hx=>⟨(h.x x hx).rt.here hw,λr hr=>((h.x x hx).rw_ r hr).here hw,(h.x x hx).ln,(h.x x hx).rl⟩,h.ln⟩
theorem PnM.In.here{p:PnM}(h:p.In B w0 H)(hw:St B w0 H w):p.In w.heap.size w []:=⟨h.n.here hw,h.q.here hw,h.s.here hw,h.sl,h.c.here hw,h.f.here hw,h.fl⟩
theorem Ynw(p:PnM)(ht:TabsB B w0)(hp:p.In B w0 [])(hw:St B w0 [] w):
 CX B w0 8 [p.val] w λv _=>v=.tuple #[strV (Xg p.pln).1,.int .i64 (Xg p.pln).2]:=by
 refine Ya Tryz.func8 Tryz.ntmps8 rfl rfl hw ?_
 have p1:=λ{H':List HP}{w:World}(hp:p.In B w0 H') (hw:St B w0 H' w)=>J9 p ht hp hw
 obtain⟨n,qA,qcap,q,s,cA,ccap,c,fA,fcap,f⟩:=p
 have hp0:=hp
 obtain⟨hin,hq,hrs,hsl,hc,hf,hfl⟩:=hp
 dsimp only at hin hq hrs hsl hc hf hfl
 have p2:=λ{H':List HP}{w:World}(hrs:Rd B w0 H' s.A (s.cells.flatMap celF)) (hw:St B w0 H' w)=>VH s ht hrs hsl hw
 have p3:=λ{H':List HP}{w:World}(hc:CIn B w0 H' cA c) (hw:St B w0 H' w)=>YaP c (cap:=ccap) ht hc hw
 unfold PnM.val at p1⊢
 unfold SchM.val at p2
 have hpl:(⟨n,qA,qcap,q,s,cA,ccap,c,fA,fcap,f⟩:PnM).pln=⟨n.net,q.map RqM.rq,s.sch,c.map ClM.clm,f⟩:=rfl
 rw[hpl]at p1⊢
 dsimp only at p1⊢
 unfold Xg
 by_cases hk:chkP ⟨n.net,q.map RqM.rq,s.sch,c.map ClM.clm,f⟩=0
 rotate_left
 ·rw[Tn hk]
  refine zX70 ?_<;>intros
  first|apply Yb en10|apply Yc en10
  exact za
  exact rfl
  exactλ_ hw=>(p1 (hp0.mono zc0) hw)
  refine zX3 ?_<;>intros
  apply YN;(iterate 3 exact rfl)
  rfl
 have hrq:=Us (JQ hk)
 dsimp only at hrq
 rw[hk]at p1
 rw[Tf (λe=>e hk)]
 obtain⟨hq16,hqd⟩:=Ov hrq
 rw[Tt]at hq16
 have hsL:=Qc s.sch
 have hcL:=Qb (c.map ClM.clm)
 obtain⟨⟨sT,se⟩,hsT⟩:∃R,Y3 s.sch=R:=⟨_,rfl⟩
 obtain⟨⟨cT,ce⟩,hcT⟩:∃R,Zf (c.map ClM.clm)=R:=⟨_,rfl⟩
 rw[hsT]at p2 hsL⊢
 rw[hcT]at p3 hcL⊢
 dsimp only at p2 p3 hsL hcL⊢
 refine zX70 ?_<;>intros
 first|apply Yb en10|apply Yc en10
 exact za
 exact rfl
 exactλ_ hw=>(p1 (hp0.mono zc0) hw)
 refine Yqz ?_<;>intros
 rename_i g1 _ gb
 obtain⟨q0,hq0⟩:∃q0,q.map RqM.rq=q0:=⟨_,rfl⟩
 have hq0l:q0.length=q.length:=by rw[<-hq0,Tt]
 rw[hq0]at hqd⊢
 refine Yg (λz:PrM=>[(20,.int .i64 (z.i:Nat)),(19,.int .i64 q.length),(18,.slice qA q.length qcap),(1,.pointer (some ⟨g1,0,none⟩)),(4,.pointer (some ⟨gb,0,none⟩))])
  (λz=>bdP gb (if z.i=0 then .pointer none else .pointer (some ⟨gb,0,none⟩)) z.A z.cap (plnT q0 z.i) [blk g1 (.cells #[.int .i64 n.nodes,.slice n.pA n.rows.length n.pcap,.int .i64 n.noise,.int .i64 n.thr,.slice n.lA n.links.length n.lcap,.slice n.mA n.margin.length n.mcap,.slice qA q.length qcap,.int .i64 s.len,.int .i64 s.off,.slice s.A s.cells.length s.cap,.slice cA c.length ccap,.slice fA f.length fcap] 35 (0,0))]) (λz=>z.i<=q.length) (λz=>q.length-z.i) ⟨0,none,0⟩ (Ti _) ?_ ?_ ?_
 ·exact zc1
 ·intro w hw
  have h5:St B w0 [blk gb (.cells (Value.agg #[.pointer none,.slice none 0 0]).cells 98 (0,0)),blk g1 (.cells #[.int .i64 n.nodes,.slice n.pA n.rows.length n.pcap,.int .i64 n.noise,.int .i64 n.thr,.slice n.lA n.links.length n.lcap,.slice n.mA n.margin.length n.mcap,.slice qA q.length qcap,.int .i64 s.len,.int .i64 s.off,.slice s.A s.cells.length s.cap,.slice cA c.length ccap,.slice fA f.length fcap] 35 (0,0))] w:=by
   revert w
   exact zc0
  exact(h5.nilSlice 5 1).perm (.swap _ _ _)
 rintro⟨k,A1,cap1⟩ hk2 K hK
 dsimp only at hk2⊢
 have htl:=Yc8 hqd k (by omega)
 by_cases hlt:k<q.length
 rotate_left
 ·obtain rfl:k=q.length:=by omega
  obtain⟨pp,hpp⟩:∃p,(if q.length=0 then Value.pointer none else .pointer (some ⟨gb,0,none⟩))=p:=⟨_,rfl⟩
  have hp2:pp=.pointer none\/pp=.pointer (some ⟨gb,0,none⟩):=by rw[<-hpp];split<;>simp
  rw[hpp,hq0l]
  clear hK
  unfold bdP
  refine YdK ?_<;>intros
  first|apply Yb en11|apply Yc en11
  exact za
  exact rfl
  exactλ_ hw=>(p2 (hrs.mono zc0) hw)
  refine Yfi ?_
  first|apply Yb en12|apply Yc en12
  exact za
  exact rfl
  exactλ_ hw=>(p3 (hc.mono zc0) hw)
  refine Yfi ?_
  apply Yf _ en37
  exact za
  exact rfl
  exactλ_ hw=>(W7 (l:=plnT q0 q.length) hp2 (hw))
  rintro _ _ ⟨rfl,rfl⟩
  repeat'(first|(apply Ug (plnT q0 q.length) sT;(iterate 3 exact rfl);omega)|(apply Ug (plnT q0 q.length++sT) cT;(iterate 3 exact rfl);(rw[Tq];omega))|refine zga ?_|fail)
  apply YN;(iterate 3 exact rfl)
  rfl
 obtain⟨x,hx⟩:∃x,q[k]? =some x:=⟨_,Ta hlt⟩
 have hxm:=Tc hx
 have hx0:q0[k]? =some x.rq:=by rw[<-hq0,TJ,hx];rfl
 have hxd:=hqd x.rq (Tc hx0)
 have hxi:=hq.x x hxm
 have hqr:=hq.rd
 obtain⟨pp,hpp⟩:∃p,(if k=0 then Value.pointer none else .pointer (some ⟨gb,0,none⟩))=p:=⟨_,rfl⟩
 have hp2:pp=.pointer none\/pp=.pointer (some ⟨gb,0,none⟩):=by rw[<-hpp];split<;>simp
 rw[hpp]
 have hxn:=hxd.n
 have hxn2:x.rq.2.length=x.rows.length:=Tt _
 have hf0:=YbJ hxd 0 (Ti _)
 have ef:rqT x.rq 0=Xq wordF (V4 x.f):=by unfold rqT;simp;rfl
 rw[ef]at hf0
 have l1:=λ{g:Nat}{cap:Nat}{H':List HP}{w:World}(hm:blk g (.cells #[.int .i64 x.f.1,.int .i64 x.f.2.1,.int .i64 x.f.2.2.1,.int .i64 x.f.2.2.2.1,.int .i64 x.f.2.2.2.2.1,.int .i64 x.f.2.2.2.2.2] 3 (0,0))∈H') (hw:St B w0 H' w)=>Yc7 wordF (V4 x.f) hxd.f (by show 6<=100;decide) (by decide) (A:=some ⟨g,0,none⟩) (cap:=cap) ht (show Rd B w0 H' _ ((V4 x.f).flatMap numF) from Rd.blk (cs:=#[.int .i64 x.f.1,.int .i64 x.f.2.1,.int .i64 x.f.2.2.1,.int .i64 x.f.2.2.2.1,.int .i64 x.f.2.2.2.2.1,.int .i64 x.f.2.2.2.2.2]) hm) hw
 obtain⟨s1,hs1⟩:∃s,Xq wordF (V4 x.f)=s:=⟨_,rfl⟩
 rw[hs1]at l1 hf0 ef
 unfold bdP
 refine YiT ?_<;>intros
 rename_i gx gf gl
 first|apply Yb en36|apply Yc en36
 exact za
 exact rfl
 exactλ_ hw=>(l1 (by(focus exact zc2)) hw)
 apply Xy (bdP gb pp A1 cap1 (plnT q0 k) [rqA gx x,blk g1 (.cells #[.int .i64 n.nodes,.slice n.pA n.rows.length n.pcap,.int .i64 n.noise,.int .i64 n.thr,.slice n.lA n.links.length n.lcap,.slice n.mA n.margin.length n.mcap,.slice qA q.length qcap,.int .i64 s.len,.int .i64 s.off,.slice s.A s.cells.length s.cap,.slice cA c.length ccap,.slice fA f.length fcap] 35 (0,0))])
 ·unfold bdP
  exact zc0
 apply Yf _ en35
 exact za
 exact rfl
 exactλ_ hw=>(JF gb pp hp2 A1 cap1 (plnT q0 k) s1 (by omega) (hw))
 rintro _ _ ⟨rfl,A2,cap2,rfl⟩
 unfold bdP
 refine Ys9 ?_
 refine Yg (λz:PrM=>[(44,.int .i64 (z.i:Nat)),(43,.int .i64 x.rows.length),(42,.slice x.A x.rows.length x.cap),(20,.int .i64 (k:Nat)),(19,.int .i64 q.length),(18,.slice qA q.length qcap),(1,.pointer (some ⟨g1,0,none⟩)),(4,.pointer (some ⟨gb,0,none⟩))])
  (λz=>bdP gb (.pointer (some ⟨gb,0,none⟩)) z.A z.cap (plnT q0 k++rqT x.rq z.i) [blk g1 (.cells #[.int .i64 n.nodes,.slice n.pA n.rows.length n.pcap,.int .i64 n.noise,.int .i64 n.thr,.slice n.lA n.links.length n.lcap,.slice n.mA n.margin.length n.mcap,.slice qA q.length qcap,.int .i64 s.len,.int .i64 s.off,.slice s.A s.cells.length s.cap,.slice cA c.length ccap,.slice fA f.length fcap] 35 (0,0))]) (λz=>z.i<=x.rows.length) (λz=>x.rows.length-z.i) ⟨0,A2,cap2⟩ (Ti _) ?_ ?_ ?_
 ·exact zc1
 ·dsimp only
  rw[ef]
  unfold bdP
  exact zc0
 rintro⟨j,A3,cap3⟩ hj K2 hK2
 dsimp only at hj⊢
 have hjl:=YbJ hxd j (by omega)
 by_cases hjx:j<x.rows.length
 rotate_left
 ·obtain rfl:j=x.rows.length:=by omega
  clear hK2
  have hst:=Ye7 hx0
  rw[hxn2]at hst
  rw[<-hst]
  unfold bdP
  refine zX1 ?_<;>intros
  apply hK ⟨k+1,A3,cap3⟩
  ·show k+1<=q.length
   omega
  ·exact zc47
  ·exact zc1
  ·dsimp only
   rw[Tf (Nat.succ_ne_zero k)]
   unfold bdP
   exact zc0
 obtain⟨r,hr⟩:∃r,x.rows[j]? =some r:=⟨_,Ta hjx⟩
 have hrm:=Tc hr
 have hrt:=hxi.rt
 have hrx:r.xs∈x.rq.2:=TC.2 ⟨r,hrm,rfl⟩
 have hst:=Yp9 x.rq j
 have hrj:rtAt x.rq.2 j=r.xs:=UM hr
 rw[hrj]at hst
 have h9:=hxd.l _ hrx
 have l2:=λ{H':List HP}{w:World}(hr:Rd B w0 H' r.A (r.xs.flatMap numF)) (hw:St B w0 H' w)=>Yc7 wordR r.xs (hxd.r _ hrx) (by omega) (by decide) (cap:=r.cap) ht hr hw
 have hl2:=Zb (w:=wordR) (hxd.r _ hrx)
 have e5:wordR.length=5:=rfl
 obtain⟨s2,hs2⟩:∃s,Xq wordR r.xs=s:=⟨_,rfl⟩
 rw[hs2]at l2 hl2 hst
 unfold bdP
 refine zX0 ?_<;>intros
 first|apply Yb en36|apply Yc en36
 exact za
 exact rfl
 exactλ_ hw=>(l2 ((hxi.rw_ r hrm).mono zc0) hw)
 apply Xy (bdP gb (.pointer (some ⟨gb,0,none⟩)) A3 cap3 (plnT q0 k++rqT x.rq j) [blk g1 (.cells #[.int .i64 n.nodes,.slice n.pA n.rows.length n.pcap,.int .i64 n.noise,.int .i64 n.thr,.slice n.lA n.links.length n.lcap,.slice n.mA n.margin.length n.mcap,.slice qA q.length qcap,.int .i64 s.len,.int .i64 s.off,.slice s.A s.cells.length s.cap,.slice cA c.length ccap,.slice fA f.length fcap] 35 (0,0))])
 ·unfold bdP
  exact zc0
 apply Yf _ en35
 exact za
 exact rfl
 exactλ_ hw=>(JF gb _ (.inr rfl) A3 cap3 (plnT q0 k++rqT x.rq j) s2 (by rw[Tq];omega) (hw))
 rintro _ _ ⟨rfl,A4,cap4,rfl⟩
 unfold bdP
 refine zX11 ?_
 apply hK2 ⟨j+1,A4,cap4⟩
 ·show j+1<=x.rows.length
  omega
 ·exact zc47
 ·exact zc1
 ·dsimp only
  intro w hw
  rw[hst,show plnT q0 k++(rqT x.rq j++s2)=plnT q0 k++rqT x.rq j++s2 from(Re _ _ _).symm]
  unfold bdP
  exact hw
theorem Uc(p:PnM)(ht:TabsB B w0)(hp:p.In B w0 H)(hw:St B w0 H w):
 CX B w0 8 [p.val] w λv K=>v=.tuple #[strV (Xg p.pln).1,.int .i64 (Xg p.pln).2]/\K=H:=
 WI hw (Ynw p (ht.here hw) (hp.here hw) (St.start w))
theorem YeK{nodes:Int}{l:List Flw}:(YE nodes l).2=0↔(2<=nodes/\nodes<=32)/\l.length<=16/\(∀f∈l,Xv nodes f=0)/\l.Pairwise λa b=>a.1<b.1:=by
 constructor
 ·intro h
  refine⟨?_,?_,λf hf=>JB h hf,?_⟩
  ·unfold YE at h
   split at h
   ·cases h
   ·omega
  ·unfold YE at h
   split at h
   ·cases h
   split at h
   ·cases h
   ·omega
  ·rw[Rb]
   intro i j hi hj hij
   have:=YeL h hij hj
   unfold Xp at this
   rwa [Tz,Tz,Ta hi,Ta hj]at this
 ·rintro⟨h1,h2,h3,h4⟩
  unfold YE
  rw[Tf (by omega),Tf (by omega)]
  refine YD.2 λk _ hk=>?_
  rw[RH]at hk
  rw[Rb]at h4
  have hat:∀{i:Nat}(hi:i<l.length),Xp l i=l[i]:=λhi=>by unfold Xp;rw[Tz,Ta hi];rfl
  unfold Xb
  rw[hat hk,Tf (λe=>e (h3 _ (S8 hk)))]
  rcases Ss k with rfl|hk0
  ·rw[Tf (by omega)]
  ·rw[hat (i:=k-1) (by omega),Tf]
   have:=h4 (k-1) k (by omega) hk (by omega)
   omega
theorem YoH{p:Pln}(h:chkP p=0):Yr8 p:=by
 unfold chkP at h
 split at h
 ·cases h
 split at h
 ·cases h
 split at h
 ·cases h
 split at h
 ·cases h
 split at h
 ·cases h
 rename_i h3 h4 h5
 have h3:=Rw.1 h3
 have h4:=Rw.1 h4
 refine⟨h3,?_,Rw.1 λe=>h5 (.inl e),(Rw.1 λe=>h5 (.inr e)).symm⟩
 unfold chkE at h4
 rw[Tf (λe=>e h3)]at h4
 by_cases hl:p.c.length=(YO p.n p.q p.s).1.length
 rotate_left
 ·rw[Tn hl]at h4;cases h4
 rw[Tf (λe=>e hl)]at h4
 refine List.ext_getElem hl λi h6 h7=>?_
 have:=YD.1 h4 i (Ti _) (by omega)
 by_cases e:Jd p.c i=Jd (YO p.n p.q p.s).1 i
 ·unfold Jd at e
  rwa [Tz,Tz,Ta h6,Ta h7]at e
 ·rw[Tf e]at this;cases this
variable {n:Net}{q:List Rqs}{s:Sch}
theorem Og(h:(YO n q s).2.2=0):Y1 s=true:=Xw.2 (JM.1 (Zw.1 (Za.1 h).1)).frm
theorem Ypj(h:(YO n q s).2.2=0):(YE n.nodes (YR q)).2=0:=(Ob (Zw.1 (Za.1 h).1).whole).2.1
variable {B:Nat}{w0 w:World}{H:List HP}
theorem PnM.In.inX{X:List HP}{p:PnM}(h:p.In B w0 [many X])(hm:many X∈H):p.In B w0 H:=h.mono λ_ hw=>(hw.inM hm).perm (.closeT X)
theorem YuB:∀l:List RqM,∀v∈l.flatMap rqF,v.oneCell'=true:=λl v hv=>by
 obtain⟨a,_,ha⟩:=RP.1 hv
 revert ha
 simp only[rqF,TV,Si,NH]
 rintro h
 repeat'(rcases h with rfl|h)
 all_goals(try subst h)
 all_goals rfl
theorem YfQ(l:List RqM)(i:Nat)(hi:i<l.length)(hlen:l.length<=1000){A:Option Addr}{cap:Nat}(hw:St B w0 (rqs A cap l::H) w):
 CX B w0 89 [.slice A l.length cap,.int .i64 i,.int .i64 ((i:Int)+1)] w λv K=>v=.slice A (l.eraseIdx i).length cap/\K=rqs A cap (l.eraseIdx i)::H:=by
 refine Ya Tryz.func89 Tryz.ntmps89 rfl rfl hw ?_
 unfold rqs
 refine Oc (k:=l.length) (cap:=cap) zm λhcap=>?_
 have hel:(l.eraseIdx i).length=l.length-1:=List.length_eraseIdx_of_lt hi
 have hfl:=YaV (f:=rqF) (q:=7) (λ_=>rfl) l i hi
 have hone:=YuB l
 repeat'(first|(apply Ymj T;(iterate 6 exact rfl);omega)|refine zgb ?_|(refine zgf ?_ ?_<;>intro _<;>try exact zo)|fail)
 apply YI [0,1,2,3,4,5,6,7] [] [false]
 kernel_rfl
 kernel_rfl
 exact zy
 (simp only[Yd,nthO];rfl)
 exact rfl
 repeat'(first|refine zga ?_|fail)
 apply Zk T (l:=l) (n':=i);(iterate 4 exact rfl);omega;exact hcap;omega
 rw[Ydy]
 repeat'(first|refine zga ?_|fail)
 apply XV T (n':=l.length-(i+1));(iterate 4 exact rfl);omega;omega
 rw[show((i:Int)+1).toNat=i+1 by omega]
 repeat'(first|refine zgd ?_|fail)
 apply Yfq T (e:=69) (size:=7) (k:=l.length) (i:=i) (j:=i+1) (xs:=l.flatMap rqF);(iterate 4 exact rfl);exact zd;exact hone;omega
 rw[hfl,show i+(l.length-(i+1))=(l.eraseIdx i).length by omega]
 repeat'(first|(apply Yj;try exact zl)|refine zgd ?_|fail)
 apply WD T (n':=1);(iterate 5 exact rfl);omega;omega
 rw[show(((l.eraseIdx i).length:Nat):Int).toNat=(l.eraseIdx i).length by omega]
 apply Ql T T2 (e:=69) (size:=7) (k:=(l.eraseIdx i).length) (xs:=(l.eraseIdx i).flatMap rqF);exact rfl;exact zm;(iterate 3 exact rfl);omega
 repeat'(first|refine zga ?_|fail)
 apply Ye;exact rfl;exact rfl;exact⟨rfl,rfl⟩
theorem Ylz{α β:Type}(g:α->β)(p:β->Bool):∀(l:List α) (k:Int),Yl p (l.map g) k=Yl (λx=>p (g x)) l k
 |[],_=>rfl
 |a::l,k=>by
  rw[Ru]
  unfold Yl
  rw[Ylz g p l (k+1)]
theorem Ypk{α:Type}(p:α->Bool):∀(l:List α) (k:Int),0<=k->Yl p l k= -1\/(k<=Yl p l k/\Yl p l k<k+l.length)
 |[],k,_=>.inl rfl
 |a::l,k,h=>by
  have ih:=Ypk p l (k+1) (by omega)
  grind [Yl]
theorem Yqt(y:RqM)(id:Int)(g:Nat)(hm:intA g id∈H)(hw:St B w0 H w):
 CX B w0 88 [rqV y,.pointer (some ⟨g,0,none⟩)] w λv K=>v=.bool (decide (y.f.1=id))/\K=H:=by
 refine Ya Tryz.func88 Tryz.ntmps88 rfl rfl hw ?_
 unfold rqV
 by_cases h:y.f.1=id
 ·rw[Td h]
  refine zX43 ?_<;>intros
  all_goals(apply Yh H;((intro w hw;refine hw.perm ?_;focus exact zc3));exact zc13)
 ·rw[Tj h]
  refine zX43 ?_<;>intros
  all_goals(apply Yh H;((intro w hw;refine hw.perm ?_;focus exact zc3));exact zc13)
theorem Yjt(s:Sch)(id:Int):(QA s id).1.cells.length<=s.cells.length:=by
 unfold QA
 split
 ·exact Ti _
 ·exact YlX
theorem Ybx(p:PnM)(id:Int)(ht:TabsB B w0)(hp:p.In B w0 H)(hw:St B w0 H w):
 CX B w0 31 [p.val,.int .i64 id] w (YkA B w0 H (wdrP p.pln id)):=by
 refine Ya Tryz.func31 Tryz.ntmps31 rfl rfl hw ?_
 have p1:=λ{H':List HP}{w:World}(hp:p.In B w0 H') (hw:St B w0 H' w)=>J9 p ht hp hw
 have hop:∀w,St B w0 [many H] w->St B w0 H w:=λw hw=>hw.perm (.openT H)
 have hpM:∀{H':List HP},many H∈H'->p.In B w0 H':=λhm=>hp.mono λw hw=>hw.inM hm
 obtain⟨n,qA,qcap,q,s,cA,ccap,c,fA,fcap,f⟩:=p
 have hinM:∀{H':List HP},many H∈H'->n.In B w0 H':=λhm=>(hpM hm).n
 have hqM:∀{H':List HP},many H∈H'->QIn B w0 H' qA q:=λhm=>(hpM hm).q
 have hrsM:∀{H':List HP},many H∈H'->Rd B w0 H' s.A (s.cells.flatMap celF):=λhm=>(hpM hm).s
 have hsl:s.cells.length<=1000000000000:=hp.sl
 have p2:=λ{H':List HP}{w:World}(hrs:Rd B w0 H' s.A (s.cells.flatMap celF)) (hw:St B w0 H' w)=>Yl3 s id ht hrs hsl hw
 unfold PnM.val at p1⊢
 have hpl:(⟨n,qA,qcap,q,s,cA,ccap,c,fA,fcap,f⟩:PnM).pln=⟨n.net,q.map RqM.rq,s.sch,c.map ClM.clm,f⟩:=rfl
 rw[hpl]at p1⊢
 unfold wdrP
 dsimp only at p1⊢
 refine XD [many H] (λw hw=>hw.perm (.closeT H)) ?_
 by_cases hk:chkP ⟨n.net,q.map RqM.rq,s.sch,c.map ClM.clm,f⟩=0
 rotate_left
 ·rw[Tn hk]
  repeat'(first|(apply zg23;first|(refine zs52 ?_;intro _)|(refine zs53 ?_;intro _))|refine zgb ?_|(refine zgh ?_;intro _)|fail)
  first|apply Yb en10|apply Yc en10
  exact za
  exact rfl
  exactλ_ hw=>(p1 (hpM zm) hw)
  repeat'(first|refine zgd ?_|(refine zge ?_ ?_<;>intro _<;>try exact zo)|fail)
  apply Yv T (H2:=H);(iterate 3 exact rfl);exact zm;exact rfl;exact rfl
  ·intro w hw
   have h5:St B w0 [many H] w:=by
    revert w
    exact zk
   exact hop w h5
  exact .inl ⟨rfl,rfl,rfl⟩
 have hq16:q.length<=16:=by
  have:=(Ov (Us (JQ hk))).1
  rwa [Tt]at this
 rw[hk]at p1
 rw[Tf (λe=>e hk)]
 have hidx:idQ (q.map RqM.rq) id=Yl (λy:RqM=>decide (y.f.1=id)) q 0:=Ylz _ _ _ _
 rw[hidx]
 repeat'(first|(apply zg23;first|(refine zs52 ?_;intro _)|(refine zs53 ?_;intro _))|refine zgb ?_|(refine zgh ?_;intro _)|fail)
 rename_i g2 g3 g4
 first|apply Yb en10|apply Yc en10
 exact za
 exact rfl
 exactλ_ hw=>(p1 (hpM zm) hw)
 repeat'(first|(apply zg29;(apply Yr;exact za;exact rfl))|refine zgb ?_|(refine zge ?_ ?_<;>intro _<;>try exact zo)|fail)
 first|apply Yb en87|apply Yc en87
 exact za
 exact rfl
 exactλ_ hw=>(YcP (λy=>decide (y.f.1=id)) q 88 [.pointer (some ⟨g3,0,none⟩)] en88 (by omega) (hqM zm).rd (λa _ w hw=>Yqt a id g3 zm hw) hw)
 have hil:=Ypk (λy:RqM=>decide (y.f.1=id)) q 0 (by omega)
 generalize Yl (λy:RqM=>decide (y.f.1=id)) q 0=k at hil⊢
 by_cases hk0:k<0
 ·rw[Tn hk0]
  repeat'(first|refine zgd ?_|(refine zge ?_ ?_<;>intro _<;>try exact zo)|fail)
  apply Yv T (H2:=H);(iterate 3 exact rfl);exact zm;exact rfl;exact rfl
  ·intro w hw
   have h5:St B w0 [many H] w:=by
    revert w
    exact zk
   exact hop w h5
  exact .inl ⟨rfl,rfl,rfl⟩
 rw[Tf hk0]
 obtain⟨j,rfl⟩:∃j:Nat,k=j:=⟨k.toNat,by omega⟩
 have hj:j<q.length:=by omega
 rw[Rx]
 have hdel:delQ (q.map RqM.rq) j=(q.eraseIdx j).map RqM.rq:=by
  unfold delQ
  rw[List.eraseIdx_eq_take_drop_succ,Rk,List.map_take,NF]
 rw[hdel]
 have hdc:=Yjt s.sch id
 unfold OutS SchM.val at p2
 generalize QA s.sch id=R at p2 hdc⊢
 obtain⟨t,te⟩:=R
 dsimp only at p2 hdc⊢
 have htl:t.cells.length<=1000000000000:=TY hdc hsl
 repeat'(first|(apply Yi T;exact rfl;exact zm;exact rfl;exact zv;exact rfl;exact rfl)|refine zgb ?_|(refine zge ?_ ?_<;>intro _<;>try exact zo)|fail)
 apply YI [0,1,2,3,5,6,7,4,8,9,10,11,12] [] [true,true,true,true]
 kernel_rfl
 kernel_rfl
 exact zy
 (simp only[Yd,nthO];rfl)
 exact rfl
 repeat'(first|(apply Yi T;exact rfl;exact zm;exact rfl;exact zv;exact rfl;exact rfl)|refine zgd ?_|fail)
 apply Yf _ en90
 exact za
 exact rfl
 exactλ_ hw=>(WJ q (by omega) (hqM zm).rd (hw))
 rintro _ _ ⟨A1,c1,rfl,rfl⟩
 repeat'(first|(apply Yi T;exact rfl;exact zm;exact rfl;exact zv;exact rfl;exact rfl)|(apply Yj;try exact zl)|refine zgd ?_|fail)
 apply Xl [rqs A1 c1 q] _ en89
 exact za
 try exact zl
 exact zp
 exact rfl
 exactλ_ hw=>(YfQ q j hj (by omega) hw)
 rintro _ _ ⟨rfl,rfl⟩
 repeat'(first|(apply Yi T;exact rfl;exact zm;exact rfl;exact zv;exact rfl;exact rfl)|(apply Yj;try exact zl)|refine zgd ?_|(refine zgh ?_;intro _)|fail)
 rename_i g7
 apply Yf _ en91
 exact za
 exact rfl
 exactλ_ hw=>(p2 (hrsM zm) (hw))
 rintro _ _ ⟨A4,c4,rfl,rfl⟩
 repeat'(first|(apply Yi T;exact rfl;exact zm;exact rfl;exact zv;exact rfl;exact rfl)|refine zgd ?_|fail)
 apply Xy (bldA g7 ⟨n,A1,c1,q.eraseIdx j,⟨t.len,t.off,A4,c4,t.cells⟩,none,0,[],none,0,[],te⟩::rqs A1 c1 (q.eraseIdx j)::cels A4 c4 t.cells::blk g4 (.cells zeroPnV.cells 35 (0,0))::[many H])
 ·intro w hw
  have h5:St B w0 (blk g7 (.cells #[.int .i64 n.nodes,.slice n.pA n.rows.length n.pcap,.int .i64 n.noise,.int .i64 n.thr,.slice n.lA n.links.length n.lcap,.slice n.mA n.margin.length n.mcap,.slice A1 (q.eraseIdx j).length c1,.int .i64 t.len,.int .i64 t.off,.slice A4 t.cells.length c4,.slice none 0 0,.slice none 0 0,.int .i64 te] 164 (0,0))::rqs A1 c1 (q.eraseIdx j)::cels A4 c4 t.cells::blk g4 (.cells (Value.agg #[.int .i64 0,.slice none 0 0,.int .i64 0,.int .i64 0,.slice none 0 0,.slice none 0 0,.slice none 0 0,.int .i64 0,.int .i64 0,.slice none 0 0,.slice none 0 0,.slice none 0 0]).cells 35 (0,0))::[many H]) w:=by
   revert w
   exact zk
  exact h5
 have hqe:∀{H':List HP},many H∈H'->rqs A1 c1 (q.eraseIdx j)∈H'->QIn B w0 H' A1 (q.eraseIdx j):=λh1 h2=>⟨Yj7 h2,λx hx=>(hqM h1).x x (List.mem_of_mem_eraseIdx hx),by have:=List.length_eraseIdx_le q j;omega⟩
 apply Xl [bldA g7 ⟨n,A1,c1,q.eraseIdx j,⟨t.len,t.off,A4,c4,t.cells⟩,none,0,[],none,0,[],te⟩] _ en86
 exact za
 try exact zl
 exact zp
 exact rfl
 exactλ_ hw=>(Uh ⟨n,A1,c1,q.eraseIdx j,⟨t.len,t.off,A4,c4,t.cells⟩,none,0,[],none,0,[],te⟩ g7 ht (hinM zm) (hqe zm zm) (Wf (cap:=c4) zm) htl hw)
 rintro _ _ hO
 dsimp only at hO
 rcases hO with⟨h1,rfl,rfl⟩|⟨p,X,h1,rfl,hp,rfl⟩
 ·unfold zeroPnV
  repeat'(first|refine zgc ?_|fail)
  apply Yv T (H2:=H);(iterate 3 exact rfl);exact zm;exact rfl;exact rfl
  ·intro w hw
   have h5:St B w0 [many H] w:=by
    revert w
    exact zk
   exact hop w h5
  exact .inl ⟨h1,rfl,rfl⟩
 ·unfold PnM.val
  repeat'(first|refine zgc ?_|fail)
  apply Yv T (H2:=many [many X,cels A4 c4 t.cells]::H);(iterate 3 exact rfl);exact zm;exact rfl;exact rfl
  ·intro w hw
   have h5:St B w0 (many X::cels A4 c4 t.cells::[many H]) w:=by
    revert w
    exact zk
   exact(h5.perm (.cons _ (.cons _ (.openT H)))).perm (.close [_,_] H)
  exact .inr ⟨p,_,h1,rfl,(hp _ (Wf (cap:=c4) (.head _))).mono λw hw=>(hw.perm (.open_ [_,_] [])),rfl⟩
def rqL(x:Rqs):List (List UInt8):=YA wordF (V4 x.1)::x.2.map (YA wordR)
def plnL(p:Pln):List (List UInt8):=p.q.flatMap rqL++(J6 p.s++p.c.flatMap Ue)
theorem Yp0(l:List (List Int)):(List.range l.length).map (rtAt l)=l:=by
 refine List.ext_getElem (by simp) λi h1 h2=>?_
 simp only[List.getElem_map,List.getElem_range]
 unfold rtAt
 rw[Tz,Ta h2];rfl
theorem YrU(x:Rqs):rqT x x.2.length=(rqL x).flatMap λp=>p++[10]:=by
 unfold rqT rqL Xq
 rw[TN,Np]
 congr 1
 conv=>rhs;rw[<-Yp0 x.2,Np]
variable {p:Pln}
theorem YpX(hs:Y1 p.s=true)(hc:Jf p.c=true):plnT p.q p.q.length++(Y3 p.s).1++(Zf p.c).1=(plnL p).flatMap λp=>p++[10]:=by
 have h1:(Y3 p.s).1=Wz p.s:=by unfold Y3;rw[Tf (by rw[hs];decide)]
 have h2:(Zf p.c).1=Wy p.c:=by unfold Zf;rw[Tf (by rw[hc];decide)]
 rw[h1,h2,OB]
 unfold Wy plnT plnL
 rw[TM,Ro,Ro,Re]
 congr 1
 rw[List.flatMap_assoc]
 congr 1
 funext x
 exact YrU x
theorem YrT{x:Rqs}(h:RqD x):∀p∈rqL x,(10:UInt8)∉p:=λp hp=>by
 unfold rqL at hp
 rcases TV.1 hp with rfl|hp
 ·exact Zc (by decide) λn hn=>(h.f n hn).1
 ·obtain⟨r,hr,rfl⟩:=TC.1 hp
  exact Zc (by decide) λn hn=>(h.r r hr n hn).1
theorem Yni{a b:List (List UInt8)}(ha:∀p∈a,(10:UInt8)∉p)(hb:∀p∈b,(10:UInt8)∉p)(h:(a.flatMap λp=>p++[10])=b.flatMap λp=>p++[10]):a=b:=by
 rw[<-VA,<-VA]at h
 have h2:∀{l:List (List UInt8)},(∀p∈l,(10:UInt8)∉p)->cutC 10 (ON 10 (l++[[]]))=l++[[]]:=λhl=>Ux (by simp) λp hp=>by
  rcases TU.1 hp with hp|hp
  ·exact hl p hp
  ·rw[TX.1 hp];exact Si
 have h3:=h2 ha
 rw[h,h2 hb]at h3
 exact(List.append_cancel_right h3).symm
def hdB(l:List UInt8):UInt8:=l.headD 0
theorem Q4{P:List UInt8->Bool}:∀{a b c d:List (List UInt8)},(∀x∈a,P x=true)->(∀x∈c,P x=true)->(∀x,b.head?=some x->P x=false)->(∀x,d.head?=some x->P x=false)->a++b=c++d->a=c/\b=d
 |[],b,[],d,_,_,_,_,h=>⟨rfl,h⟩
 |[],b,x::c,d,_,hc,hb,_,h=>by
  have h1:b=x::(c++d):=h
  have:=hb x (by rw[h1];rfl)
  rw[hc x (by simp)]at this;cases this
 |x::a,b,[],d,ha,_,_,hd,h=>by
  have h1:x::(a++b)=d:=h
  have:=hd x (by rw[<-h1];rfl)
  rw[ha x (by simp)]at this;cases this
 |x::a,b,y::c,d,ha,hc,hb,hd,h=>by
  have h1:x::(a++b)=y::(c++d):=h
  obtain⟨rfl,h2⟩:=List.cons.inj h1
  obtain⟨h3,h4⟩:=Q4 (λz hz=>ha z (TD _ hz)) (λz hz=>hc z (TD _ hz)) hb hd h2
  exact⟨by rw[h3],h4⟩
theorem Yhc{w:List UInt8}{l m:List Int}(hw:(32:UInt8)∉w)(hl:∀n∈l,0<=n/\n<10000)(hm:∀n∈m,0<=n/\n<10000)(h:YA w l=YA w m):l=m:=by
 have hc:∀{l:List Int},(∀n∈l,0<=n/\n<10000)->cutC 32 (YA w l)=w::l.map Lib.itoa:=λhl=>by
  rw[Yem]
  refine Ux (by simp) λp hp=>?_
  rcases TV.1 hp with rfl|hp
  ·exact hw
  ·obtain⟨n,hn,rfl⟩:=TC.1 hp
   rw[UD (hl n hn).1]
   exactλh=>(Ycj _ h).1 rfl
 have h1:=hc hl
 rw[h,hc hm]at h1
 have h2:m.length=l.length:=by simpa using TG List.length h1
 have h3:=UL hw hl
 rw[h,<-h2,UL hw hm]at h3
 exact(Tv h3).symm
theorem YlP:∀{a b:List Rqs},(∀x∈a,RqD x)->(∀x∈b,RqD x)->a.flatMap rqL=b.flatMap rqL->a=b
 |[],[],_,_,_=>rfl
 |[],y::b,_,_,h=>by simp[rqL]at h
 |x::a,[],_,_,h=>by simp[rqL]at h
 |x::a,y::b,ha,hb,h=>by
  have hx:=ha x (by simp)
  have hy:=hb y (by simp)
  rw[TN,TN]at h
  have h0:YA wordF (V4 x.1)::(x.2.map (YA wordR)++a.flatMap rqL)=YA wordF (V4 y.1)::(y.2.map (YA wordR)++b.flatMap rqL):=h
  obtain⟨h1,h2⟩:=List.cons.inj h0
  have hf:=Yhc (by decide) hx.f hy.f h1
  have hr:∀(q:List Rqs) (z:List UInt8),(q.flatMap rqL).head?=some z->(λl=>decide (hdB l=114)) z=false:=λq z hz=>by
   cases q with
   |nil=>cases hz
   |cons u q=>
    rw[TN]at hz
    obtain rfl:YA wordF (V4 u.1)=z:=Tv hz
    rfl
  have hp:∀(l:List (List Int)) (z:List UInt8),z∈l.map (YA wordR)->(λl=>decide (hdB l=114)) z=true:=λl z hz=>by
   obtain⟨r,-,rfl⟩:=TC.1 hz
   rfl
  obtain⟨h3,h4⟩:=Q4 (hp x.2) (hp y.2) (hr a) (hr b) h2
  have h5:x.2=y.2:=by
   have key:∀{l m:List (List Int)},(∀r∈l,∀n∈r,0<=n/\n<10000)->(∀r∈m,∀n∈r,0<=n/\n<10000)->l.map (YA wordR)=m.map (YA wordR)->l=m:=λ{l}=>by
    induction l with
    |nil=>intro m _ _ h;exact(List.map_eq_nil_iff.1 h.symm).symm
    |cons r l ih=>
     intro m hl hm h
     cases m with
     |nil=>cases h
     |cons s m=>
      obtain⟨e1,e2⟩:=List.cons.inj h
      rw[Yhc (by decide) (hl r (by simp)) (hm s (by simp)) e1,ih (λz hz=>hl z (TD _ hz)) (λz hz=>hm z (TD _ hz)) e2]
   exact key hx.r hy.r h3
  have h6:x.1=y.1:=by
   obtain⟨⟨a1,a2,a3,a4,a5,a6⟩,_⟩:=x
   obtain⟨⟨b1,b2,b3,b4,b5,b6⟩,_⟩:=y
   simpa [V4]using hf
  rw[show x=y from Prod.ext h6 h5,YlP (λz hz=>ha z (TD _ hz)) (λz hz=>hb z (TD _ hz)) h4]
theorem Ykf{s:Sch}(h:Y1 s=true):∀p∈J6 s,(10:UInt8)∉p:=λp hp=>by
 obtain⟨h1,h2⟩:=Vj (Xw.1 h)
 unfold J6 at hp
 rcases TV.1 hp with rfl|hp
 ·exact Zc (by decide) λn hn=>(h1 n hn).1
 ·obtain⟨c,hc,rfl⟩:=TC.1 hp
  exact Zc (by decide) λn hn=>(h2 c hc n hn).1
theorem YpW{q:Pln}(hp:chkP p=0)(hq:chkP q=0)(hpc:Jf p.c=true)(hqc:Jf q.c=true)(h:(Xg p).1=(Xg q).1):p.q=q.q/\p.s=q.s/\p.c=q.c:=by
 have ps:=Og (JQ hp)
 have qs:=Og (JQ hq)
 have pd:=(Ov (Us (JQ hp))).2
 have qd:=(Ov (Us (JQ hq))).2
 have hpr:∀{p:Pln},chkP p=0->Y1 p.s=true->Jf p.c=true->(Xg p).1=(plnL p).flatMap λp=>p++[10]:=λh1 h2 h3=>by
  unfold Xg
  rw[Tf (λe=>e h1)]
  exact YpX h2 h3
 rw[hpr hp ps hpc,hpr hq qs hqc]at h
 have hfree:∀{p:Pln},(∀x∈p.q,RqD x)->Y1 p.s=true->Jf p.c=true->∀l∈plnL p,(10:UInt8)∉l:=λh1 h2 h3 l hl=>by
  unfold plnL at hl
  rcases TU.1 hl with hl|hl
  ·obtain⟨x,hx,hl⟩:=RP.1 hl
   exact YrT (h1 x hx) l hl
  rcases TU.1 hl with hl|hl
  ·exact Ykf h2 l hl
  ·obtain⟨c,hc,hl⟩:=RP.1 hl
   exact Yfb ((QE h3).2 c hc) l hl
 have hL:=Yni (hfree pd ps hpc) (hfree qd qs hqc) h
 unfold plnL at hL
 have hrq:∀(q:List Rqs) (z:List UInt8),z∈q.flatMap rqL->(λl=>decide (hdB l≠115)) z=true:=λq z hz=>by
  obtain⟨x,-,hz⟩:=RP.1 hz
  unfold rqL at hz
  rcases TV.1 hz with rfl|hz
  ·rfl
  ·obtain⟨r,-,rfl⟩:=TC.1 hz;rfl
 have hsc:∀(s:Sch) (c:List (List UInt8)) (z:List UInt8),(J6 s++c).head?=some z->(λl=>decide (hdB l≠115)) z=false:=λs c z hz=>by
  obtain rfl:YA wordS [s.len,s.off]=z:=Tv hz
  rfl
 obtain⟨h1,h2⟩:=Q4 (hrq p.q) (hrq q.q) (hsc p.s _) (hsc q.s _) hL
 have h3:YA wordS [p.s.len,p.s.off]::((p.s.cells.map λc=>YA wordC (nums c))++p.c.flatMap Ue)=YA wordS [q.s.len,q.s.off]::((q.s.cells.map λc=>YA wordC (nums c))++q.c.flatMap Ue):=h2
 obtain⟨h4,h5⟩:=List.cons.inj h3
 have hce:∀(l:List Cel) (z:List UInt8),z∈l.map (λc=>YA wordC (nums c))->(λl=>decide (hdB l=99)) z=true:=λl z hz=>by
  obtain⟨r,-,rfl⟩:=TC.1 hz
  rfl
 have hcl:∀(c:List Clm) (z:List UInt8),(c.flatMap Ue).head?=some z->(λl=>decide (hdB l=99)) z=false:=λc z hz=>by
  cases c with
  |nil=>cases hz
  |cons u c=>
   rw[TN]at hz
   obtain rfl:YA wordF [u.flow]=z:=Tv hz
   rfl
 obtain⟨h6,h7⟩:=Q4 (hce p.s.cells) (hce q.s.cells) (hcl p.c) (hcl q.c) h5
 refine⟨YlP pd qd h1,?_,?_⟩
 ·have e:Wz p.s=Wz q.s:=by
   rw[OB,OB]
   unfold J6
   rw[h4,h6]
  have h8:=Ybc ps
  rw[e,Ybc qs]at h8
  exact(TG Prod.fst h8).symm
 ·have e:Wy p.c=Wy q.c:=by unfold Wy;rw[h7]
  have h8:=QU hpc
  rw[e,QU hqc]at h8
  exact(TG Prod.fst h8).symm
end Go.Proofs.YtjlgijpmnfabcaaGreatDoor
