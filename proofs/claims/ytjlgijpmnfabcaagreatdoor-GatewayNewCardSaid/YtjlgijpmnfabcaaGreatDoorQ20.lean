/- Lemmas. -/
import Derived.Test.YtjlgijpmnfabcaaGreatDoorQ17
import Derived.Test.YtjlgijpmnfabcaaGreatDoorQ18
set_option maxRecDepth 100000
set_option maxHeartbeats 8000000
set_option linter.all false
namespace Go.Proofs.YtjlgijpmnfabcaaGreatDoor
open Go.RowKit Go.Eng Go.Nw Go.Rt
variable {B cap:Nat}{w0 w:World}{H:List HP}
theorem Yij(n:NetM)(hin:n.In B w0 H)(h1:n.rows.length<=1000)(h2:∀r∈n.rows,r.xs.length<=1000)(h3:n.links.length<=1000)(h4:n.margin.length<=1000)(hw:St B w0 H w):
 CX B w0 222 [n.val] w λv K=>∃pA pcap,∃rs:List RowM,∃lA lcap mA mcap,rs.map (·.xs)=n.rows.map (·.xs)/\v=.agg #[.int .i64 n.nodes,.slice pA rs.length pcap,.int .i64 n.noise,.int .i64 n.thr,.slice lA n.links.length lcap,.slice mA n.margin.length mcap]/\K=ints mA mcap n.margin::sl 145 3 lA n.links.length lcap (n.links.flatMap lkF)::sl 24 1 pA rs.length pcap (rs.flatMap rowF)::many (rs.map rowQ)::H:=by
 refine Yc Tryz.func222 Tryz.ntmps222 rfl rfl hw ?_
 have hpw:=hin.pw
 have hlp:=hin.lk
 have hmp:=hin.mg
 (apply Y0;apply YL;apply Yy;exact rfl;exact rfl;intro g)
 repeat'(first|(apply Yr T;exact rfl;exact rfl;intro g2)|refine zgd ?_|(refine zgh ?_;intro _)|fail)
 rename_i g1 g3
 refine YgE (λ(rs:List RowM) (A:Option Addr) (cap:Nat)=>[(4,.int .i64 rs.length),(3,.pointer (some ⟨g3,0,none⟩)),(2,.pointer (some ⟨g1,0,none⟩)),(1,.pointer (some ⟨g,0,none⟩))])
  (λrs A cap=>many (rs.map rowQ)::sl 24 1 A rs.length cap (rs.flatMap rowF)::blk g3 (.cells #[.int .i64 n.nodes,.slice A rs.length cap,.int .i64 n.noise,.int .i64 n.thr,.slice n.lA n.links.length n.lcap,.slice n.mA n.margin.length n.mcap] 26 (0,0))::blk g1 (.cells #[.int .i64 0,.slice none 0 0,.int .i64 0,.int .i64 0,.slice none 0 0,.slice none 0 0] 26 (0,0))::netB g n::H)
  (λrs _ _=>rs.length<=n.rows.length/\rs.map (·.xs)=(n.rows.take rs.length).map (·.xs)) (λrs _ _=>n.rows.length-rs.length) [] (some ⟨g2,0,none⟩) 0 ⟨Tc _,rfl⟩ ?_ (λw hw=>hw.perm (.noMany _)) ?_
 ·exact zu
 rintro rs A cap ⟨hk,hrs⟩ K hK
 by_cases hlt:rs.length<n.rows.length
 rotate_left
 ·have hrl:rs.length=n.rows.length:=by omega
  rw[hrl,TC]at hrs
  repeat'(first|(apply Yr T;exact rfl;exact rfl;intro g5)|refine zgc ?_|(refine zge ?_ ?_<;>intro _<;>try exact zo)|fail)
  apply YU T (f:=lkF) (l2:=n.links) (e:=145) (size:=3) (xs:=[]);(iterate 3 exact rfl);exact zr;exact(λ_=>rfl);exact(λ_=>rfl);exact rfl;(intro _ _;exact zd);omega;intro lA lcap
  repeat'(first|(apply Yr T;exact rfl;exact rfl;intro g6)|refine zgd ?_|fail)
  apply YU T (f:=numF) (l2:=n.margin) (e:=3) (size:=1) (xs:=[]);(iterate 3 exact rfl);exact zr;exact(λ_=>rfl);exact(λ_=>rfl);exact rfl;(intro _ _;exact zd);omega;intro mA mcap
  repeat'(first|refine zgd ?_|fail)
  rw[Ry,Ry,TG,TG]
  apply Qh T (H2:=ints mA mcap n.margin::sl 145 3 lA n.links.length lcap (n.links.flatMap lkF)::sl 24 1 A rs.length cap (rs.flatMap rowF)::many (rs.map rowQ)::H)
  ·exact rfl
  ·exact rfl
  ·exact zm
  ·exact rfl
  ·exact rfl
  ·intro w hw
   have h5:St B w0 (ints mA mcap n.margin::sl 145 3 lA n.links.length lcap (n.links.flatMap lkF)::sl 24 1 A rs.length cap (rs.flatMap rowF)::many (rs.map rowQ)::H) w:=by
    revert w
    exact zk
   exact h5
  ·exact⟨_,_,rs,lA,lcap,mA,mcap,hrs,rfl,rfl⟩
 obtain⟨r,hr⟩:∃r,n.rows[rs.length]? =some r:=⟨_,Ta hlt⟩
 have hrm:=Td hr
 have hxl:=h2 r hrm
 refine YW (many (rs.map rowQ)::sl 24 1 A rs.length cap (rs.flatMap rowF)::blk g3 (.cells #[.int .i64 n.nodes,.slice A rs.length cap,.int .i64 n.noise,.int .i64 n.thr,.slice n.lA n.links.length n.lcap,.slice n.mA n.margin.length n.mcap] 26 (0,0))::blk g1 (.cells #[.int .i64 0,.slice none 0 0,.int .i64 0,.int .i64 0,.slice none 0 0,.slice none 0 0] 26 (0,0))::netB g n::[many H]) (λw hw=>hw.perm (.cons _ (.cons _ (.cons _ (.cons _ (.cons _ (.closeT _))))))) ?_
 have hpw':Rd B w0 [many H] n.pA (n.rows.flatMap rowF):=hpw.mono λw hw=>hw.perm (.openT _)
 have hrw':Rd B w0 [many H] r.A (r.xs.flatMap numF):=(hin.rw_ r hrm).mono λw hw=>hw.perm (.openT _)
 repeat'(first|refine zgb ?_|(refine zge ?_ ?_<;>intro _<;>try exact zo)|fail)
 apply Qe [0,1,3,4,5,6,7,2,8,9] [10,11,12] [false,false,true,false,true,true]
 kernel_rfl
 kernel_rfl
 exact zy
 (simp only[Yh,nthO];rfl)
 (simp only[Yh,nthO];rfl)
 repeat'(first|(apply Yr T;exact rfl;exact rfl;intro g5)|(apply Yj;try exact zl)|refine zgd ?_|fail)
 apply YU T (f:=numF) (l2:=r.xs) (e:=3) (size:=1) (xs:=[]);(iterate 3 exact rfl);exact((hin.rw_ r hrm).mono λw hw=>hw.inM zm);exact(λ_=>rfl);exact(λ_=>rfl);exact rfl;(intro _ _;exact zd);omega;intro xA xcap
 rw[Ry r.xs.length,TG (r.xs.flatMap numF)]
 repeat'(first|(apply Yj;try exact zl)|refine zgd ?_|(refine zgh ?_;intro _)|(refine zgi ?_;intro _ _)|fail)
 have e1:∀(A:Option Addr) (cap:Nat),sl 24 1 A (rs.length+1) cap (rs.flatMap rowF++#[Value.slice xA r.xs.length xcap].toList)=sl 24 1 A (rs++[RowM.mk xA xcap r.xs]).length cap ((rs++[RowM.mk xA xcap r.xs]).flatMap rowF):=λA cap=>by simp[rowF,List.flatMap_append]
 rw[e1]
 rename_i A' cap'
 apply hK (rs++[RowM.mk xA xcap r.xs]) A' cap'
 ·rw[Tq,TL]
  refine⟨by omega,?_⟩
  rw[TB,hr]
  simp only[TX,hrs]
  rfl
 ·rw[Tq,TL];omega
 ·rw[Tq,TL];exact zu
 ·intro w hw
  have h5:St B w0 (ints xA xcap r.xs::many (rs.map rowQ)::sl 24 1 A' (rs++[RowM.mk xA xcap r.xs]).length cap' ((rs++[RowM.mk xA xcap r.xs]).flatMap rowF)::blk g3 (.cells #[.int .i64 n.nodes,.slice A' (rs.length+1) cap',.int .i64 n.noise,.int .i64 n.thr,.slice n.lA n.links.length n.lcap,.slice n.mA n.margin.length n.mcap] 26 (0,0))::blk g1 (.cells #[.int .i64 0,.slice none 0 0,.int .i64 0,.int .i64 0,.slice none 0 0,.slice none 0 0] 26 (0,0))::netB g n::[many H]) w:=by
   revert w
   exact zk
  have h6:=h5.perm (.cons _ (.cons _ (.cons _ (.cons _ (.cons _ (.cons _ (.openT _)))))))
  rw[TX]
  refine h6.perm (.trans (by rw[<-Rw (rs.map rowQ)];exact Perm.push _ _ [] _) ?_)
  rw[List.map_singleton,Tq,TL]
  exact .refl _
theorem YmQ{n:NetM}(hok:Ok n.net):n.rows.length<=1000/\(∀r∈n.rows,r.xs.length<=1000)/\n.links.length<=1000/\n.margin.length<=1000:=by
 have h0:=hok.n1
 have h1:=hok.p0
 have h2:=hok.k0
 have h3:=hok.k1
 have e1:n.net.power.length=n.rows.length:=by simp[NetM.net]
 have e2:n.net.links=n.links:=rfl
 have e3:n.net.margin=n.margin:=rfl
 rw[e2]at h2 h3;rw[e3]at h3
 refine⟨by omega,λr hr=>?_,by omega,by omega⟩
 have:=hok.p1 r.xs (Rx hr)
 omega
variable {A:Option Addr}
theorem Ygm(n:NetM)(q:List RqM)(s:SchM)(hin:n.In B w0 H)(hq:QIn B w0 H A q)(hrs:Rd B w0 H s.A (s.cells.flatMap celF))(hsl:s.cells.length<=1000000000000)(hw:St B w0 H w):
 CX B w0 219 [n.val,.slice A q.length cap,s.val] w λv K=>v=.bool (decide ((YK n.net (q.map RqM.rq) s.sch).2.2=0))/\K=H:=by
 refine Yc Tryz.func219 Tryz.ntmps219 rfl rfl hw ?_
 have hop:∀w,St B w0 [many H] w->St B w0 H w:=λw hw=>hw.perm (.openT H)
 have hinM:∀{H':List HP},many H∈H'->n.In B w0 H':=λhm=>hin.mono λw hw=>hw.inM hm
 have hqM:∀{H':List HP},many H∈H'->QIn B w0 H' A q:=λhm=>hq.mono λw hw=>hw.inM hm
 have hrM:∀{H':List HP},many H∈H'->Rd B w0 H' s.A (s.cells.flatMap celF):=λhm=>hrs.mono λw hw=>hw.inM hm
 have p1:=λ{H':List HP}{w:World}(hin:n.In B w0 H') (hq:QIn B w0 H' A q) (hrs:Rd B w0 H' s.A (s.cells.flatMap celF)) (hw:St B w0 H' w)=>O9 n q s (cap:=cap) hin hq hrs hsl hw
 obtain⟨⟨RC,ri,re⟩,hR⟩:∃R,YK n.net (q.map RqM.rq) s.sch=R:=⟨_,rfl⟩
 rw[hR]at p1⊢
 unfold OutC NetM.val SchM.val at p1
 unfold NetM.val SchM.val
 dsimp only at p1⊢
 refine YW [many H] (λw hw=>hw.perm (.closeT H)) ?_
 repeat'(first|(apply Ye T;exact rfl;exact zm;exact rfl;exact zv;exact rfl;exact rfl)|refine zga ?_|(refine zgh ?_;intro _)|fail)
 apply Yi _ Yoh
 exact za
 exact rfl
 exactλ_ hw=>(p1 (hinM zm) (hqM zm) (hrM zm) (hw))
 rintro _ _ ⟨A2,c2,C,rfl,hC,hCl,rfl⟩
 by_cases he:re=0
 ·rw[Ti he]
  subst he
  repeat'(first|(apply Ye T;exact rfl;exact zm;exact rfl;exact zv;exact rfl;exact rfl)|refine zgc ?_|(refine zge ?_ ?_<;>intro _<;>try exact zo)|fail)
  apply Yg H
  ·intro w hw
   have h5:St B w0 [many H] w:=by
    revert w
    exact zk
   exact hop w h5
  apply Yd;exact rfl;exact rfl;exact⟨rfl,rfl⟩
 ·rw[Tj he]
  repeat'(first|(apply Ye T;exact rfl;exact zm;exact rfl;exact zv;exact rfl;exact rfl)|refine zgc ?_|(refine zge ?_ ?_<;>intro _<;>try exact zo)|fail)
  apply Yg H
  ·intro w hw
   have h5:St B w0 [many H] w:=by
    revert w
    exact zk
   exact hop w h5
  apply Yd;exact rfl;exact rfl;exact⟨rfl,rfl⟩
theorem Yc7(n:NetM)(q:List RqM)(s:SchM)(hc:(YK n.net (q.map RqM.rq) s.sch).2.2=0)(hin:n.In B w0 H)(hq:QIn B w0 H A q)(hrs:Rd B w0 H s.A (s.cells.flatMap celF))(hsl:s.cells.length<=1000000000000)(hw:St B w0 H w):
 CX B w0 126 [n.val,.slice A q.length cap,s.val] w λv K=>∃(p:PnM) (X:List HP),v=p.val/\p.pln=⟨n.net,q.map RqM.rq,s.sch,(YK n.net (q.map RqM.rq) s.sch).1,(Xg s.sch).1⟩/\(∀H',QIn B w0 H' A q->Rd B w0 H' s.A (s.cells.flatMap celF)->p.In B w0 (many X::H'))/\K=many X::H:=by
 refine Yc Tryz.func126 Tryz.ntmps126 rfl rfl hw ?_
 have hinM:∀{H':List HP},many H∈H'->n.In B w0 H':=λhm=>hin.mono λw hw=>hw.inM hm
 have hqM:∀{H':List HP},many H∈H'->QIn B w0 H' A q:=λhm=>hq.mono λw hw=>hw.inM hm
 have hrM:∀{H':List HP},many H∈H'->Rd B w0 H' s.A (s.cells.flatMap celF):=λhm=>hrs.mono λw hw=>hw.inM hm
 have hrq:(rqsE n.net (q.map RqM.rq)).2=0:=TK.1 λh1=>by
  unfold YK at hc;rw[Tm h1]at hc;exact h1 hc
 obtain⟨hck,-,-⟩:=U6 hrq
 obtain⟨s1,s2,s3,s4⟩:=YmQ (YN hck)
 have p1:=λ{H':List HP}{w:World}(hin:n.In B w0 H') (hq:QIn B w0 H' A q) (hrs:Rd B w0 H' s.A (s.cells.flatMap celF)) (hw:St B w0 H' w)=>O9 n q s (cap:=cap) hin hq hrs hsl hw
 have p2:=λ{H':List HP}{w:World}(hrs:Rd B w0 H' s.A (s.cells.flatMap celF)) (hw:St B w0 H' w)=>QQ s hrs hsl hw
 have p3:=λ{H':List HP}{w:World}(hin:n.In B w0 H') (hw:St B w0 H' w)=>Yij n hin s1 s2 s3 s4 hw
 have hqn:=hq.ln
 have hfm:=Yeq hc
 have hcl:(YK n.net (q.map RqM.rq) s.sch).1.length=q.length:=by rw[YfO hc];simp
 have hfl:(Xg s.sch).1.length<=1000000000000:=by
  unfold Xg
  rw[hfm,Tf (by decide)]
  show(XY s.sch).length<=_
  unfold XY
  rw[Zp,TN]
  have h4:=TR (Za.1 hfm).sized
  omega
 obtain⟨⟨RC,ri,re⟩,hR⟩:∃R,YK n.net (q.map RqM.rq) s.sch=R:=⟨_,rfl⟩
 obtain⟨⟨RF,fe⟩,hRF⟩:∃R,Xg s.sch=R:=⟨_,rfl⟩
 rw[hR]at p1 hc hcl⊢
 rw[hRF]at p2 hfl⊢
 unfold OutC NetM.val SchM.val at p1
 unfold SchM.val at p2
 unfold NetM.val at p3
 unfold NetM.val SchM.val
 dsimp only at p1 p2 hc hcl hfl⊢
 refine YW [many H] (λw hw=>hw.perm (.closeT H)) ?_
 repeat'(first|(apply Ye T;exact rfl;exact zm;exact rfl;exact zv;exact rfl;exact rfl)|refine zga ?_|(refine zgh ?_;intro _)|fail)
 apply Yi _ Yoh
 exact za
 exact rfl
 exactλ_ hw=>(p1 (hinM zm) (hqM zm) (hrM zm) (hw))
 rintro _ _ ⟨A2,c2,C,rfl,hC,hCl,rfl⟩
 repeat'(first|(apply Ye T;exact rfl;exact zm;exact rfl;exact zv;exact rfl;exact rfl)|refine zgc ?_|fail)
 apply Yi _ YrH
 exact za
 exact rfl
 exactλ_ hw=>(p2 (hrM zm) (hw))
 rintro _ _ ⟨A3,c3,rfl,rfl⟩
 repeat'(first|(apply Ye T;exact rfl;exact zm;exact rfl;exact zv;exact rfl;exact rfl)|refine zgc ?_|fail)
 apply YG [0,2,3,4,5,1,6] [7] [true,true,true,true,true,true,true]
 kernel_rfl
 kernel_rfl
 exact zy
 (simp only[Yh,nthO];rfl)
 (simp only[Yh,nthO];rfl)
 repeat'(first|(apply Ye T;exact rfl;exact zm;exact rfl;exact zv;exact rfl;exact rfl)|refine zgd ?_|fail)
 apply Yi _ Yu1
 exact za
 exact rfl
 exactλ_ hw=>(p3 (hinM zm) (hw))
 rintro _ _ ⟨pA,pcap,rs,lA,lcap,mA,mcap,hrw,rfl,rfl⟩
 repeat'(first|(apply Ye T;exact rfl;exact zm;exact rfl;exact zv;exact rfl;exact rfl)|(apply Yj;try exact zl)|refine zgd ?_|fail)
 apply Qh T (H2:=many [ints mA mcap n.margin,sl 145 3 lA n.links.length lcap (n.links.flatMap lkF),sl 24 1 pA rs.length pcap (rs.flatMap rowF),many (rs.map rowQ),nrs A3 c3 RF,clsP A2 c2 C,many (C.map clQ)]::H);exact rfl;exact rfl;exact zm;exact rfl;exact rfl
 ·intro w hw
  have h5:St B w0 (ints mA mcap n.margin::sl 145 3 lA n.links.length lcap (n.links.flatMap lkF)::sl 24 1 pA rs.length pcap (rs.flatMap rowF)::many (rs.map rowQ)::nrs A3 c3 RF::clsP A2 c2 C::many (C.map clQ)::[many H]) w:=by
   revert w
   exact zk
  exact(h5.perm (.close [_,_,_,_,_,_,_] _)).perm (.cons _ (.openT H))
 have hrl:rs.length=n.rows.length:=by simpa using TD List.length hrw
 have hCn:C.length=RC.length:=by rw[<-hC,Tu]
 refine⟨⟨⟨n.nodes,pA,pcap,rs,n.noise,n.thr,lA,lcap,n.links,mA,mcap,n.margin⟩,A,cap,q,s,A2,c2,C,A3,c3,RF⟩,_,rfl,?_,λH' hq' hrs'=>?_,rfl⟩
 ·show Pln.mk ⟨n.nodes,rs.map (·.xs),n.noise,n.thr,n.links,n.margin⟩ (q.map RqM.rq) s.sch (C.map ClM.clm) RF=Pln.mk n.net (q.map RqM.rq) s.sch RC RF
  rw[hrw,hC];rfl
 ·have hb:∀{L:List HP}(w:World),St B w0 (many L::H') w->St B w0 L w:=λw hw=>hw.inM (.head _)
  refine⟨⟨Rd.mono (.sl (.tail _ (.tail _ (.head _)))) hb,λr hr=>Rd.mono (Rd.many (L:=rs.map rowQ) (.tail _ (.tail _ (.tail _ (.head _)))) (Rx hr)) hb,Rd.mono (.sl (.tail _ (.head _))) hb,Rd.mono (.sl (.head _)) hb,by show rs.length<=_;omega,λr hr=>?_,by show n.links.length<=_;omega,by show n.margin.length<=_;omega⟩,
   hq'.cons,hrs'.cons,hsl,
   ⟨Rd.mono (.sl (.tail _ (.tail _ (.tail _ (.tail _ (.tail _ (.head _))))))) hb,λx hx=>ClM.In.mono (YcX (C:=C) (.tail _ (.tail _ (.tail _ (.tail _ (.tail _ (.tail _ (.head _))))))) hx (hCl x hx)) hb,by show C.length<=_;omega⟩,
   Rd.mono (.sl (.tail _ (.tail _ (.tail _ (.tail _ (.head _)))))) hb,hfl⟩
  have h1:r.xs∈n.rows.map (·.xs):=by rw[<-hrw];exact TI.2 ⟨r,hr,rfl⟩
  obtain⟨r2,h2,h3⟩:=TI.1 h1
  have h4:=s2 r2 h2
  have h3:r2.xs=r.xs:=h3
  rw[h3]at h4
  omega
variable {B:Nat}{w0 w:World}{H:List HP}
theorem Ygg(nodes a:Int)(hw:St B w0 H w):
 CX B w0 232 [.int .i64 nodes,.int .i64 a] w λu K=>u=.bool (insE a nodes)/\K=H:=by
 refine Yc Tryz.func232 Tryz.ntmps232 rfl rfl hw ?_
 repeat'(first|refine zgc ?_|(refine zgf ?_ ?_<;>intro _<;>try exact zo)|fail)
 all_goals(
  apply Yd;exact rfl;exact rfl
  first
   |exact⟨by rw[show insE a nodes=true from Ti (by omega)],rfl⟩
   |exact⟨by rw[show insE a nodes=false from Tj (by omega)],rfl⟩)
theorem Ua(nodes:Int)(f:Lop)(hw:St B w0 H w):
 CX B w0 136 [.int .i64 nodes,lopV f] w λv K=>v=.int .i64 (lopE nodes f)/\K=H:=by
 refine Yc Tryz.func136 Tryz.ntmps136 rfl rfl hw ?_
 obtain⟨e,he⟩:∃e,lopE nodes f=e:=⟨_,rfl⟩
 rw[he]
 unfold lopV
 repeat'(first|((first|apply Yx Ysa|apply Yw Ysa);exact za;exact rfl;exactλ_ hw=>(Ygg nodes _ hw);all_goals(intro hB;(try simp only[To,Tv]at hB);try exact zo))|refine zgd ?_|(refine zgf ?_ ?_<;>intro _<;>try exact zo)|(refine zgh ?_;intro _)|fail)
 all_goals(
  apply Yg H
  ·exact zk
  apply Yd;exact rfl;exact rfl
  refine⟨?_,rfl⟩
  rw[<-he]
  unfold lopE
  first
   |(rw[Tm (by first|exact .inl (by omega)|exact .inr (.inl (by omega))|exact .inr (.inr (.inl (by assumption)))|exact .inr (.inr (.inr (.inl (by assumption))))|exact .inr (.inr (.inr (.inr (by assumption)))))];done)
   |(rw[Tf (by rintro(h|h|h|h|h)<;>first|omega|simp_all)]
     first
      |(rw[Tm (by omega)];done)
      |(rw[Tf (by omega),Tm (by omega)];done)
      |(rw[Tf (by omega),Tf (by omega)];done)))
theorem Yat(nodes:Int)(l:List Lop)(hl:l.length<=9223372036854775807){A:Option Addr}{cap:Nat}(hr:Rd B w0 H A (l.flatMap lopF))(hw:St B w0 H w):
 CX B w0 61 [.int .i64 nodes,.slice A l.length cap] w λv K=>v=.tuple #[.int .i64 (XD nodes l).1,.int .i64 (XD nodes l).2]/\K=H:=by
 refine Yc Tryz.func61 Tryz.ntmps61 rfl rfl hw ?_
 by_cases hn:nodes<2\/32<nodes
 ·have hE:XD nodes l=(-1,2):=by unfold XD;exact Tm hn
  rw[hE]
  repeat'(first|refine zgc ?_|(refine zgf ?_ ?_<;>intro _<;>try exact zo)|fail)
  all_goals(apply Yo;(iterate 3 exact rfl);exact⟨rfl,rfl⟩)
 by_cases h16:8<l.length
 ·have hE:XD nodes l=(-1,8):=by unfold XD;exact(Tf hn).trans (Tm h16)
  rw[hE]
  repeat'(first|refine zgc ?_|(refine zgf ?_ ?_<;>intro _<;>try exact zo)|fail)
  apply Yo;(iterate 3 exact rfl);exact⟨rfl,rfl⟩
 have hE:XD nodes l=YC (Y9 nodes l) l.length 0:=by unfold XD;exact(Tf hn).trans (Tf h16)
 rw[hE]
 repeat'(first|refine zgc ?_|(refine zgf ?_ ?_<;>intro _<;>try exact zo)|fail)
 refine Yf (λ(i:Nat)=>[(6,.int .i64 i),(0,.int .i64 nodes),(1,.slice A l.length cap)]) (λ_=>H) (λi=>i<=l.length/\∀k,k<i->Y9 nodes l k=0) (λi=>l.length-i) 0 ⟨Tc _,λk hk=>absurd hk (Rj _)⟩ ?_ (λw hw=>hw) ?_
 ·exact zu
 rintro i ⟨hi,hall⟩ K hK
 by_cases hlt:i<l.length
 ·have hget:l[i]? =some (Zc l i):=UW hlt
  have hbad:Y9 nodes l i≠0->YC (Y9 nodes l) l.length 0=((i:Int),Y9 nodes l i):=λh=>Xa (λk _ hk=>hall k hk) (Tc _) (by omega) h
  have hstep:Y9 nodes l i=0->∀k,k<i+1->Y9 nodes l k=0:=λh k hk=>by
   by_cases e:k=i
   ·rw[e];exact h
   ·exact hall k (by omega)
  by_cases he:lopE nodes (Zc l i)≠0
  ·have hf:Y9 nodes l i=lopE nodes (Zc l i):=by unfold Y9;exact Tm he
   rw[hbad (by rw[hf];exact he),hf]
   repeat'(first|((first|apply Ya VO|apply Yb VO);exact za;exact rfl;exactλ_ hw=>(Ua nodes (Zc l i) hw))|refine zgd ?_|(refine zge ?_ ?_<;>intro _<;>try exact zo)|fail)
   apply Yg H
   ·exact zk
   apply Yo;(iterate 3 exact rfl);exact⟨rfl,rfl⟩
  have he0:=TK.1 he
  have hck:=λ{H':List HP}{w:World}(hw:St B w0 H' w)=>Ua nodes (Zc l i) hw
  rw[he0]at hck
  rcases RE i with h0|h0
  ·subst h0
   have hf:Y9 nodes l 0=0:=by unfold Y9;rw[Tf he,Tf (by omega)]
   repeat'(first|((first|apply Ya VO|apply Yb VO);exact za;exact rfl;exactλ_ hw=>(hck hw))|refine zgd ?_|(refine zgf ?_ ?_<;>intro _<;>try exact zo)|fail)
   apply hK (0+1)
   ·exact⟨by omega,hstep hf⟩
   ·omega
   ·exact zu
   ·exact zk
  have hget2:l[((i:Int)-1).toNat]? =some (Zc l (i-1)):=by
   rw[show((i:Int)-1).toNat=i-1 by omega]
   exact UW (by omega)
  by_cases hle:(Zc l i).1<=(Zc l (i-1)).1
  ·have hf:Y9 nodes l i=5:=by unfold Y9;rw[Tf he,Tm ⟨h0,hle⟩]
   rw[hbad (by rw[hf];decide),hf]
   repeat'(first|((first|apply Ya VO|apply Yb VO);exact za;exact rfl;exactλ_ hw=>(hck hw))|refine zgd ?_|(refine zgf ?_ ?_<;>intro _<;>try exact zo)|fail)
   apply Yg H
   ·exact zk
   apply Yo;(iterate 3 exact rfl);exact⟨rfl,rfl⟩
  ·have hf:Y9 nodes l i=0:=by unfold Y9;rw[Tf he,Tf (λh=>hle h.2)]
   repeat'(first|((first|apply Ya VO|apply Yb VO);exact za;exact rfl;exactλ_ hw=>(hck hw))|refine zgd ?_|(refine zgf ?_ ?_<;>intro _<;>try exact zo)|fail)
   apply hK (i+1)
   ·exact⟨by omega,hstep hf⟩
   ·omega
   ·exact zu
   ·exact zk
 ·repeat'(first|refine zgc ?_|(refine zge ?_ ?_<;>intro _<;>try exact zo)|fail)
  rw[show i=l.length by omega]at hall
  rw[Xj λk _ hk=>hall k (by omega)]
  apply Yo;(iterate 3 exact rfl);exact⟨rfl,rfl⟩
theorem OO(l:Lop)(s:Spl)(h1:1<=l.2.2.2.2.1/\l.2.2.2.2.1<=512)(h2:(1<=s.1/\s.1<=512)/\(1<=s.2/\s.2<=512))(hw:St B w0 H w):
 CX B w0 138 [lopV l,splV s] w λv K=>v=.int .i64 (Ydt l s)/\K=H:=by
 refine Yc Tryz.func138 Tryz.ntmps138 rfl rfl hw ?_
 unfold lopV splV
 repeat'(first|refine zgd ?_|(refine zgh ?_;intro _)|fail)
 apply Yg H
 ·exact zk
 apply Yd;exact rfl;exact rfl;exact⟨rfl,rfl⟩
theorem Ygf(l:Lop)(s:Spl)(h1:1<=l.2.2.2.2.1/\l.2.2.2.2.1<=512)(hw:St B w0 H w):
 CX B w0 233 [lopV l,splV s] w λv K=>v=.bool (fitS l s)/\K=H:=by
 refine Yc Tryz.func233 Tryz.ntmps233 rfl rfl hw ?_
 obtain⟨b,hb⟩:∃b,fitS l s=b:=⟨_,rfl⟩
 rw[hb]
 unfold fitS at hb
 have p1:=λ(h2:(1<=s.1/\s.1<=512)/\(1<=s.2/\s.2<=512)) {H':List HP}{w:World}(hw:St B w0 H' w)=>OO l s h1 h2 hw
 unfold lopV splV at p1⊢
 repeat'(first|((first|apply Ya YkO|apply Yb YkO);exact za;exact rfl;exactλ_ hw=>(p1 (by omega) hw))|(apply zg28;refine zs84 ?_)|refine zgd ?_|(refine zgf ?_ ?_<;>intro _<;>try exact zo)|(refine zgh ?_;intro _)|fail)
 all_goals(
  apply Yg H
  ·exact zk
  apply Yd;exact rfl;exact rfl
  refine⟨?_,rfl⟩
  rw[<-hb]
  first
   |(rw[Ti (by omega)];done)
   |(rw[Tj (by omega)];done))
theorem ON(l:Lop)(s:Spl)(hw:St B w0 H w):
 CX B w0 137 [lopV l,splV s] w λv K=>v=.int .i64 (Xf l s)/\K=H:=by
 refine Yc Tryz.func137 Tryz.ntmps137 rfl rfl hw ?_
 have p1:=λ{H':List HP}{w:World}(hw:St B w0 H' w)=>Ua 32 l hw
 unfold Xf
 by_cases h:lopE 32 l=0
 rotate_left
 ·rw[Tm h]
  unfold lopV at p1⊢
  unfold splV
  repeat'(first|((first|apply Ya VO|apply Yb VO);exact za;exact rfl;exactλ_ hw=>(p1 hw))|refine zgb ?_|(refine zge ?_ ?_<;>intro _<;>try exact zo)|(refine zgh ?_;intro _)|fail)
  apply Yg H
  ·exact zk
  apply Yd;exact rfl;exact rfl;exact⟨rfl,rfl⟩
 have p2:=λ{H':List HP}{w:World}(hw:St B w0 H' w)=>Ygf l s (ZY h).2.1 hw
 rw[Tf (λe=>e h)]
 rw[h]at p1
 unfold lopV at p1
 unfold lopV splV at p2
 unfold lopV splV
 cases hb:fitS l s with
 |false=>
  rw[hb]at p2
  rw[Tm rfl]
  repeat'(first|((first|apply Ya VO|apply Yb VO);exact za;exact rfl;exactλ_ hw=>(p1 hw))|((first|apply Ya Yk1|apply Yb Yk1);exact za;exact rfl;exactλ_ hw=>(p2 hw))|refine zgd ?_|(refine zge ?_ ?_<;>intro _<;>try exact zo)|(refine zgh ?_;intro _)|fail)
  apply Yg H
  ·exact zk
  apply Yd;exact rfl;exact rfl;exact⟨rfl,rfl⟩
 |true=>
  rw[hb]at p2
  rw[Tf (by decide)]
  repeat'(first|((first|apply Ya VO|apply Yb VO);exact za;exact rfl;exactλ_ hw=>(p1 hw))|((first|apply Ya Yk1|apply Yb Yk1);exact za;exact rfl;exactλ_ hw=>(p2 hw))|refine zgd ?_|(refine zge ?_ ?_<;>intro _<;>try exact zo)|(refine zgh ?_;intro _)|fail)
  apply Yg H
  ·exact zk
  apply Yd;exact rfl;exact rfl;exact⟨rfl,rfl⟩
theorem YdR(l:Lop)(s:Spl)(hw:St B w0 H w):
 CX B w0 62 [lopV l,splV s] w λv K=>(∃z,v=.tuple #[.int .i64 z,.int .i64 (Xf l s)])/\K=H:=by
 refine Yc Tryz.func62 Tryz.ntmps62 rfl rfl hw ?_
 have p1:=λ{H':List HP}{w:World}(hw:St B w0 H' w)=>ON l s hw
 by_cases h:Xf l s=0
 ·obtain⟨h1,h2,h3,-⟩:=U4 h
  have p2:=λ{H':List HP}{w:World}(hw:St B w0 H' w)=>OO l s (ZY h1).2.1 ⟨h2,h3⟩ hw
  rw[h]at p1⊢
  unfold lopV splV at p1 p2⊢
  repeat'(first|((first|apply Ya Yev|apply Yb Yev);exact za;exact rfl;exactλ_ hw=>(p1 hw))|((first|apply Ya YkO|apply Yb YkO);exact za;exact rfl;exactλ_ hw=>(p2 hw))|refine zgb ?_|(refine zge ?_ ?_<;>intro _<;>try exact zo)|(refine zgh ?_;intro _)|fail)
  apply Yg H
  ·exact zk
  apply Yo;(iterate 3 exact rfl);exact⟨⟨_,rfl⟩,rfl⟩
 ·unfold lopV splV at p1⊢
  repeat'(first|((first|apply Ya Yev|apply Yb Yev);exact za;exact rfl;exactλ_ hw=>(p1 hw))|refine zgb ?_|(refine zge ?_ ?_<;>intro _<;>try exact zo)|(refine zgh ?_;intro _)|fail)
  apply Yg H
  ·exact zk
  apply Yo;(iterate 3 exact rfl);exact⟨⟨_,rfl⟩,rfl⟩
theorem YdS(l:Lop)(s:Spl)(h:Xf l s=0)(hw:St B w0 H w):
 CX B w0 234 [lopV l,splV s] w λv K=>∃A,v=.slice A 2 2/\K=flws A 2 [ZW l s,ZO l s]::H:=by
 refine Yc Tryz.func234 Tryz.ntmps234 rfl rfl hw ?_
 obtain⟨h1,h2,h3,-⟩:=U4 h
 obtain⟨h4,h5,h6,h7⟩:=ZY h1
 have e2:ZO l s=(2*l.1+1,l.2.2.1,l.2.2.2.1,l.2.2.2.2.1,(l.2.2.2.2.2.1+s.1)%l.2.2.2.2.1,s.2):=by
  unfold ZO
  rw[Rb (by omega)]
 rw[e2,show ZW l s=(2*l.1,l.2.1,l.2.2.1,l.2.2.2.2.1,l.2.2.2.2.2.1,s.1) from rfl]
 unfold lopV splV
 refine YW [many H] (λw hw=>hw.perm (.closeT H)) ?_
 repeat'(first|refine zga ?_|(refine zgh ?_;intro _)|fail)
 apply YG [0,1,2,3,4,5,6,7,8,9,10,11,12,13,14,15,16,17,18,19,20,21,22,23,24,25,26,27,28,29,30,31,32,33,34,35,36] [] [true,true,true]
 kernel_rfl
 kernel_rfl
 exact zy
 (simp only[Yh,nthO];rfl)
 exact rfl
 repeat'(first|(apply Yj;try exact zl)|refine zgd ?_|(refine zgh ?_;intro _)|fail)
 rename_i g
 apply Yg (flws (some ⟨g,0,none⟩) 2 [(2*l.1,l.2.1,l.2.2.1,l.2.2.2.2.1,l.2.2.2.2.2.1,s.1),(2*l.1+1,l.2.2.1,l.2.2.2.1,l.2.2.2.2.1,(l.2.2.2.2.2.1+s.1)%l.2.2.2.2.1,s.2)]::H)
 ·intro w hw
  have h5:St B w0 (blk g (.cells #[.int .i64 (2*l.1),.int .i64 l.2.1,.int .i64 l.2.2.1,.int .i64 l.2.2.2.2.1,.int .i64 l.2.2.2.2.2.1,.int .i64 s.1,.int .i64 (2*l.1+1),.int .i64 l.2.2.1,.int .i64 l.2.2.2.1,.int .i64 l.2.2.2.2.1,.int .i64 ((l.2.2.2.2.2.1+s.1)%l.2.2.2.2.1),.int .i64 s.2] 66 (0,0))::[many H]) w:=by
   revert w
   exact zk
  exact(h5.perm (.cons _ (.openT H))).blk_sl (cs:=[(2*l.1,l.2.1,l.2.2.1,l.2.2.2.2.1,l.2.2.2.2.2.1,s.1),(2*l.1+1,l.2.2.1,l.2.2.2.1,l.2.2.2.2.1,(l.2.2.2.2.2.1+s.1)%l.2.2.2.2.1,s.2)].flatMap flwF) (len:=2) (size:=6) rfl (by omega)
 apply Yd;exact rfl;exact rfl;exact⟨_,rfl,rfl⟩
theorem YdQ(l:Lop)(s:Spl)(h:Xf l s=0)(hw:St B w0 H w):
 CX B w0 139 [lopV l,splV s] w λv K=>∃A,v=.tuple #[.slice A 2 2,.int .i64 0]/\K=flws A 2 [ZW l s,ZO l s]::H:=by
 refine Yc Tryz.func139 Tryz.ntmps139 rfl rfl hw ?_
 have p1:=λ{H':List HP}{w:World}(hw:St B w0 H' w)=>ON l s hw
 have p2:=λ{H':List HP}{w:World}(hw:St B w0 H' w)=>YdS l s h hw
 rw[h]at p1
 unfold lopV splV at p1 p2⊢
 repeat'(first|((first|apply Ya Yev|apply Yb Yev);exact za;exact rfl;exactλ_ hw=>(p1 hw))|refine zgb ?_|(refine zge ?_ ?_<;>intro _<;>try exact zo)|(refine zgh ?_;intro _)|fail)
 apply Yi _ Yu5
 exact za
 exact rfl
 exactλ_ hw=>(p2 (hw))
 rintro _ _ ⟨A,rfl,rfl⟩
 repeat'(first|refine zga ?_|fail)
 apply Yg (flws A 2 [ZW l s,ZO l s]::H)
 ·exact zk
 apply Yo;(iterate 3 exact rfl);exact⟨A,rfl,rfl⟩
theorem O4{f:Nat->Int}:∀{r i:Nat},(YC f r i).2≠0->0<=(YC f r i).1
 |0,_,h=>absurd rfl h
 |r+1,i,h=>by
  unfold YC at h⊢
  split
  ·rename_i h0
   rw[Tm h0]at h
   exact O4 h
  ·exact Int.natCast_nonneg _
variable {n:Net}
theorem Yjk{s t:Int}{r:List Int}:Xu n s t r≠15:=by
 unfold Xu Zm Jj
 repeat' split
 all_goals(first|decide|(rename_i h;exactλe=>by first|omega|simp_all))
theorem Yrk{x:Rqs}:rtsE n x≠15:=by
 unfold rtsE
 split
 ·decide
 split
 ·decide
 split
 ·rename_i h
  obtain⟨k,-,-,e,-⟩:=Vx h
  rw[e];exact Yjk
 split
 ·decide
 ·decide
theorem YoB{nodes:Int}{l:List Flw}{i:Nat}:YT nodes l i≠15:=by
 unfold YT Xl
 repeat' split
 all_goals(first|decide|(rename_i h;exactλe=>by first|omega|simp_all))
theorem Yrj{q:List Rqs}(hck:Ym n=0)(h:(rqsE n q).2≠0):(rqsE n q).2≠15/\((rqsE n q).2=1->0<=(rqsE n q).1):=by
 unfold rqsE at h⊢
 rw[Tf (λe=>e hck)]at h⊢
 split
 ·rename_i h1
  unfold YA at h1⊢
  split
  ·exact⟨by decide,λe=>by cases e⟩
  split
  ·exact⟨by decide,λe=>by cases e⟩
  ·rename_i h2 h3
   rw[Tf h2,Tf h3]at h1
   obtain⟨k,-,-,e,-⟩:=Vx h1
   exact⟨by rw[e];exact YoB,λ_=>O4 h1⟩
 ·rename_i h1
  rw[Tf h1]at h
  obtain⟨k,-,-,e,-⟩:=Vx h
  exact⟨by rw[e];exact Yrk,λ_=>O4 h⟩
theorem YqB(p:Pln):chkP p=if(rqsE p.n p.q).2≠0 then 1 else if(YK p.n p.q p.s).2.2≠0 then 18 else if(YK p.n p.q p.s).1≠p.c then 20 else if(Xg p.s).2≠0\/(Xg p.s).1≠p.f then 11 else 0:=by
 unfold chkP
 by_cases hck:Ym p.n=0
 rotate_left
 ·rw[Tm hck,Tm]
  unfold rqsE
  rw[Tm hck];decide
 rw[Tf (show¬Ym p.n≠0 fromλe=>e hck)]
 by_cases hrq:(rqsE p.n p.q).2=0
 rotate_left
 ·obtain⟨h1,h2⟩:=Yrj hck hrq
  have hc:(YK p.n p.q p.s).2=rqsE p.n p.q:=by unfold YK;rw[Tm hrq]
  rw[hc,Tm hrq,Tf,Tm hrq]
  rintro(h|⟨h,h'⟩)
  ·exact h1 h
  ·have:=h2 h;omega
 have hq0:¬(rqsE p.n p.q).2≠0:=λe=>e hrq
 rw[Tf hq0]
 by_cases hce:(YK p.n p.q p.s).2.2=0
 rotate_left
 ·have hor:(YK p.n p.q p.s).2.2=15\/(YK p.n p.q p.s).2.2=1/\(YK p.n p.q p.s).2.1<0:=by
   unfold YK at hce⊢
   rw[Tf hq0]at hce⊢
   split
   ·exact .inr ⟨rfl,by decide⟩
   rename_i h1
   rw[Tf h1]at hce
   split
   ·rename_i h2
    obtain⟨k,-,-,e,h3⟩:=Vx h2
    left
    rw[e]
    split
    ·rfl
    ·rename_i h4;rw[Tf h4]at h3;exact absurd rfl h3
   ·rename_i h2
    rw[Tf h2]at hce
    exact absurd rfl hce
  rw[Tm hor,Tm hce]
 have hc0:¬(YK p.n p.q p.s).2.2≠0:=λe=>e hce
 rw[Tf (show¬((YK p.n p.q p.s).2.2=15\/(YK p.n p.q p.s).2.2=1/\(YK p.n p.q p.s).2.1<0) by omega),Tf hc0,Tf hc0]
 have hk:(chkE p.n p.q p.s p.c).2=0↔(YK p.n p.q p.s).1=p.c:=by
  constructor
  ·intro h
   unfold chkE at h
   rw[Tf hc0]at h
   split at h
   ·cases h
   rename_i hl
   have hl:=TK.1 hl
   rw[YF]at h
   refine List.ext_getElem hl.symm λi h1 h2=>?_
   have h3:=h i (Tc _) (by omega)
   split at h3
   ·rename_i h4
    unfold OA at h4
    rw[TA,TA,Ta h1,Ta h2]at h4
    exact h4.symm
   ·cases h3
  ·intro h
   rw[<-h,Yn4 hce]
 by_cases h:(YK p.n p.q p.s).1=p.c
 ·rw[Tf (show¬(chkE p.n p.q p.s p.c).2≠0 fromλe=>e (hk.2 h)),Tf (show¬(YK p.n p.q p.s).1≠p.c fromλe=>e h)]
 ·rw[Tm (show(chkE p.n p.q p.s p.c).2≠0 fromλe=>h (hk.1 e)),Tm h]
theorem YdT(p:PnM){B:Nat}{w0:World}{H:List HP}{w:World}(hp:p.In B w0 H)(hw:St B w0 H w):
 CX B w0 60 [p.val] w λv K=>v=.int .i64 (chkP p.pln)/\K=H:=by
 refine Yc Tryz.func60 Tryz.ntmps60 rfl rfl hw ?_
 have hop:∀w,St B w0 [many H] w->St B w0 H w:=λw hw=>hw.perm (.openT H)
 have hpM:∀{H':List HP},many H∈H'->p.In B w0 H':=λhm=>hp.mono λw hw=>hw.inM hm
 rw[YqB]
 rw[show p.pln.n=p.n.net from rfl,show p.pln.q=p.q.map RqM.rq from rfl,show p.pln.s=p.s.sch from rfl,show p.pln.c=p.c.map ClM.clm from rfl,show p.pln.f=p.f from rfl]
 have p1:=λ{H':List HP}{w:World}(hp:p.In B w0 H') (hw:St B w0 H' w)=>Ub p.n p.q (cap:=p.qcap) hp.n hp.q hw
 have p2:=λ{H':List HP}{w:World}(hp:p.In B w0 H') (hw:St B w0 H' w)=>O9 p.n p.q p.s (cap:=p.qcap) hp.n hp.q hp.s hp.sl hw
 have p4:=λ{H':List HP}{w:World}(hp:p.In B w0 H') (hw:St B w0 H' w)=>QQ p.s hp.s hp.sl hw
 obtain⟨⟨fi,fe⟩,hF⟩:∃R,rqsE p.n.net (p.q.map RqM.rq)=R:=⟨_,rfl⟩
 obtain⟨⟨RC,ri,re⟩,hR⟩:∃R,YK p.n.net (p.q.map RqM.rq) p.s.sch=R:=⟨_,rfl⟩
 obtain⟨⟨RF,ge⟩,hG⟩:∃R,Xg p.s.sch=R:=⟨_,rfl⟩
 rw[hF]at p1⊢
 rw[hR]at p2⊢
 rw[hG]at p4⊢
 have hRF:RF.length<=1000000000000:=by
  have h2:=TD (λz=>z.1.length) hG
  dsimp only at h2
  unfold Xg at h2
  split at h2
  ·simp only[Rr]at h2;omega
  ·rename_i h0
   unfold XY at h2
   rw[Zp,TN]at h2
   have h4:=TR (Za.1 (by simpa using h0)).sized
   omega
 have hRCl:re=0->RC.length<=1000000000000:=λe=>by
  have hq:=hp.q.ln
  have h1:=YfO (n:=p.n.net) (q:=p.q.map RqM.rq) (s:=p.s.sch) (by rw[hR];exact e)
  rw[hR]at h1
  have h2:=TD (λz=>z.1.length) h1
  dsimp only at h2
  rw[Tu,Tu]at h2
  omega
 have hge:re=0->ge=0:=λe=>by
  have h1:=Yeq (n:=p.n.net) (q:=p.q.map RqM.rq) (s:=p.s.sch) (by rw[hR];exact e)
  have h2:=TD (λz=>z.2) hG
  dsimp only at h2
  unfold Xg at h2
  rw[Tf (by rw[h1];decide)]at h2
  exact h2.symm
 unfold OutC at p2
 dsimp only at p1 p2 p4⊢
 clear hF hR hG
 unfold PnM.val
 unfold NetM.val at p1
 unfold NetM.val SchM.val at p2
 unfold SchM.val at p4
 refine YW [many H] (λw hw=>hw.perm (.closeT H)) ?_
 by_cases h1:fe=0
 rotate_left
 ·rw[Tm h1]
  repeat'(first|(apply Ye T;exact rfl;exact zm;exact rfl;exact zv;exact rfl;exact rfl)|((first|apply Ya Wi|apply Yb Wi);exact za;exact rfl;exactλ_ hw=>(p1 (hpM zm) hw))|refine zgc ?_|(refine zge ?_ ?_<;>intro _<;>try exact zo)|(refine zgh ?_;intro _)|fail)
  apply Yg H
  ·intro w hw
   have h5:St B w0 [many H] w:=by
    revert w
    exact zk
   exact hop w h5
  apply Yd;exact rfl;exact rfl;exact⟨rfl,rfl⟩
 rw[Tf (λe=>e h1)]
 subst h1
 repeat'(first|(apply Ye T;exact rfl;exact zm;exact rfl;exact zv;exact rfl;exact rfl)|((first|apply Ya Wi|apply Yb Wi);exact za;exact rfl;exactλ_ hw=>(p1 (hpM zm) hw))|refine zgc ?_|(refine zge ?_ ?_<;>intro _<;>try exact zo)|(refine zgh ?_;intro _)|fail)
 apply Yi _ Yoh
 exact za
 exact rfl
 exactλ_ hw=>(p2 (hpM zm) (hw))
 rintro _ _ ⟨A2,c2,C,rfl,hC,hCl,rfl⟩
 by_cases h2:re=0
 rotate_left
 ·rw[Tm h2]
  repeat'(first|(apply Ye T;exact rfl;exact zm;exact rfl;exact zv;exact rfl;exact rfl)|refine zgc ?_|(refine zge ?_ ?_<;>intro _<;>try exact zo)|fail)
  apply Yg H
  ·intro w hw
   have h5:St B w0 [many H] w:=by
    revert w
    exact zk
   exact hop w h5
  apply Yd;exact rfl;exact rfl;exact⟨rfl,rfl⟩
 rw[Tf (λe=>e h2)]
 subst h2
 have hCn:C.length<=1000000000000:=by have h5:=TD List.length hC;have h6:=hRCl rfl;rw[Tu]at h5;omega
 have hci:∀{H':List HP},clsP A2 c2 C∈H'->many (C.map clQ)∈H'->CIn B w0 H' A2 C:=λh1 h2=>⟨.sl h1,λx hx=>YcX h2 hx (hCl x hx),hCn⟩
 obtain rfl:=hge rfl
 have p3:=λ{H':List HP}{w:World}(hc:CIn B w0 H' A2 C) (hp:p.In B w0 H') (hw:St B w0 H' w)=>W4 C p.c (cap:=c2) (cap2:=p.ccap) hc hp.c hw
 rw[hC]at p3
 by_cases h3:RC=p.c.map ClM.clm
 rotate_left
 ·rw[Tm h3]
  rw[Tj h3]at p3
  repeat'(first|(apply Ye T;exact rfl;exact zm;exact rfl;exact zv;exact rfl;exact rfl)|((first|apply Ya en16|apply Yb en16);exact za;exact rfl;exactλ_ hw=>(p3 (hci zm zm) (hpM zm) hw))|refine zgd ?_|(refine zge ?_ ?_<;>intro _<;>try exact zo)|fail)
  apply Yg H
  ·intro w hw
   have h5:St B w0 [many H] w:=by
    revert w
    exact zk
   exact hop w h5
  apply Yd;exact rfl;exact rfl;exact⟨rfl,rfl⟩
 rw[Tf (λe=>e h3)]
 rw[Ti h3]at p3
 repeat'(first|(apply Ye T;exact rfl;exact zm;exact rfl;exact zv;exact rfl;exact rfl)|((first|apply Ya en16|apply Yb en16);exact za;exact rfl;exactλ_ hw=>(p3 (hci zm zm) (hpM zm) hw))|refine zgd ?_|(refine zge ?_ ?_<;>intro _<;>try exact zo)|fail)
 apply Yi _ YrH
 exact za
 exact rfl
 exactλ_ hw=>(p4 (hpM zm) (hw))
 rintro _ _ ⟨A3,c3,rfl,rfl⟩
 have p5:=λ{H':List HP}{w:World}(h1:Rd B w0 H' A3 (RF.flatMap numF)) (hp:p.In B w0 H') (hw:St B w0 H' w)=>Yd5 RF p.f hRF (cap:=c3) (cap2:=p.fcap) h1 hp.f hw
 by_cases h4:RF=p.f
 ·rw[Ti h4]at p5
  rw[Tf (by rintro(e|e);exact e rfl;exact e h4)]
  repeat'(first|(apply Ye T;exact rfl;exact zm;exact rfl;exact zv;exact rfl;exact rfl)|((first|apply Ya Yeu|apply Yb Yeu);exact za;exact rfl;exactλ_ hw=>(p5 (Rd.sl zm) (hpM zm) hw))|refine zgd ?_|fail)
  apply Yg H
  ·intro w hw
   have h5:St B w0 [many H] w:=by
    revert w
    exact zk
   exact hop w h5
  apply Yd;exact rfl;exact rfl;exact⟨rfl,rfl⟩
 ·rw[Tj h4]at p5
  rw[Tm (.inr h4)]
  repeat'(first|(apply Ye T;exact rfl;exact zm;exact rfl;exact zv;exact rfl;exact rfl)|((first|apply Ya Yeu|apply Yb Yeu);exact za;exact rfl;exactλ_ hw=>(p5 (Rd.sl zm) (hpM zm) hw))|refine zgd ?_|fail)
  apply Yg H
  ·intro w hw
   have h5:St B w0 [many H] w:=by
    revert w
    exact zk
   exact hop w h5
  apply Yd;exact rfl;exact rfl;exact⟨rfl,rfl⟩
structure PnM.Bg(B:Nat)(w0:World)(H:List HP)(p:PnM):Prop where
 n:p.n.In B w0 H
 q:QBg B w0 H p.qA p.q
 s:Rd B w0 H p.s.A (p.s.cells.flatMap celF)
 sl:p.s.cells.length<=9223372036854775807
 c:CBg B w0 H p.cA p.c
 f:Rd B w0 H p.fA (p.f.flatMap numF)
 fl:p.f.length<=9223372036854775807
def FewP(p:PnM):Prop:=FewQ p.q p.s/\FewC p.c/\p.f.length<=600/\(p.s.len<=24\/512<p.s.len)
variable {B:Nat}{w0:World}{H H':List HP}
theorem PnM.Bg.small{p:PnM}(h:p.Bg B w0 H)(hf:FewP p):p.In B w0 H:=
 ⟨h.n,h.q.small hf.1,h.s,by have:=hf.1.2.1;omega,h.c.small hf.2.1,h.f,by have:=hf.2.2.1;omega⟩
theorem ClM.Bg.mono5{c:ClM}(h:c.Bg B w0 H)(hH:∀w,St B w0 H' w->St B w0 H w):c.Bg B w0 H':=⟨h.rt.mono hH,λr hr=>(h.rw_ r hr).mono hH,h.bd.mono hH,h.ws.mono hH,h.st.mono hH,λr hr=>(h.sw r hr).mono hH,h.ln,h.rl,h.sl⟩
theorem CBg.mono5{A:Option Addr}{c:List ClM}(h:CBg B w0 H A c)(hH:∀w,St B w0 H' w->St B w0 H w):CBg B w0 H' A c:=⟨h.rd.mono hH,λx hx=>(h.x x hx).mono5 hH,h.ln⟩
theorem Yjv(p:PnM){w:World}(hp:p.Bg B w0 H)(hw:St B w0 H w):
 CX B w0 7 [p.val] w λv K=>(∃b,v=.bool b/\(b=true->FewP p))/\K=H:=by
 refine Yc Tryz.func7 Tryz.ntmps7 rfl rfl hw ?_
 have p1:=λ{H':List HP}{w:World}(hin:p.n.In B w0 H') (hq:QBg B w0 H' p.qA p.q) (hw:St B w0 H' w)=>Yju p.n p.q p.s (cap:=p.qcap) hin hq hp.sl hw
 have p2:=λ{H':List HP}{w:World}(hc:CBg B w0 H' p.cA p.c) (hw:St B w0 H' w)=>Ycr p.c (cap:=p.ccap) hc hw
 have hfl:=hp.fl
 have hs1:=hp.n.s1
 unfold PnM.val
 unfold NetM.val SchM.val at p1
 (apply Y0;apply YL;apply Yy;exact rfl;exact rfl;intro g)
 repeat'(first|(apply Ye T;exact rfl;exact zm;exact rfl;exact zv;exact rfl;exact rfl)|refine zgc ?_|(refine zgf ?_ ?_<;>intro _<;>try exact zo)|fail)
 rotate_left
 ·apply Yk;exact zc13
 apply Yi _ en33
 exact za
 exact rfl
 exactλ_ hw=>(p1 (hp.n.mono zc0) (hp.q.mono zc0) (hw))
 rintro _ _ ⟨⟨b,rfl,hb⟩,hK⟩
 rw[hK]
 cases b with
 |false=>
  refine YpP ?_
  apply Yk;exact zc13
 |true=>
 refine YpP ?_
 apply Yi _ en34
 exact za
 exact rfl
 exactλ_ hw=>(p2 (hp.c.mono5 zc0) (hw))
 rintro _ _ ⟨⟨b2,rfl,hb2⟩,hK2⟩
 rw[hK2]
 cases b2 with
 |false=>
  refine YpP ?_
  apply Yk;exact zc78
 |true=>
 repeat'(first|(apply Ye T;exact rfl;exact zm;exact rfl;exact zv;exact rfl;exact rfl)|refine zgc ?_|(refine zgf ?_ ?_<;>intro _<;>try exact zo)|fail)
 all_goals(
  apply Yk
  apply Yd;exact rfl;exact rfl
  exact⟨⟨_,rfl,λh=>by first|(exact absurd h (by decide))|exact⟨hb rfl,hb2 rfl,by omega,by omega⟩⟩,rfl⟩)
open Go.ChangeShapes Go.WideShapes Go.ChangeAt Go.RowKit Go.Eng Go.Nw Go.Rt
def plnF(p:PnM):List Value:=[.int .i64 p.n.nodes,.slice p.n.pA p.n.rows.length p.n.pcap,.int .i64 p.n.noise,.int .i64 p.n.thr,.slice p.n.lA p.n.links.length p.n.lcap,.slice p.n.mA p.n.margin.length p.n.mcap,.slice p.qA p.q.length p.qcap,.int .i64 p.s.len,.int .i64 p.s.off,.slice p.s.A p.s.cells.length p.s.cap,.slice p.cA p.c.length p.ccap,.slice p.fA p.f.length p.fcap]
section
variable {H:Type}{enc:TypeId×Value->H}{W:World}{spare:Nat->Bool}{held:Bool}
structure PlnG(W:World)(p:PnM):Prop where
 n:NetG W p.n
 q:SlG W rqF (RqG W) ⟨p.qA,p.qcap,p.q⟩
 s:SchG W p.s
 c:SlG W clF (ClG W) ⟨p.cA,p.ccap,p.c⟩
 f:SlG W numF I64 ⟨p.fA,p.fcap,p.f⟩
theorem Yq8:Opn enc Tryz.prog W spare held 33 (λs:SlM Int=>[s.val]) (SlG W numF I64):=Zn (q:=1) Tryz.underlying33 (by kernel_rfl) (by decide) op_i
theorem Yrb:Opn enc Tryz.prog W spare held 35 plnF (PlnG W):=
 JL (Zd (ts:=[26,27,30,32,33]) (by kernel_rfl) (Yt Yo9 (Yt Yh9 (Yt Yue (Yt YmU (Yt Yq8 Jl))))))
  (λx=>⟨x.1,x.2.1.A,x.2.1.cap,x.2.1.xs,x.2.2.1,x.2.2.2.1.A,x.2.2.2.1.cap,x.2.2.2.1.xs,x.2.2.2.2.1.A,x.2.2.2.2.1.cap,x.2.2.2.2.1.xs⟩) (λx=>by simp[plnF,netF,schF,SlM.val])
  (λx h=>by
   obtain⟨h1,h2,h3,h4,h5,_⟩:=h
   exact⟨h1,h2,h3,h4,h5⟩)
theorem PlnG.bg{p:PnM}{K:List HP}(h:PlnG W p):p.Bg W.heap.size W K:=
 ⟨h.n.In,Yui h.q,h.s.old.rd,h.s.few,YqA h.c,h.f.old.rd,T0 h.f.len maxL⟩
end
end Go.Proofs.YtjlgijpmnfabcaaGreatDoor
