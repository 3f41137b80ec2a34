/- Lemmas. -/
import Derived.Test.YtambgjgljcadlaaGreatDoorQ13
import Derived.Test.YtambgjgljcadlaaGreatDoorQ14
set_option maxRecDepth 100000
set_option maxHeartbeats 8000000
set_option linter.all false
namespace Go.Proofs.YtambgjgljcadlaaGreatDoor
open Go.RowKit Go.Eng Go.Nw Go.Rt
variable {A A2:Option Addr}{cap cap2 B:Nat}{w0 w:World}{H:List HP}
theorem Oo(l m:List Int)(hlen:l.length<=9223372036854775807)(_hlen2:m.length<=9223372036854775807)(hr:Rd B w0 H A (l.flatMap numF))(hr2:Rd B w0 H A2 (m.flatMap numF))(hw:St B w0 H w):
 CX B w0 176 [.slice A l.length cap,.slice A2 m.length cap2] w λu K=>u=.bool (decide (l=m))/\K=H:=by
 refine Yc Tryz.func176 Tryz.ntmps176 rfl rfl hw ?_
 by_cases hll:l.length=m.length
 rotate_left
 ·exact zc11
 refine zX3 ?_<;>intros
 refine Yj (λ(k:Nat)=>[(13,.int .i64 k),(12,.int .i64 l.length),(0,.slice A l.length cap),(1,.slice A2 m.length cap2)]) (λ_=>H) (λk=>k<=l.length/\l.take k=m.take k) (λk=>l.length-k) 0 ⟨Tj _,by simp⟩ ?_ (λw hw=>hw) ?_
 ·exact zc1
 rintro k ⟨hk,hi⟩ K hK
 by_cases hlt:k<l.length
 ·obtain⟨a,ha⟩:∃a,l[k]? =some a:=⟨_,Ta hlt⟩
  obtain⟨b,hb⟩:∃b,m[k]? =some b:=⟨_,Ta (by omega)⟩
  repeat'(first|refine zgd ?_|(refine zge ?_ ?_<;>intro _<;>try exact zo)|fail)
  ·exact zc48
  ·rename_i h
   apply hK (k+1)
   ·exact Yrq
   ·omega
   ·exact zc1
   exact zc19
 exact zc8
theorem Yd4(a b:RowM)(hl:a.xs.length<=1000000000000/\b.xs.length<=1000000000000)(hr:Rd B w0 H a.A (a.xs.flatMap numF))(hr2:Rd B w0 H b.A (b.xs.flatMap numF))(hw:St B w0 H w):
 CX B w0 173 [.slice a.A a.xs.length a.cap,.slice b.A b.xs.length b.cap] w λu K=>u=.bool (decide (a.xs=b.xs))/\K=H:=by
 refine Yc Tryz.func173 Tryz.ntmps173 rfl rfl hw ?_
 repeat'(first|((first|apply Ya Yfa|apply Yb Yfa);exact za;exact rfl;exactλ_ hw=>(Ybr a.xs b.xs (by omega) (by omega) hr hr2 hw))|refine zga ?_|fail)
 exact zc13
theorem YaQ(l m:List RowM)(hlen:l.length<=1000000000000)(_hlen2:m.length<=1000000000000)(hl2:∀r∈l,r.xs.length<=1000000000000)(hm2:∀r∈m,r.xs.length<=1000000000000)(hr:Rd B w0 H A (l.flatMap rowF))(hr2:Rd B w0 H A2 (m.flatMap rowF))(hrl:∀r∈l,Rd B w0 H r.A (r.xs.flatMap numF))(hrm:∀r∈m,Rd B w0 H r.A (r.xs.flatMap numF))(hw:St B w0 H w):
 CX B w0 177 [.slice A l.length cap,.slice A2 m.length cap2,.func (.func 173) #[] #[]] w λu K=>u=.bool (decide (l.map (·.xs)=m.map (·.xs)))/\K=H:=by
 refine Yc Tryz.func177 Tryz.ntmps177 rfl rfl hw ?_
 by_cases hll:l.length=m.length
 rotate_left
 ·exact zc16
 refine zX3 ?_<;>intros
 refine Yj (λ(k:Nat)=>[(17,.int .i64 k),(16,.int .i64 l.length),(15,.slice A l.length cap),(0,.slice A l.length cap),(1,.slice A2 m.length cap2),(2,.func (.func 173) #[] #[])]) (λ_=>H) (λk=>k<=l.length/\(l.take k).map (·.xs)=(m.take k).map (·.xs)) (λk=>l.length-k) 0 ⟨Tj _,by simp⟩ ?_ (λw hw=>hw) ?_
 ·exact zc1
 rintro k ⟨hk,hi⟩ K hK
 by_cases hlt:k<l.length
 ·obtain⟨a,ha⟩:∃a,l[k]? =some a:=⟨_,Ta hlt⟩
  obtain⟨b,hb⟩:∃b,m[k]? =some b:=⟨_,Ta (by omega)⟩
  have ham:=Tf ha
  have hbm:=Tf hb
  have hss:=λ{w:World}(hw:St B w0 H w)=>Yd4 a b ⟨hl2 a ham,hm2 b hbm⟩ (hrl a ham) (hrm b hbm) hw
  by_cases hab:a.xs=b.xs
  ·rw[Ti hab]at hss
   refine zX94 ?_<;>intros
   apply hK (k+1)
   ·exact zc37
   ·omega
   ·exact zc1
   exact zc19
  ·rw[Tn hab]at hss
   refine zX94 ?_<;>intros
   exact zc21
 exact zc8
theorem YeO(a b:RowM)(hl:a.xs.length<=1000000000000/\b.xs.length<=1000000000000)(hr:Rd B w0 H a.A (a.xs.flatMap numF))(hr2:Rd B w0 H b.A (b.xs.flatMap numF))(hw:St B w0 H w):
 CX B w0 175 [.slice a.A a.xs.length a.cap,.slice b.A b.xs.length b.cap] w λu K=>u=.bool (decide (a.xs=b.xs))/\K=H:=by
 refine Yc Tryz.func175 Tryz.ntmps175 rfl rfl hw ?_
 repeat'(first|((first|apply Ya WR|apply Yb WR);exact za;exact rfl;exactλ_ hw=>(Oo a.xs b.xs (by omega) (by omega) hr hr2 hw))|refine zga ?_|fail)
 exact zc13
theorem Yb4(l m:List RowM)(hlen:l.length<=1000000000000)(_hlen2:m.length<=1000000000000)(hl2:∀r∈l,r.xs.length<=1000000000000)(hm2:∀r∈m,r.xs.length<=1000000000000)(hr:Rd B w0 H A (l.flatMap rowF))(hr2:Rd B w0 H A2 (m.flatMap rowF))(hrl:∀r∈l,Rd B w0 H r.A (r.xs.flatMap numF))(hrm:∀r∈m,Rd B w0 H r.A (r.xs.flatMap numF))(hw:St B w0 H w):
 CX B w0 178 [.slice A l.length cap,.slice A2 m.length cap2,.func (.func 175) #[] #[]] w λu K=>u=.bool (decide (l.map (·.xs)=m.map (·.xs)))/\K=H:=by
 refine Yc Tryz.func178 Tryz.ntmps178 rfl rfl hw ?_
 by_cases hll:l.length=m.length
 rotate_left
 ·exact zc16
 refine zX3 ?_<;>intros
 refine Yj (λ(k:Nat)=>[(17,.int .i64 k),(16,.int .i64 l.length),(15,.slice A l.length cap),(0,.slice A l.length cap),(1,.slice A2 m.length cap2),(2,.func (.func 175) #[] #[])]) (λ_=>H) (λk=>k<=l.length/\(l.take k).map (·.xs)=(m.take k).map (·.xs)) (λk=>l.length-k) 0 ⟨Tj _,by simp⟩ ?_ (λw hw=>hw) ?_
 ·exact zc1
 rintro k ⟨hk,hi⟩ K hK
 by_cases hlt:k<l.length
 ·obtain⟨a,ha⟩:∃a,l[k]? =some a:=⟨_,Ta hlt⟩
  obtain⟨b,hb⟩:∃b,m[k]? =some b:=⟨_,Ta (by omega)⟩
  have ham:=Tf ha
  have hbm:=Tf hb
  have hss:=λ{w:World}(hw:St B w0 H w)=>YeO a b ⟨hl2 a ham,hm2 b hbm⟩ (hrl a ham) (hrm b hbm) hw
  by_cases hab:a.xs=b.xs
  ·rw[Ti hab]at hss
   refine zX96 ?_<;>intros
   apply hK (k+1)
   ·exact zc37
   ·omega
   ·exact zc1
   exact zc19
  ·rw[Tn hab]at hss
   refine zX96 ?_<;>intros
   exact zc21
 exact zc8
theorem Ypo{c d:ClM}:c.clm=d.clm↔c.flow=d.flow/\c.rs.map (·.xs)=d.rs.map (·.xs)/\c.bs=d.bs/\c.ws=d.ws/\c.ss.map (·.xs)=d.ss.map (·.xs):=by
 unfold ClM.clm
 simp_all
theorem Yk4(c d:ClM)(hc:c.In B w0 H)(hd:d.In B w0 H)(hw:St B w0 H w):
 CX B w0 100 [clV c,clV d] w λu K=>u=.bool (decide (c.clm=d.clm))/\K=H:=by
 refine Yc Tryz.func100 Tryz.ntmps100 rfl rfl hw ?_
 have hcl:=hc.ln
 have hdl:=hd.ln
 have p1:=λ{H':List HP}{w:World}(hc:c.In B w0 H') (hd:d.In B w0 H') (hw:St B w0 H' w)=>YaQ c.rs d.rs (cap:=c.rcap) (cap2:=d.rcap) hcl.1 hdl.1 hc.rl hd.rl hc.rt hd.rt hc.rw_ hd.rw_ hw
 have p2:=λ{H':List HP}{w:World}(hc:c.In B w0 H') (hd:d.In B w0 H') (hw:St B w0 H' w)=>Oo c.bs d.bs (cap:=c.bcap) (cap2:=d.bcap) (by omega) (by omega) hc.bd hd.bd hw
 have p3:=λ{H':List HP}{w:World}(hc:c.In B w0 H') (hd:d.In B w0 H') (hw:St B w0 H' w)=>Oo c.ws d.ws (cap:=c.wcap) (cap2:=d.wcap) (by omega) (by omega) hc.ws hd.ws hw
 have p4:=λ{H':List HP}{w:World}(hc:c.In B w0 H') (hd:d.In B w0 H') (hw:St B w0 H' w)=>Yb4 c.ss d.ss (cap:=c.scap) (cap2:=d.scap) hcl.2.2.2 hdl.2.2.2 hc.sl hd.sl hc.st hd.st hc.sw hd.sw hw
 have hce:=@Ypo c d
 unfold clV
 by_cases h1:c.flow=d.flow
 rotate_left
 ·rw[Tn (λh=>h1 (hce.1 h).1)]
  refine zX97 ?_<;>intros
  apply Yi H
  ·exact zc0
  exact zc5
 by_cases h2:c.rs.map (·.xs)=d.rs.map (·.xs)
 rotate_left
 ·rw[Tn (λh=>h2 (hce.1 h).2.1)]
  rw[Tn h2]at p1
  refine zX97 ?_<;>intros
  first|apply Ya Ybq|apply Yb Ybq
  exact za
  exact rfl
  exactλ_ hw=>(p1 (hc.mono zc0) (hd.mono zc0) hw)
  refine zX9 ?_
  apply Yi H
  ·exact zc0
  exact zc5
 rw[Ti h2]at p1
 by_cases h3:c.bs=d.bs
 rotate_left
 ·rw[Tn (λh=>h3 (hce.1 h).2.2.1)]
  rw[Tn h3]at p2
  refine zX97 ?_<;>intros
  first|apply Ya Ybq|apply Yb Ybq
  exact za
  exact rfl
  exactλ_ hw=>(p1 (hc.mono zc0) (hd.mono zc0) hw)
  refine zX9 ?_
  first|apply Ya WR|apply Yb WR
  exact za
  exact rfl
  exactλ_ hw=>(p2 (hc.mono zc0) (hd.mono zc0) hw)
  refine zX9 ?_
  apply Yi H
  ·exact zc0
  exact zc5
 rw[Ti h3]at p2
 by_cases h4:c.ws=d.ws
 rotate_left
 ·rw[Tn (λh=>h4 (hce.1 h).2.2.2.1)]
  rw[Tn h4]at p3
  refine zX97 ?_<;>intros
  first|apply Ya Ybq|apply Yb Ybq
  exact za
  exact rfl
  exactλ_ hw=>(p1 (hc.mono zc0) (hd.mono zc0) hw)
  refine zX9 ?_
  first|apply Ya WR|apply Yb WR
  exact za
  exact rfl
  exactλ_ hw=>(p2 (hc.mono zc0) (hd.mono zc0) hw)
  refine zX9 ?_
  first|apply Ya WR|apply Yb WR
  exact za
  exact rfl
  exactλ_ hw=>(p3 (hc.mono zc0) (hd.mono zc0) hw)
  refine zX9 ?_
  apply Yi H
  ·exact zc0
  exact zc5
 rw[Ti h4]at p3
 have h5:decide (c.clm=d.clm)=decide (c.ss.map (·.xs)=d.ss.map (·.xs)):=decide_eq_decide.2 ⟨λh=>(hce.1 h).2.2.2.2,λh=>hce.2 ⟨h1,h2,h3,h4,h⟩⟩
 rw[h5]
 refine zX97 ?_<;>intros
 first|apply Ya Ybq|apply Yb Ybq
 exact za
 exact rfl
 exactλ_ hw=>(p1 (hc.mono zc0) (hd.mono zc0) hw)
 refine zX9 ?_
 first|apply Ya WR|apply Yb WR
 exact za
 exact rfl
 exactλ_ hw=>(p2 (hc.mono zc0) (hd.mono zc0) hw)
 refine zX9 ?_
 first|apply Ya WR|apply Yb WR
 exact za
 exact rfl
 exactλ_ hw=>(p3 (hc.mono zc0) (hd.mono zc0) hw)
 refine zX9 ?_
 first|apply Ya YtJ|apply Yb YtJ
 exact za
 exact rfl
 exactλ_ hw=>(p4 (hc.mono zc0) (hd.mono zc0) hw)
 refine zX9 ?_
 apply Yi H
 ·exact zc0
 exact zc5
theorem Ye5{c:List ClM}{i:Nat}{x:ClM}(h:c[i]? =some x):Q6 (c.map ClM.clm) i=x.clm:=by
 grind [Q6]
variable {B:Nat}{w0:World}{H:List HP}
theorem YkN{C:List ClM}{c:ClM}(hm:many (C.map clQ)∈H)(hc:c∈C)(hl:c.lens):c.In B w0 H:=by
 have hb:∀w,St B w0 H w->St B w0 (C.map clQ) w:=λw hw=>hw.inM hm
 refine ClM.In.mono (H:=C.map clQ) (Yvg (SC hc) ⟨⟨?_,?_,?_,?_⟩,?_,?_⟩) hb
 ·have:=hl.1.1;omega
 ·have:=hl.1.2.1;omega
 ·have:=hl.1.2.2.1;omega
 ·have:=hl.1.2.2.2;omega
 ·exactλr hr=>Rh (hl.2.1 r hr) (by decide)
 ·exactλr hr=>Rh (hl.2.2 r hr) (by decide)
theorem Ygn(n:NetM)(q:List RqM)(s:SchM)(c:List ClM){A A1:Option Addr}{cap cap1:Nat}{w:World}(ht:TabsB B w0)(hin:n.In B w0 H)(hq:QIn B w0 H A q)(hrs:Rd B w0 H s.A (s.cells.flatMap celF))(hsl:s.cells.length<=1000000000000)(hc:CIn B w0 H A1 c)(hw:St B w0 H w):
 CX B w0 39 [n.val,.slice A q.length cap,s.val,.slice A1 c.length cap1] w λv K=>v=.tuple #[.int .i64 (chkE n.net (q.map RqM.rq) s.sch (c.map ClM.clm)).1,.int .i64 (chkE n.net (q.map RqM.rq) s.sch (c.map ClM.clm)).2]/\K=H:=by
 refine Yc Tryz.func39 Tryz.ntmps39 rfl rfl hw ?_
 have hcl:=hc.ln
 have hcr:=hc.rd
 have p1:=λ{H':List HP}{w:World}(hin:n.In B w0 H') (hq:QIn B w0 H' A q) (hrs:Rd B w0 H' s.A (s.cells.flatMap celF)) (hw:St B w0 H' w)=>U9 n q s (cap:=cap) ht hin hq hrs hsl hw
 obtain⟨⟨RC,ri,re⟩,hR⟩:∃R,YM n.net (q.map RqM.rq) s.sch=R:=⟨_,rfl⟩
 unfold chkE
 rw[TC]
 rw[hR]at p1⊢
 unfold OutC at p1
 dsimp only at p1⊢
 unfold NetM.val SchM.val
 by_cases h0:re=0
 rotate_left
 ·rw[Tm h0]
  repeat'(first|refine zgb ?_|(refine zgh ?_;intro _)|fail)
  apply Yf _ en38
  exact za
  exact rfl
  exactλ_ hw=>(p1 (hin.mono zc0) (hq.mono zc0) (hrs.mono zc0) (hw))
  rintro _ _ ⟨A2,cap2,C,rfl,hC,hCl,rfl⟩
  repeat'(first|refine zgc ?_|(refine zge ?_ ?_<;>intro _<;>try exact zo)|fail)
  apply Yi H
  ·exact zc0
  exact zc10
 subst h0
 rw[Td (λe=>e rfl)]
 repeat'(first|refine zgb ?_|(refine zgh ?_;intro _)|fail)
 apply Yf _ en38
 exact za
 exact rfl
 exactλ_ hw=>(p1 (hin.mono zc0) (hq.mono zc0) (hrs.mono zc0) (hw))
 rintro _ _ ⟨A2,cap2,C,rfl,hC,hCl,rfl⟩
 subst hC
 rw[TC]
 by_cases h1:c.length=C.length
 rotate_left
 ·rw[Tm h1]
  repeat'(first|refine zgc ?_|(refine zge ?_ ?_<;>intro _<;>try exact zo)|fail)
  apply Yi H
  ·exact zc0
  exact zc10
 rw[Td (λe=>e h1)]
 obtain⟨F,hF⟩:∃F:Nat->Int,(λi=>if Q6 (c.map ClM.clm) i=Q6 (C.map ClM.clm) i then(0:Int)else 20)=F:=⟨_,rfl⟩
 rw[hF]
 have hFv:∀{k:Nat}{x y:ClM},c[k]? =some x->C[k]? =some y->F k=if x.clm=y.clm then 0 else 20:=λhx hy=>by rw[<-hF];show(if _=_ then _ else _)=_;rw[Ye5 hx,Ye5 hy]
 repeat'(first|refine zgc ?_|(refine zge ?_ ?_<;>intro _<;>try exact zo)|fail)
 refine Yj (λk:Nat=>[(33,.int .i64 (k:Nat)),(32,.int .i64 C.length),(10,.slice A2 C.length cap2),(3,.slice A1 c.length cap1)]) (λ_=>clsP A2 cap2 C::many (C.map clQ)::H) (λk=>k<=C.length/\∀j,0<=j->j<k->F j=0) (λk=>C.length-k) 0 ⟨Tj _,λj _ h=>absurd h (R9 _)⟩ ?_ ?_ ?_
 ·exact zc1
 ·exact zc0
 rintro k ⟨hk,hz⟩ K hK
 have hcr':Rd B w0 (clsP A2 cap2 C::many (C.map clQ)::H) A1 (c.flatMap clF):=hcr.cons.cons
 have hCr':Rd B w0 (clsP A2 cap2 C::many (C.map clQ)::H) A2 (C.flatMap clF):=.sl (.head _)
 by_cases hlt:k<C.length
 ·obtain⟨x,hx⟩:∃x,c[k]? =some x:=⟨_,Ta (by omega)⟩
  obtain⟨y,hy⟩:∃y,C[k]? =some y:=⟨_,Ta hlt⟩
  have hym:=Tf hy
  have hFk:=hFv hx hy
  have hxi:=hc.x x (Tf hx)
  have p2:=λ{H':List HP}{w:World}(hx:x.In B w0 H') (hy:y.In B w0 H') (hw:St B w0 H' w)=>Yk4 x y hx hy hw
  by_cases he:x.clm=y.clm
  ·rw[Tm he]at hFk
   rw[Ti he]at p2
   repeat'(first|refine zgb ?_|(refine zge ?_ ?_<;>intro _<;>try exact zo)|fail)
   apply X7 [0,1,2,3,4,5,6,7,8,9] []
   kernel_rfl
   kernel_rfl
   (simp only[Yg,nthO];rfl)
   exact rfl
   repeat'(first|refine zgd ?_|fail)
   first|apply Ya YlG|apply Yb YlG
   exact za
   exact rfl
   exactλ_ hw=>(p2 (hxi.mono zc0) (YkN (by(focus exact zc2)) hym (hCl y hym)) hw)
   repeat'(first|(apply Yk;(repeat(first|with_reducible exact Y7|(with_reducible apply YZ;(repeat(first|with_reducible exact Yw|with_reducible apply YJ))))))|refine zgd ?_|fail)
   ·show Perm H (H++[])
    exact zc27
   repeat'(first|fail)
   apply hK (k+1)
   ·exact⟨by omega,λj h1 h2=>by
     rcases S9.1 h2 with h|rfl
     ·exact hz j h1 h
     ·exact hFk⟩
   ·omega
   ·exact zc1
   ·exact zc0
  ·rw[Td he]at hFk
   rw[Tn he]at p2
   have hfe:=Zu (f:=F) (r:=c.length) (i0:=0) (i:=k) (λj h1 h2=>hz j h1 h2) (Tj _) (by omega) (by rw[hFk];decide)
   rw[hfe,hFk]
   clear hK
   repeat'(first|refine zgb ?_|(refine zge ?_ ?_<;>intro _<;>try exact zo)|fail)
   apply X7 [0,1,2,3,4,5,6,7,8,9] []
   kernel_rfl
   kernel_rfl
   (simp only[Yg,nthO];rfl)
   exact rfl
   repeat'(first|refine zgd ?_|fail)
   first|apply Ya YlG|apply Yb YlG
   exact za
   exact rfl
   exactλ_ hw=>(p2 (hxi.mono zc0) (YkN (by(focus exact zc2)) hym (hCl y hym)) hw)
   repeat'(first|(apply Yk;(repeat(first|with_reducible exact Y7|(with_reducible apply YZ;(repeat(first|with_reducible exact Yw|with_reducible apply YJ))))))|refine zgd ?_|fail)
   ·show Perm H (H++[])
    exact zc27
   repeat'(first|fail)
   apply Yi H
   ·exact zc0
   exact zc10
 ·obtain rfl:k=C.length:=by omega
  have hfe:=Zv (f:=F) (r:=c.length) (i0:=0) λj h1 h2=>hz j h1 (by omega)
  rw[hfe]
  clear hK
  repeat'(first|refine zgc ?_|(refine zge ?_ ?_<;>intro _<;>try exact zo)|fail)
  apply Yi H
  ·exact zc0
  exact zc10
variable {B:Nat}{w0 w:World}{H:List HP}
theorem ClM.In.here{c:ClM}(h:c.In B w0 H)(hw:St B w0 H w):c.In w.heap.size w []:=
 ⟨h.rt.here hw,λr hr=>(h.rw_ r hr).here hw,h.bd.here hw,h.ws.here hw,h.st.here hw,λr hr=>(h.sw r hr).here hw,h.ln,h.rl,h.sl⟩
theorem CIn.here{c:List ClM}{A:Option Addr}(h:CIn B w0 H A c)(hw:St B w0 H w):CIn w.heap.size w [] A c:=⟨h.rd.here hw,λx hx=>(h.x x hx).here hw,h.ln⟩
end Go.Proofs.YtambgjgljcadlaaGreatDoor
namespace Go.Eng
open Go.RowKit
section
variable {P:Program}{B:Nat}{w0:World}{Q:Exit->Act->World->Prop}{env:Env}{H:List HP}{m:Mode}{n:Shp}{ops:Array Oper}{rest:List Oper}{d:Nat}{ty:TypeId}{pos:String}{after:Array Edge}
theorem Yu4{tx:Array TypeId}{x y:Operand}{a b:Int}{k k':IntKind}(hx:evo env x=some (.int k a))(hy:evo env y=some (.int k' b))(hn:Nat.ble (d+1) n.k=true)(h:VL P m n B w0 ops Q rest ((d,.int k (if b<a then b else a))::env) H):
 VL P m n B w0 ops Q (⟨some d,.call ⟨.builtin .min,#[x,y],tx⟩,ty,pos,after,none⟩::rest) env H:=
 YF rfl rfl hn rfl (λf w ha _=>by simp[execOp,resolve,invoke,builtin,ha.eval hx,ha.eval hy,run_min_int2]) h
end
end Go.Eng
namespace Go.Proofs.YtambgjgljcadlaaGreatDoor
open Go.RowKit Go.Eng Go.Nw Go.Rt
def U7(id:Int)(x:Clm):Bool:=decide (x.flow=id)&&decide (0<x.bounds.length)
variable {B cap:Nat}{w0 w:World}{H:List HP}
theorem Ygm(x:ClM)(id:Int)(g:Nat)(hl:x.bs.length<=1000000000000)(hm:blk g (.cells #[.int .i64 id] 3 (0,0))∈H)(hw:St B w0 H w):
 CX B w0 137 [clV x,.pointer (some ⟨g,0,none⟩)] w λv K=>v=.bool (U7 id x.clm)/\K=H:=by
 refine Yc Tryz.func137 Tryz.ntmps137 rfl rfl hw ?_
 have e1:U7 id x.clm=(decide (x.flow=id)&&decide (0<x.bs.length)):=rfl
 unfold clV
 by_cases h1:x.flow=id
 ·by_cases h2:0<x.bs.length
  ·rw[e1,Ti h1,Ti h2]
   repeat'(first|apply(zs1 ?_)|apply(zs2 ?_)|(apply zg1;refine zs4 ?_)|(apply zg2;refine zs6 ?_)|(apply zg3;refine zs7 ?_)|(apply zg4;refine zs9 ?_)|(apply zg6;refine zs11 ?_)|(apply zg7;(refine zs15 ?_ ?_<;>intro _<;>try exact zo))|(apply(zs19 ?_ ?_)<;>intro _<;>try exact zo)|(apply zg23;(refine zs52 ?_;intro _))|apply(zs65 ?_)|apply(zs68 ?_)|apply(zs69 ?_)|apply(zs70 ?_)|apply(zs74 ?_)|fail)
   apply Yi H
   ·exact zk
   apply Yd;exact rfl;exact rfl;exact⟨rfl,rfl⟩
  ·rw[e1,Ti h1,Tn h2]
   repeat'(first|apply(zs1 ?_)|apply(zs2 ?_)|(apply zg1;refine zs4 ?_)|(apply zg2;refine zs6 ?_)|(apply zg3;refine zs7 ?_)|(apply zg4;refine zs9 ?_)|(apply zg6;refine zs11 ?_)|(apply zg7;(refine zs15 ?_ ?_<;>intro _<;>try exact zo))|(apply(zs19 ?_ ?_)<;>intro _<;>try exact zo)|(apply zg23;(refine zs52 ?_;intro _))|apply(zs65 ?_)|apply(zs68 ?_)|apply(zs69 ?_)|apply(zs70 ?_)|apply(zs74 ?_)|fail)
   apply Yi H
   ·exact zk
   apply Yd;exact rfl;exact rfl;exact⟨rfl,rfl⟩
 ·rw[e1,Tn h1]
  repeat'(first|apply(zs1 ?_)|apply(zs2 ?_)|(apply zg1;refine zs3 ?_)|(apply zg2;refine zs6 ?_)|(apply zg3;refine zs7 ?_)|(apply zg6;refine zs12 ?_)|(apply zg7;(refine zs15 ?_ ?_<;>intro _<;>try exact zo))|(apply zg23;(refine zs52 ?_;intro _))|apply(zs65 ?_)|apply(zs68 ?_)|apply(zs69 ?_)|apply(zs70 ?_)|apply(zs74 ?_)|fail)
  apply Yi H
  ·exact zk
  apply Yd;exact rfl;exact rfl;exact⟨rfl,rfl⟩
def idxC(P:Clm->Bool)(c:List Clm):Int:=match c.findIdx? P with|none=> -1|some i=>(i:Nat)
variable {P:Clm->Bool}{c:List Clm}
theorem Yfm(h:∀x∈c,P x=false):idxC P c= -1:=by
 have:c.findIdx? P=none:=by rw[List.findIdx?_eq_none_iff];exact h
 unfold idxC;rw[this]
theorem Ya0{i:Nat}{x:Clm}(h0:∀y∈c.take i,P y=false)(hx:c[i]? =some x)(hp:P x=true):idxC P c=(i:Nat)/\c.find? P=some x:=by
 have hc:c=c.take i++(x::c.drop (i+1)):=by
  have hi:=(Tc.1 hx)
  obtain⟨hi,e⟩:=hi
  rw[<-e,List.getElem_cons_drop,Rk]
 have hl:(c.take i).length=i:=by
  have hi:=(Tc.1 hx).1
  rw[TA];omega
 have h1:c.findIdx? P=some i:=by
  rw[hc,List.findIdx?_append]
  have:(c.take i).findIdx? P=none:=by rw[List.findIdx?_eq_none_iff];exact h0
  rw[this]
  simp[List.findIdx?_cons,hp,hl]
 refine⟨by unfold idxC;rw[h1],?_⟩
 rw[hc,List.find?_append]
 have:(c.take i).find? P=none:=by rw[N2];exactλy hy=>by rw[h0 y hy];decide
 rw[this]
 simp[hp]
variable {A:Option Addr}
theorem Yh1(c:List ClM)(id:Int)(g:Nat)(hc:CIn B w0 H A c)(hm:blk g (.cells #[.int .i64 id] 3 (0,0))∈H)(hw:St B w0 H w):
 CX B w0 136 [.slice A c.length cap,.func (.func 137) #[] #[.pointer (some ⟨g,0,none⟩)]] w λv K=>v=.int .i64 (idxC (U7 id) (c.map ClM.clm))/\K=H:=by
 refine Yc Tryz.func136 Tryz.ntmps136 rfl rfl hw ?_
 have hcl:=hc.ln
 have hcr:=hc.rd
 repeat'(first|apply(zs1 ?_)|apply(zs2 ?_)|(apply zg4;refine zs9 ?_)|apply(zs65 ?_)|apply(zs68 ?_)|apply(zs69 ?_)|apply(zs70 ?_)|apply(zs73 ?_)|fail)
 refine Yj (λk:Nat=>[(8,.int .i64 (k:Nat)),(7,.int .i64 c.length),(6,.slice A c.length cap),(0,.slice A c.length cap),(1,.func (.func 137) #[] #[.pointer (some ⟨g,0,none⟩)])]) (λ_=>H) (λk=>k<=c.length/\∀y∈(c.map ClM.clm).take k,U7 id y=false) (λk=>c.length-k) 0 ⟨Tj _,by simp⟩ ?_ (λw hw=>hw) ?_
 ·exact zu
 rintro k ⟨hk,hz⟩ K hK
 by_cases hlt:k<c.length
 ·obtain⟨x,hx⟩:∃x,c[k]? =some x:=⟨_,Ta hlt⟩
  have hxm:(c.map ClM.clm)[k]? =some x.clm:=by rw[TX,hx];rfl
  have hxi:=hc.x x (Tf hx)
  have p1:=λ{w:World}(hw:St B w0 H w)=>Ygm x id g hxi.ln.2.1 hm hw
  cases hb:U7 id x.clm with
  |true=>
   rw[hb]at p1
   have hi:=(Ya0 hz hxm hb).1
   rw[hi]
   clear hK
   repeat'(first|((first|apply YV (cs:=[.pointer (some ⟨g,0,none⟩)])|apply Y3 (cs:=[.pointer (some ⟨g,0,none⟩)]));exact rfl;exact Yty;exact za;exact rfl;exactλ_ hw=>(p1 hw))|apply(zs1 ?_)|apply(zs2 ?_)|(apply zg3;refine zs61 ?_)|(apply zg5;refine zs57 ?_)|(apply(zs17 ?_ ?_)<;>intro _<;>try exact zo)|apply(zs65 ?_)|apply(zs68 ?_)|apply(zs69 ?_)|apply(zs70 ?_)|(apply zg27;refine zs71 ?_)|apply(zs73 ?_)|apply(zs74 ?_)|apply(zs76 ?_)|apply(zs77 ?_)|apply(zs78 ?_)|fail)
   apply Yd;exact rfl;exact rfl;exact⟨rfl,rfl⟩
  |false=>
   rw[hb]at p1
   repeat'(first|((first|apply YV (cs:=[.pointer (some ⟨g,0,none⟩)])|apply Y3 (cs:=[.pointer (some ⟨g,0,none⟩)]));exact rfl;exact Yty;exact za;exact rfl;exactλ_ hw=>(p1 hw))|apply(zs1 ?_)|apply(zs2 ?_)|(apply zg3;refine zs61 ?_)|(apply zg5;refine zs57 ?_)|(apply(zs17 ?_ ?_)<;>intro _<;>try exact zo)|(apply zg13;refine zs30 ?_)|apply(zs65 ?_)|apply(zs68 ?_)|apply(zs69 ?_)|apply(zs70 ?_)|(apply zg27;first|refine zs71 ?_|refine zs72 ?_)|apply(zs73 ?_)|apply(zs76 ?_)|apply(zs79 ?_)|fail)
   apply hK (k+1)
   ·exact⟨by omega,λy hy=>by
     rw[TM,hxm,RY]at hy
     rcases TJ.1 hy with h|h
     ·exact hz y h
     ·rw[TU.1 h];exact hb⟩
   ·omega
   ·exact zu
   ·exactλw hw=>hw
 ·rw[TL (by rw[TC];omega)]at hz
  rw[Yfm hz]
  repeat'(first|apply(zs2 ?_)|(apply(zs17 ?_ ?_)<;>intro _<;>try exact zo)|apply(zs65 ?_)|apply(zs68 ?_)|apply(zs69 ?_)|apply(zs70 ?_)|(apply zg27;refine zs72 ?_)|apply(zs74 ?_)|apply(zs75 ?_)|apply(zs80 ?_)|apply(zs81 ?_)|fail)
  apply Yd;exact rfl;exact rfl;exact⟨rfl,rfl⟩
theorem Yqe{l:List Int}{k:Nat}{y:Int}(h0:1<=k)(h:l[k]? =some y):minI (l.take (k+1))=if y<minI (l.take k)then y else minI (l.take k):=by
 rw[TM,h,RY]
 cases l with
 |nil=>cases h
 |cons a l=>
  obtain⟨k,rfl⟩:∃j,k=j+1:=⟨k-1,by omega⟩
  rw[List.take_succ_cons]
  show List.foldl (λx y=>if y<x then y else x) a (l.take k++[y])=_
  rw[List.foldl_append]
  rfl
theorem Yol(l:List Int)(hlen:l.length<=1000000000000)(h0:1<=l.length)(hr:Rd B w0 H A (l.flatMap numF))(hw:St B w0 H w):
 CX B w0 138 [.slice A l.length cap] w λv K=>v=.int .i64 (minI l)/\K=H:=by
 refine Yc Tryz.func138 Tryz.ntmps138 rfl rfl hw ?_
 obtain⟨a,ha⟩:∃a,l[0]? =some a:=⟨_,Ta (by omega)⟩
 have ha2:l[(0:Int).toNat]? =some a:=ha
 have hm1:minI (l.take 1)=a:=by
  cases l with
  |nil=>cases ha
  |cons b l=>exact Tv ha
 repeat'(first|apply(zs1 ?_)|apply(zs2 ?_)|(apply zg3;refine zs60 ?_)|(apply zg4;refine zs9 ?_)|(apply zg5;refine zs57 ?_)|(apply(zs17 ?_ ?_)<;>intro _<;>try exact zo)|apply(zs65 ?_)|apply(zs68 ?_)|apply(zs69 ?_)|apply(zs70 ?_)|(apply zg27;refine zs72 ?_)|apply(zs73 ?_)|apply(zs76 ?_)|fail)
 refine Yj (λk:Nat=>[(4,.int .i64 (k:Nat)),(3,.int .i64 (minI (l.take k))),(0,.slice A l.length cap)]) (λ_=>H) (λk=>1<=k/\k<=l.length) (λk=>l.length-k) 1 ⟨TK _,h0⟩ ?_ (λw hw=>hw) ?_
 ·rw[hm1]
  exact zu
 rintro k ⟨hk1,hk⟩ K hK
 by_cases hlt:k<l.length
 ·obtain⟨y,hy⟩:∃y,l[k]? =some y:=⟨_,Ta hlt⟩
  repeat'(first|(apply Yu4;(iterate 3 exact rfl))|apply(zs1 ?_)|apply(zs2 ?_)|(apply zg3;refine zs60 ?_)|(apply zg4;refine zs9 ?_)|(apply zg5;refine zs57 ?_)|(apply(zs17 ?_ ?_)<;>intro _<;>try exact zo)|(apply zg13;refine zs30 ?_)|apply(zs65 ?_)|apply(zs68 ?_)|apply(zs69 ?_)|apply(zs70 ?_)|(apply zg27;refine zs71 ?_)|apply(zs73 ?_)|apply(zs76 ?_)|apply(zs79 ?_)|fail)
  apply hK (k+1)
  ·exact⟨by omega,by omega⟩
  ·omega
  ·rw[Yqe hk1 hy]
   exact zu
  ·exactλw hw=>hw
 ·rw[show l.take k=l from TL (by omega)]
  repeat'(first|apply(zs1 ?_)|apply(zs2 ?_)|(apply zg4;refine zs9 ?_)|(apply(zs17 ?_ ?_)<;>intro _<;>try exact zo)|apply(zs65 ?_)|apply(zs68 ?_)|apply(zs69 ?_)|apply(zs70 ?_)|(apply zg27;refine zs72 ?_)|apply(zs74 ?_)|apply(zs75 ?_)|apply(zs80 ?_)|apply(zs81 ?_)|fail)
  apply Yd;exact rfl;exact rfl;exact⟨rfl,rfl⟩
theorem YhX(c:List ClM)(id:Int)(hc:CIn B w0 H A c)(hw:St B w0 H w):
 CX B w0 71 [.slice A c.length cap,.int .i64 id] w λv K=>v=.tuple #[.int .i64 (bndE (c.map ClM.clm) id).1,.bool (bndE (c.map ClM.clm) id).2]/\K=H:=by
 refine Yc Tryz.func71 Tryz.ntmps71 rfl rfl hw ?_
 have hcl:=hc.ln
 have hcr:=hc.rd
 repeat'(first|apply(zs1 ?_)|apply(zs2 ?_)|(apply zg23;(refine zs53 ?_;intro _))|apply(zs65 ?_)|apply(zs68 ?_)|apply(zs69 ?_)|apply(zs70 ?_)|(apply zg29;(apply Yp;exact za;exact rfl))|fail)
 rename_i g
 have p1:=λ{H':List HP}{w:World}(hc:CIn B w0 H' A c) (hm:blk g (.cells #[.int .i64 id] 3 (0,0))∈H') (hw:St B w0 H' w)=>Yh1 c id g (cap:=cap) hc hm hw
 by_cases hex:∃i x,(c.map ClM.clm)[i]? =some x/\U7 id x=true/\∀y∈(c.map ClM.clm).take i,U7 id y=false
 ·obtain⟨i,x,hx,hb,hz⟩:=hex
  obtain⟨h1,h2⟩:=Ya0 hz hx hb
  have hbe:bndE (c.map ClM.clm) id=(minI x.bounds,true):=by
   unfold bndE
   rw[show(c.map ClM.clm).find? (λx=>decide (x.flow=id)&&decide (0<x.bounds.length))=some x from h2]
  rw[TX]at hx
  obtain⟨y,hy,rfl⟩:∃y,c[i]? =some y/\y.clm=x:=by
   cases hc0:c[i]? with
   |none=>rw[hc0]at hx;cases hx
   |some y=>rw[hc0]at hx;exact⟨y,rfl,Tv hx⟩
  have hyi:=hc.x y (Tf hy)
  have hi:=(Tc.1 hy).1
  have hpos:1<=y.bs.length:=by
   unfold U7 at hb
   rw[To,Tt,Tt]at hb
   exact hb.2
  rw[h1]at p1
  rw[hbe]
  have p2:=λ{H':List HP}{w:World}(hr:Rd B w0 H' y.bA (y.bs.flatMap numF)) (hw:St B w0 H' w)=>Yol y.bs hyi.ln.2.1 hpos (cap:=y.bcap) hr hw
  have hcr2:Rd B w0 (blk g (.cells #[.int .i64 id] 3 (0,0))::H) A (c.flatMap clF):=hcr.cons
  first|apply Ya YlI|apply Yb YlI
  exact za
  exact rfl
  exactλ_ hw=>(p1 hc.cons (.head _) hw)
  repeat'(first|apply(zs1 ?_)|apply(zs2 ?_)|(apply zg2;refine zs58 ?_)|(apply zg3;refine zs59 ?_)|(apply zg5;refine zs57 ?_)|(apply(zs17 ?_ ?_)<;>intro _<;>try exact zo)|apply(zs65 ?_)|apply(zs68 ?_)|apply(zs69 ?_)|apply(zs70 ?_)|(apply zg27;refine zs72 ?_)|apply(zs76 ?_)|fail)
  first|apply Ya Ytz|apply Yb Ytz
  exact za
  exact rfl
  exactλ_ hw=>(p2 hyi.bd.cons hw)
  repeat'(first|apply(zs2 ?_)|apply(zs65 ?_)|apply(zs68 ?_)|apply(zs74 ?_)|fail)
  apply Yi H
  ·exact zk
  apply Yx;(iterate 3 exact rfl);exact⟨rfl,rfl⟩
 ·have hall:∀y∈c.map ClM.clm,U7 id y=false:=by
   intro y hy
   cases hb:U7 id y with
   |false=>rfl
   |true=>
    exfalso
    have hsm:((c.map ClM.clm).find? (U7 id)).isSome=true:=by
     rw[List.find?_isSome];exact⟨y,hy,hb⟩
    have hsi:((c.map ClM.clm).findIdx? (U7 id)).isSome=true:=by
     rw[List.findIdx?_isSome,TR];exact⟨y,hy,hb⟩
    obtain⟨i,hi⟩:=Ny.1 hsi
    rw[List.findIdx?_eq_some_iff_getElem]at hi
    obtain⟨hlt,hpi,hno⟩:=hi
    refine hex ⟨i,_,Ta hlt,hpi,λz hz=>?_⟩
    obtain⟨j,hj⟩:=TO.1 hz
    rw[Sl]at hj
    split at hj
    ·rename_i hji
     obtain⟨hj1,hj2⟩:=Tc.1 hj
     have:=hno j hji
     rw[hj2]at this
     simpa using this
    ·cases hj
  have hbe:bndE (c.map ClM.clm) id=(0,false):=by
   unfold bndE
   have:(c.map ClM.clm).find? (U7 id)=none:=by rw[N2];exactλy hy=>by rw[hall y hy];decide
   rw[show(c.map ClM.clm).find? (λx=>decide (x.flow=id)&&decide (0<x.bounds.length))=none from this]
  rw[Yfm hall]at p1
  rw[hbe]
  first|apply Ya YlI|apply Yb YlI
  exact za
  exact rfl
  exactλ_ hw=>(p1 hc.cons (.head _) hw)
  repeat'(first|apply(zs1 ?_)|apply(zs2 ?_)|(apply(zs17 ?_ ?_)<;>intro _<;>try exact zo)|apply(zs65 ?_)|apply(zs68 ?_)|apply(zs69 ?_)|apply(zs70 ?_)|(apply zg27;refine zs71 ?_)|apply(zs74 ?_)|apply(zs77 ?_)|fail)
  apply Yi H
  ·exact zk
  apply Yx;(iterate 3 exact rfl);exact⟨rfl,rfl⟩
theorem Ypn{n:Net}{q:List Rqs}{s:Sch}(h:(YM n q s).2.2=0):chkE n q s (YM n q s).1=(-1,0):=by
 unfold chkE
 rw[Td (λe=>e h),Td (λe=>e rfl)]
 exact Zv λk _ _=>Tm rfl
structure AttM where
 slot:Int
 frame:Int
 c:Cel
 o:Int
structure StM where
 frame:Int
 since:Int->Option Int
 acked:Int->Int->Option Int
 done:Bool
structure PlM where
 st:List StM
 atts:List AttM
 dels:List (Int×Int×Int)
def perF(f:Flw):Int:=f.2.2.2.1
def phaF(f:Flw):Int:=f.2.2.2.2.1
def dstF(f:Flw):Int:=f.2.2.1
def Yvi(f:Flw)(k:Int):Int:=phaF f+k*perF f
def newS(f:Flw)(n k:Int):StM:=⟨k,λv=>if v=f.2.1 then some n else none,λ_ _=>none,false⟩
def relS(f:Flw)(n:Int)(x:StM):StM:=if n<phaF f then x else if(n-phaF f)/perF f=x.frame then x else newS f n ((n-phaF f)/perF f)
def canT(f:Flw)(x:StM)(c:Cel)(n:Int):Prop:=0<=x.frame/\(∃a,x.since (YC c)=some a/\a<=n)/\YC c≠dstF f/\∀t,x.acked (YC c) (toC c)=some t->n<=t
def YwN(f:Flw)(x:StM)(c:Cel)(n o:Int):StM:=
 ⟨x.frame,if o=3\/(x.since (toC c)).isSome then x.since elseλv=>if v=toC c then some (n+1)else x.since v,
  if o=1/\x.acked (YC c) (toC c)=none thenλu v=>if u=YC c/\v=toC c then some n else x.acked u v else x.acked,
  x.done||(decide (o≠3)&&decide (toC c=dstF f))⟩
def delS(f:Flw)(x:StM)(c:Cel)(n o:Int):List (Int×Int×Int):=if o≠3/\toC c=dstF f/\x.done=false then [(f.1,x.frame,n)]else []
def YvP:StM:=⟨-1,λ_=>none,λ_ _=>none,false⟩
inductive Pl (l:List Flw) (s:Sch):Int->Nat->PlM->Prop
 |start:Pl l s 0 0 ⟨l.map λ_=>YvP,[],[]⟩
 |rel {n:Int}{p:PlM}(st:List StM):Pl l s n 0 p->st.length=l.length->(∀(i:Nat) f x,l[i]? =some f->p.st[i]? =some x->st[i]? =some (relS f n x))->Pl l s n 1 ⟨st,p.atts,p.dels⟩
 |skip {n:Int}{j:Nat}{p:PlM}{c:Cel}:Pl l s n (j+1) p->(atE s n)[j]? =some c->(∀(i:Nat) f x,l[i]? =some f->p.st[i]? =some x->f.1=Xr c->¬canT f x c n)->Pl l s n (j+2) p
 |att {n:Int}{j i:Nat}{p:PlM}{c:Cel}{f:Flw}{x:StM}(o:Int):Pl l s n (j+1) p->(atE s n)[j]? =some c->l[i]? =some f->p.st[i]? =some x->f.1=Xr c->canT f x c n->
  Pl l s n (j+2) ⟨p.st.set i (YwN f x c n o),p.atts++[⟨n,x.frame,c,o⟩],p.dels++delS f x c n o⟩
 |next {n:Int}{p:PlM}(ds:List (Int×Int×Int)):Pl l s n ((atE s n).length+1) p->ds.Perm p.dels->Pl l s (n+1) 0 ⟨p.st,p.atts,ds⟩
def onK(id k u v:Int)(a:AttM):Bool:=decide (Xr a.c=id/\a.frame=k/\YC a.c=u/\toC a.c=v)
def keyL(atts:List AttM)(id k u v:Int):List AttM:=atts.filter (onK id k u v)
def cntL(s:Sch)(q:Cel->Bool):Nat->Int->Nat
 |0,_=>0
 |m+1,a=>((atE s a).filter q).length+cntL s q m (a+1)
def Ymh(s:Sch)(q:Cel->Bool)(b:Option Int)(a0 n:Int)(j:Nat):Nat:=
 match b with
 |some b=>cntL s q (b-1-a0).toNat a0
 |none=>cntL s q (n-a0).toNat a0+if a0<=n then(((atE s n).take j).filter q).length else 0
def Hop(s:Sch)(f:Flw)(k:Int)(atts:List AttM)(since:Int->Option Int)(n:Int)(j:Nat):Prop:=
 ∀u v a0,u≠dstF f->since u=some a0->∃K1,K1<+:keyL atts f.1 k u v/\(∀a∈K1,a.o=3)/\Ymh s (onP f.1 u v) (since v) a0 n j<=K1.length
def Dlv(f:Flw)(k:Int)(dels:List (Int×Int×Int))(since:Int->Option Int):Prop:=
 (∀d∈dels,d.1=f.1->d.2.1=k->since (dstF f)=some (d.2.2+1))/\∀b,since (dstF f)=some b->(f.1,k,b-1)∈dels
structure Arch(s:Sch)(f:Flw)(k n:Int)(j:Nat)(p:PlM)(since:Int->Option Int):Prop where
 src:since f.2.1=some (Yvi f k)
 hop:Hop s f k p.atts since n j
 dlv:Dlv f k p.dels since
variable {s:Sch}{f:Flw}{k n a:Int}{j:Nat}{p:PlM}{since:Int->Option Int}
theorem Arch.mono{p':PlM}(h:Arch s f k n j p since)
 (ha:∀u v,keyL p.atts f.1 k u v<+:keyL p'.atts f.1 k u v) (hd:∀d,d.1=f.1->d.2.1=k->(d∈p'.dels↔d∈p.dels)):Arch s f k n j p' since:=by
 refine⟨h.src,λu v a0 hu hs=>?_,?_,?_⟩
 ·obtain⟨K1,h1,h2,h3⟩:=h.hop u v a0 hu hs
  grind
 ·intro d hm h1 h2
  exact h.dlv.1 d ((hd d h1 h2).1 hm) h1 h2
 ·intro b hb
  exact(hd (f.1,k,b-1) rfl rfl).2 (h.dlv.2 b hb)
theorem Ylb{α:Type}{L:List α}{c:α}(h:L[j]? =some c):L.take (j+1)=L.take j++[c]:=zc95
variable {c:Cel}
theorem Ynx{L:List Cel}(h:L[j]? =some c)(q:Cel->Bool):((L.take (j+1)).filter q).length=((L.take j).filter q).length+if q c then 1 else 0:=by
 rw[Ylb h,SN,Tq]
 grind
theorem Yqj{a0:Int}(h:(atE s n)[j]? =some c){q:Cel->Bool}(hq:q c=false)(b:Option Int):Ymh s q b a0 n (j+1)=Ymh s q b a0 n j:=by
 simp_all [Ymh,Ynx]
theorem YsC{id u v:Int}:onP id u v c=true↔Xr c=id/\YC c=u/\toC c=v:=by simp[onP]
theorem Arch.offs(h:Arch s f k n j p since)(hc:(atE s n)[j]? =some c)(hf:Xr c≠f.1):Arch s f k n (j+1) p since:=by
 refine⟨h.src,λu v a0 hu hs=>?_,h.dlv⟩
 obtain⟨K1,h1,h2,h3⟩:=h.hop u v a0 hu hs
 grind [Yqj,YsC]
def Chain(d:Int):Int->List Lk->Prop
 |u,[]=>u=d
 |u,l::ls=>u=l.1/\u≠d/\Chain d l.2.1 ls
variable {x:List (Cel×Int)}
theorem Ypf(h:∀z∈x,a<=z.2):a<=Y1 x a:=by
 unfold Y1
 grind
theorem YhQ{S:Int->Option (List Int)}{len per:Int}(hp:1<=per){r:Int×Int×List Int}:∀{fuel:Nat}{rel:Int}{b:Int×Int×List Int},Vz S len per fuel rel b=some r->
 b.1<=r.1/\∀i:Nat,i<fuel->rel+i*per<len->∃l,S (rel+i*per)=some l/\Je l-(rel+i*per)+1<=r.1
 |0,rel,b,h=>by
  obtain rfl:=Tv (show some b=some r from h)
  simp_all
 |fuel+1,rel,b,h=>by
  rw[Vz]at h
  split at h
  ·rename_i hle
   obtain rfl:=Tv h
   refine⟨Ry _,λi _ hi=>?_⟩
   have:0<=(i:Int)*per:=Int.mul_nonneg (by omega) (by omega)
   omega
  ·cases hS:S rel with
   |none=>simp_all
   |some l=>
    rw[hS]at h
    obtain⟨h1,h2⟩:=YhQ hp h
    have h3:b.1<=r.1/\Je l-rel+1<=r.1:=by
     grind
    refine⟨h3.1,λi hi hlt=>?_⟩
    cases i with
    |zero=>simp_all
    |succ i=>
     grind
theorem Ydx(hx:x≠[]):Je (x.map Prod.snd)+1=Y1 x a:=by
 grind [Je,Y1,S0]
def slC(len:Int)(cs:List Cel)(a:Int):Nat:=(cs.filter λc=>decide (c.1=a.tmod len)).length
def cntS(len:Int)(cs:List Cel):Nat->Int->Nat
 |0,_=>0
 |m+1,a=>slC len cs a+cntS len cs m (a+1)
theorem Yd9(len:Int)(c:Cel)(cs:List Cel)(a:Int):slC len (c::cs) a=(if c.1=a.tmod len then 1 else 0)+slC len cs a:=by
 unfold slC
 rw[SA]
 by_cases h:c.1=a.tmod len
 ·rw[Tm (Ti h),Tm h,TG];omega
 ·rw[Td (by simpa using h),Td h];omega
theorem QR(len a:Int):∀(cs:List Cel) (k:Nat),(Xh len a cs k).length=min k (slC len cs a)
 |[],k=>by simp[Xh,slC]
 |c::cs,k=>by
  rw[Yd9]
  unfold Xh
  by_cases h:c.1=a.tmod len
  ·by_cases hk:k=0
   ·subst hk
    rw[Td (λe=>e.2 rfl),Yok];simp
   ·rw[Tm ⟨h,hk⟩,Tm h,TG,QR len a cs (k-1)];omega
  ·rw[Td (λe=>h e.1),Td h,QR len a cs k];omega
theorem Yh3(len:Int)(cs:List Cel):∀(m k:Nat) (a:Int),cntS len cs (m+k) a=cntS len cs m a+cntS len cs k (a+m)
 |0,k,a=>by simp[cntS]
 |m+1,k,a=>by
  rw[show m+1+k=(m+k)+1 by omega,cntS,Yh3 len cs m k (a+1),cntS]
  rw[show a+1+(m:Int)=a+((m+1:Nat):Int) by omega]
  omega
variable {a b y:Int}
theorem Ynh(len:Int)(cs:List Cel){z:Int}(h1:a<=b)(h2:b<=z):cntS len cs (z-b).toNat b<=cntS len cs (z-a).toNat a:=by
 obtain⟨x,hx⟩:∃x:Nat,b=a+x:=⟨(b-a).toNat,by omega⟩
 obtain⟨y,hy⟩:∃y:Nat,z=b+y:=⟨(z-b).toNat,by omega⟩
 rw[show(z-b).toNat=y by omega,show(z-a).toNat=x+y by omega,Yh3,hx]
 omega
theorem VI(x r:List (Cel×Int))(a:Int):Y1 (x++r) a=Y1 r (Y1 x a):=by
 unfold Y1
 rw[List.getLast?_append]
 cases r.getLast?<;>rfl
theorem Ypg{x:List (Cel×Int)}(h:Y1 x a<=y)(hb:b<=y):Y1 x b<=y:=by
 unfold Y1 at h⊢
 cases hx:x.getLast? with
 |none=>exact hb
 |some z=>rw[hx]at h;exact h
theorem Yiu{len:Int}{cs:List Cel}:∀(f k:Nat) (a y:Int),a<=y->y<=a+f->k<=cntS len cs (y-a).toNat a->(hopP len cs f k a).length=k/\Y1 (hopP len cs f k a) a<=y
 |0,k,a,y,h1,h2,h3=>by
  obtain rfl:y=a:=by omega
  rw[show(y-y).toNat=0 by omega]at h3
  obtain rfl:k=0:=by simpa [cntS]using h3
  exact⟨rfl,h1⟩
 |f+1,k,a,y,h1,h2,h3=>by
  by_cases hk:k=0
  ·subst hk
   rw[Yiw]
   exact⟨rfl,h1⟩
  have hlt:a<y:=by
   by_cases e:a=y
   ·subst e
    rw[show(a-a).toNat=0 by omega]at h3
    simp[cntS]at h3
    omega
   ·omega
  rw[show(y-a).toNat=(y-(a+1)).toNat+1 by omega,cntS]at h3
  have hs:=QR len a cs k
  obtain⟨e1,e2⟩:=Yiu (len:=len) (cs:=cs) f (k-(Xh len a cs k).length) (a+1) y (by omega) (by omega) (by omega)
  rw[hopP,Tq,e1,VI]
  refine⟨by omega,Ypg e2 ?_⟩
  unfold Y1
  cases hx:(Xh len a cs k).getLast? with
  |none=>exact h1
  |some z=>have:=Wg (Nu hx);simp only[];omega
def WayT(len:Int)(C:Lk->List Cel):List Lk->Int->Int->Prop
 |[],a,y=>a<=y
 |l::ls,a,y=>∃z,a<=z/\Y8 l<=cntS len (C l) (z-a).toNat a/\WayT len C ls z y
variable {C:Lk->List Cel}
theorem WayT.le{len:Int}:∀{ls:List Lk}{a y:Int},WayT len C ls a y->a<=y
 |[],_,_,h=>h
 |_::_,_,_,⟨_,h1,_,h3⟩=>N7 h1 h3.le
theorem Ymx{len:Int}{C:Lk->List Cel}{endd:Int}:∀{ls:List Lk}{a a' y:Int},WayT len C ls a y->a'<=a->y<=endd->(runP len C endd ls a').length=Xv ls/\Y1 (runP len C endd ls a') a'<=y
 |[],a,a',y,h,h1,_=>⟨rfl,N7 h1 h⟩
 |l::ls,a,a',y,⟨z,h1,h2,h3⟩,h4,h5=>by
  have hz:=h3.le
  obtain⟨e1,e2⟩:=Yiu (len:=len) (cs:=C l) (endd-a').toNat (Y8 l) a' z (by omega) (by omega) (Rh h2 (Ynh len (C l) h4 h1))
  obtain⟨i1,i2⟩:=Ymx (endd:=endd) h3 e2 h5
  unfold runP
  rw[Td (by omega),Tq,VI,e1,i1]
  exact⟨by unfold Xv;rw[Ru,Nx],i2⟩
theorem Yba{len a:Int}{keep:Cel->Bool}:∀{cs:List Cel}{k:Nat},(∀p∈Xh len a cs k,keep p.1=true)->(Xh len a cs k).length<=slC len (cs.filter keep) a
 |[],k,_=>Tj _
 |c::cs,k,h=>by
  unfold Xh at h⊢
  rw[SA]
  by_cases hc:c.1=a.tmod len/\k≠0
  ·rw[Tm hc]at h⊢
   have h1:=h (c,a) TB
   have h2:=Yba (len:=len) (a:=a) (keep:=keep) (cs:=cs) (k:=k-1) λp hp=>h p (Tz _ hp)
   rw[Tm h1,Yd9,Tm hc.1,TG]
   omega
  ·rw[Td hc]at h⊢
   have h2:=Yba (len:=len) (a:=a) (keep:=keep) (cs:=cs) (k:=k) h
   split
   ·rw[Yd9];omega
   ·exact h2
theorem Yiv{len:Int}{cs:List Cel}{keep:Cel->Bool}:∀{f k:Nat}{a:Int},(∀p∈hopP len cs f k a,keep p.1=true)->(hopP len cs f k a).length<=cntS len (cs.filter keep) (Y1 (hopP len cs f k a) a-a).toNat a
 |0,k,a,_=>Tj _
 |f+1,k,a,h=>by
  rw[hopP]at h⊢
  have h1:=Yba (keep:=keep) (λp hp=>h p (RL _ hp))
  have h2:=Yiv (f:=f) (keep:=keep) (λp hp=>h p (TS _ hp))
  rw[Tq,VI]
  have hsl:∀z∈Xh len a cs k,z.2=a:=λz hz=>Wg hz
  generalize hr:hopP len cs f (k-(Xh len a cs k).length) (a+1)=r at h2
  generalize hg:Xh len a cs k=g at h1 hsl
  have hlo:∀z∈r,a+1<=z.2:=λz hz=>by rw[<-hr]at hz;exact(Ycd hz).1
  cases hrl:r.getLast? with
  |some z=>
   have hz:=hlo z (Nu hrl)
   have e1:∀b,Y1 r b=z.2+1:=λb=>by unfold Y1;rw[hrl]
   rw[e1]at h2⊢
   rw[show(z.2+1-a).toNat=(z.2+1-(a+1)).toNat+1 by omega,cntS]
   omega
  |none=>
   obtain rfl:=S0.1 hrl
   rw[show Y1 [] (Y1 g a)=Y1 g a from rfl]
   cases hgl:g.getLast? with
   |some z=>
    have hz:=hsl z (Nu hgl)
    have e1:Y1 g a=a+1:=by unfold Y1;rw[hgl];simp only[];omega
    rw[e1,show(a+1-a).toNat=0+1 by omega,cntS]
    simp only[Rq]
    omega
   |none=>
    obtain rfl:=S0.1 hgl
    exact Tj _
theorem Yjf{len:Int}{C:Lk->List Cel}{endd:Int}{keep:Cel->Bool}:∀{ls:List Lk}{a:Int},(runP len C endd ls a).length=Xv ls->(∀p∈runP len C endd ls a,keep p.1=true)->WayT len (λl=>(C l).filter keep) ls a (Y1 (runP len C endd ls a) a)
 |[],a,_,_=>Ry _
 |l::ls,a,h,hk=>by
  have h0:Xv (l::ls)=Y8 l+Xv ls:=by unfold Xv;rw[Ru,Nx]
  have h1:=Yad len (C l) (endd-a).toNat (Y8 l) a
  unfold runP at h hk⊢
  by_cases hs:(hopP len (C l) (endd-a).toNat (Y8 l) a).length<Y8 l
  ·rw[Tm hs]at h
   omega
  rw[Td hs]at h hk⊢
  have h2:=YaA len C endd ls (Y1 (hopP len (C l) (endd-a).toNat (Y8 l) a) a)
  rw[Tq]at h
  rw[VI]
  refine⟨Y1 (hopP len (C l) (endd-a).toNat (Y8 l) a) a,Ypf λz hz=>(Ycd hz).1,?_,Yjf (by omega) λp hp=>hk p (TS _ hp)⟩
  have:=Yiv (f:=(endd-a).toNat) (keep:=keep) λp hp=>hk p (RL _ hp)
  exact Rh (by omega) this
theorem WayT.mono{len:Int}{D:Lk->List Cel}(h:∀l a,slC len (C l) a<=slC len (D l) a):∀{ls:List Lk}{a y:Int},WayT len C ls a y->WayT len D ls a y
 |[],_,_,hw=>hw
 |l::ls,a,y,⟨z,h1,h2,h3⟩=>by
  refine⟨z,h1,Rh h2 ?_,h3.mono h⟩
  have:∀(m:Nat) (a:Int),cntS len (C l) m a<=cntS len (D l) m a:=λm=>by
   induction m with
   |zero=>exactλ_=>TK _
   |succ m ih=>intro a;have:=ih (a+1);have:=h l a;rw[cntS,cntS];omega
  exact this _ _
theorem YlB{S:Int->Option (List Int)}{len per d:Int}(hp:1<=per):∀{fuel:Nat}{rel:Int}{b:Int×Int×List Int},b.1<=d->(∀i:Nat,rel+i*per<len->∃l,S (rel+i*per)=some l/\Je l-(rel+i*per)+1<=d)->∃r,Vz S len per fuel rel b=some r/\r.1<=d
 |0,rel,b,hb,_=>⟨b,rfl,hb⟩
 |fuel+1,rel,b,hb,h=>by
  rw[Vz]
  by_cases hle:len<=rel
  ·rw[Tm hle];exact⟨b,rfl,hb⟩
  rw[Td hle]
  obtain⟨l,h1,h2⟩:=h 0 (by simp;omega)
  have h1:S rel=some l:=by simpa using h1
  have h2:Je l-rel+1<=d:=by simpa using h2
  rw[h1]
  refine YlB hp ?_ λi hi=>?_
  ·split
   ·exact h2
   ·exact hb
  ·have e:rel+((i+1:Nat):Int)*per=rel+per+(i:Int)*per:=by
    rw[show((i+1:Nat):Int)=(i:Int)+1 by omega,Int.add_mul];omega
   have:=h (i+1) (by rw[e];exact hi)
   rw[e]at this
   exact this
theorem YoG{n:Net}{s:Sch}{f:Flw}{r:List Int}{rel:Int}(hne:Yr n r≠[])(hloss:∀x∈Yr n r,0<=x.2.2)(hy:y<=rel+f.2.2.2.1)(h:WayT s.len (Xu s f.1) (Yr n r) rel y):
 ∃l,Vb n s f r rel=some l/\Je l-rel+1<=y-rel:=by
 obtain⟨h1,h2⟩:=Ymx (endd:=rel+f.2.2.2.1) h (Ry _) hy
 refine⟨(runP s.len (Xu s f.1) (rel+f.2.2.2.1) (Yr n r) rel).map Prod.snd,?_,?_⟩
 ·unfold Vb
  rw[Yck,Td (by omega)]
 ·have hn:1<=Xv (Yr n r):=by
   cases hl:Yr n r with
   |nil=>exact absurd hl hne
   |cons x xs=>
    have:=hloss x (by rw[hl];simp)
    unfold Xv
    rw[Ru,Nx]
    unfold Y8
    omega
  have:=Ydx (x:=runP s.len (Xu s f.1) (rel+f.2.2.2.1) (Yr n r) rel) (a:=rel) (λe=>by rw[e]at h1;simp at h1;omega)
  omega
end Go.Proofs.YtambgjgljcadlaaGreatDoor
namespace Go.Eng
open Go.RowKit
end Go.Eng
namespace Go.Proofs.YtambgjgljcadlaaGreatDoor
open Go.RowKit Go.Eng Go.Nw Go.Rt
abbrev flwB(g:Nat)(f:Flw):HP:=blk g (.cells #[.int .i64 f.1,.int .i64 f.2.1,.int .i64 f.2.2.1,.int .i64 f.2.2.2.1,.int .i64 f.2.2.2.2.1,.int .i64 f.2.2.2.2.2] 53 (0,0))
def Ytc(c:List Clm)(l:List Flw)(i:Nat):List Int:=((List.range i).filter λk=>admB c (Xg l k)).map λk=>((k:Nat):Int)
def WY(n:Net)(s:Sch)(f:Flw)(a:Int)(r:List Int):Int:=match ZL n s f r with|none=>a|some b=>if a=0\/b.1<a then b.1 else a
theorem YnO(n:Net)(s:Sch)(f:Flw)(l:List (List Int)):Ykv n s f l=if l.length=0 then(0,14)else
 if(YD (λk=>wayE n s f (rtAt l k)) l.length 0).2≠0 then(0,(YD (λk=>wayE n s f (rtAt l k)) l.length 0).2)
 else if l.foldl (WY n s f) 0=0 then(0,15)else(l.foldl (WY n s f) 0,0):=rfl
variable {f:Flw}{r:List Int}
theorem Yq9{n:Net}{s:Sch}(h:wayE n s f r=0):f.2.2.2.2.1<s.len:=by
 obtain⟨_,h2,h3,h4,_⟩:=Ybe h
 have hsz:=TY (XV.1 h2).sized
 unfold XD at h3
 split at h3
 ·cases h3
 split at h3
 ·cases h3
 rename_i k1 k2
 have hd:f.2.2.2.1∣s.len:=Int.dvd_of_tmod_eq_zero h4
 have:=Int.le_of_dvd (by omega) hd
 omega
theorem YhT{S:Int->Option (List Int)}{len per:Int}(hS:∀a l,S a=some l->1<=Je l-a+1):∀{k:Nat}{rel:Int}{b0 b:Int×Int×List Int},(1<=b0.1\/rel<len/\k≠0/\b0.1=0)->Vz S len per k rel b0=some b->1<=b.1
 |0,rel,b0,b,h0,h=>by
  unfold Vz at h
  rw[<-Tv h]
  rcases h0 with h0|⟨_,h0,_⟩
  ·exact h0
  ·exact absurd rfl h0
 |k+1,rel,b0,b,h0,h=>by
  unfold Vz at h
  split at h
  ·rw[<-Tv h]
   rcases h0 with h0|⟨h0,_⟩
   ·exact h0
   ·omega
  cases hs:S rel with
  |none=>rw[hs]at h;cases h
  |some l=>
   rw[hs]at h
   have h1:=hS _ _ hs
   refine YhT hS (.inl ?_) h
   split
   ·exact h1
   ·rcases h0 with h0|h0<;>omega
theorem Ynb{x:WayM}(hok:WO x)(hl:x.f.2.2.2.2.1<x.s.len){b:Int×Int×List Int}(h:ZL x.n.net x.s.sch x.f x.r=some b):1<=b.1:=by
 have h3:=hok.slen
 refine YhT (len:=x.s.sch.len) (per:=x.f.2.2.2.1) (λa l hs=>?_) (.inr ⟨hl,?_,rfl⟩) h
 ·have:=Yjm hok hs
  omega
 ·show x.s.len.toNat≠0
  omega
variable {n:NetM}{s:SchM}
theorem Wf(h:(YT n.net s.sch f r).2=0):∃b,ZL n.net s.sch f r=some b/\(YT n.net s.sch f r).1=b/\1<=b.1/\wayE n.net s.sch f r=0:=by
 obtain⟨h1,b,h2,h3⟩:=ON h
 exact⟨b,h2,by rw[h3],Ynb (x:=⟨n,s,f,none,0,r⟩) (Yhh h1) (Yq9 h1) h2,h1⟩
theorem YdI:∀(l:List Int) (a:Int),1<=a->(∀z∈l,1<=z)->1<=l.foldl (λx y=>if y<x then y else x) a
 |[],a,h,_=>h
 |z::l,a,h,hl=>by
  rw[R7]
  refine YdI l _ ?_ λy hy=>hl y (Tz _ hy)
  have:=hl z TB
  split<;>omega
theorem YdA{n:NetM}{s:SchM}{f:Flw}:∀(l:List (List Int)) (a:Int),1<=a->(∀r∈l,(YT n.net s.sch f r).2=0)->l.foldl (WY n.net s.sch f) a=(l.map λr=>(YT n.net s.sch f r).1.1).foldl (λx y=>if y<x then y else x) a
 |[],a,_,_=>rfl
 |r::l,a,h,hl=>by
  obtain⟨b,h1,h2,h3,_⟩:=Wf (hl r TB)
  rw[R7,Ru,R7,h2]
  have hs:WY n.net s.sch f a r=if b.1<a then b.1 else a:=by
   unfold WY
   rw[h1]
   show(if a=0\/b.1<a then b.1 else a)=_
   by_cases hb:b.1<a
   ·rw[Tm (.inr hb),Tm hb]
   ·rw[Td (by omega),Td hb]
  rw[hs]
  refine YdA l _ ?_ λy hy=>hl y (Tz _ hy)
  split<;>omega
variable {x:Rqs}
theorem Yp6(h0:1<=x.2.length)(h:∀r∈x.2,(YT n.net s.sch x.1 r).2=0):Ykv n.net s.sch x.1 x.2=(minI (clmE n.net s.sch x).bounds,0):=by
 rw[YnO,Td (by omega)]
 have hw:(YD (λk=>wayE n.net s.sch x.1 (rtAt x.2 k)) x.2.length 0).2=0:=YI.2 λk _ hk=>by
  obtain⟨_,_,_,_,h4⟩:=Wf (h (rtAt x.2 k) (Yjd (by omega)))
  exact h4
 rw[Td (λe=>e hw)]
 obtain⟨f,l⟩:=x
 cases l with
 |nil=>exact absurd h0 (by show¬1<=0;decide)
 |cons r l=>
  obtain⟨b,h1,h2,h3,_⟩:=Wf (h r TB)
  have h5:=YdA (n:=n) (s:=s) (f:=f) l b.1 h3 λy hy=>h y (Tz _ hy)
  have h6:(r::l).foldl (WY n.net s.sch f) 0=minI (clmE n.net s.sch (f,r::l)).bounds:=by
   rw[R7]
   have hs:WY n.net s.sch f 0 r=b.1:=by
    unfold WY
    rw[h1]
    exact Tm (.inl rfl)
   rw[hs,h5]
   show _=minI (((YT n.net s.sch f r).1.1)::(l.map λr=>(YT n.net s.sch f r).1.1))
   rw[h2];rfl
  have h7:1<=minI (clmE n.net s.sch (f,r::l)).bounds:=by
   rw[<-h6,R7]
   have hs:WY n.net s.sch f 0 r=b.1:=by
    unfold WY
    rw[h1]
    exact Tm (.inl rfl)
   rw[hs,h5]
   refine YdI _ _ h3 λz hz=>?_
   obtain⟨y,hy,rfl⟩:=TD.1 hz
   obtain⟨c,_,k2,k3,_⟩:=Wf (h y (Tz _ hy))
   rw[k2];exact k3
  show(if(r::l).foldl (WY n.net s.sch f) 0=0 then _ else((r::l).foldl (WY n.net s.sch f) 0,(0:Int)))=_
  rw[h6,Td (by omega)]
theorem YaW{nodes:Int}{l:List Flw}(h:(Yy nodes l).2=0):∀{i j:Nat},i<j->j<l.length->(Xg l i).1<(Xg l j).1:=by
 have hstep:∀j,0<j->j<l.length->(Xg l (j-1)).1<(Xg l j).1:=λj h0 hj=>by
  unfold Yy at h
  split at h
  ·cases h
  split at h
  ·cases h
  have:=YI.1 h j (Tj _) (by omega)
  unfold Xt at this
  split at this
  ·contradiction
  split at this
  ·cases this
  ·omega
 intro i j hij hj
 induction j with
 |zero=>omega
 |succ j ih=>
  have h1:=hstep (j+1) (by omega) hj
  rw[Nl]at h1
  rcases Nc i j with h2|h2
  ·have:=ih h2 (by omega);omega
  ·obtain rfl:i=j:=by omega
   exact h1
variable {q:List Rqs}
theorem Ydb{n:Net}{s:Sch}{nodes:Int}(hf:(Yy nodes (Ys q)).2=0){P:Clm->Bool}{k:Nat}(hx:q[k]? =some x)(hp:P (clmE n s x)=true)(hid:∀c,P c=true->c.flow=x.1.1):(q.map (clmE n s)).find? P=some (clmE n s x):=by
 have hk:=(Tc.1 hx).1
 have hat:∀{i:Nat}{y:Rqs},q[i]? =some y->Xg (Ys q) i=y.1:=λ{i y} h=>by
  unfold Xg Ys
  rw[Tu,TX,h];rfl
 refine(Ya0 (c:=q.map (clmE n s)) (i:=k) ?_ ?_ hp).2
 ·intro y hy
  obtain⟨j,hj⟩:=TO.1 hy
  rw[Sl]at hj
  split at hj
  ·rename_i hjk
   rw[TX]at hj
   obtain⟨z,hz,rfl⟩:∃z,q[j]? =some z/\clmE n s z=y:=by
    cases h:q[j]? with
    |none=>rw[h]at hj;cases hj
    |some z=>rw[h]at hj;exact⟨z,rfl,Tv hj⟩
   cases hb:P (clmE n s z)with
   |false=>rfl
   |true=>
    have h1:=hid _ hb
    have h2:=YaW hf hjk (by unfold Ys;rw[TC];exact hk)
    rw[hat hz,hat hx]at h2
    have h3:(clmE n s z).flow=z.1.1:=rfl
    omega
  ·cases hj
 ·rw[TX,hx];rfl
theorem max_le:∀(l:List Int) (a m:Int),a<=m->(∀z∈l,z<=m)->l.foldl (λx y=>if x<y then y else x) a<=m
 |[],_,_,h,_=>h
 |z::l,a,m,h,hl=>by
  rw[R7]
  refine max_le l _ m ?_ λy hy=>hl y (Tz _ hy)
  have:=hl z TB
  split<;>omega
theorem Ysv{l:List Int}{m:Int}(hne:1<=l.length)(h:∀z∈l,z<=m):maxI l<=m:=by
 cases l with
 |nil=>exact absurd hne (by decide)
 |cons a l=>exact max_le l a m (h a TB) λz hz=>h z (Tz _ hz)
structure SvM(n:NetM)(s:SchM)(q:List Rqs):Prop where
 adm:(Ytc (q.map (clmE n.net s.sch)) (Ys q) q.length).length=q.length
 bnd:∀x∈q,bndE (q.map (clmE n.net s.sch)) x.1.1=(minI (clmE n.net s.sch x).bounds,true)
 lst:∀x∈q,Ykv n.net s.sch x.1 x.2=(minI (clmE n.net s.sch x).bounds,0)
theorem Yoi(h:(YM n.net q s.sch).2.2=0):SvM n s q:=by
 obtain⟨h1,h2⟩:=XJ.1 h
 have hf:(Yy n.net.nodes (Ys q)).2=0:=(Vt (X5.1 h1).whole).2.1
 have hx:∀x∈q,(1<=x.2.length)/\∀r∈x.2,(YT n.net s.sch x.1 r).2=0/\(YT n.net s.sch x.1 r).1.1<=x.1.2.2.2.2.2:=λx hx=>by
  have hw:=h2 x hx
  unfold W5 at hw
  rw[To,Tt]at hw
  have hl:=hw.2
  simp only[RO]at hl
  exact⟨by rcases hw.1 with h3|h3<;>omega,λr hr=>Ycf hl hr⟩
 have hbl:∀x:Rqs,(clmE n.net s.sch x).bounds.length=x.2.length:=λx=>by
  show(x.2.map _).length=_
  rw[TC]
 refine⟨?_,λx hxm=>?_,λx hxm=>Yp6 (hx x hxm).1 λr hr=>((hx x hxm).2 r hr).1⟩
 ·unfold Ytc
  rw[TC]
  have hall:(List.range q.length).filter (λk=>admB (q.map (clmE n.net s.sch)) (Xg (Ys q) k))=List.range q.length:=by
   rw[List.filter_eq_self]
   intro k hk
   have hk:=Rf.1 hk
   have hxk:=V3 hk
   have hfk:Xg (Ys q) k=(rqAt q k).1:=by
    unfold Xg Ys
    rw[Tu,TX,hxk];rfl
   have hc:=Ydb (n:=n.net) (s:=s.sch) hf (P:=λc=>decide (c.flow=(rqAt q k).1.1)) hxk (Ti rfl) (λc hc=>TY hc)
   rw[hfk]
   unfold admB
   rw[hc]
   have hm:=hx _ (Yay hk)
   show(decide (0<(clmE n.net s.sch (rqAt q k)).bounds.length)&&decide (maxI (clmE n.net s.sch (rqAt q k)).bounds<=_))=true
   rw[To,Tt,Tt]
   refine⟨by rw[hbl];omega,Ysv (by rw[hbl];omega) λz hz=>?_⟩
   obtain⟨r,hr,rfl⟩:=TD.1 (show z∈(rqAt q k).2.map λr=>(YT n.net s.sch (rqAt q k).1 r).1.1 from hz)
   exact(hm.2 r hr).2
  rw[hall,NN]
 ·obtain⟨k,hk,rfl⟩:=YdH hxm
  have hc:=Ydb (n:=n.net) (s:=s.sch) hf (P:=λc=>decide (c.flow=(rqAt q k).1.1)&&decide (0<c.bounds.length)) (V3 hk) (by
   rw[To,Tt,Tt]
   exact⟨rfl,by rw[hbl];have:=(hx _ (Yay hk)).1;omega⟩) (λc hc=>by
   rw[To,Tt]at hc
   exact hc.1)
  unfold bndE
  rw[hc]
structure Sm(n:Net)(l:List Flw)(s:Sch):Prop where
 ck:Yo n=0
 fl:(Yy n.nodes l).2=0
 per:∀f∈l,s.len.tmod f.2.2.2.1=0
 sized:ZD s=true
 formed:∀c∈s.cells,Z1 s c=true
 ord:Ord s.cells
 good:∀c∈s.cells,YG n (YC c) (toC c)=true/\0<=Jd l (Xr c)
 once:s.cells.Pairwise λa b=>a.1=b.1->YH a b=false
 clear:∀c∈s.cells,Vu n s.cells c=true
variable {n:Net}{l:List Flw}{s:Sch}
theorem Sem.sm(h:Sem n l s):Sm n l s:=⟨h.ck,h.fl,h.per,h.frm.sized,h.frm.formed,h.frm.ord,h.good,h.once,h.clear⟩
theorem Sm.sem(h:Sm n l s)(hl:s.cells.length<=512):Sem n l s:=⟨h.ck,h.fl,h.per,⟨h.sized,hl,h.formed,h.ord⟩,h.good,h.once,h.clear⟩
theorem YfR{node:Int}{l m:List Cel}(h:l.Perm m):Go.Proofs.YtambgjgljcadlaaGreatDoor.sumC n node l=Go.Proofs.YtambgjgljcadlaaGreatDoor.sumC n node m:=by
 induction h with
 |nil=>rfl
 |cons a _ ih=>rw[XS,XS,ih]
 |swap a b l=>rw[XS,XS,XS,XS];omega
 |trans _ _ h1 h2=>rw[h1,h2]
variable {slot o a b:Int}
theorem Yik{l:List Cel}(h:fitE n l slot o a b=true)(id:Int):(∀d∈l,d.1=slot->YH d (slot,o,a,b,id)=false)/\JC n (l.filter (atP slot o)++[(slot,o,a,b,id)])=true:=by
 unfold fitE at h
 rw[To]at h
 obtain⟨h1,h2⟩:=h
 refine⟨λd hd e=>?_,?_⟩
 ·rw[RO,RN]at h1
  have:=h1 d hd
  rw[Ti e,Sj,Bool.not_eq_true]at this
  rw[<-this]
  exact(OP (c:=(slot,o,a,b,id)) (c':=(0,0,a,b,0)) rfl rfl).2
 ·rw[<-h2,Ydm (c':=(slot,o,a,b,id)) rfl rfl,Ydm (c:=(0,0,a,b,0)) (c':=(slot,o,a,b,id)) rfl rfl]
theorem Ysd{l:List Cel}(h:fitE n l slot o a b=true)(id:Int):(slot,o,a,b,id)∉l:=λhm=>by
 have:=(Yik h id).1 _ hm rfl
 unfold YH at this
 exact of_decide_eq_false this (.inl rfl)
theorem Ybz{m d:Int}(h:Zk n m d=true):Z9 n m d=true:=by
 unfold Zk at h
 simp only[To]at h
 exact h.2.2
theorem Sm.ins(h:Sm n l s){id:Int}(hs:0<=slot/\slot<s.len)(ho:0<=o/\o<s.off)(hg:YG n a b=true)(hid:0<=Jd l id)(hib:0<=id/\id<256)(hfit:fitE n s.cells slot o a b=true):
 Sm n l ⟨s.len,s.off,insC s.cells (slot,o,a,b,id)⟩:=by
 have hok:=YN h.ck
 have hgn:=Xy hok hg
 have hn:=hok.n1
 obtain⟨ht,hgl⟩:=Yik hfit id
 have hnew:=Ysd hfit id
 have hperm:=YiA s.cells (slot,o,a,b,id)
 refine⟨h.ck,h.fl,h.per,h.sized,λc hc=>?_,Ysr h.ord hnew,λc hc=>?_,?_,λc hc=>?_⟩
 ·rcases O6.1 hc with rfl|hc
  ·unfold Z1 ZI insE
   rw[Ti hs,Ti ho,Ti (show 0<=a/\a<32 by omega),Ti (show 0<=b/\b<32 by omega),Ti hib]
   rfl
  ·exact h.formed c hc
 ·rcases O6.1 hc with rfl|hc
  ·exact⟨hg,hid⟩
  ·exact h.good c hc
 ·refine(hperm.pairwise_iff (λ{x y} hxy e=>by rw[Vd];exact hxy e.symm)).2 (.cons (λd hd e=>?_) h.once)
  rw[Vd]
  exact ht d hd e.symm
 ·by_cases hp:c.1=slot/\c.2.1=o
  ·have hX:(s.cells.filter (atP slot o)++[(slot,o,a,b,id)]).Nodup:=by
    rw[Rn]
    refine⟨(Ya5 h.ord).sublist SG,by simp,λx hx y hy e=>?_⟩
    rw[TU.1 hy]at e
    subst e
    exact hnew (Ro.1 hx).1
   generalize hXe:s.cells.filter (atP slot o)++[(slot,o,a,b,id)]=X at hX hgl
   have hcX:c∈X:=by
    rw[<-hXe]
    rcases O6.1 hc with rfl|hc
    ·simp
    ·exact RL _ (Ro.2 ⟨hc,Ti hp⟩)
   obtain⟨j,hj⟩:=TO.1 hcX
   have hjl:=(Tc.1 hj).1
   have hd:∀node,Yz n X j node X.length=Uw n (insC s.cells (slot,o,a,b,id)) c node:=λnode=>by
    rw[Yc0 hX hj node _ (TK _),TQ]
    unfold Uw
    refine YfR ?_
    have e1:(insC s.cells (slot,o,a,b,id)).filter (λd=>XM c d&&decide (d≠c))=((insC s.cells (slot,o,a,b,id)).filter (XM c)).filter λd=>decide (d≠c):=by
     rw[Ss]
     exact SJ λx _=>N5 _ _
    rw[e1]
    refine List.Perm.filter _ ?_
    have e2:XM c=atP slot o:=by
     obtain⟨c1,c2,c3⟩:=c
     obtain⟨rfl,rfl⟩:=hp
     rfl
    rw[e2,<-hXe]
    refine List.Perm.trans ?_ (hperm.filter _).symm
    rw[SA,Tm (show atP slot o (slot,o,a,b,id)=true from Ti ⟨rfl,rfl⟩)]
    exact NL
   unfold JC at hgl
   rw[To]at hgl
   have hpf:=T8.1 hgl.2 j (Rf.2 hjl)
   have hcl:celL X j=c:=by unfold celL;rw[Tu,hj];rfl
   unfold ZH at hpf
   rw[hcl,hd,hd]at hpf
   simp only[Bool.not_or,Bool.not_not,To]at hpf
   unfold Vu
   rw[Ybz hpf.2.1,Ybz hpf.2.2];rfl
  ·have hcs:c∈s.cells:=by
    rcases O6.1 hc with rfl|hc
    ·exact absurd ⟨rfl,rfl⟩ hp
    ·exact hc
   have hd:∀node,Uw n (insC s.cells (slot,o,a,b,id)) c node=Uw n s.cells c node:=λnode=>by
    unfold Uw
    refine(YfR (hperm.filter _)).trans ?_
    rw[SA,Td]
    rw[To]
    rintro⟨h1,-⟩
    exact hp (by have:=TY h1;exact⟨this.1.symm,this.2.symm⟩)
   have:=h.clear c hcs
   unfold Vu at this⊢
   rw[hd,hd]
   exact this
structure Grow(id:Int)(s t:Sch):Prop where
 len:t.len=s.len
 off:t.off=s.off
 sub:∀c∈s.cells,c∈t.cells
 oth:∀p:Cel->Bool,(∀c,Xr c=id->p c=false)->t.cells.filter p=s.cells.filter p
theorem Grow.refl(id:Int)(s:Sch):Grow id s s:=⟨rfl,rfl,λ_ h=>h,λ_ _=>rfl⟩
variable {id a b:Int}{s t u:Sch}
theorem Grow.trans(h:Grow id s t)(k:Grow id t u):Grow id s u:=⟨k.len.trans h.len,k.off.trans h.off,λc hc=>k.sub c (h.sub c hc),λp hp=>(k.oth p hp).trans (h.oth p hp)⟩
structure LkOk(n:Net)(l:List Flw)(a b id:Int):Prop where
 g:YG n a b=true
 f:0<=Jd l id
 i:0<=id/\id<256
theorem Yjl{n:Net}{l:List Flw}{slot:Int}(h:Sm n l s)(hk:LkOk n l a b id)(hs:0<=slot/\slot<s.len)(ht:JN n s a b id slot=some t):Sm n l t/\Grow id s t/\hasC t.cells slot a b id=true:=by
 unfold JN at ht
 by_cases hh:hasC s.cells slot a b id=true
 ·rw[Tm hh]at ht
  obtain rfl:=Tv ht
  exact⟨h,.refl _ _,hh⟩
 rw[Td hh]at ht
 cases hf:(List.range s.off.toNat).find? λo:Nat=>fitE n s.cells slot o a b with
 |none=>rw[hf]at ht;cases ht
 |some o=>
  rw[hf]at ht
  obtain rfl:=Tv ht
  have h1:=List.find?_some hf
  have h2:=Rf.1 (List.mem_of_find?_eq_some hf)
  refine⟨h.ins hs (by omega) hk.g hk.f hk.i h1,⟨rfl,rfl,λc hc=>O6.2 (.inr hc),λp hp=>?_⟩,?_⟩
  ·show(insC s.cells (slot,(o:Int),a,b,id)).filter p=_
   unfold insC
   rw[SN,SA,Td (by rw[hp _ rfl];decide),<-SN,Rk]
  ·exact TR.2 ⟨(slot,(o:Int),a,b,id),O6.2 (.inl rfl),Ti ⟨rfl,rfl,rfl,rfl⟩⟩
structure Sup(t u:Sch):Prop where
 len:u.len=t.len
 sub:∀c∈t.cells,c∈u.cells
theorem Grow.sup(h:Grow id s t)(k:Sup t u):Sup s u:=⟨k.len.trans h.len,λc hc=>k.sub c (h.sub c hc)⟩
theorem Yse{loss z:Int}(h:hasC u.cells (z.tmod u.len) a b id=true):1<=slC u.len (Xu u id (a,b,loss)) z:=by
 obtain⟨d,hd,h1⟩:=TR.1 h
 have h1:=TY h1
 refine List.length_pos_of_mem (a:=d) (Ro.2 ⟨Ro.2 ⟨hd,Ti ⟨h1.2.2.2,h1.2.1,h1.2.2.1⟩⟩,Ti h1.1⟩)
theorem Ygy{n:Net}{l:List Flw}{a b id:Int}(hk:LkOk n l a b id)(loss:Int):∀(f k:Nat) {s t:Sch}{z y:Int},Sm n l s->0<=z->1<=s.len->hopA n a b id f k s z=some (t,y)->
 Sm n l t/\Grow id s t/\(z<=y/\y<=z+f)/\∀u,Sup t u->k<=cntS u.len (Xu u id (a,b,loss)) (y-z).toNat z
 |0,0,s,t,z,y,h,_,_,e=>by
  obtain⟨rfl,rfl⟩:=Prod.mk.inj (Tv (show some (s,z)=some (t,y) from e))
  exact⟨h,.refl _ _,by omega,λu _=>Tj _⟩
 |f+1,0,s,t,z,y,h,_,_,e=>by
  obtain⟨rfl,rfl⟩:=Prod.mk.inj (Tv (show some (s,z)=some (t,y) from e))
  exact⟨h,.refl _ _,by omega,λu _=>Tj _⟩
 |0,k+1,s,t,z,y,h,_,_,e=>by cases e
 |f+1,k+1,s,t,z,y,h,hz,hl,e=>by
  rw[hopA]at e
  have hm:0<=z.tmod s.len/\z.tmod s.len<s.len:=by
   rw[RJ hz]
   exact⟨Int.emod_nonneg _ (by omega),Int.emod_lt_of_pos _ (by omega)⟩
  cases hs:JN n s a b id (z.tmod s.len)with
  |none=>
   rw[hs]at e
   obtain⟨h1,h2,h3,h4⟩:=Ygy hk loss f (k+1) h (show 0<=z+1 by omega) hl e
   refine⟨h1,h2,by omega,λu hu=>?_⟩
   have:=h4 u hu
   rw[show(y-z).toNat=(y-(z+1)).toNat+1 by omega,cntS]
   omega
  |some t1=>
   rw[hs]at e
   obtain⟨g1,g2,g3⟩:=Yjl h hk hm hs
   obtain⟨h1,h2,h3,h4⟩:=Ygy hk loss f k g1 (show 0<=z+1 by omega) (by rw[g2.len];exact hl) e
   refine⟨h1,g2.trans h2,by omega,λu hu=>?_⟩
   have:=h4 u hu
   have hsu:=(g2.trans h2).sup hu
   have h5:1<=slC u.len (Xu u id (a,b,loss)) z:=Yse (by
    obtain⟨d,hd,h6⟩:=TR.1 g3
    refine TR.2 ⟨d,(h2.sup hu).sub d hd,?_⟩
    rw[hsu.len];exact h6)
   rw[show(y-z).toNat=(y-(z+1)).toNat+1 by omega,cntS]
   omega
theorem YgV{n:Net}{l:List Flw}{id endd:Int}:∀(ls:List Lk) {s t:Sch}{z:Int},(∀x∈ls,LkOk n l x.1 x.2.1 id)->Sm n l s->0<=z->z<=endd->1<=s.len->relA n id endd ls s z=some t->
 Sm n l t/\Grow id s t/\∀u,Sup t u->∃y,y<=endd/\WayT u.len (Xu u id) ls z y
 |[],s,t,z,_,h,_,hze,_,e=>by
  obtain rfl:=Tv (show some s=some t from e)
  exact⟨h,.refl _ _,λu _=>⟨z,hze,Ry _⟩⟩
 |x::ls,s,t,z,hk,h,hz,hze,hl,e=>by
  rw[relA]at e
  cases hs:hopA n x.1 x.2.1 id (endd-z).toNat (Y8 x) s z with
  |none=>rw[hs]at e;cases e
  |some w=>
   obtain⟨t1,y1⟩:=w
   rw[hs]at e
   obtain⟨g1,g2,g3,g4⟩:=Ygy (hk x TB) x.2.2 _ _ h hz hl hs
   obtain⟨h1,h2,h3⟩:=YgV ls (λy hy=>hk y (Tz _ hy)) g1 (by omega) (by omega) (by rw[g2.len];exact hl) e
   refine⟨h1,g2.trans h2,λu hu=>?_⟩
   obtain⟨y,k1,k2⟩:=h3 u hu
   exact⟨y,k1,y1,g3.1,g4 u (h2.sup hu),k2⟩
theorem Yi9{n:Net}{l:List Flw}{f:Flw}{ls:List Lk}(hk:∀x∈ls,LkOk n l x.1 x.2.1 f.1)(hd:0<=f.2.2.2.2.2)(hp:1<=f.2.2.2.1):∀(k:Nat) {s t:Sch}{z:Int},Sm n l s->0<=z->1<=s.len->Yax n f ls k s z=some t->
 Sm n l t/\Grow f.1 s t/\∀u,Sup t u->∀i:Nat,i<k->z+i*f.2.2.2.1<s.len->∃y,y<=z+i*f.2.2.2.1+f.2.2.2.2.2/\WayT u.len (Xu u f.1) ls (z+i*f.2.2.2.1) y
 |0,s,t,z,h,_,_,e=>by
  obtain rfl:=Tv (show some s=some t from e)
  exact⟨h,.refl _ _,λu _ i hi=>absurd hi (R9 _)⟩
 |k+1,s,t,z,h,hz,hl,e=>by
  rw[Yax]at e
  by_cases hzl:z<s.len
  rotate_left
  ·rw[Td hzl]at e
   obtain rfl:=Tv e
   refine⟨h,.refl _ _,λu _ i _ hi=>?_⟩
   have:0<=(i:Int)*f.2.2.2.1:=Int.mul_nonneg (by omega) (by omega)
   omega
  rw[Tm hzl]at e
  cases hs:relA n f.1 (z+f.2.2.2.2.2) ls s z with
  |none=>rw[hs]at e;cases e
  |some t1=>
   rw[hs]at e
   obtain⟨g1,g2,g3⟩:=YgV ls hk h hz (by omega) hl hs
   obtain⟨h1,h2,h3⟩:=Yi9 hk hd hp k (z:=z+f.2.2.2.1) g1 (by omega) (by rw[g2.len];exact hl) e
   refine⟨h1,g2.trans h2,λu hu i hi hil=>?_⟩
   cases i with
   |zero=>
    obtain⟨y,k1,k2⟩:=g3 u (h2.sup hu)
    refine⟨y,?_,?_⟩
    ·simpa using k1
    ·simpa using k2
   |succ i=>
    have e1:z+((i+1:Nat):Int)*f.2.2.2.1=z+f.2.2.2.1+(i:Int)*f.2.2.2.1:=by
     rw[show((i+1:Nat):Int)=(i:Int)+1 by omega,Int.add_mul];omega
    rw[e1]at hil⊢
    exact h3 u hu i (by omega) (by rw[g2.len];exact hil)
theorem YfF{n:Net}{l:List Flw}{f:Flw}(hd:0<=f.2.2.2.2.2)(hp:1<=f.2.2.2.1)(h0:0<=f.2.2.2.2.1):∀(rs:List (List Int)) {s t:Sch},(∀r∈rs,∀x∈Yr n r,LkOk n l x.1 x.2.1 f.1)->Sm n l s->1<=s.len->JJ n f rs s=some t->
 Sm n l t/\Grow f.1 s t/\∀u,Sup t u->∀r∈rs,∀i:Nat,f.2.2.2.2.1+i*f.2.2.2.1<s.len->∃y,y<=f.2.2.2.2.1+i*f.2.2.2.1+f.2.2.2.2.2/\WayT u.len (Xu u f.1) (Yr n r) (f.2.2.2.2.1+i*f.2.2.2.1) y
 |[],s,t,_,h,_,e=>by
  obtain rfl:=Tv (show some s=some t from e)
  exact⟨h,.refl _ _,λu _ r hr=>by cases hr⟩
 |r::rs,s,t,hk,h,hl,e=>by
  rw[JJ]at e
  cases hs:Yax n f (Yr n r) s.len.toNat s f.2.2.2.2.1 with
  |none=>rw[hs]at e;cases e
  |some t1=>
   rw[hs]at e
   obtain⟨g1,g2,g3⟩:=Yi9 (hk r TB) hd hp s.len.toNat h h0 hl hs
   obtain⟨h1,h2,h3⟩:=YfF hd hp h0 rs (λx hx=>hk x (Tz _ hx)) g1 (by rw[g2.len];exact hl) e
   refine⟨h1,g2.trans h2,λu hu x hx i hi=>?_⟩
   rcases TI.1 hx with rfl|hx
   ·refine g3 u (h2.sup hu) i ?_ hi
    have:(i:Int)<=i*f.2.2.2.1:=by
     have:=SK hp (show(0:Int)<=i by omega)
     rw[Int.mul_one]at this
     exact this
    omega
   ·exact h3 u hu x hx i (by rw[g2.len];exact hi)
variable {r:List Int}
theorem Yq7:Ybd r=false↔r.Nodup:=by
 unfold Ybd
 rw[RN]
 constructor
 ·intro h
  refine Re.2 λi j hi hj hij e=>?_
  have h1:=h j (Rf.2 hj)
  apply h1
  rw[List.contains_iff_mem,Tu,Ta hj,Option.getD_some,<-e]
  refine TO.2 ⟨i,?_⟩
  rw[List.getElem?_take_of_lt hij,Ta hi]
 ·intro h i hi hc
  have hi:=Rf.1 hi
  rw[List.contains_iff_mem,Tu,Ta hi,Option.getD_some]at hc
  obtain⟨k,hk⟩:=TO.1 hc
  have hki:k<i:=by
   have:=(Tc.1 hk).1
   rw[TA]at this
   omega
  rw[List.getElem?_take_of_lt hki]at hk
  obtain⟨h1,h2⟩:=Tc.1 hk
  exact Re.1 h k i h1 hi hki h2
theorem YcM{n:Net}{b:Int}{r:List Int}(hl:r.getD (r.length-1) 0=b)(hnd:r.Nodup)(hk:∀i,i+1<r.length->(ZO n r i).1=r.getD i 0/\(ZO n r i).2.1=r.getD (i+1) 0):∀(m i:Nat),i+m+1=r.length->
 Chain b (r.getD i 0) ((List.range' i m).map (ZO n r))
 |0,i,h=>by
  show r.getD i 0=b
  rw[<-hl,show r.length-1=i by omega]
 |m+1,i,h=>by
  rw[List.range'_succ,Ru]
  obtain⟨h1,h2⟩:=hk i (by omega)
  refine⟨h1.symm,λe=>?_,?_⟩
  ·rw[<-hl]at e
   rw[Tu,Tu,Ta (show i<r.length by omega),Ta (show r.length-1<r.length by omega)]at e
   exact Re.1 hnd i (r.length-1) (by omega) (by omega) (by omega) (Tv (by simpa using e))
  ·rw[h2]
   exact YcM hl hnd hk m (i+1) (by omega)
theorem OA{n:Net}{a b:Int}(h:Zy n a b r=0):Chain b a (Yr n r)/\(∀x∈Yr n r,0<=x.2.2)/\Yr n r≠[]/\r.Nodup/\
 ∀i,i+1<r.length->(ZO n r i).1=r.getD i 0/\(ZO n r i).2.1=r.getD (i+1) 0:=by
 have h':=h
 unfold Zy at h
 by_cases h0:Jo n a b=0
 rotate_left
 ·rw[Tm h0]at h;exact absurd h h0
 rw[Td (λe=>e h0)]at h
 obtain⟨hlen,-,⟨hs,ht⟩,htw,-⟩:=Yab h
 obtain⟨hck,-,hg⟩:=J3 h'
 have hok:=YN hck
 have hnd:=Yq7.1 htw
 have hk:∀i,i+1<r.length->(ZO n r i).1=r.getD i 0/\(ZO n r i).2.1=r.getD (i+1) 0:=λi hi=>U4 (U6 (hg i hi))
 refine⟨?_,λx hx=>?_,?_,hnd,hk⟩
 ·have:=YcM ht hnd hk (r.length-1) 0 (by omega)
  rw[hs]at this
  unfold Yr
  rw[List.range_eq_range']
  exact this
 ·unfold Yr at hx
  obtain⟨i,hi,rfl⟩:=TD.1 hx
  have hi:=Rf.1 hi
  exact(Yan hok (r.getD i 0) (r.getD (i+1) 0)).1
 ·intro e
  have:=TE List.length e
  unfold Yr at this
  simp at this
  omega
def posQ(q:List Rqs)(id:Int):Nat:=(q.takeWhile λy=>decide (y.1.1<id)).length
def insQ(q:List Rqs)(x:Rqs):List Rqs:=q.take (posQ q x.1.1)++x::q.drop (posQ q x.1.1)
variable {q:List Rqs}{x:Rqs}
theorem JD{y:Rqs}:y∈insQ q x↔y=x\/y∈q:=by
 have h:y∈q↔y∈q.take (posQ q x.1.1)\/y∈q.drop (posQ q x.1.1):=by grind [Rk]
 grind [insQ]
variable {l:List Flw}{f:Flw}
theorem V0{nodes:Int}(h:(Yy nodes l).2=0)(hf:f∈l):XD nodes f=0:=by
 obtain⟨j,hj,rfl⟩:=List.mem_iff_getElem.1 hf
 unfold Yy at h
 split at h
 ·cases h
 split at h
 ·cases h
 have:=YI.1 h j (Tj _) (by omega)
 unfold Xt at this
 split at this
 all_goals simp_all [Xg]
theorem XL{nodes:Int}(hf:XD nodes f=0):(0<=f.1/\f.1<256)/\(1<=f.2.2.2.1/\f.2.2.2.1<=512)/\(0<=f.2.2.2.2.1/\f.2.2.2.2.1<f.2.2.2.1)/\f.2.1≠f.2.2.1/\(1<=f.2.2.2.2.2/\f.2.2.2.2.2<=f.2.2.2.1):=by
 unfold XD at hf
 omega
theorem Z0{id:Int}:0<=Jd l id↔∃f∈l,f.1=id:=by
 unfold Jd
 rw[VO _ _ _ (Ry 0),TR]
 simp_all
variable {n:Net}{s t:Sch}{r:List Int}
theorem YkX(hl:t.len=s.len)(hs:Xm s=true)(ht:Xm t=true)(hc:∀l,Xu t f.1 l=Xu s f.1 l):YT n t f r=YT n s f r:=by
 have h1:wayE n t f r=wayE n s f r:=by grind [wayE]
 have h2:ZL n t f r=ZL n s f r:=by
  have:Xu t f.1=Xu s f.1:=funext hc
  unfold ZL
  have h3:Vb n t f r=Vb n s f r:=by grind [Vb]
  simp_all
 grind [YT]
theorem YoE(hl:t.len=s.len)(hs:Xm s=true)(ht:Xm t=true)(hc:∀l,Xu t x.1.1 l=Xu s x.1.1 l):W5 n t x=W5 n s x:=by
 unfold W5 Jq
 have:badR n t x.1=badR n s x.1:=by grind [badR,YkX]
 rw[this]
theorem YdY(hw:wayE n t f r=0)(h:∀i:Nat,f.2.2.2.2.1+i*f.2.2.2.1<t.len->∃y,y<=f.2.2.2.2.1+i*f.2.2.2.1+f.2.2.2.2.2/\WayT t.len (Xu t f.1) (Yr n r) (f.2.2.2.2.1+i*f.2.2.2.1) y):
 (YT n t f r).2=0/\(YT n t f r).1.1<=f.2.2.2.2.2:=by
 obtain⟨-,-,hf,-,hck⟩:=Ybe hw
 obtain⟨-,hp,h0,-,hd⟩:=XL hf
 obtain⟨-,hloss,hne,-,-⟩:=OA hck
 obtain⟨b,hb,hbd⟩:=YlB (S:=Vb n t f r) (len:=t.len) (per:=f.2.2.2.1) (d:=f.2.2.2.2.2) hp.1 (fuel:=t.len.toNat) (rel:=f.2.2.2.2.1) (b:=(0,0,[])) (by omega) (λi hi=>by
  obtain⟨y,h1,h2⟩:=h i hi
  obtain⟨l,h3,h4⟩:=YoG hne hloss (by omega) h2
  grind)
 have hbe:ZL n t f r=some b:=hb
 unfold YT
 simp_all
theorem UO(h:(rqsE n q).2=0):Yo n=0/\(Yy n.nodes (Ys q)).2=0/\∀x∈q,rtsE n x=0:=by
 unfold rqsE at h
 by_cases h1:Yo n=0
 rotate_left
 ·simp_all
 by_cases h2:(Yy n.nodes (Ys q)).2=0
 rotate_left
 ·simp_all
 refine⟨h1,h2,λx hx=>?_⟩
 obtain⟨i,hi,rfl⟩:=YdH hx
 simp_all [YI]
theorem Va(h:rtsE n x=0):∀r∈x.2,Zy n x.1.2.1 x.1.2.2.1 r=0:=by
 intro r hr
 unfold rtsE at h
 split at h
 ·cases h
 split at h
 ·cases h
 split at h
 ·omega
 rename_i h3
 obtain⟨k,hk⟩:=TO.1 hr
 have hkl:=(Tc.1 hk).1
 have:=YI.1 (TN.1 h3) k (Tj _) (by omega)
 grind [rtAt]
theorem YdC{a b:Int}(h:Zy n a b r=0):∀x∈Yr n r,YG n x.1 x.2.1=true:=by
 obtain⟨-,-,-,-,hk⟩:=OA h
 obtain⟨-,-,hg⟩:=J3 h
 grind [Yr]
theorem Ygf(hc:(YM n q s).2.2=0)(hx:(rqsE n (insQ q x)).2=0)(hnew:∀y∈q,y.1.1≠x.1.1)(hm:s.len.tmod x.1.2.2.2.1=0)(hp:JJ n x.1 x.2 s=some t)(hl:t.cells.length<=512):
 (YM n (insQ q x) t).2.2=0/\Grow x.1.1 s t:=by
 obtain⟨h1,h2⟩:=XJ.1 hc
 have hsem:=Vh.1 (X5.1 h1)
 obtain⟨-,hfl,hrt⟩:=UO hx
 have hxm:x∈insQ q x:=by simp[JD]
 have hrx:=hrt x hxm
 have hfx:XD n.nodes x.1=0:=V0 hfl (TD.2 ⟨x,hxm,rfl⟩)
 obtain⟨hib,hper,hph,-,hd⟩:=XL hfx
 have hsz:1<=s.len:=by
  have:=hsem.frm.sized
  unfold ZD at this
  simp_all
 have hsm:Sm n (Ys (insQ q x)) s:=by
  have h0:=hsem.sm
  refine⟨h0.ck,hfl,λf hf=>?_,h0.sized,h0.formed,h0.ord,λc hcm=>⟨(h0.good c hcm).1,?_⟩,h0.once,h0.clear⟩
  ·obtain⟨y,hy,rfl⟩:=TD.1 hf
   rcases JD.1 hy with rfl|hy
   ·exact hm
   ·exact h0.per _ (TD.2 ⟨y,hy,rfl⟩)
  ·obtain⟨f,hf,e⟩:=Z0.1 (h0.good c hcm).2
   obtain⟨y,hy,rfl⟩:=TD.1 hf
   exact Z0.2 ⟨y.1,TD.2 ⟨y,JD.2 (.inr hy),rfl⟩,e⟩
 have hfi:0<=Jd (Ys (insQ q x)) x.1.1:=Z0.2 ⟨x.1,TD.2 ⟨x,hxm,rfl⟩,rfl⟩
 obtain⟨g1,g2,g3⟩:=YfF (l:=Ys (insQ q x)) (by omega) hper.1 hph.1 x.2 (λr hr y hy=>⟨YdC (Va hrx r hr) y hy,hfi,hib⟩) hsm hsz hp
 have hsem2:=g1.sem hl
 have hft:=XV.2 hsem2.frm
 have hfs:=XV.2 hsem.frm
 refine⟨XJ.2 ⟨X5.2 (Vh.2 hsem2),λy hy=>?_⟩,g2⟩
 rcases JD.1 hy with rfl|hy
 ·unfold W5
  rw[To,Tt]
  refine⟨Yaz hrx,?_⟩
  unfold Jq
  rw[RO,RN]
  intro r hr
  have hway:wayE n t y.1 r=0:=by
   unfold wayE
   rw[hft,Td (by rintro(h|h|h);exact h g1.ck;cases h;exact h hfx),Td (λe=>e (by rw[g2.len];exact hm))]
   exact Va hrx r hr
  have:=YdY hway λi hi=>g3 t ⟨rfl,λ_ h=>h⟩ r hr i (by rw[<-g2.len];exact hi)
  unfold badR
  rw[Tt]
  omega
 ·rw[YoE g2.len hfs hft λl=>g2.oth _ λc e=>by
   refine Tn λh=>?_
   exact hnew y hy (h.1.symm.trans e)]
  exact h2 y hy
theorem QQ{len a:Int}:∀{cs:List Cel}{k:Nat}{p:Cel×Int},p∈Xh len a cs k->p.1∈cs
 |[],k,p,h=>by cases h
 |c::cs,k,p,h=>by
  unfold Xh at h
  split at h
  ·rcases TI.1 h with rfl|h
   ·simp_all
   ·exact Tz _ (QQ h)
  ·exact Tz _ (QQ h)
theorem O3{len:Int}{cs:List Cel}:∀{f k:Nat}{a:Int}{p:Cel×Int},p∈hopP len cs f k a->p.1∈cs
 |0,k,a,p,h=>by cases h
 |f+1,k,a,p,h=>by
  rcases TJ.1 h with h|h
  ·exact QQ h
  ·exact O3 h
theorem YfM{s:Sch}{id len endd:Int}:∀{ls:List Lk}{a:Int}{p:Cel×Int},p∈runP len (Xu s id) endd ls a->p.1∈s.cells
 |[],a,p,h=>by cases h
 |l::ls,a,p,h=>by
  unfold runP at h
  split at h
  ·exact(Ro.1 (O3 h)).1
  ·rcases TJ.1 h with h|h
   ·exact(Ro.1 (O3 h)).1
   ·exact YfM h
theorem Yla{l m:List Cel}(hnd:m.Nodup)(h:l.Sublist m):l=m.filter λc=>decide (c∈l):=by
 induction h with
 |slnil=>rfl
 |@cons l m a h ih=>
  grind
 |@cons_cons l m a h ih=>
  have h3:m.filter (λc=>decide (c∈a::l))=m.filter (λc=>decide (c∈l)):=by grind [SJ]
  grind
def YwO(n:Net)(s:Sch)(f:Flw)(r:List Int)(c:Cel):Bool:=(List.range s.len.toNat).any λi=>decide (f.2.2.2.2.1+i*f.2.2.2.1<s.len)&&(runP s.len (Xu s f.1) (f.2.2.2.2.1+i*f.2.2.2.1+f.2.2.2.1) (Yr n r) (f.2.2.2.2.1+i*f.2.2.2.1)).any λp=>decide (p.1=c)
def Yuh(n:Net)(s:Sch)(x:Rqs)(c:Cel):Bool:=x.2.any λr=>YwO n s x.1 r c
theorem YkW(h:(YT n s f r).2=0){i:Nat}(hi:f.2.2.2.2.1+i*f.2.2.2.1<s.len):
 (runP s.len (Xu s f.1) (f.2.2.2.2.1+i*f.2.2.2.1+f.2.2.2.1) (Yr n r) (f.2.2.2.2.1+i*f.2.2.2.1)).length=Xv (Yr n r)/\
 Y1 (runP s.len (Xu s f.1) (f.2.2.2.2.1+i*f.2.2.2.1+f.2.2.2.1) (Yr n r) (f.2.2.2.2.1+i*f.2.2.2.1)) (f.2.2.2.2.1+i*f.2.2.2.1)<=f.2.2.2.2.1+i*f.2.2.2.1+(YT n s f r).1.1:=by
 obtain⟨hw,b,hb,he⟩:=ON h
 obtain⟨-,-,hf,-,hck⟩:=Ybe hw
 obtain⟨-,hp,h0,-,hd⟩:=XL hf
 obtain⟨-,hloss,hne,-,-⟩:=OA hck
 have hii:(i:Int)<=i*f.2.2.2.1:=by
  have:=SK hp.1 (show(0:Int)<=i by omega)
  rw[Int.mul_one]at this
  exact this
 obtain⟨-,h2⟩:=YhQ hp.1 (show Vz (Vb n s f r) s.len f.2.2.2.1 s.len.toNat f.2.2.2.2.1 (0,0,[])=some b from hb)
 obtain⟨l,h3,h4⟩:=h2 i (by omega) hi
 unfold Vb at h3
 rw[Yck]at h3
 split at h3
 ·cases h3
 rename_i hfull
 obtain rfl:=Tv h3
 have hrl:=YaA s.len (Xu s f.1) (f.2.2.2.2.1+i*f.2.2.2.1+f.2.2.2.1) (Yr n r) (f.2.2.2.2.1+i*f.2.2.2.1)
 have hn:1<=Xv (Yr n r):=by
  cases hl:Yr n r with
  |nil=>exact absurd hl hne
  |cons x xs=>
   have:=hloss x (by rw[hl];simp)
   unfold Xv
   rw[Ru,Nx]
   unfold Y8
   omega
 have hla:=Ydx (x:=runP s.len (Xu s f.1) (f.2.2.2.2.1+i*f.2.2.2.1+f.2.2.2.1) (Yr n r) (f.2.2.2.2.1+i*f.2.2.2.1)) (a:=f.2.2.2.2.1+i*f.2.2.2.1) (λe=>by rw[e]at hfull;simp only[Rq]at hfull;omega)
 rw[he]
 refine⟨by omega,?_⟩
 show _<=_+b.1
 omega
theorem YiI{q':List Rqs}(hc:(YM n q s).2.2=0)(hq:∀x∈q',x∈q)(hfl:(Yy n.nodes (Ys q')).2=0)(hlen:t.len=s.len)(hoff:t.off=s.off)(hsub:t.cells.Sublist s.cells)(hcf:∀c∈t.cells,∃x∈q',x.1.1=Xr c)
 (hu:∀x∈q',∀c∈s.cells,Yuh n s x c=true->c∈t.cells):(YM n q' t).2.2=0:=by
 obtain⟨h1,h2⟩:=XJ.1 hc
 have hsem:=Vh.1 (X5.1 h1)
 have hsem2:=hsem.sub hlen hoff hsub
 have hsem3:Sem n (Ys q') t:=by
  refine⟨hsem2.ck,hfl,λf hf=>?_,hsem2.frm,λc hcm=>⟨(hsem2.good c hcm).1,?_⟩,hsem2.once,hsem2.clear⟩
  ·obtain⟨y,hy,rfl⟩:=TD.1 hf
   exact hsem2.per _ (TD.2 ⟨y,hq y hy,rfl⟩)
  ·obtain⟨x,hx,e⟩:=hcf c hcm
   exact Z0.2 ⟨x.1,TD.2 ⟨x,hx,rfl⟩,e⟩
 have hft:=XV.2 hsem2.frm
 have hnd:=Ya5 hsem.frm.ord
 refine XJ.2 ⟨X5.2 (Vh.2 hsem3),λx hx=>?_⟩
 have hw:=h2 x (hq x hx)
 unfold W5 at hw⊢
 rw[To]at hw⊢
 refine⟨hw.1,?_⟩
 have hlate:=hw.2
 simp only[RO]at hlate
 unfold Jq
 rw[RO,RN]
 intro r hr
 obtain⟨k1,k2⟩:=Ycf hlate hr
 obtain⟨hway,-⟩:=ON k1
 obtain⟨a1,a2,a3,a4,a5⟩:=Ybe hway
 have hwayt:wayE n t x.1 r=0:=by
  unfold wayE
  rw[hft,Td (by rintro(h|h|h);exact h a1;cases h;exact h a3),Td (λe=>e (by rw[hlen];exact a4))]
  exact a5
 have:=YdY hwayt λi hi=>by
  rw[hlen]at hi
  obtain⟨e1,e2⟩:=YkW k1 hi
  refine⟨_,N7 e2 (by omega),?_⟩
  have hkeep:=Yjf (keep:=λc=>decide (c∈t.cells)) e1 λp hp=>Ti (by
   have hps:p.1∈s.cells:=YfM hp
   refine hu x hx p.1 hps ?_
   refine TR.2 ⟨r,hr,?_⟩
   have hii:(i:Int)<=i*x.1.2.2.2.1:=by
    have hp1:=(XL a3).2.1.1
    have:=SK hp1 (show(0:Int)<=i by omega)
    rw[Int.mul_one]at this
    exact this
   have h0:=(XL a3).2.2.1.1
   refine TR.2 ⟨i,Rf.2 (by omega),?_⟩
   rw[Ti hi,Sj]
   exact TR.2 ⟨p,hp,Ti rfl⟩)
  rw[hlen]
  refine hkeep.mono λl a=>?_
  have hte:∀p:Cel->Bool,t.cells.filter p=(s.cells.filter λc=>decide (c∈t.cells)).filter p:=λp=>TE (List.filter p) (Yla hnd hsub)
  unfold slC Xu
  rw[hte,Ss,Ss,Ss,Ss]
  refine Nat.le_of_eq (TE List.length (SJ λc _=>?_))
  cases(decide (c∈t.cells))<;>simp
 unfold badR
 rw[Tt]
 omega
open Go.RowKit Go.Eng Go.Nw
variable {B cap:Nat}{w0 w:World}{H:List HP}
theorem NetM.In.inM{K:List HP}{n:NetM}(h:n.In B w0 H)(hm:Eng.many H∈K):n.In B w0 K:=
 ⟨h.pw.inM hm,λr hr=>(h.rw_ r hr).inM hm,h.lk.inM hm,h.mg.inM hm,h.s1,h.s2,h.s3,h.s4⟩
theorem Yhd(a b:Cel)(hw:St B w0 H w):
 CX B w0 363 [celV a,celV b] w λv K=>v=.bool (YH a b)/\K=H:=by
 refine Yc Tryz.func363 Tryz.ntmps363 rfl rfl hw ?_
 have htc:YH a b=true↔(a.2.2.1=b.2.2.1\/a.2.2.1=b.2.2.2.1\/a.2.2.2.1=b.2.2.1\/a.2.2.2.1=b.2.2.2.1):=by unfold YH YC toC;simp_all
 obtain⟨z,hz⟩:∃z,YH a b=z:=⟨_,rfl⟩
 rw[hz]at htc⊢
 repeat'(first|apply(zs1 ?_)|apply(zs2 ?_)|(apply zg1;first|refine zs3 ?_|refine zs4 ?_)|(apply zg2;refine zs6 ?_)|(apply zg3;refine zs7 ?_)|(apply zg6;first|refine zs11 ?_|refine zs12 ?_)|(apply zg7;(refine zs15 ?_ ?_<;>intro _<;>try exact zo))|(apply zg23;(refine zs52 ?_;intro _))|apply(zs65 ?_)|apply(zs68 ?_)|apply(zs69 ?_)|apply(zs70 ?_)|apply(zs74 ?_)|fail)
 all_goals(
  apply Yi H
  ·exact zk
  apply Yd;exact rfl;exact rfl
  cases z<;>simp at htc<;>first|exact⟨rfl,rfl⟩|(exfalso;omega))
def Uy(_:Net)(l:List Cel)(i:Nat)(c:Cel)(k:Nat):Bool:=(List.range k).any λj=>decide (j≠i)&&YH c (celL l j)
theorem Yby(n:NetM)(l:List Cel)(i:Nat)(gn gl gi:Nat)(A:Option Addr)(cap:Nat)(lk node:Int)(hok:Ok n.net)(hnode:0<=node/\node<n.nodes)(hlk:0<=lk/\lk.toNat<n.net.links.length)(hlen:l.length<=1000)(hin:n.In B w0 H)(hr:Rd B w0 H A (l.flatMap celF))
 (h1:netN gn n∈H) (h2:blk gl (.cells #[.slice A l.length cap] 28 (0,0))∈H) (h3:blk gi (.cells #[.int .i64 i] 3 (0,0))∈H) (hw:St B w0 H w):
 CX B w0 364 [.int .i64 lk,.int .i64 node,.pointer (some ⟨gn,0,none⟩),.pointer (some ⟨gl,0,none⟩),.pointer (some ⟨gi,0,none⟩)] w λv K=>v=.bool (Zk n.net (mar n.net lk.toNat) (Yz n.net l i node l.length))/\K=H:=by
 refine Yc Tryz.func364 Tryz.ntmps364 rfl rfl hw ?_
 have hmg:=hin.mg
 have hs4:=hin.s4
 have hml:n.margin.length=n.net.links.length:=hok.k1
 have hm1:n.margin[lk.toNat]? =some (mar n.net lk.toNat):=zc38
 have p1:=λ{w:World}(hw:St B w0 H w)=>Yc1 n l i node hok hnode hlen (cap:=cap) hin hr hw
 obtain⟨d,hd⟩:∃d,Yz n.net l i node l.length=d:=⟨_,rfl⟩
 rw[hd]at p1⊢
 have p2:=λ{w:World}(hw:St B w0 H w)=>Qx n (mar n.net lk.toNat) d hin hw
 unfold netN at h1
 repeat'(first|apply(zs2 ?_)|apply(zs65 ?_)|apply(zs68 ?_)|apply(zs69 ?_)|apply(zs70 ?_)|fail)
 apply X7 [0,1,2,3,4,5,6,7,8,9,10,11,12] []
 kernel_rfl
 kernel_rfl
 (simp only[Yg,nthO];rfl)
 exact rfl
 repeat'(first|apply(zs1 ?_)|(apply zg2;refine zs6 ?_)|(apply zg3;first|refine zs7 ?_|refine zs8 ?_|refine zs60 ?_)|(apply zg5;refine zs57 ?_)|apply(zs87 ?_)|fail)
 first|apply Ya Yl0|apply Yb Yl0
 exact za
 exact rfl
 exactλ_ hw=>(p1 hw)
 repeat'(first|apply(zs65 ?_)|apply(zs87 ?_)|(apply Yk;(repeat(first|with_reducible exact Y7|(with_reducible apply YZ;(repeat(first|with_reducible exact Yw|with_reducible apply YJ))))))|fail)
 ·show Perm H (H++[])
  exact zc27
 repeat'(first|fail)
 first|apply Ya WV|apply Yb WV
 exact za
 exact rfl
 exactλ_ hw=>(p2 hw)
 repeat'(first|apply(zs2 ?_)|apply(zs65 ?_)|(apply Yb7;exact zp)|apply(zs68 ?_)|apply(zs74 ?_)|(apply Yk;(repeat(first|with_reducible exact Y7|(with_reducible apply YZ;(repeat(first|with_reducible exact Yw|with_reducible apply YJ))))))|apply(zs93 ?_)|apply(zs94 ?_)|fail)
 ·show Perm H (H++[])
  exact zc27
 repeat'(first|fail)
 exact zc13
variable {A:Option Addr}
theorem Yif(n:NetM)(l:List Cel)(i:Nat)(hck:Yo n.net=0)(hi:i<l.length)(hlen:l.length<=1000)(hin:n.In B w0 H)(hr:Rd B w0 H A (l.flatMap celF))(hw:St B w0 H w):
 CX B w0 361 [n.val,.slice A l.length cap,.int .i64 i] w λv K=>v=.bool (ZH n.net l i)/\K=H:=by
 refine Yc Tryz.func361 Tryz.ntmps361 rfl rfl hw ?_
 have hok:=YN hck
 have hget:l[i]? =some (celL l i):=by unfold celL;rw[Tu,Ta hi];rfl
 obtain⟨c,hc⟩:∃c,celL l i=c:=⟨_,rfl⟩
 rw[hc]at hget
 have p1:=λ{H':List HP}{w:World}(hin:n.In B w0 H') (hw:St B w0 H' w)=>Zl n c.2.2.1 c.2.2.2.1 hin hw
 have p2:=λ{H':List HP}{w:World}(hin:n.In B w0 H') (hw:St B w0 H' w)=>Zl n c.2.2.2.1 c.2.2.1 hin hw
 have hix:∀u v:Int,Zd n.net u v=YA n.net u v:=λu v=>by unfold Zd;rw[Td (by omega)]
 have hus:=Yjw hck c.2.2.1 c.2.2.2.1
 have p3:=λ{H':List HP}{w:World}(hin:n.In B w0 H') (hw:St B w0 H' w)=>Uo n (Zd n.net c.2.2.1 c.2.2.2.1) hin hw
 rw[hus]at p3
 have hP:ZH n.net l i=(!(YG n.net c.2.2.1 c.2.2.2.1)||Uy n.net l i c l.length||(!(Zk n.net (mar n.net (YA n.net c.2.2.1 c.2.2.2.1).toNat) (Yz n.net l i c.2.2.2.1 l.length))||!(Zk n.net (mar n.net (YA n.net c.2.2.2.1 c.2.2.1).toNat) (Yz n.net l i c.2.2.1 l.length)))):=by
  unfold ZH Uy
  rw[hc,show Ve n.net (Zd n.net (YC c) (toC c))=YG n.net c.2.2.1 c.2.2.2.1 from hus]
  rfl
 rw[hP]
 by_cases hg:YG n.net c.2.2.1 c.2.2.2.1=true
 rotate_left
 ·have hg:YG n.net c.2.2.1 c.2.2.2.1=false:=by simpa using hg
  rw[hg]at p3⊢
  repeat'(first|apply(zs2 ?_)|(apply zg3;first|refine zs7 ?_|refine zs61 ?_)|(apply zg5;refine zs57 ?_)|(apply zg22;refine zs51 ?_)|(apply zg23;first|(refine zs52 ?_;intro _)|(refine zs53 ?_;intro _))|(apply zg24;(refine zs54 ?_;intro _))|apply(zs65 ?_)|apply(zs68 ?_)|apply(zs69 ?_)|apply(zs70 ?_)|fail)
  rename_i gn gl gi gc
  apply YK [0,1,2,3,4,6,7,8,9,10,5,11,12,13] [] [true,false,false,true]
  kernel_rfl
  kernel_rfl
  exact zy
  (simp only[Yg,nthO];rfl)
  exact rfl
  repeat'(first|(apply zg2;refine zs6 ?_)|(apply zg3;first|refine zs7 ?_|refine zs8 ?_)|apply(zs87 ?_)|fail)
  first|apply Ya en45|apply Yb en45
  exact za
  exact rfl
  exactλ_ hw=>(p1 zc41 hw)
  repeat'(first|apply(zs65 ?_)|apply(zs87 ?_)|(apply Yk;(repeat(first|with_reducible exact Y7|(with_reducible apply YZ;(repeat(first|with_reducible exact Yw|with_reducible apply YJ))))))|fail)
  first|apply Ya en45|apply Yb en45
  exact za
  exact rfl
  exactλ_ hw=>(p2 zc41 hw)
  repeat'(first|apply(zs1 ?_)|apply(zs2 ?_)|(apply zg3;refine zs8 ?_)|apply(zs65 ?_)|(apply Yb7;exact zp)|apply(zs68 ?_)|apply(zs69 ?_)|apply(zs70 ?_)|(apply Yk;(repeat(first|with_reducible exact Y7|(with_reducible apply YZ;(repeat(first|with_reducible exact Yw|with_reducible apply YJ))))))|apply(zs93 ?_)|apply(zs94 ?_)|fail)
  first|apply Ya JU|apply Yb JU
  exact za
  exact rfl
  exactλ_ hw=>(p3 zc41 hw)
  repeat'(first|apply(zs2 ?_)|(apply zg20;refine zs48 ?_)|apply(zs65 ?_)|apply(zs68 ?_)|apply(zs69 ?_)|apply(zs70 ?_)|(apply zg27;refine zs71 ?_)|apply(zs74 ?_)|apply(zs77 ?_)|fail)
  apply Yi H
  ·exact zc0
  exact zc5
 rw[hg]at p3⊢
 obtain⟨⟨f0,f1⟩,⟨t0,t1⟩,_,k1,k2⟩:(0<=c.2.2.1/\c.2.2.1<n.net.nodes)/\(0<=c.2.2.2.1/\c.2.2.2.1<n.net.nodes)/\c.2.2.1≠c.2.2.2.1/\0<=YA n.net c.2.2.1 c.2.2.2.1/\0<=YA n.net c.2.2.2.1 c.2.2.1:=Xy hok hg
 have x1:=ZG k1
 have x2:=ZG k2
 rw[hix]at p1 p2 p3
 obtain⟨i1,hi1⟩:∃z,YA n.net c.2.2.1 c.2.2.2.1=z:=⟨_,rfl⟩
 obtain⟨i2,hi2⟩:∃z,YA n.net c.2.2.2.1 c.2.2.1=z:=⟨_,rfl⟩
 rw[hi1]at p1 p3 k1 x1⊢
 rw[hi2]at p2 k2 x2⊢
 have q1:=λ{H':List HP}{w:World}(gn gl gi:Nat) (hin:n.In B w0 H') (hr:Rd B w0 H' A (l.flatMap celF)) (h1:netN gn n∈H') (h2:blk gl (.cells #[.slice A l.length cap] 28 (0,0))∈H') (h3:blk gi (.cells #[.int .i64 i] 3 (0,0))∈H') (hw:St B w0 H' w)=>Yby n l i gn gl gi A cap i1 c.2.2.2.1 hok ⟨t0,t1⟩ ⟨k1,x1⟩ hlen hin hr h1 h2 h3 hw
 have q2:=λ{H':List HP}{w:World}(gn gl gi:Nat) (hin:n.In B w0 H') (hr:Rd B w0 H' A (l.flatMap celF)) (h1:netN gn n∈H') (h2:blk gl (.cells #[.slice A l.length cap] 28 (0,0))∈H') (h3:blk gi (.cells #[.int .i64 i] 3 (0,0))∈H') (hw:St B w0 H' w)=>Yby n l i gn gl gi A cap i2 c.2.2.1 hok ⟨f0,f1⟩ ⟨k2,x2⟩ hlen hin hr h1 h2 h3 hw
 obtain⟨b1,hb1⟩:∃b,Zk n.net (mar n.net i1.toNat) (Yz n.net l i c.2.2.2.1 l.length)=b:=⟨_,rfl⟩
 obtain⟨b2,hb2⟩:∃b,Zk n.net (mar n.net i2.toNat) (Yz n.net l i c.2.2.1 l.length)=b:=⟨_,rfl⟩
 rw[hb1]at q1⊢
 rw[hb2]at q2⊢
 repeat'(first|apply(zs2 ?_)|(apply zg3;first|refine zs7 ?_|refine zs61 ?_)|(apply zg5;refine zs57 ?_)|(apply zg22;refine zs51 ?_)|(apply zg23;first|(refine zs52 ?_;intro _)|(refine zs53 ?_;intro _))|(apply zg24;(refine zs54 ?_;intro _))|apply(zs65 ?_)|apply(zs68 ?_)|apply(zs69 ?_)|apply(zs70 ?_)|fail)
 rename_i gn gl gi gc
 apply YK [0,1,2,3,4,6,7,8,9,10,5,11,12,13] [] [true,false,false,true]
 kernel_rfl
 kernel_rfl
 exact zy
 (simp only[Yg,nthO];rfl)
 exact rfl
 repeat'(first|(apply zg2;refine zs6 ?_)|(apply zg3;first|refine zs7 ?_|refine zs8 ?_)|apply(zs87 ?_)|fail)
 first|apply Ya en45|apply Yb en45
 exact za
 exact rfl
 exactλ_ hw=>(p1 zc41 hw)
 repeat'(first|apply(zs65 ?_)|apply(zs87 ?_)|(apply Yk;(repeat(first|with_reducible exact Y7|(with_reducible apply YZ;(repeat(first|with_reducible exact Yw|with_reducible apply YJ))))))|fail)
 first|apply Ya en45|apply Yb en45
 exact za
 exact rfl
 exactλ_ hw=>(p2 zc41 hw)
 repeat'(first|apply(zs1 ?_)|apply(zs2 ?_)|(apply zg3;refine zs8 ?_)|apply(zs65 ?_)|(apply Yb7;exact zp)|apply(zs68 ?_)|apply(zs69 ?_)|apply(zs70 ?_)|(apply Yk;(repeat(first|with_reducible exact Y7|(with_reducible apply YZ;(repeat(first|with_reducible exact Yw|with_reducible apply YJ))))))|apply(zs93 ?_)|apply(zs94 ?_)|fail)
 first|apply Ya JU|apply Yb JU
 exact za
 exact rfl
 exactλ_ hw=>(p3 zc41 hw)
 repeat'(first|apply(zs1 ?_)|(apply zg3;refine zs7 ?_)|(apply zg4;refine zs9 ?_)|(apply zg20;refine zs47 ?_)|apply(zs65 ?_)|apply(zs68 ?_)|apply(zs69 ?_)|apply(zs70 ?_)|(apply zg27;refine zs72 ?_)|apply(zs73 ?_)|apply(zs76 ?_)|fail)
 refine Yj (λ(k:Nat)=>[(35,.int .i64 k),(34,.int .i64 l.length),(33,.slice A l.length cap),(3,.pointer (some ⟨gn,0,none⟩)),(4,.pointer (some ⟨gl,0,none⟩)),(5,.pointer (some ⟨gi,0,none⟩)),(7,.pointer (some ⟨gc,0,none⟩)),(8,.int .i64 i1),(9,.int .i64 i2)])
  (λ_=>blk gc (.cells #[.int .i64 c.1,.int .i64 c.2.1,.int .i64 c.2.2.1,.int .i64 c.2.2.2.1,.int .i64 c.2.2.2.2] 117 (0,0))::blk gi (.cells #[.int .i64 i] 3 (0,0))::blk gl (.cells #[.slice A l.length cap] 28 (0,0))::netN gn n::H) (λk=>k<=l.length/\Uy n.net l i c k=false) (λk=>l.length-k) 0 ⟨Tj _,rfl⟩ ?_ ?_ ?_
 ·exact zc1
 ·unfold netN
  exact zc0
 rintro k ⟨hk,hno⟩ K hK
 have hrc:Rd B w0 (blk gc (.cells #[.int .i64 c.1,.int .i64 c.2.1,.int .i64 c.2.2.1,.int .i64 c.2.2.2.1,.int .i64 c.2.2.2.2] 117 (0,0))::blk gi (.cells #[.int .i64 i] 3 (0,0))::blk gl (.cells #[.slice A l.length cap] 28 (0,0))::netN gn n::H) A (l.flatMap celF):=hr.cons.cons.cons.cons
 by_cases hlt:k<l.length
 ·have hgk:l[k]? =some (celL l k):=by unfold celL;rw[Tu,Ta hlt];rfl
  have hst:Uy n.net l i c (k+1)=(Uy n.net l i c k||(decide (k≠i)&&YH c (celL l k))):=by
   unfold Uy
   rw[RV,List.any_append]
   simp
  obtain⟨d,hd⟩:∃d,celL l k=d:=⟨_,rfl⟩
  rw[hd]at hgk hst
  have p4:=λ{H':List HP}{w:World}(hw:St B w0 H' w)=>Yhd c d hw
  unfold netN at hrc⊢
  obtain⟨t,ht⟩:∃t,YH c d=t:=⟨_,rfl⟩
  rw[ht]at p4 hst
  rw[hno,N6]at hst
  by_cases hki:k=i
  ·rw[Tn (λh=>h hki),Nn]at hst
   repeat'(first|apply(zs1 ?_)|apply(zs2 ?_)|(apply zg1;refine zs3 ?_)|(apply zg3;first|refine zs7 ?_|refine zs61 ?_)|(apply zg5;refine zs57 ?_)|(apply zg6;refine zs12 ?_)|(apply zg8;(refine zs16 ?_ ?_<;>intro _<;>try exact zo))|(apply(zs17 ?_ ?_)<;>intro _<;>try exact zo)|(apply zg13;refine zs30 ?_)|(apply zg22;refine zs51 ?_)|(apply zg24;(refine zs54 ?_;intro _))|apply(zs65 ?_)|apply(zs68 ?_)|apply(zs69 ?_)|apply(zs70 ?_)|(apply zg27;first|refine zs71 ?_|refine zs72 ?_)|apply(zs73 ?_)|apply(zs76 ?_)|apply(zs79 ?_)|fail)
   apply hK (k+1)
   ·exact⟨by omega,hst⟩
   ·omega
   ·exact zc1
   ·unfold netN
    exact zc0
  rw[Ti hki,Sj]at hst
  cases t with
  |false=>
   repeat'(first|((first|apply Ya Yl6|apply Yb Yl6);exact za;exact rfl;exactλ_ hw=>(p4 hw))|apply(zs1 ?_)|apply(zs2 ?_)|(apply zg1;refine zs4 ?_)|(apply zg3;first|refine zs7 ?_|refine zs8 ?_|refine zs61 ?_)|(apply zg5;refine zs57 ?_)|(apply zg6;refine zs11 ?_)|(apply zg8;(refine zs16 ?_ ?_<;>intro _<;>try exact zo))|(apply(zs17 ?_ ?_)<;>intro _<;>try exact zo)|(apply zg13;refine zs30 ?_)|(apply zg22;refine zs51 ?_)|(apply zg24;(refine zs54 ?_;intro _))|apply(zs65 ?_)|apply(zs68 ?_)|apply(zs69 ?_)|apply(zs70 ?_)|(apply zg27;first|refine zs71 ?_|refine zs72 ?_)|apply(zs73 ?_)|apply(zs76 ?_)|apply(zs79 ?_)|fail)
   apply hK (k+1)
   ·exact⟨by omega,hst⟩
   ·omega
   ·exact zc1
   ·unfold netN
    exact zc0
  |true=>
   have hfa:Uy n.net l i c l.length=true:=by
    unfold Uy
    rw[TR]
    exact⟨k,Rf.2 hlt,by rw[hd,ht,Ti hki];rfl⟩
   rw[hfa]
   repeat'(first|((first|apply Ya Yl6|apply Yb Yl6);exact za;exact rfl;exactλ_ hw=>(p4 hw))|apply(zs1 ?_)|apply(zs2 ?_)|(apply zg1;refine zs4 ?_)|(apply zg3;first|refine zs7 ?_|refine zs8 ?_|refine zs61 ?_)|(apply zg5;refine zs57 ?_)|(apply zg6;refine zs11 ?_)|(apply zg8;(refine zs16 ?_ ?_<;>intro _<;>try exact zo))|(apply(zs17 ?_ ?_)<;>intro _<;>try exact zo)|(apply zg22;refine zs51 ?_)|(apply zg24;(refine zs54 ?_;intro _))|apply(zs65 ?_)|apply(zs68 ?_)|apply(zs69 ?_)|apply(zs70 ?_)|(apply zg27;refine zs71 ?_)|apply(zs73 ?_)|apply(zs74 ?_)|apply(zs76 ?_)|apply(zs77 ?_)|apply(zs78 ?_)|fail)
   apply Yi H
   ·exact zc0
   exact zc5
 ·obtain rfl:k=l.length:=by omega
  rw[hno]
  clear hK
  unfold netN at hrc q1 q2⊢
  cases b1 with
  |false=>
   repeat'(first|apply(zs1 ?_)|apply(zs2 ?_)|(apply zg2;refine zs6 ?_)|(apply zg3;refine zs7 ?_)|(apply(zs17 ?_ ?_)<;>intro _<;>try exact zo)|apply(zs65 ?_)|apply(zs68 ?_)|apply(zs69 ?_)|apply(zs70 ?_)|(apply zg27;refine zs72 ?_)|apply(zs75 ?_)|apply(zs80 ?_)|apply(zs81 ?_)|(apply zg29;(apply Yp;exact za;exact rfl))|fail)
   first|apply YV (cs:=[.pointer (some ⟨gn,0,none⟩),.pointer (some ⟨gl,0,none⟩),.pointer (some ⟨gi,0,none⟩)])|apply Y3 (cs:=[.pointer (some ⟨gn,0,none⟩),.pointer (some ⟨gl,0,none⟩),.pointer (some ⟨gi,0,none⟩)])
   exact rfl
   exact YpK
   exact za
   exact rfl
   exactλ_ hw=>q1 gn gl gi zc41 hrc (by(focus exact zc2)) (by(focus exact zc2)) (by(focus exact zc2)) hw
   repeat'(first|apply(zs1 ?_)|apply(zs2 ?_)|(apply zg1;refine zs3 ?_)|(apply zg6;refine zs11 ?_)|(apply zg20;refine zs48 ?_)|apply(zs65 ?_)|apply(zs68 ?_)|apply(zs74 ?_)|fail)
   apply Yi H
   ·exact zc0
   exact zc5
  |true=>
   cases b2<;>(
    repeat'(first|apply(zs1 ?_)|apply(zs2 ?_)|(apply zg2;refine zs6 ?_)|(apply zg3;refine zs7 ?_)|(apply(zs17 ?_ ?_)<;>intro _<;>try exact zo)|apply(zs65 ?_)|apply(zs68 ?_)|apply(zs69 ?_)|apply(zs70 ?_)|(apply zg27;refine zs72 ?_)|apply(zs75 ?_)|apply(zs80 ?_)|apply(zs81 ?_)|(apply zg29;(apply Yp;exact za;exact rfl))|fail)
    first|apply YV (cs:=[.pointer (some ⟨gn,0,none⟩),.pointer (some ⟨gl,0,none⟩),.pointer (some ⟨gi,0,none⟩)])|apply Y3 (cs:=[.pointer (some ⟨gn,0,none⟩),.pointer (some ⟨gl,0,none⟩),.pointer (some ⟨gi,0,none⟩)])
    exact rfl
    exact YpK
    exact za
    exact rfl
    exactλ_ hw=>q1 gn gl gi (by repeat(first|exact hin|apply NetM.In.cons)) hrc zm zm zm hw
    repeat'(first|apply(zs1 ?_)|(apply zg1;refine zs4 ?_)|(apply zg2;refine zs6 ?_)|(apply zg3;refine zs7 ?_)|(apply zg20;refine zs47 ?_)|fail)
    first|apply YV (cs:=[.pointer (some ⟨gn,0,none⟩),.pointer (some ⟨gl,0,none⟩),.pointer (some ⟨gi,0,none⟩)])|apply Y3 (cs:=[.pointer (some ⟨gn,0,none⟩),.pointer (some ⟨gl,0,none⟩),.pointer (some ⟨gi,0,none⟩)])
    exact rfl
    exact YpK
    exact za
    exact rfl
    exactλ_ hw=>q2 gn gl gi (by repeat(first|exact hin|apply NetM.In.cons)) hrc zm zm zm hw
    repeat'(first|apply(zs2 ?_)|(apply zg1;refine zs4 ?_)|(apply zg6;refine zs12 ?_)|(apply zg20;first|refine zs47 ?_|refine zs48 ?_)|apply(zs65 ?_)|apply(zs68 ?_)|apply(zs74 ?_)|fail)
    apply Yi H
    ·exact zk
    apply Yd;exact rfl;exact rfl;exact⟨rfl,rfl⟩)
def Vf(n:Net)(l:List Cel)(k:Nat):Bool:=(List.range k).any (ZH n l)
theorem Yij(n:NetM)(l:List Cel)(hck:Yo n.net=0)(hlen:l.length<=1000)(hin:n.In B w0 H)(hr:Rd B w0 H A (l.flatMap celF))(hw:St B w0 H w):
 CX B w0 357 [n.val,.slice A l.length cap] w λv K=>∃i:Int,v=.tuple #[.int .i64 i,.bool (Vf n.net l l.length)]/\K=H:=by
 refine Yc Tryz.func357 Tryz.ntmps357 rfl rfl hw ?_
 have p1:=λ{H':List HP}{w:World}(hin:n.In B w0 H') (hw:St B w0 H' w)=>Y9 n hin hw
 rw[hck]at p1
 (apply Xi;apply YU;apply YB;exact rfl;exact rfl;intro g)
 repeat'(first|((first|apply Ya en44|apply Yb en44);exact za;exact rfl;exactλ_ hw=>(p1 hin.cons hw))|apply(zs1 ?_)|apply(zs2 ?_)|(apply zg3;refine zs8 ?_)|(apply zg4;refine zs9 ?_)|(apply zg8;(refine zs16 ?_ ?_<;>intro _<;>try exact zo))|apply(zs65 ?_)|apply(zs68 ?_)|apply(zs69 ?_)|apply(zs70 ?_)|(apply zg27;refine zs72 ?_)|apply(zs73 ?_)|apply(zs76 ?_)|fail)
 refine Yj (λ(k:Nat)=>[(12,.int .i64 k),(11,.int .i64 l.length),(1,.slice A l.length cap),(2,.pointer (some ⟨g,0,none⟩))]) (λ_=>netN g n::H) (λk=>k<=l.length/\Vf n.net l k=false) (λk=>l.length-k) 0 ⟨Tj _,rfl⟩ ?_ (λw hw=>hw) ?_
 ·exact zc1
 rintro k ⟨hk,hno⟩ K hK
 unfold netN
 by_cases hlt:k<l.length
 ·have p2:=λ{H':List HP}{w:World}(hin:n.In B w0 H') (hr:Rd B w0 H' A (l.flatMap celF)) (hw:St B w0 H' w)=>Yif n l k hck hlt hlen (cap:=cap) hin hr hw
  have hst:Vf n.net l (k+1)=(Vf n.net l k||ZH n.net l k):=by
   grind [Vf]
  rw[hno,N6]at hst
  cases hp:ZH n.net l k with
  |false=>
   rw[hp]at p2 hst
   repeat'(first|((first|apply Ya Yl5|apply Yb Yl5);exact za;exact rfl;exactλ_ hw=>(p2 hin.cons hr.cons hw))|apply(zs1 ?_)|apply(zs2 ?_)|(apply zg3;refine zs8 ?_)|(apply(zs17 ?_ ?_)<;>intro _<;>try exact zo)|(apply zg13;refine zs30 ?_)|apply(zs65 ?_)|apply(zs68 ?_)|apply(zs69 ?_)|apply(zs70 ?_)|(apply zg27;first|refine zs71 ?_|refine zs72 ?_)|apply(zs73 ?_)|apply(zs76 ?_)|apply(zs79 ?_)|fail)
   apply hK (k+1)
   ·exact⟨by omega,hst⟩
   ·omega
   ·exact zc1
   ·unfold netN
    exact zc0
  |true=>
   rw[hp]at p2
   have hfa:Vf n.net l l.length=true:=by
    unfold Vf
    rw[TR]
    exact⟨k,Rf.2 hlt,hp⟩
   rw[hfa]
   repeat'(first|((first|apply Ya Yl5|apply Yb Yl5);exact za;exact rfl;exactλ_ hw=>(p2 hin.cons hr.cons hw))|apply(zs1 ?_)|apply(zs2 ?_)|(apply zg3;refine zs8 ?_)|(apply(zs17 ?_ ?_)<;>intro _<;>try exact zo)|apply(zs65 ?_)|apply(zs68 ?_)|apply(zs69 ?_)|apply(zs70 ?_)|(apply zg27;refine zs71 ?_)|apply(zs73 ?_)|apply(zs74 ?_)|apply(zs76 ?_)|apply(zs77 ?_)|apply(zs78 ?_)|fail)
   apply Yi H
   ·exact zc0
   exact zc85
 ·obtain rfl:k=l.length:=by omega
  rw[hno]
  repeat'(first|apply(zs2 ?_)|(apply(zs17 ?_ ?_)<;>intro _<;>try exact zo)|apply(zs65 ?_)|apply(zs68 ?_)|apply(zs69 ?_)|apply(zs70 ?_)|(apply zg27;refine zs72 ?_)|apply(zs74 ?_)|apply(zs75 ?_)|apply(zs80 ?_)|apply(zs81 ?_)|fail)
  apply Yi H
  ·exact zc0
  exact zc85
theorem Yir{n:Net}{l:List Cel}(hck:Yo n=0):JC n l=!(Vf n l l.length):=by
 simp_all [JC,Vf,List.not_any_eq_all_not]
theorem Yko(n:NetM)(l:List Cel)(hck:Yo n.net=0)(hlen:l.length<=1000)(hin:n.In B w0 H)(hr:Rd B w0 H A (l.flatMap celF))(hw:St B w0 H w):
 CX B w0 347 [n.val,.slice A l.length cap] w λv K=>v=.bool (JC n.net l)/\K=H:=by
 refine Yc Tryz.func347 Tryz.ntmps347 rfl rfl hw ?_
 have p1:=λ{H':List HP}{w:World}(hin:n.In B w0 H') (hw:St B w0 H' w)=>Y9 n hin hw
 rw[hck]at p1
 rw[Yir hck]
 repeat'(first|apply(zs1 ?_)|apply(zs2 ?_)|(apply zg3;refine zs8 ?_)|(apply zg23;(refine zs52 ?_;intro _))|apply(zs65 ?_)|apply(zs68 ?_)|apply(zs69 ?_)|apply(zs70 ?_)|fail)
 apply Yf _ YwF
 exact za
 exact rfl
 exactλ_ hw=>(Yij n l hck hlen hin.cons hr.cons (hw))
 rintro _ _ ⟨i,rfl,rfl⟩
 cases Vf n.net l l.length<;>(
  repeat'(first|((first|apply Ya en44|apply Yb en44);exact za;exact rfl;exactλ_ hw=>(p1 hin.cons hw))|apply(zs1 ?_)|apply(zs2 ?_)|(apply zg1;refine zs4 ?_)|(apply zg3;refine zs8 ?_)|(apply zg6;refine zs11 ?_)|apply(zs13 ?_)|(apply zg7;(refine zs15 ?_ ?_<;>intro _<;>try exact zo))|(apply zg20;first|refine zs47 ?_|refine zs48 ?_)|apply(zs65 ?_)|apply(zs68 ?_)|apply(zs69 ?_)|apply(zs70 ?_)|apply(zs74 ?_)|fail)
  apply Yi H
  ·exact zk
  apply Yd;exact rfl;exact rfl;exact⟨rfl,rfl⟩)
end Go.Proofs.YtambgjgljcadlaaGreatDoor
