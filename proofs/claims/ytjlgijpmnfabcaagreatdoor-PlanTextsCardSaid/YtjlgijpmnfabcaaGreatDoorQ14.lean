/- Lemmas. -/
import Derived.Test.YtjlgijpmnfabcaaGreatDoorQ12
import Derived.Test.YtjlgijpmnfabcaaGreatDoorQ13
set_option maxRecDepth 100000
set_option maxHeartbeats 8000000
set_option linter.all false
namespace Go.Proofs.YtjlgijpmnfabcaaGreatDoor
open Go.RowKit Go.Eng Go.Nw Go.Rt
variable {A A2:Option Addr}{cap cap2 B:Nat}{w0 w:World}{H:List HP}
theorem WO(l m:List Int)(hlen:l.length<=9223372036854775807)(_hlen2:m.length<=9223372036854775807)(hr:Rd B w0 H A (l.flatMap numF))(hr2:Rd B w0 H A2 (m.flatMap numF))(hw:St B w0 H w):
 CX B w0 195 [.slice A l.length cap,.slice A2 m.length cap2] w λu K=>u=.bool (decide (l=m))/\K=H:=by
 refine Ya Tryz.func195 Tryz.ntmps195 rfl rfl hw ?_
 by_cases hll:l.length=m.length
 rotate_left
 ·exact zc11
 refine zX3 ?_<;>intros
 refine Yg (λ(k:Nat)=>[(13,.int .i64 k),(12,.int .i64 l.length),(0,.slice A l.length cap),(1,.slice A2 m.length cap2)]) (λ_=>H) (λk=>k<=l.length/\l.take k=m.take k) (λk=>l.length-k) 0 ⟨Ti _,by simp⟩ ?_ (λw hw=>hw) ?_
 ·exact zc1
 rintro k ⟨hk,hi⟩ K hK
 by_cases hlt:k<l.length
 ·obtain⟨a,ha⟩:∃a,l[k]? =some a:=⟨_,Ta hlt⟩
  obtain⟨b,hb⟩:∃b,m[k]? =some b:=⟨_,Ta (by omega)⟩
  repeat'(first|refine zgd ?_|(refine zge ?_ ?_<;>intro _<;>try exact zo)|fail)
  ·exact zc56
  ·rename_i h
   apply hK (k+1)
   ·exact YqK
   ·omega
   ·exact zc1
   exact zc20
 exact zc8
theorem Ydn(a b:RowM)(hl:a.xs.length<=1000000000000/\b.xs.length<=1000000000000)(hr:Rd B w0 H a.A (a.xs.flatMap numF))(hr2:Rd B w0 H b.A (b.xs.flatMap numF))(hw:St B w0 H w):
 CX B w0 192 [.slice a.A a.xs.length a.cap,.slice b.A b.xs.length b.cap] w λu K=>u=.bool (decide (a.xs=b.xs))/\K=H:=by
 refine Ya Tryz.func192 Tryz.ntmps192 rfl rfl hw ?_
 repeat'(first|((first|apply Yb Yex|apply Yc Yex);exact za;exact rfl;exactλ_ hw=>(YaU a.xs b.xs (by omega) (by omega) hr hr2 hw))|refine zga ?_|fail)
 exact zc13
theorem Yal(l m:List RowM)(hlen:l.length<=1000000000000)(_hlen2:m.length<=1000000000000)(hl2:∀r∈l,r.xs.length<=1000000000000)(hm2:∀r∈m,r.xs.length<=1000000000000)(hr:Rd B w0 H A (l.flatMap rowF))(hr2:Rd B w0 H A2 (m.flatMap rowF))(hrl:∀r∈l,Rd B w0 H r.A (r.xs.flatMap numF))(hrm:∀r∈m,Rd B w0 H r.A (r.xs.flatMap numF))(hw:St B w0 H w):
 CX B w0 196 [.slice A l.length cap,.slice A2 m.length cap2,.func (.func 192) #[] #[]] w λu K=>u=.bool (decide (l.map (·.xs)=m.map (·.xs)))/\K=H:=by
 refine Ya Tryz.func196 Tryz.ntmps196 rfl rfl hw ?_
 by_cases hll:l.length=m.length
 rotate_left
 ·exact zc17
 refine zX3 ?_<;>intros
 refine Yg (λ(k:Nat)=>[(17,.int .i64 k),(16,.int .i64 l.length),(15,.slice A l.length cap),(0,.slice A l.length cap),(1,.slice A2 m.length cap2),(2,.func (.func 192) #[] #[])]) (λ_=>H) (λk=>k<=l.length/\(l.take k).map (·.xs)=(m.take k).map (·.xs)) (λk=>l.length-k) 0 ⟨Ti _,by simp⟩ ?_ (λw hw=>hw) ?_
 ·exact zc1
 rintro k ⟨hk,hi⟩ K hK
 by_cases hlt:k<l.length
 ·obtain⟨a,ha⟩:∃a,l[k]? =some a:=⟨_,Ta hlt⟩
  obtain⟨b,hb⟩:∃b,m[k]? =some b:=⟨_,Ta (by omega)⟩
  have ham:=Tc ha
  have hbm:=Tc hb
  have hss:=λ{w:World}(hw:St B w0 H w)=>Ydn a b ⟨hl2 a ham,hm2 b hbm⟩ (hrl a ham) (hrm b hbm) hw
  by_cases hab:a.xs=b.xs
  ·rw[Td hab]at hss
   refine zX95 ?_<;>intros
   apply hK (k+1)
   ·exact zc44
   ·omega
   ·exact zc1
   exact zc20
  ·rw[Tj hab]at hss
   refine zX95 ?_<;>intros
   exact zc22
 exact zc8
theorem Yd5(a b:RowM)(hl:a.xs.length<=1000000000000/\b.xs.length<=1000000000000)(hr:Rd B w0 H a.A (a.xs.flatMap numF))(hr2:Rd B w0 H b.A (b.xs.flatMap numF))(hw:St B w0 H w):
 CX B w0 194 [.slice a.A a.xs.length a.cap,.slice b.A b.xs.length b.cap] w λu K=>u=.bool (decide (a.xs=b.xs))/\K=H:=by
 refine Ya Tryz.func194 Tryz.ntmps194 rfl rfl hw ?_
 repeat'(first|((first|apply Yb Ws|apply Yc Ws);exact za;exact rfl;exactλ_ hw=>(WO a.xs b.xs (by omega) (by omega) hr hr2 hw))|refine zga ?_|fail)
 exact zc13
theorem Ybv(l m:List RowM)(hlen:l.length<=1000000000000)(_hlen2:m.length<=1000000000000)(hl2:∀r∈l,r.xs.length<=1000000000000)(hm2:∀r∈m,r.xs.length<=1000000000000)(hr:Rd B w0 H A (l.flatMap rowF))(hr2:Rd B w0 H A2 (m.flatMap rowF))(hrl:∀r∈l,Rd B w0 H r.A (r.xs.flatMap numF))(hrm:∀r∈m,Rd B w0 H r.A (r.xs.flatMap numF))(hw:St B w0 H w):
 CX B w0 197 [.slice A l.length cap,.slice A2 m.length cap2,.func (.func 194) #[] #[]] w λu K=>u=.bool (decide (l.map (·.xs)=m.map (·.xs)))/\K=H:=by
 refine Ya Tryz.func197 Tryz.ntmps197 rfl rfl hw ?_
 by_cases hll:l.length=m.length
 rotate_left
 ·exact zc17
 refine zX3 ?_<;>intros
 refine Yg (λ(k:Nat)=>[(17,.int .i64 k),(16,.int .i64 l.length),(15,.slice A l.length cap),(0,.slice A l.length cap),(1,.slice A2 m.length cap2),(2,.func (.func 194) #[] #[])]) (λ_=>H) (λk=>k<=l.length/\(l.take k).map (·.xs)=(m.take k).map (·.xs)) (λk=>l.length-k) 0 ⟨Ti _,by simp⟩ ?_ (λw hw=>hw) ?_
 ·exact zc1
 rintro k ⟨hk,hi⟩ K hK
 by_cases hlt:k<l.length
 ·obtain⟨a,ha⟩:∃a,l[k]? =some a:=⟨_,Ta hlt⟩
  obtain⟨b,hb⟩:∃b,m[k]? =some b:=⟨_,Ta (by omega)⟩
  have ham:=Tc ha
  have hbm:=Tc hb
  have hss:=λ{w:World}(hw:St B w0 H w)=>Yd5 a b ⟨hl2 a ham,hm2 b hbm⟩ (hrl a ham) (hrm b hbm) hw
  by_cases hab:a.xs=b.xs
  ·rw[Td hab]at hss
   refine zX97 ?_<;>intros
   apply hK (k+1)
   ·exact zc44
   ·omega
   ·exact zc1
   exact zc20
  ·rw[Tj hab]at hss
   refine zX97 ?_<;>intros
   exact zc22
 exact zc8
theorem YoI{c d:ClM}:c.clm=d.clm↔c.flow=d.flow/\c.rs.map (·.xs)=d.rs.map (·.xs)/\c.bs=d.bs/\c.ws=d.ws/\c.ss.map (·.xs)=d.ss.map (·.xs):=by
 unfold ClM.clm
 simp_all
theorem Yki(c d:ClM)(hc:c.In B w0 H)(hd:d.In B w0 H)(hw:St B w0 H w):
 CX B w0 103 [clV c,clV d] w λu K=>u=.bool (decide (c.clm=d.clm))/\K=H:=by
 refine Ya Tryz.func103 Tryz.ntmps103 rfl rfl hw ?_
 have hcl:=hc.ln
 have hdl:=hd.ln
 have p1:=λ{H':List HP}{w:World}(hc:c.In B w0 H') (hd:d.In B w0 H') (hw:St B w0 H' w)=>Yal c.rs d.rs (cap:=c.rcap) (cap2:=d.rcap) hcl.1 hdl.1 hc.rl hd.rl hc.rt hd.rt hc.rw_ hd.rw_ hw
 have p2:=λ{H':List HP}{w:World}(hc:c.In B w0 H') (hd:d.In B w0 H') (hw:St B w0 H' w)=>WO c.bs d.bs (cap:=c.bcap) (cap2:=d.bcap) (by omega) (by omega) hc.bd hd.bd hw
 have p3:=λ{H':List HP}{w:World}(hc:c.In B w0 H') (hd:d.In B w0 H') (hw:St B w0 H' w)=>WO c.ws d.ws (cap:=c.wcap) (cap2:=d.wcap) (by omega) (by omega) hc.ws hd.ws hw
 have p4:=λ{H':List HP}{w:World}(hc:c.In B w0 H') (hd:d.In B w0 H') (hw:St B w0 H' w)=>Ybv c.ss d.ss (cap:=c.scap) (cap2:=d.scap) hcl.2.2.2 hdl.2.2.2 hc.sl hd.sl hc.st hd.st hc.sw hd.sw hw
 have hce:=@YoI c d
 unfold clV
 by_cases h1:c.flow=d.flow
 rotate_left
 ·rw[Tj (λh=>h1 (hce.1 h).1)]
  refine zX98 ?_<;>intros
  apply Yh H
  ·exact zc0
  exact zc4
 by_cases h2:c.rs.map (·.xs)=d.rs.map (·.xs)
 rotate_left
 ·rw[Tj (λh=>h2 (hce.1 h).2.1)]
  rw[Tj h2]at p1
  refine zX98 ?_<;>intros
  first|apply Yb YaT|apply Yc YaT
  exact za
  exact rfl
  exactλ_ hw=>(p1 (hc.mono zc0) (hd.mono zc0) hw)
  refine zX11 ?_
  apply Yh H
  ·exact zc0
  exact zc4
 rw[Td h2]at p1
 by_cases h3:c.bs=d.bs
 rotate_left
 ·rw[Tj (λh=>h3 (hce.1 h).2.2.1)]
  rw[Tj h3]at p2
  refine zX98 ?_<;>intros
  first|apply Yb YaT|apply Yc YaT
  exact za
  exact rfl
  exactλ_ hw=>(p1 (hc.mono zc0) (hd.mono zc0) hw)
  refine zX11 ?_
  first|apply Yb Ws|apply Yc Ws
  exact za
  exact rfl
  exactλ_ hw=>(p2 (hc.mono zc0) (hd.mono zc0) hw)
  refine zX11 ?_
  apply Yh H
  ·exact zc0
  exact zc4
 rw[Td h3]at p2
 by_cases h4:c.ws=d.ws
 rotate_left
 ·rw[Tj (λh=>h4 (hce.1 h).2.2.2.1)]
  rw[Tj h4]at p3
  refine zX98 ?_<;>intros
  first|apply Yb YaT|apply Yc YaT
  exact za
  exact rfl
  exactλ_ hw=>(p1 (hc.mono zc0) (hd.mono zc0) hw)
  refine zX11 ?_
  first|apply Yb Ws|apply Yc Ws
  exact za
  exact rfl
  exactλ_ hw=>(p2 (hc.mono zc0) (hd.mono zc0) hw)
  refine zX11 ?_
  first|apply Yb Ws|apply Yc Ws
  exact za
  exact rfl
  exactλ_ hw=>(p3 (hc.mono zc0) (hd.mono zc0) hw)
  refine zX11 ?_
  apply Yh H
  ·exact zc0
  exact zc4
 rw[Td h4]at p3
 have h5:decide (c.clm=d.clm)=decide (c.ss.map (·.xs)=d.ss.map (·.xs)):=decide_eq_decide.2 ⟨λh=>(hce.1 h).2.2.2.2,λh=>hce.2 ⟨h1,h2,h3,h4,h⟩⟩
 rw[h5]
 refine zX98 ?_<;>intros
 first|apply Yb YaT|apply Yc YaT
 exact za
 exact rfl
 exactλ_ hw=>(p1 (hc.mono zc0) (hd.mono zc0) hw)
 refine zX11 ?_
 first|apply Yb Ws|apply Yc Ws
 exact za
 exact rfl
 exactλ_ hw=>(p2 (hc.mono zc0) (hd.mono zc0) hw)
 refine zX11 ?_
 first|apply Yb Ws|apply Yc Ws
 exact za
 exact rfl
 exactλ_ hw=>(p3 (hc.mono zc0) (hd.mono zc0) hw)
 refine zX11 ?_
 first|apply Yb Yss|apply Yc Yss
 exact za
 exact rfl
 exactλ_ hw=>(p4 (hc.mono zc0) (hd.mono zc0) hw)
 refine zX11 ?_
 apply Yh H
 ·exact zc0
 exact zc4
theorem Oh{c:List ClM}{i:Nat}{x:ClM}(h:c[i]? =some x):Jd (c.map ClM.clm) i=x.clm:=by
 grind [Jd]
variable {B:Nat}{w0:World}{H:List HP}
theorem Yj2{C:List ClM}{c:ClM}(hm:many (C.map clQ)∈H)(hc:c∈C)(hl:c.lens):c.In B w0 H:=by
 have hb:∀w,St B w0 H w->St B w0 (C.map clQ) w:=λw hw=>hw.inM hm
 refine ClM.In.mono (H:=C.map clQ) (Yui (RX hc) ⟨⟨?_,?_,?_,?_⟩,?_,?_⟩) hb
 ·have:=hl.1.1;omega
 ·have:=hl.1.2.1;omega
 ·have:=hl.1.2.2.1;omega
 ·have:=hl.1.2.2.2;omega
 ·exactλr hr=>TY (hl.2.1 r hr) (by decide)
 ·exactλr hr=>TY (hl.2.2 r hr) (by decide)
theorem YfO(n:NetM)(q:List RqM)(s:SchM)(c:List ClM){A A1:Option Addr}{cap cap1:Nat}{w:World}(ht:TabsB B w0)(hin:n.In B w0 H)(hq:QIn B w0 H A q)(hrs:Rd B w0 H s.A (s.cells.flatMap celF))(hsl:s.cells.length<=1000000000000)(hc:CIn B w0 H A1 c)(hw:St B w0 H w):
 CX B w0 41 [n.val,.slice A q.length cap,s.val,.slice A1 c.length cap1] w λv K=>v=.tuple #[.int .i64 (chkE n.net (q.map RqM.rq) s.sch (c.map ClM.clm)).1,.int .i64 (chkE n.net (q.map RqM.rq) s.sch (c.map ClM.clm)).2]/\K=H:=by
 refine Ya Tryz.func41 Tryz.ntmps41 rfl rfl hw ?_
 have hcl:=hc.ln
 have hcr:=hc.rd
 have p1:=λ{H':List HP}{w:World}(hin:n.In B w0 H') (hq:QIn B w0 H' A q) (hrs:Rd B w0 H' s.A (s.cells.flatMap celF)) (hw:St B w0 H' w)=>UG n q s (cap:=cap) ht hin hq hrs hsl hw
 obtain⟨⟨RC,ri,re⟩,hR⟩:∃R,YO n.net (q.map RqM.rq) s.sch=R:=⟨_,rfl⟩
 unfold chkE
 rw[Tt]
 rw[hR]at p1⊢
 unfold OutC at p1
 dsimp only at p1⊢
 unfold NetM.val SchM.val
 by_cases h0:re=0
 rotate_left
 ·rw[Tn h0]
  repeat'(first|refine zgb ?_|(refine zgh ?_;intro _)|fail)
  apply Yf _ en40
  exact za
  exact rfl
  exactλ_ hw=>(p1 (hin.mono zc0) (hq.mono zc0) (hrs.mono zc0) (hw))
  rintro _ _ ⟨A2,cap2,C,rfl,hC,hCl,rfl⟩
  repeat'(first|refine zgc ?_|(refine zge ?_ ?_<;>intro _<;>try exact zo)|fail)
  apply Yh H
  ·exact zc0
  exact zc10
 subst h0
 rw[Tf (λe=>e rfl)]
 repeat'(first|refine zgb ?_|(refine zgh ?_;intro _)|fail)
 apply Yf _ en40
 exact za
 exact rfl
 exactλ_ hw=>(p1 (hin.mono zc0) (hq.mono zc0) (hrs.mono zc0) (hw))
 rintro _ _ ⟨A2,cap2,C,rfl,hC,hCl,rfl⟩
 subst hC
 rw[Tt]
 by_cases h1:c.length=C.length
 rotate_left
 ·rw[Tn h1]
  repeat'(first|refine zgc ?_|(refine zge ?_ ?_<;>intro _<;>try exact zo)|fail)
  apply Yh H
  ·exact zc0
  exact zc10
 rw[Tf (λe=>e h1)]
 obtain⟨F,hF⟩:∃F:Nat->Int,(λi=>if Jd (c.map ClM.clm) i=Jd (C.map ClM.clm) i then(0:Int)else 20)=F:=⟨_,rfl⟩
 rw[hF]
 have hFv:∀{k:Nat}{x y:ClM},c[k]? =some x->C[k]? =some y->F k=if x.clm=y.clm then 0 else 20:=λhx hy=>by rw[<-hF];show(if _=_ then _ else _)=_;rw[Oh hx,Oh hy]
 repeat'(first|refine zgc ?_|(refine zge ?_ ?_<;>intro _<;>try exact zo)|fail)
 refine Yg (λk:Nat=>[(33,.int .i64 (k:Nat)),(32,.int .i64 C.length),(10,.slice A2 C.length cap2),(3,.slice A1 c.length cap1)]) (λ_=>clsP A2 cap2 C::many (C.map clQ)::H) (λk=>k<=C.length/\∀j,0<=j->j<k->F j=0) (λk=>C.length-k) 0 ⟨Ti _,λj _ h=>absurd h (RE _)⟩ ?_ ?_ ?_
 ·exact zc1
 ·exact zc0
 rintro k ⟨hk,hz⟩ K hK
 have hcr':Rd B w0 (clsP A2 cap2 C::many (C.map clQ)::H) A1 (c.flatMap clF):=hcr.cons.cons
 have hCr':Rd B w0 (clsP A2 cap2 C::many (C.map clQ)::H) A2 (C.flatMap clF):=.sl (.head _)
 by_cases hlt:k<C.length
 ·obtain⟨x,hx⟩:∃x,c[k]? =some x:=⟨_,Ta (by omega)⟩
  obtain⟨y,hy⟩:∃y,C[k]? =some y:=⟨_,Ta hlt⟩
  have hym:=Tc hy
  have hFk:=hFv hx hy
  have hxi:=hc.x x (Tc hx)
  have p2:=λ{H':List HP}{w:World}(hx:x.In B w0 H') (hy:y.In B w0 H') (hw:St B w0 H' w)=>Yki x y hx hy hw
  by_cases he:x.clm=y.clm
  ·rw[Tn he]at hFk
   rw[Td he]at p2
   repeat'(first|refine zgb ?_|(refine zge ?_ ?_<;>intro _<;>try exact zo)|fail)
   apply Xc [0,1,2,3,4,5,6,7,8,9] []
   kernel_rfl
   kernel_rfl
   (simp only[Yd,nthO];rfl)
   exact rfl
   repeat'(first|refine zgd ?_|fail)
   first|apply Yb YkZ|apply Yc YkZ
   exact za
   exact rfl
   exactλ_ hw=>(p2 (hxi.mono zc0) (Yj2 (by(focus exact zc2)) hym (hCl y hym)) hw)
   repeat'(first|(apply Yj;(repeat(first|with_reducible exact YM|(with_reducible apply YF;(repeat(first|with_reducible exact Yq|with_reducible apply Yu))))))|refine zgd ?_|fail)
   ·show Perm H (H++[])
    exact zc25
   repeat'(first|fail)
   apply hK (k+1)
   ·exact⟨by omega,λj h1 h2=>by
     rcases RD.1 h2 with h|rfl
     ·exact hz j h1 h
     ·exact hFk⟩
   ·omega
   ·exact zc1
   ·exact zc0
  ·rw[Tf he]at hFk
   rw[Tj he]at p2
   have hfe:=Zt (f:=F) (r:=c.length) (i0:=0) (i:=k) (λj h1 h2=>hz j h1 h2) (Ti _) (by omega) (by rw[hFk];decide)
   rw[hfe,hFk]
   clear hK
   repeat'(first|refine zgb ?_|(refine zge ?_ ?_<;>intro _<;>try exact zo)|fail)
   apply Xc [0,1,2,3,4,5,6,7,8,9] []
   kernel_rfl
   kernel_rfl
   (simp only[Yd,nthO];rfl)
   exact rfl
   repeat'(first|refine zgd ?_|fail)
   first|apply Yb YkZ|apply Yc YkZ
   exact za
   exact rfl
   exactλ_ hw=>(p2 (hxi.mono zc0) (Yj2 (by(focus exact zc2)) hym (hCl y hym)) hw)
   repeat'(first|(apply Yj;(repeat(first|with_reducible exact YM|(with_reducible apply YF;(repeat(first|with_reducible exact Yq|with_reducible apply Yu))))))|refine zgd ?_|fail)
   ·show Perm H (H++[])
    exact zc25
   repeat'(first|fail)
   apply Yh H
   ·exact zc0
   exact zc10
 ·obtain rfl:k=C.length:=by omega
  have hfe:=Z4 (f:=F) (r:=c.length) (i0:=0) λj h1 h2=>hz j h1 (by omega)
  rw[hfe]
  clear hK
  repeat'(first|refine zgc ?_|(refine zge ?_ ?_<;>intro _<;>try exact zo)|fail)
  apply Yh H
  ·exact zc0
  exact zc10
variable {B:Nat}{w0 w:World}{H:List HP}
theorem YdS(z a b:Int)(ga gb:Nat)(h1:blk ga (.cells #[.int .i64 a] 3 (0,0))∈H)(h2:blk gb (.cells #[.int .i64 b] 3 (0,0))∈H)(hw:St B w0 H w):
 CX B w0 287 [.int .i64 z,.pointer (some ⟨ga,0,none⟩),.pointer (some ⟨gb,0,none⟩)] w λv K=>v=.bool (!decide (a<=z/\z<=b))/\K=H:=by
 refine Ya Tryz.func287 Tryz.ntmps287 rfl rfl hw ?_
 by_cases h:a<=z/\z<=b
 ·rw[Td h]
  refine zX1 ?_<;>intros
  exact zc13
 ·rw[Tj h]
  repeat'(first|refine zgc ?_|(refine zge ?_ ?_<;>intro _<;>try exact zo)|fail)
  all_goals(apply Ye;exact rfl;exact rfl;exact⟨rfl,rfl⟩)
theorem Va(l:List Int)(a b:Int)(hl:l.length<=1000000000000){A:Option Addr}{cap:Nat}(hr:Rd B w0 H A (l.flatMap numF))(hw:St B w0 H w):
 CX B w0 201 [.slice A l.length cap,.int .i64 a,.int .i64 b] w λv K=>v=.bool (inL l a b)/\K=H:=by
 refine Ya Tryz.func201 Tryz.ntmps201 rfl rfl hw ?_
 have e1:inL l a b=!(l.any λz=>!decide (a<=z/\z<=b)):=by
  unfold inL
  grind
 rw[e1]
 obtain⟨o,ho⟩:∃o,(l.any λz=>!decide (a<=z/\z<=b))=o:=⟨_,rfl⟩
 rw[ho]
 repeat'(first|((refine zs53 ?_;intro _))|((apply Yr;exact za;exact rfl))|refine zga ?_|fail)
 rename_i ga gb
 have p1:∀w,St B w0 (blk gb (.cells #[.int .i64 b] 3 (0,0))::blk ga (.cells #[.int .i64 a] 3 (0,0))::H) w->CX B w0 246 [.slice A l.length cap,.func (.func 287) #[] [Value.pointer (some ⟨ga,0,none⟩),Value.pointer (some ⟨gb,0,none⟩)].toArray] w λv K=>v=.bool o/\K=blk gb (.cells #[.int .i64 b] 3 (0,0))::blk ga (.cells #[.int .i64 a] 3 (0,0))::H:=λw hw=>by
  have h:=Uv (λz=>Value.int .i64 z) (λz=>!decide (a<=z/\z<=b)) l 287 [.pointer (some ⟨ga,0,none⟩),.pointer (some ⟨gb,0,none⟩)] Yvr (by omega) (cap:=cap) (show Rd B w0 _ A (l.flatMap numF) from hr.cons.cons) (λz _ w hw=>YdS z a b ga gb (.tail _ (.head _)) (.head _) hw) hw
  simp_all
 cases o<;>(
  first|apply Yb Ylb|apply Yc Ylb
  exact za
  exact rfl
  exactλ_ hw=>(p1 _ hw)
  repeat'(first|(first|refine zs47 ?_|refine zs48 ?_)|refine zga ?_|fail)
  apply Yh H
  ·(intro w hw;refine hw.perm ?_;focus repeat(first|with_reducible exact Perm.refl _|(with_reducible focus(done))|with_reducible apply Perm.dropK))
  apply Ye;exact rfl;exact rfl;exact⟨rfl,rfl⟩)
theorem UM{rs:List RowM}{k:Nat}{r:RowM}(h:rs[k]? =some r):rtAt (rs.map (·.xs)) k=r.xs:=by
 have h2:(rs.map (·.xs))[k]? =some r.xs:=by simp_all
 grind [Yaz]
theorem YfN(c:ClM)(hc:c.In B w0 H)(hw:St B w0 H w):
 CX B w0 109 [clV c] w λv K=>v=.bool (V6 c.clm)/\K=H:=by
 refine Ya Tryz.func109 Tryz.ntmps109 rfl rfl hw ?_
 obtain⟨hl1,hl2,hl3,hl4⟩:=hc.ln
 have q1:=λ{H':List HP}{w:World}(hc:c.In B w0 H') (hw:St B w0 H' w)=>Va c.bs 1 512 hl2 (cap:=c.bcap) hc.bd hw
 have q2:=λ{H':List HP}{w:World}(hc:c.In B w0 H') (hw:St B w0 H' w)=>Va c.ws 0 511 hl3 (cap:=c.wcap) hc.ws hw
 obtain⟨F,hF⟩:∃F,V6 c.clm=F:=⟨_,rfl⟩
 have hFe:F=(decide (0<=c.flow/\c.flow<=255/\1<=c.rs.length/\c.rs.length<=2/\c.bs.length=c.rs.length/\c.ws.length=c.rs.length/\c.ss.length=c.rs.length)&&inL c.bs 1 512&&inL c.ws 0 511&&(List.range c.rs.length).all λi=>rtOk (rtAt (c.rs.map (·.xs)) i) (rtAt (c.ss.map (·.xs)) i)):=by
  rw[<-hF]
  unfold V6 ClM.clm
  simp only[Tt]
 rw[hF]
 unfold clV
 obtain⟨b1,hb1⟩:∃b,inL c.bs 1 512=b:=⟨_,rfl⟩
 obtain⟨b2,hb2⟩:∃b,inL c.ws 0 511=b:=⟨_,rfl⟩
 rw[hb1]at q1 hFe
 rw[hb2]at q2 hFe
 by_cases hP:0<=c.flow/\c.flow<=255/\1<=c.rs.length/\c.rs.length<=2/\c.bs.length=c.rs.length/\c.ws.length=c.rs.length/\c.ss.length=c.rs.length
 rotate_left
 ·rw[Tj hP]at hFe
  simp only[S9]at hFe
  subst hFe
  repeat'(first|refine zgc ?_|(refine zge ?_ ?_<;>intro _<;>try exact zo)|(refine zgh ?_;intro _)|fail)
  all_goals(
   apply Yh H
   ·exact zk
   apply Ye;exact rfl;exact rfl;exact⟨rfl,rfl⟩)
 rw[Td hP,RV]at hFe
 obtain⟨f0,f1,n1,n2,e1,e2,e3⟩:=hP
 cases b1 with
 |false=>
  simp only[S9]at hFe
  subst hFe
  refine YiR ?_<;>intros
  first|apply Yb Zx|apply Yc Zx
  exact za
  exact rfl
  exactλ_ hw=>(q1 (hc.mono zc0) hw)
  refine zX2 ?_
  apply Yh H
  ·exact zc0
  exact zc4
 |true=>
 cases b2 with
 |false=>
  simp only[S9,Bool.and_false]at hFe
  subst hFe
  refine YiR ?_<;>intros
  first|apply Yb Zx|apply Yc Zx
  exact za
  exact rfl
  exactλ_ hw=>(q1 (hc.mono zc0) hw)
  refine zX2 ?_
  first|apply Yb Zx|apply Yc Zx
  exact za
  exact rfl
  exactλ_ hw=>(q2 (hc.mono zc0) hw)
  refine zX2 ?_
  apply Yh H
  ·exact zc0
  exact zc4
 |true=>
 simp only[RV]at hFe
 refine YiR ?_<;>intros
 rename_i g _ _ _ _ _ _ _
 first|apply Yb Zx|apply Yc Zx
 exact za
 exact rfl
 exactλ_ hw=>(q1 (hc.mono zc0) hw)
 refine zX2 ?_
 first|apply Yb Zx|apply Yc Zx
 exact za
 exact rfl
 exactλ_ hw=>(q2 (hc.mono zc0) hw)
 refine zX2 ?_
 obtain⟨ok,hok⟩:∃ok:Nat->Bool,(λi=>rtOk (rtAt (c.rs.map (·.xs)) i) (rtAt (c.ss.map (·.xs)) i))=ok:=⟨_,rfl⟩
 rw[hok]at hFe
 refine Yg (λk:Nat=>[(61,.int .i64 (k:Nat)),(60,.int .i64 c.rs.length),(59,.slice c.rA c.rs.length c.rcap),(1,.pointer (some ⟨g,0,none⟩))]) (λ_=>clA g c::H) (λk=>k<=c.rs.length/\∀j,j<k->ok j=true) (λk=>c.rs.length-k) 0 ⟨Ti _,λj h=>absurd h (RE _)⟩ ?_ (λw hw=>hw) ?_
 ·exact zc1
 rintro k ⟨hk,hz⟩ K hK
 have hcr:Rd B w0 (clA g c::H) c.rA (c.rs.flatMap rowF):=hc.rt.cons
 have hcs:Rd B w0 (clA g c::H) c.sA (c.ss.flatMap rowF):=hc.st.cons
 by_cases hlt:k<c.rs.length
 rotate_left
 ·obtain rfl:k=c.rs.length:=by omega
  have hFt:F=true:=by
   rw[hFe,TK]
   exactλj hj=>hz j (T8.1 hj)
  subst hFt
  clear hK
  refine zX1 ?_<;>intros
  apply Yh H
  ·exact zc0
  exact zc4
 obtain⟨r,hr⟩:∃r,c.rs[k]? =some r:=⟨_,Ta hlt⟩
 obtain⟨z,hzz⟩:∃z,c.ss[k]? =some z:=⟨_,Ta (by omega)⟩
 have hrm:=Tc hr
 have hzm:=Tc hzz
 have hkk:ok k=rtOk r.xs z.xs:=by rw[<-hok];show rtOk (rtAt _ _) (rtAt _ _)=_;rw[UM hr,UM hzz]
 unfold rtOk at hkk
 have hrl:=hc.rl r hrm
 have hzl:=hc.sl z hzm
 have q3:=λ{H':List HP}{w:World}(hc:c.In B w0 H') (hw:St B w0 H' w)=>Va r.xs 0 31 hrl (cap:=r.cap) (hc.rw_ r hrm) hw
 have q4:=λ{H':List HP}{w:World}(hc:c.In B w0 H') (hw:St B w0 H' w)=>Va z.xs 0 511 hzl (cap:=z.cap) (hc.sw z hzm) hw
 obtain⟨b3,hb3⟩:∃b,inL r.xs 0 31=b:=⟨_,rfl⟩
 obtain⟨b4,hb4⟩:∃b,inL z.xs 0 511=b:=⟨_,rfl⟩
 rw[hb3]at q3 hkk
 rw[hb4]at q4 hkk
 have hno:ok k=false->F=false:=λh=>by
  rw[hFe,List.all_eq_false]
  exact⟨k,T8.2 hlt,by rw[h];decide⟩
 by_cases hA:2<=r.xs.length/\r.xs.length<=9
 rotate_left
 ·rw[Tj hA]at hkk
  have hFf:=hno (by rw[hkk];rfl)
  subst hFf
  clear hK
  repeat'(first|refine zgd ?_|(refine zge ?_ ?_<;>intro _<;>try exact zo)|fail)
  all_goals(
   apply Yh H
   ·exact zk
   apply Ye;exact rfl;exact rfl;exact⟨rfl,rfl⟩)
 rw[Td hA]at hkk
 cases b3 with
 |false=>
  have hFf:=hno (by rw[hkk];rfl)
  subst hFf
  clear hK
  refine zX0 ?_<;>intros
  first|apply Yb Zx|apply Yc Zx
  exact za
  exact rfl
  exactλ_ hw=>(q3 (hc.mono zc0) hw)
  refine zX2 ?_
  all_goals(
   apply Yh H
   ·exact zc0
   exact zc4)
 |true=>
 by_cases hB:1<=z.xs.length/\z.xs.length<=64
 rotate_left
 ·rw[Tj hB]at hkk
  have hFf:=hno (by rw[hkk];rfl)
  subst hFf
  clear hK
  refine zX0 ?_<;>intros
  first|apply Yb Zx|apply Yc Zx
  exact za
  exact rfl
  exactλ_ hw=>(q3 (hc.mono zc0) hw)
  repeat'(first|refine zgd ?_|(refine zge ?_ ?_<;>intro _<;>try exact zo)|fail)
  all_goals(
   apply Yh H
   ·exact zk
   apply Ye;exact rfl;exact rfl;exact⟨rfl,rfl⟩)
 rw[Td hB]at hkk
 cases b4 with
 |false=>
  have hFf:=hno (by rw[hkk];rfl)
  subst hFf
  clear hK
  refine zX0 ?_<;>intros
  first|apply Yb Zx|apply Yc Zx
  exact za
  exact rfl
  exactλ_ hw=>(q3 (hc.mono zc0) hw)
  refine zX0 ?_<;>intros
  first|apply Yb Zx|apply Yc Zx
  exact za
  exact rfl
  exactλ_ hw=>(q4 (hc.mono zc0) hw)
  refine zX2 ?_
  all_goals(
   apply Yh H
   ·exact zc0
   exact zc4)
 |true=>
  have hkt:ok k=true:=hkk
  refine zX0 ?_<;>intros
  first|apply Yb Zx|apply Yc Zx
  exact za
  exact rfl
  exactλ_ hw=>(q3 (hc.mono zc0) hw)
  refine zX0 ?_<;>intros
  first|apply Yb Zx|apply Yc Zx
  exact za
  exact rfl
  exactλ_ hw=>(q4 (hc.mono zc0) hw)
  refine zX2 ?_
  apply hK (k+1)
  ·exact Ytf
  ·omega
  ·exact zc1
  ·exact zc0
theorem Yjk(c:List ClM){A:Option Addr}{cap B:Nat}{w0:World}{H:List HP}{w:World}(hc:CIn B w0 H A c)(hw:St B w0 H w):
 CX B w0 46 [.slice A c.length cap] w λv K=>v=.bool (Jf (c.map ClM.clm))/\K=H:=by
 refine Ya Tryz.func46 Tryz.ntmps46 rfl rfl hw ?_
 have hcl:=hc.ln
 have hcr:=hc.rd
 obtain⟨ok,hok⟩:∃ok:Nat->Bool,Yhi (c.map ClM.clm)=ok:=⟨_,rfl⟩
 obtain⟨F,hF⟩:∃F,Jf (c.map ClM.clm)=F:=⟨_,rfl⟩
 have hFe:F=(decide (c.length<=16)&&(List.range c.length).all ok):=by
  rw[<-hF];unfold Jf;rw[Tt,hok]
 rw[hF]
 repeat'(first|apply(zs1 ?_)|apply(zs2 ?_)|(apply zg4;refine zs9 ?_)|apply(zs65 ?_)|apply(zs68 ?_)|apply(zs69 ?_)|apply(zs70 ?_)|apply(zs73 ?_)|fail)
 refine Yg (λk:Nat=>[(7,.int .i64 (k:Nat)),(6,.int .i64 c.length),(5,.slice A c.length cap),(0,.slice A c.length cap)]) (λ_=>H) (λk=>k<=c.length/\∀j,j<k->ok j=true) (λk=>c.length-k) 0 ⟨Ti _,λj h=>absurd h (RE _)⟩ ?_ (λw hw=>hw) ?_
 ·exact zc1
 rintro k ⟨hk,hz⟩ K hK
 by_cases hlt:k<c.length
 rotate_left
 ·obtain rfl:k=c.length:=by omega
  have hFt:(List.range c.length).all ok=true:=by
   rw[TK]
   exactλj hj=>hz j (T8.1 hj)
  rw[hFt,Bool.and_true]at hFe
  clear hK
  by_cases h16:c.length<=16
  ·rw[Td h16]at hFe
   subst hFe
   repeat'(first|apply(zs1 ?_)|apply(zs2 ?_)|(apply zg4;refine zs9 ?_)|(apply(zs17 ?_ ?_)<;>intro _<;>try exact zo)|(apply(zs18 ?_ ?_)<;>intro _<;>try exact zo)|apply(zs65 ?_)|apply(zs68 ?_)|apply(zs69 ?_)|apply(zs70 ?_)|(apply zg27;refine zs72 ?_)|apply(zs74 ?_)|apply(zs75 ?_)|apply(zs80 ?_)|apply(zs81 ?_)|fail)
   exact zc4
  ·rw[Tj h16]at hFe
   subst hFe
   repeat'(first|apply(zs1 ?_)|apply(zs2 ?_)|(apply zg4;refine zs9 ?_)|(apply(zs17 ?_ ?_)<;>intro _<;>try exact zo)|(apply(zs18 ?_ ?_)<;>intro _<;>try exact zo)|apply(zs65 ?_)|apply(zs68 ?_)|apply(zs69 ?_)|apply(zs70 ?_)|(apply zg27;refine zs72 ?_)|apply(zs74 ?_)|apply(zs75 ?_)|apply(zs80 ?_)|apply(zs81 ?_)|fail)
   exact zc4
 obtain⟨x,hx⟩:∃x,c[k]? =some x:=⟨_,Ta hlt⟩
 have hxi:=hc.x x (Tc hx)
 have q1:=λ{H':List HP}{w:World}(hx:x.In B w0 H') (hw:St B w0 H' w)=>YfN x hx hw
 have hok1:ok k=(V6 x.clm&&(decide (k=0)||decide ((Jd (c.map ClM.clm) (k-1)).flow<x.flow))):=by
  rw[<-hok];unfold Yhi;rw[Oh hx];rfl
 have hno:ok k=false->F=false:=λh=>by
  rw[hFe,Bool.and_eq_false_iff]
  exact .inr (List.all_eq_false.2 ⟨k,T8.2 hlt,by rw[h];decide⟩)
 obtain⟨b,hb⟩:∃b,V6 x.clm=b:=⟨_,rfl⟩
 rw[hb]at q1 hok1
 cases b with
 |false=>
  have hFf:=hno hok1
  subst hFf
  clear hK
  repeat'(first|apply(zs1 ?_)|apply(zs2 ?_)|(apply zg3;refine zs61 ?_)|(apply zg5;refine zs57 ?_)|(apply(zs17 ?_ ?_)<;>intro _<;>try exact zo)|(apply zg22;refine zs51 ?_)|(apply zg24;(refine zs54 ?_;intro _))|apply(zs65 ?_)|apply(zs68 ?_)|apply(zs69 ?_)|apply(zs70 ?_)|(apply zg27;refine zs71 ?_)|apply(zs73 ?_)|apply(zs76 ?_)|fail)
  apply Xc [0,1,2,3,4,5,6,7,8,9,10,11,12,13,14,15,16,17] []
  kernel_rfl
  kernel_rfl
  (simp only[Yd,nthO];rfl)
  exact rfl
  repeat'(first|(apply zg3;refine zs8 ?_)|apply(zs87 ?_)|fail)
  first|apply Yb YaR|apply Yc YaR
  exact za
  exact rfl
  exactλ_ hw=>(q1 (hxi.mono zc0) hw)
  repeat'(first|apply(zs1 ?_)|apply(zs2 ?_)|(apply zg1;refine zs3 ?_)|(apply zg6;refine zs11 ?_)|(apply zg20;refine zs48 ?_)|apply(zs65 ?_)|(apply ZI;exact zp)|apply(zs68 ?_)|apply(zs69 ?_)|apply(zs70 ?_)|(apply zg27;refine zs71 ?_)|apply(zs74 ?_)|apply(zs77 ?_)|apply(zs78 ?_)|(apply Yj;(repeat(first|with_reducible exact YM|(with_reducible apply YF;(repeat(first|with_reducible exact Yq|with_reducible apply Yu))))))|apply(zs93 ?_)|apply(zs94 ?_)|fail)
  ·show Perm H (H++[])
   exact zc25
  repeat'(first|fail)
  apply Yh H
  ·exact zc0
  exact zc4
 |true=>
  rw[RV]at hok1
  by_cases hk0:k=0
  ·have hkt:ok k=true:=by rw[hok1,Td hk0];rfl
   repeat'(first|apply(zs1 ?_)|apply(zs2 ?_)|(apply zg3;refine zs61 ?_)|(apply zg5;refine zs57 ?_)|(apply(zs17 ?_ ?_)<;>intro _<;>try exact zo)|(apply zg22;refine zs51 ?_)|(apply zg24;(refine zs54 ?_;intro _))|apply(zs65 ?_)|apply(zs68 ?_)|apply(zs69 ?_)|apply(zs70 ?_)|(apply zg27;refine zs71 ?_)|apply(zs73 ?_)|apply(zs76 ?_)|fail)
   apply Xc [0,1,2,3,4,5,6,7,8,9,10,11,12,13,14,15,16,17] []
   kernel_rfl
   kernel_rfl
   (simp only[Yd,nthO];rfl)
   exact rfl
   repeat'(first|(apply zg3;refine zs8 ?_)|apply(zs87 ?_)|fail)
   first|apply Yb YaR|apply Yc YaR
   exact za
   exact rfl
   exactλ_ hw=>(q1 (hxi.mono zc0) hw)
   repeat'(first|apply(zs1 ?_)|(apply zg1;refine zs4 ?_)|(apply zg20;refine zs47 ?_)|apply(zs65 ?_)|(apply Yj;(repeat(first|with_reducible exact YM|(with_reducible apply YF;(repeat(first|with_reducible exact Yq|with_reducible apply Yu))))))|fail)
   ·show Perm H (H++[])
    exact zc25
   repeat'(first|apply(zs1 ?_)|(apply zg1;first|refine zs3 ?_|refine zs4 ?_)|(apply zg6;refine zs12 ?_)|(apply(zs19 ?_ ?_)<;>intro _<;>try exact zo)|(apply zg13;refine zs30 ?_)|apply(zs65 ?_)|(apply ZI;exact zp)|apply(zs68 ?_)|apply(zs70 ?_)|(apply zg27;refine zs72 ?_)|apply(zs76 ?_)|apply(zs79 ?_)|apply(zs93 ?_)|apply(zs94 ?_)|fail)
   apply hK (k+1)
   ·exact Ytf
   ·omega
   ·exact zc1
   ·exact zc0
  obtain⟨y,hy⟩:∃y,c[k-1]? =some y:=⟨_,Ta (by omega)⟩
  have hy2:c[((k:Int)-1).toNat]? =some y:=by rw[show((k:Int)-1).toNat=k-1 by omega];exact hy
  rw[Tj hk0,NG,Oh hy]at hok1
  have hok1:ok k=decide (y.flow<x.flow):=hok1
  by_cases hfl:y.flow<x.flow
  ·rw[Td hfl]at hok1
   repeat'(first|apply(zs1 ?_)|apply(zs2 ?_)|(apply zg3;refine zs61 ?_)|(apply zg5;refine zs57 ?_)|(apply(zs17 ?_ ?_)<;>intro _<;>try exact zo)|(apply zg22;refine zs51 ?_)|(apply zg24;(refine zs54 ?_;intro _))|apply(zs65 ?_)|apply(zs68 ?_)|apply(zs69 ?_)|apply(zs70 ?_)|(apply zg27;refine zs71 ?_)|apply(zs73 ?_)|apply(zs76 ?_)|fail)
   apply Xc [0,1,2,3,4,5,6,7,8,9,10,11,12,13,14,15,16,17] []
   kernel_rfl
   kernel_rfl
   (simp only[Yd,nthO];rfl)
   exact rfl
   repeat'(first|(apply zg3;refine zs8 ?_)|apply(zs87 ?_)|fail)
   first|apply Yb YaR|apply Yc YaR
   exact za
   exact rfl
   exactλ_ hw=>(q1 (hxi.mono zc0) hw)
   repeat'(first|apply(zs1 ?_)|(apply zg1;refine zs4 ?_)|(apply zg20;refine zs47 ?_)|apply(zs65 ?_)|(apply Yj;(repeat(first|with_reducible exact YM|(with_reducible apply YF;(repeat(first|with_reducible exact Yq|with_reducible apply Yu))))))|fail)
   ·show Perm H (H++[])
    exact zc25
   repeat'(first|apply(zs1 ?_)|(apply zg1;refine zs4 ?_)|(apply zg2;first|refine zs6 ?_|refine zs58 ?_)|(apply zg3;first|refine zs7 ?_|refine zs59 ?_)|(apply zg5;refine zs57 ?_)|(apply zg6;first|refine zs11 ?_|refine zs12 ?_)|(apply(zs19 ?_ ?_)<;>intro _<;>try exact zo)|(apply(zs20 ?_ ?_)<;>intro _<;>try exact zo)|(apply zg13;refine zs30 ?_)|(apply zg14;refine zs31 ?_)|apply(zs65 ?_)|(apply ZI;exact zp)|apply(zs68 ?_)|apply(zs70 ?_)|(apply zg27;refine zs72 ?_)|apply(zs76 ?_)|apply(zs79 ?_)|apply(zs93 ?_)|apply(zs94 ?_)|fail)
   apply hK (k+1)
   ·exact⟨by omega,λj h2=>by
     rcases RD.1 h2 with h|rfl
     ·exact hz j h
     ·exact hok1⟩
   ·omega
   ·exact zc1
   ·exact zc0
  ·rw[Tj hfl]at hok1
   have hFf:=hno hok1
   subst hFf
   clear hK
   repeat'(first|apply(zs1 ?_)|apply(zs2 ?_)|(apply zg3;refine zs61 ?_)|(apply zg5;refine zs57 ?_)|(apply(zs17 ?_ ?_)<;>intro _<;>try exact zo)|(apply zg22;refine zs51 ?_)|(apply zg24;(refine zs54 ?_;intro _))|apply(zs65 ?_)|apply(zs68 ?_)|apply(zs69 ?_)|apply(zs70 ?_)|(apply zg27;refine zs71 ?_)|apply(zs73 ?_)|apply(zs76 ?_)|fail)
   apply Xc [0,1,2,3,4,5,6,7,8,9,10,11,12,13,14,15,16,17] []
   kernel_rfl
   kernel_rfl
   (simp only[Yd,nthO];rfl)
   exact rfl
   repeat'(first|(apply zg3;refine zs8 ?_)|apply(zs87 ?_)|fail)
   first|apply Yb YaR|apply Yc YaR
   exact za
   exact rfl
   exactλ_ hw=>(q1 (hxi.mono zc0) hw)
   repeat'(first|apply(zs1 ?_)|(apply zg1;refine zs4 ?_)|(apply zg20;refine zs47 ?_)|apply(zs65 ?_)|(apply Yj;(repeat(first|with_reducible exact YM|(with_reducible apply YF;(repeat(first|with_reducible exact Yq|with_reducible apply Yu))))))|fail)
   ·show Perm H (H++[])
    exact zc25
   repeat'(first|apply(zs1 ?_)|apply(zs2 ?_)|(apply zg1;refine zs4 ?_)|(apply zg2;first|refine zs6 ?_|refine zs58 ?_)|(apply zg3;first|refine zs7 ?_|refine zs59 ?_)|(apply zg5;refine zs57 ?_)|(apply zg6;first|refine zs11 ?_|refine zs12 ?_)|(apply(zs19 ?_ ?_)<;>intro _<;>try exact zo)|(apply(zs20 ?_ ?_)<;>intro _<;>try exact zo)|(apply zg14;refine zs31 ?_)|apply(zs65 ?_)|(apply ZI;exact zp)|apply(zs68 ?_)|apply(zs69 ?_)|apply(zs70 ?_)|(apply zg27;refine zs71 ?_)|apply(zs74 ?_)|apply(zs77 ?_)|apply(zs78 ?_)|apply(zs93 ?_)|apply(zs94 ?_)|fail)
   apply Yh H
   ·exact zc0
   exact zc4
def rt3(x:Clm)(i:Nat):List UInt8:=Xq wordR (rtAt x.routes i)++Xq UP [x.bounds.getD i 0,x.worst.getD i 0]++Xq UQ (rtAt x.slots i)
def clT(x:Clm)(k:Nat):List UInt8:=Xq wordF [x.flow]++(List.range k).flatMap (rt3 x)
def Ju(c:List Clm)(k:Nat):List UInt8:=(c.take k).flatMap λx=>clT x x.routes.length
variable {x:Clm}
theorem YnA(h:FormD x):((Ue x).flatMap λp=>p++[10])=clT x x.routes.length:=by
 have e:∀ks:List Nat,(∀i∈ks,i<x.routes.length)->(ks.flatMap (YlO x)).flatMap (λp=>p++[10])=ks.flatMap (rt3 x):=by
  intro ks
  induction ks with
  |nil=>simp_all
  |cons i ks ih=>
   simp_all [YlO,rt3,Xq,Go.Proofs.YtjlgijpmnfabcaaGreatDoor.FormD.b,Go.Proofs.YtjlgijpmnfabcaaGreatDoor.FormD.s]
 unfold Ue clT
 rw[TN,e _ λi hi=>T8.1 hi]
 rfl
variable {c:List Clm}
theorem Yfg(h:∀x∈c,FormD x):Wy c=Ju c c.length:=by
 unfold Wy Ju
 induction c with
 |nil=>rfl
 |cons x c ih=>
  grind [YnA]
theorem Yeo{k:Nat}(h:c[k]? =some x):Ju c (k+1)=Ju c k++clT x x.routes.length:=by
 grind [Ju,TF]
theorem Yhh(x:Clm)(k:Nat):clT x (k+1)=clT x k++rt3 x k:=by
 grind [clT,Rq]
variable {b:Int}
theorem Wb{l:List Int}(hb:b<10000)(h:∀x∈l,0<=x/\x<=b):∀n∈l,0<=n/\n<10000:=by grind
theorem Yfh{a:Int}(ha:0<=a/\a<10000)(hb:0<=b/\b<10000):∀n∈[a,b],0<=n/\n<10000:=by simp_all
variable {i B cap:Nat}
theorem Yel(h:FormD x)(hi:i<x.routes.length):(0<=x.bounds.getD i 0/\x.bounds.getD i 0<10000)/\(0<=x.worst.getD i 0/\x.worst.getD i 0<10000):=by
 have h1:=h.bs _ (Oj (l:=x.bounds) (i:=i) (by rw[h.b];exact hi))
 have h2:=h.ws _ (Oj (l:=x.worst) (i:=i) (by rw[h.w];exact hi))
 omega
theorem YlQ(h:FormD x)(hi:i<x.routes.length):(rt3 x i).length<=500:=by
 have h1:=h.rs i hi
 have h2:=h.ls i hi
 have h3:=Yel h hi
 have k1:=Zb (w:=wordR) (Wb (by decide) h1.2.2)
 have k2:=Zb (w:=UP) (Yfh h3.1 h3.2)
 have k3:=Zb (w:=UQ) (Wb (by decide) h2.2.2)
 grind [wordR,UP,UQ,rt3]
theorem YfP{x:Clm}(h:FormD x):∀k,k<=x.routes.length->(clT x k).length<=20+500*k
 |0,_=>by
  have k1:=Zb (w:=wordF) (l:=[x.flow]) λn hn=>by have:=h.f;grind
  grind [wordF,clT]
 |k+1,hk=>by
  have ih:=YfP h k (by omega)
  grind [YlQ,Yhh]
theorem Yah{c:List Clm}(h:∀x∈c,FormD x):∀k,k<=c.length->(Ju c k).length<=1100*k
 |0,_=>by grind [Ju]
 |k+1,hk=>by
  have ih:=Yah h k (by omega)
  obtain⟨x,hx⟩:∃x,c[k]? =some x:=⟨_,Ta (by omega)⟩
  have hf:=h x (Tc hx)
  have h1:=YfP hf x.routes.length (TI _)
  have:=hf.n
  grind [Yeo]
variable {w0 w:World}{H:List HP}
theorem ClM.In.here{c:ClM}(h:c.In B w0 H)(hw:St B w0 H w):c.In w.heap.size w []:=
 ⟨h.rt.here hw,λr hr=>(h.rw_ r hr).here hw,h.bd.here hw,h.ws.here hw,h.st.here hw,λr hr=>(h.sw r hr).here hw,h.ln,h.rl,h.sl⟩
variable {A:Option Addr}
theorem CIn.here{c:List ClM}(h:CIn B w0 H A c)(hw:St B w0 H w):CIn w.heap.size w [] A c:=⟨h.rd.here hw,λx hx=>(h.x x hx).here hw,h.ln⟩
structure PrM where
 i:Nat
 A:Option Addr
 cap:Nat
theorem YmE(c:List ClM)(ht:TabsB B w0)(hc:CIn B w0 [] A c)(hw:St B w0 [] w):
 CX B w0 12 [.slice A c.length cap] w λv _=>v=.tuple #[strV (Zf (c.map ClM.clm)).1,.int .i64 (Zf (c.map ClM.clm)).2]:=by
 refine Ya Tryz.func12 Tryz.ntmps12 rfl rfl hw ?_
 have p1:=λ{H':List HP}{w:World}(hc:CIn B w0 H' A c) (hw:St B w0 H' w)=>Yjk c (cap:=cap) hc hw
 have hcr:=hc.rd
 cases hf:Jf (c.map ClM.clm)with
 |false=>
  rw[hf]at p1
  repeat'(first|((first|apply Yb en46|apply Yc en46);exact za;exact rfl;exactλ_ hw=>(p1 (hc.mono zk) hw))|apply(zs1 ?_)|apply(zs2 ?_)|(apply zg20;refine zs48 ?_)|apply(zs65 ?_)|apply(zs68 ?_)|apply(zs69 ?_)|apply(zs70 ?_)|(apply zg27;refine zs71 ?_)|apply(zs74 ?_)|apply(zs77 ?_)|fail)
  apply YN;(iterate 3 exact rfl)
  simp_all [Zf]
 |true=>
  rw[hf]at p1
  obtain⟨h16,hfd⟩:=QE hf
  rw[Tt]at h16
  repeat'(first|((first|apply Yb en46|apply Yc en46);exact za;exact rfl;exactλ_ hw=>(p1 (hc.mono zk) hw))|apply(zs1 ?_)|apply(zs2 ?_)|(apply zg4;refine zs9 ?_)|(apply zg20;refine zs47 ?_)|(apply zg24;(refine zs54 ?_;intro _))|apply(zs65 ?_)|apply(zs68 ?_)|apply(zs69 ?_)|apply(zs70 ?_)|(apply zg27;refine zs72 ?_)|apply(zs73 ?_)|apply(zs76 ?_)|fail)
  rename_i gb
  refine Yg (λz:PrM=>[(14,.int .i64 (z.i:Nat)),(13,.int .i64 c.length),(12,.slice A c.length cap),(4,.pointer (some ⟨gb,0,none⟩))]) (λz=>bdP gb (if z.i=0 then .pointer none else .pointer (some ⟨gb,0,none⟩)) z.A z.cap (Ju (c.map ClM.clm) z.i) []) (λz=>z.i<=c.length) (λz=>c.length-z.i) ⟨0,none,0⟩ (Ti _) ?_ ?_ ?_
  ·exact zc1
  ·intro w hw
   have h5:St B w0 [blk gb (.cells (Value.agg #[.pointer none,.slice none 0 0]).cells 98 (0,0))] w:=hw
   exact(h5.nilSlice 5 1).perm (.swap _ _ _)
  rintro⟨k,A1,cap1⟩ hk K hK
  dsimp only at hk⊢
  have htl:=Yah hfd k (by rw[Tt];exact hk)
  by_cases hlt:k<c.length
  rotate_left
  ·obtain rfl:k=c.length:=by omega
   obtain⟨p,hp⟩:∃p,(if c.length=0 then Value.pointer none else .pointer (some ⟨gb,0,none⟩))=p:=⟨_,rfl⟩
   have hp2:p=.pointer none\/p=.pointer (some ⟨gb,0,none⟩):=by rw[<-hp];split<;>simp
   rw[hp]
   clear hK
   repeat'(first|(apply(zs17 ?_ ?_)<;>intro _<;>try exact zo)|apply(zs65 ?_)|apply(zs68 ?_)|apply(zs69 ?_)|apply(zs70 ?_)|(apply zg27;refine zs72 ?_)|apply(zs75 ?_)|apply(zs80 ?_)|apply(zs81 ?_)|fail)
   apply Yf _ en37
   exact za
   exact rfl
   exactλ_ hw=>(W7 (l:=Ju (c.map ClM.clm) c.length) hp2 (hw))
   rintro _ _ ⟨rfl,rfl⟩
   repeat'(first|apply(zs2 ?_)|apply(zs65 ?_)|apply(zs68 ?_)|apply(zs74 ?_)|fail)
   apply YN;(iterate 3 exact rfl)
   rw[Zf,Tf (by rw[hf];decide),Yfg hfd,Tt]
  obtain⟨x,hx⟩:∃x,c[k]? =some x:=⟨_,Ta hlt⟩
  have hxm:=Tc hx
  have hxd:=hfd x.clm (RX hxm)
  have hxi:=hc.x x hxm
  obtain⟨p,hp⟩:∃p,(if k=0 then Value.pointer none else .pointer (some ⟨gb,0,none⟩))=p:=⟨_,rfl⟩
  have hp2:p=.pointer none\/p=.pointer (some ⟨gb,0,none⟩):=by rw[<-hp];split<;>simp
  rw[hp]
  unfold bdP
  repeat'(first|(apply zg2;refine zs6 ?_)|(apply zg3;first|refine zs7 ?_|refine zs61 ?_)|(apply zg5;refine zs57 ?_)|(apply(zs17 ?_ ?_)<;>intro _<;>try exact zo)|(apply zg22;refine zs51 ?_)|(apply zg24;(refine zs54 ?_;intro _))|(apply zg26;(refine zs56 ?_;intro _))|apply(zs65 ?_)|apply(zs68 ?_)|apply(zs69 ?_)|apply(zs70 ?_)|(apply zg27;refine zs71 ?_)|apply(zs73 ?_)|apply(zs76 ?_)|fail)
  rename_i gx gl
  have hlen1:x.clm.routes.length=x.rs.length:=by show(x.rs.map (·.xs)).length=_;exact Yfm
  have hxn:=hxd.n
  rw[hlen1]at hxn
  have hbl:x.bs.length=x.rs.length:=by have:=hxd.b;rw[hlen1]at this;exact this
  have hwl:x.ws.length=x.rs.length:=by have:=hxd.w;rw[hlen1]at this;exact this
  have hsl:x.ss.length=x.rs.length:=by have:=hxd.s;rw[hlen1]at this;rw[<-this];show _=(x.ss.map (·.xs)).length;exact Yfm
  have hrl:∀X,Rd B w0 (blk gl (.cells #[.int .i64 x.flow] 3 (0,0))::X) (some ⟨gl,0,none⟩) ([x.flow].flatMap numF):=λX=>Rd.blk (cs:=#[.int .i64 x.flow]) (.head _)
  have hfl:∀n∈[x.flow],0<=n/\n<10000:=λn hn=>by
   have:=hxd.f
   rw[TX.1 hn]
   exact⟨this.1,by have:=this.2;show x.clm.flow<_;omega⟩
  have hfl2:=Zb (w:=wordF) hfl
  have e1:wordF.length=4:=rfl
  simp only[T0,RB]at hfl2
  first|apply Yb en47|apply Yc en47
  exact za
  exact rfl
  exactλ_ hw=>(U0 wordF [x.flow] hfl (by show 1<=100;decide) (by decide) ht (hrl _) hw)
  apply Xy (bdP gb p A1 cap1 (Ju (c.map ClM.clm) k) [clA gx x])
  ·unfold bdP
   exact zc0
  apply Yf _ en35
  exact za
  exact rfl
  exactλ_ hw=>(JF gb p hp2 A1 cap1 (Ju (c.map ClM.clm) k) (Xq wordF [x.flow]) (by omega) (hw))
  rintro _ _ ⟨rfl,A2,cap2,rfl⟩
  unfold bdP
  repeat'(first|apply(zs1 ?_)|(apply zg2;refine zs6 ?_)|(apply zg3;refine zs7 ?_)|(apply zg4;refine zs9 ?_)|apply(zs65 ?_)|apply(zs68 ?_)|apply(zs69 ?_)|apply(zs70 ?_)|apply(zs73 ?_)|fail)
  refine Yg (λz:PrM=>[(26,.int .i64 (z.i:Nat)),(25,.int .i64 x.rs.length),(24,.slice x.rA x.rs.length x.rcap),(6,.pointer (some ⟨gx,0,none⟩)),(14,.int .i64 (k:Nat)),(13,.int .i64 c.length),(12,.slice A c.length cap),(4,.pointer (some ⟨gb,0,none⟩))]) (λz=>bdP gb (.pointer (some ⟨gb,0,none⟩)) z.A z.cap (Ju (c.map ClM.clm) k++clT x.clm z.i) [clA gx x]) (λz=>z.i<=x.rs.length) (λz=>x.rs.length-z.i) ⟨0,A2,cap2⟩ (Ti _) ?_ ?_ ?_
  ·exact zc1
  ·have e0:clT x.clm 0=Xq wordF [x.flow]:=by unfold clT;simp;rfl
   rw[e0]
   unfold bdP
   exact Yfl
  rintro⟨j,A3,cap3⟩ hj K2 hK2
  dsimp only at hj⊢
  have hcl2:=YfP hxd j (by rw[hlen1];exact hj)
  unfold bdP
  by_cases hjl:j<x.rs.length
  rotate_left
  ·obtain rfl:j=x.rs.length:=by omega
   clear hK2
   have hst:Ju (c.map ClM.clm) (k+1)=Ju (c.map ClM.clm) k++clT x.clm x.rs.length:=by
    rw[Yeo (x:=x.clm) (by rw[TJ,hx];rfl),hlen1]
   rw[<-hst]
   repeat'(first|apply(zs1 ?_)|(apply(zs17 ?_ ?_)<;>intro _<;>try exact zo)|(apply zg13;refine zs30 ?_)|apply(zs65 ?_)|apply(zs68 ?_)|apply(zs69 ?_)|apply(zs70 ?_)|(apply zg27;refine zs72 ?_)|apply(zs75 ?_)|apply(zs79 ?_)|apply(zs80 ?_)|apply(zs81 ?_)|fail)
   apply hK ⟨k+1,A3,cap3⟩
   ·show k+1<=c.length
    omega
   ·exact zc47
   ·exact zc1
   ·dsimp only
    rw[Tf (Nat.succ_ne_zero k)]
    unfold bdP
    exact zc0
  obtain⟨r,hr⟩:∃r,x.rs[j]? =some r:=⟨_,Ta hjl⟩
  obtain⟨z,hz⟩:∃z,x.ss[j]? =some z:=⟨_,Ta (by omega)⟩
  obtain⟨bv,hbv⟩:∃b,x.bs[j]? =some b:=⟨_,Ta (by omega)⟩
  obtain⟨wv,hwv⟩:∃b,x.ws[j]? =some b:=⟨_,Ta (by omega)⟩
  have hrm:=Tc hr
  have hzm:=Tc hz
  have hjc:j<x.clm.routes.length:=by omega
  have g1:rtAt x.clm.routes j=r.xs:=UM hr
  have g2:rtAt x.clm.slots j=z.xs:=UM hz
  have g3:x.clm.bounds.getD j 0=bv:=by show x.bs.getD j 0=bv;rw[Tz,hbv];rfl
  have g4:x.clm.worst.getD j 0=wv:=by show x.ws.getD j 0=wv;rw[Tz,hwv];rfl
  have n1:=hxd.rs j hjc
  have n2:=hxd.ls j hjc
  have n3:=Yel hxd hjc
  have hr3:=YlQ hxd hjc
  have hst:=Yhh x.clm j
  unfold rt3 at hr3 hst
  rw[g1,g2,g3,g4]at hr3 hst
  rw[g1]at n1
  rw[g2]at n2
  rw[g3,g4]at n3
  have m1:=Wb (b:=31) (by decide) n1.2.2
  have m2:=Wb (b:=511) (by decide) n2.2.2
  have m3:=Yfh n3.1 n3.2
  have l1:=λ{H':List HP}{w:World}(hr:Rd B w0 H' r.A (r.xs.flatMap numF)) (hw:St B w0 H' w)=>U0 wordR r.xs m1 (by omega) (by decide) (cap:=r.cap) ht hr hw
  have l2:=λ{g:Nat}{cap:Nat}{H':List HP}{w:World}(hm:blk g (.cells #[.int .i64 bv,.int .i64 wv] 3 (0,0))∈H') (hw:St B w0 H' w)=>U0 UP [bv,wv] m3 (by show 2<=100;decide) (by decide) (A:=some ⟨g,0,none⟩) (cap:=cap) ht (show Rd B w0 H' _ ([bv,wv].flatMap numF) from Rd.blk hm) hw
  have l3:=λ{H':List HP}{w:World}(hr:Rd B w0 H' z.A (z.xs.flatMap numF)) (hw:St B w0 H' w)=>U0 UQ z.xs m2 (by omega) (by decide) (cap:=z.cap) ht hr hw
  obtain⟨s1,hs1⟩:∃s,Xq wordR r.xs=s:=⟨_,rfl⟩
  obtain⟨s2,hs2⟩:∃s,Xq UP [bv,wv]=s:=⟨_,rfl⟩
  obtain⟨s3,hs3⟩:∃s,Xq UQ z.xs=s:=⟨_,rfl⟩
  rw[hs1]at l1 hr3 hst
  rw[hs2]at l2 hr3 hst
  rw[hs3]at l3 hr3 hst
  rw[Tq,Tq]at hr3
  have hrr:=hxi.rt
  have hbr:=hxi.bd
  have hwr:=hxi.ws
  have hsr:=hxi.st
  repeat'(first|apply(zs1 ?_)|apply(zs2 ?_)|(apply zg3;refine zs60 ?_)|(apply zg5;refine zs57 ?_)|(apply(zs17 ?_ ?_)<;>intro _<;>try exact zo)|apply(zs65 ?_)|apply(zs68 ?_)|apply(zs69 ?_)|apply(zs70 ?_)|(apply zg27;refine zs71 ?_)|apply(zs73 ?_)|apply(zs76 ?_)|fail)
  apply JH (.n1 0 (.n1 2 (.n1 3 (.n1 4 (.n1 5 (.n1 6 (.n1 7 (.n1 8 (.n1 9 (.n1 10 (.n1 11 (.n1 15 (.n1 16 (.n1 17 (.n1 18 (.n1 19 (.n2 1 (.n1 12 (.n1 13 (.n1 14 (.n1 20 (.n1 21 .done))))) 12 (.n1 1 (.n1 13 (.n1 14 (.n1 20 (.n1 21 .done)))))))))))))))))))))) [22] [false,false,true]
  kernel_rfl
  kernel_rfl
  exact zy
  (simp only[Yd,nthO];rfl)
  repeat'(first|apply(zs1 ?_)|(apply zg2;refine zs6 ?_)|(apply zg3;first|refine zs7 ?_|refine zs60 ?_)|(apply zg5;refine zs57 ?_)|(apply zg26;(refine zs56 ?_;intro _))|apply(zs65 ?_)|(apply ZI;exact zp)|apply(zs87 ?_)|(apply Yj;try exact zl)|apply(zs90 ?_)|apply(zs91 ?_ ?_)|(apply Y7;try exact zl)|fail)
  all_goals(
   first|apply Yb en47|apply Yc en47
   exact za
   exact rfl
   exactλ_ hw=>(l1 ((hxi.rw_ r hrm).mono zk) hw)
   repeat'(first|(apply zg26;(refine zs56 ?_;intro _))|apply(zs65 ?_)|(apply ZI;exact zp)|apply(zs87 ?_)|(apply Yj;try exact zl)|apply(zs90 ?_)|(apply Y7;try exact zl)|fail)
   first|apply Yb en47|apply Yc en47
   exact za
   exact rfl
   exactλ_ hw=>(l2 zm hw)
   repeat'(first|(apply Ug s1 s2;(iterate 3 exact rfl);omega)|apply(zs65 ?_)|(apply ZI;exact zp)|apply(zs87 ?_)|(apply Yj;try exact zl)|apply(zs90 ?_)|(apply Y7;try exact zl)|fail)
   first|apply Yb en47|apply Yc en47
   exact za
   exact rfl
   exactλ_ hw=>(l3 ((hxi.sw z hzm).mono zk) hw)
   repeat'(first|(apply Ug (s1++s2) s3;(iterate 3 exact rfl);(rw[Tq];omega))|apply(zs65 ?_)|(apply ZI;exact zp)|(apply Yj;try exact zl)|(apply YkJ;exact zp)|apply(zs90 ?_)|(apply Y7;try exact zl)|apply(zs93 ?_)|fail)
   apply Xy (bdP gb (.pointer (some ⟨gb,0,none⟩)) A3 cap3 (Ju (c.map ClM.clm) k++clT x.clm j) [clA gx x])
   ·unfold bdP
    exact zk
   apply Yf _ en35
   exact za
   exact rfl
   exactλ_ hw=>(JF gb _ (.inr rfl) A3 cap3 (Ju (c.map ClM.clm) k++clT x.clm j) (s1++s2++s3) (by rw[Tq,Tq,Tq];omega) (hw))
   rintro _ _ ⟨rfl,A4,cap4,rfl⟩
   repeat'(first|apply(zs1 ?_)|(apply zg13;refine zs30 ?_)|apply(zs65 ?_)|apply(zs68 ?_)|apply(zs70 ?_)|apply(zs79 ?_)|apply(zs94 ?_)|fail)
   apply hK2 ⟨j+1,A4,cap4⟩
   ·show j+1<=x.rs.length
    omega
   ·dsimp only;omega
   ·exact zu
   ·dsimp only
    intro w hw
    rw[hst,show Ju (c.map ClM.clm) k++(clT x.clm j++(s1++s2++s3))=Ju (c.map ClM.clm) k++clT x.clm j++(s1++s2++s3) from(Re _ _ _).symm]
    exact hw)
theorem YaP(c:List ClM)(ht:TabsB B w0)(hc:CIn B w0 H A c)(hw:St B w0 H w):
 CX B w0 12 [.slice A c.length cap] w λv K=>v=.tuple #[strV (Zf (c.map ClM.clm)).1,.int .i64 (Zf (c.map ClM.clm)).2]/\K=H:=
 WI hw (YmE c (ht.here hw) (hc.here hw) (St.start w))
structure AttM where
 slot:Int
 frame:Int
 c:Cel
 o:Int
structure StM where
 frame:Int
 since:Int->Option Int
 acked:Int->Int->Option Int
 done:Bool
structure PlM where
 st:List StM
 atts:List AttM
 dels:List (Int×Int×Int)
def perF(f:Flw):Int:=f.2.2.2.1
def phaF(f:Flw):Int:=f.2.2.2.2.1
def dstF(f:Flw):Int:=f.2.2.1
def Yuk(f:Flw)(k:Int):Int:=phaF f+k*perF f
def newS(f:Flw)(n k:Int):StM:=⟨k,λv=>if v=f.2.1 then some n else none,λ_ _=>none,false⟩
def relS(f:Flw)(n:Int)(x:StM):StM:=if n<phaF f then x else if(n-phaF f)/perF f=x.frame then x else newS f n ((n-phaF f)/perF f)
def canT(f:Flw)(x:StM)(c:Cel)(n:Int):Prop:=0<=x.frame/\(∃a,x.since (YB c)=some a/\a<=n)/\YB c≠dstF f/\∀t,x.acked (YB c) (toC c)=some t->n<=t
def YvX(f:Flw)(x:StM)(c:Cel)(n o:Int):StM:=
 ⟨x.frame,if o=3\/(x.since (toC c)).isSome then x.since elseλv=>if v=toC c then some (n+1)else x.since v,
  if o=1/\x.acked (YB c) (toC c)=none thenλu v=>if u=YB c/\v=toC c then some n else x.acked u v else x.acked,
  x.done||(decide (o≠3)&&decide (toC c=dstF f))⟩
def delS(f:Flw)(x:StM)(c:Cel)(n o:Int):List (Int×Int×Int):=if o≠3/\toC c=dstF f/\x.done=false then [(f.1,x.frame,n)]else []
def YuQ:StM:=⟨-1,λ_=>none,λ_ _=>none,false⟩
inductive Pl (l:List Flw) (s:Sch):Int->Nat->PlM->Prop
 |start:Pl l s 0 0 ⟨l.map λ_=>YuQ,[],[]⟩
 |rel {n:Int}{p:PlM}(st:List StM):Pl l s n 0 p->st.length=l.length->(∀(i:Nat) f x,l[i]? =some f->p.st[i]? =some x->st[i]? =some (relS f n x))->Pl l s n 1 ⟨st,p.atts,p.dels⟩
 |skip {n:Int}{j:Nat}{p:PlM}{c:Cel}:Pl l s n (j+1) p->(atE s n)[j]? =some c->(∀(i:Nat) f x,l[i]? =some f->p.st[i]? =some x->f.1=Xo c->¬canT f x c n)->Pl l s n (j+2) p
 |att {n:Int}{j i:Nat}{p:PlM}{c:Cel}{f:Flw}{x:StM}(o:Int):Pl l s n (j+1) p->(atE s n)[j]? =some c->l[i]? =some f->p.st[i]? =some x->f.1=Xo c->canT f x c n->
  Pl l s n (j+2) ⟨p.st.set i (YvX f x c n o),p.atts++[⟨n,x.frame,c,o⟩],p.dels++delS f x c n o⟩
 |next {n:Int}{p:PlM}(ds:List (Int×Int×Int)):Pl l s n ((atE s n).length+1) p->ds.Perm p.dels->Pl l s (n+1) 0 ⟨p.st,p.atts,ds⟩
def onK(id k u v:Int)(a:AttM):Bool:=decide (Xo a.c=id/\a.frame=k/\YB a.c=u/\toC a.c=v)
def keyL(atts:List AttM)(id k u v:Int):List AttM:=atts.filter (onK id k u v)
def cntL(s:Sch)(q:Cel->Bool):Nat->Int->Nat
 |0,_=>0
 |m+1,a=>((atE s a).filter q).length+cntL s q m (a+1)
def YlE(s:Sch)(q:Cel->Bool)(b:Option Int)(a0 n:Int)(j:Nat):Nat:=
 match b with
 |some b=>cntL s q (b-1-a0).toNat a0
 |none=>cntL s q (n-a0).toNat a0+if a0<=n then(((atE s n).take j).filter q).length else 0
def Hop(s:Sch)(f:Flw)(k:Int)(atts:List AttM)(since:Int->Option Int)(n:Int)(j:Nat):Prop:=
 ∀u v a0,u≠dstF f->since u=some a0->∃K1,K1<+:keyL atts f.1 k u v/\(∀a∈K1,a.o=3)/\YlE s (onP f.1 u v) (since v) a0 n j<=K1.length
def Dlv(f:Flw)(k:Int)(dels:List (Int×Int×Int))(since:Int->Option Int):Prop:=
 (∀d∈dels,d.1=f.1->d.2.1=k->since (dstF f)=some (d.2.2+1))/\∀b,since (dstF f)=some b->(f.1,k,b-1)∈dels
structure Arch(s:Sch)(f:Flw)(k n:Int)(j:Nat)(p:PlM)(since:Int->Option Int):Prop where
 src:since f.2.1=some (Yuk f k)
 hop:Hop s f k p.atts since n j
 dlv:Dlv f k p.dels since
variable {s:Sch}{f:Flw}{k n:Int}{j:Nat}{p:PlM}{since:Int->Option Int}
theorem Arch.mono{p':PlM}(h:Arch s f k n j p since)
 (ha:∀u v,keyL p.atts f.1 k u v<+:keyL p'.atts f.1 k u v) (hd:∀d,d.1=f.1->d.2.1=k->(d∈p'.dels↔d∈p.dels)):Arch s f k n j p' since:=by
 refine⟨h.src,λu v a0 hu hs=>?_,?_,?_⟩
 ·obtain⟨K1,h1,h2,h3⟩:=h.hop u v a0 hu hs
  grind
 ·intro d hm h1 h2
  exact h.dlv.1 d ((hd d h1 h2).1 hm) h1 h2
 ·intro b hb
  exact(hd (f.1,k,b-1) rfl rfl).2 (h.dlv.2 b hb)
theorem Yko{α:Type}{L:List α}{c:α}(h:L[j]? =some c):L.take (j+1)=L.take j++[c]:=Ybo
variable {c:Cel}
theorem YmS{L:List Cel}(h:L[j]? =some c)(q:Cel->Bool):((L.take (j+1)).filter q).length=((L.take j).filter q).length+if q c then 1 else 0:=by
 rw[Yko h,SD,Tq]
 grind
theorem YpF{a0:Int}(h:(atE s n)[j]? =some c){q:Cel->Bool}(hq:q c=false)(b:Option Int):YlE s q b a0 n (j+1)=YlE s q b a0 n j:=by
 simp_all [YlE,YmS]
theorem YrD{id u v:Int}:onP id u v c=true↔Xo c=id/\YB c=u/\toC c=v:=by simp[onP]
theorem Arch.offs(h:Arch s f k n j p since)(hc:(atE s n)[j]? =some c)(hf:Xo c≠f.1):Arch s f k n (j+1) p since:=by
 refine⟨h.src,λu v a0 hu hs=>?_,h.dlv⟩
 obtain⟨K1,h1,h2,h3⟩:=h.hop u v a0 hu hs
 grind [YpF,YrD]
def Chain(d:Int):Int->List Lk->Prop
 |u,[]=>u=d
 |u,l::ls=>u=l.1/\u≠d/\Chain d l.2.1 ls
theorem YjL{x:List (Cel×Int)}{a:Int}(hx:x≠[]):Jj (x.map Prod.snd)+1=XA x a:=by
 grind [Jj,XA,List.getLast?_eq_none_iff]
variable {B:Nat}{w0 w:World}{H:List HP}
theorem Ybw(c d:ClM)(hc:c.In B w0 H)(hd:d.In B w0 H)(hw:St B w0 H w):
 CX B w0 50 [clV c,clV d] w λu K=>u=.bool (decide (c.clm=d.clm))/\K=H:=by
 refine Ya Tryz.func50 Tryz.ntmps50 rfl rfl hw ?_
 have hcl:=hc.ln
 have hdl:=hd.ln
 have p1:=λ{H':List HP}{w:World}(hc:c.In B w0 H') (hd:d.In B w0 H') (hw:St B w0 H' w)=>Ww c.rs d.rs (cap:=c.rcap) (cap2:=d.rcap) hcl.1 hdl.1 hc.rl hd.rl hc.rt hd.rt hc.rw_ hd.rw_ hw
 have p2:=λ{H':List HP}{w:World}(hc:c.In B w0 H') (hd:d.In B w0 H') (hw:St B w0 H' w)=>Jq c.bs d.bs (cap:=c.bcap) (cap2:=d.bcap) (by omega) (by omega) hc.bd hd.bd hw
 have p3:=λ{H':List HP}{w:World}(hc:c.In B w0 H') (hd:d.In B w0 H') (hw:St B w0 H' w)=>Jq c.ws d.ws (cap:=c.wcap) (cap2:=d.wcap) (by omega) (by omega) hc.ws hd.ws hw
 have hce:=@YoI c d
 unfold clV
 by_cases h1:c.flow=d.flow
 rotate_left
 ·rw[Tj (λh=>h1 (hce.1 h).1)]
  repeat'(first|refine zgc ?_|(refine zge ?_ ?_<;>intro _<;>try exact zo)|(refine zgh ?_;intro _)|fail)
  apply Yh H
  ·exact zc0
  exact zc4
 by_cases h2:c.rs.map (·.xs)=d.rs.map (·.xs)
 rotate_left
 ·rw[Tj (λh=>h2 (hce.1 h).2.1)]
  rw[Tj h2]at p1
  repeat'(first|refine zgc ?_|(refine zge ?_ ?_<;>intro _<;>try exact zo)|(refine zgh ?_;intro _)|fail)
  first|apply Yb en49|apply Yc en49
  exact za
  exact rfl
  exactλ_ hw=>(p1 (hc.mono zc0) (hd.mono zc0) hw)
  repeat'(first|refine zgd ?_|fail)
  apply Yh H
  ·exact zc0
  exact zc4
 rw[Td h2]at p1
 by_cases h3:c.bs=d.bs
 rotate_left
 ·rw[Tj (λh=>h3 (hce.1 h).2.2.1)]
  rw[Tj h3]at p2
  repeat'(first|refine zgc ?_|(refine zge ?_ ?_<;>intro _<;>try exact zo)|(refine zgh ?_;intro _)|fail)
  first|apply Yb en49|apply Yc en49
  exact za
  exact rfl
  exactλ_ hw=>(p1 (hc.mono zc0) (hd.mono zc0) hw)
  repeat'(first|refine zgd ?_|fail)
  first|apply Yb Z1|apply Yc Z1
  exact za
  exact rfl
  exactλ_ hw=>(p2 (hc.mono zc0) (hd.mono zc0) hw)
  repeat'(first|refine zgd ?_|fail)
  apply Yh H
  ·exact zc0
  exact zc4
 rw[Td h3]at p2
 by_cases h4:c.ws=d.ws
 rotate_left
 ·rw[Tj (λh=>h4 (hce.1 h).2.2.2.1)]
  rw[Tj h4]at p3
  repeat'(first|refine zgc ?_|(refine zge ?_ ?_<;>intro _<;>try exact zo)|(refine zgh ?_;intro _)|fail)
  first|apply Yb en49|apply Yc en49
  exact za
  exact rfl
  exactλ_ hw=>(p1 (hc.mono zc0) (hd.mono zc0) hw)
  repeat'(first|refine zgd ?_|fail)
  first|apply Yb Z1|apply Yc Z1
  exact za
  exact rfl
  exactλ_ hw=>(p2 (hc.mono zc0) (hd.mono zc0) hw)
  repeat'(first|refine zgd ?_|fail)
  first|apply Yb Z1|apply Yc Z1
  exact za
  exact rfl
  exactλ_ hw=>(p3 (hc.mono zc0) (hd.mono zc0) hw)
  repeat'(first|refine zgd ?_|fail)
  apply Yh H
  ·exact zc0
  exact zc4
 rw[Td h4]at p3
 have h5:decide (c.clm=d.clm)=decide (c.ss.map (·.xs)=d.ss.map (·.xs)):=decide_eq_decide.2 ⟨λh=>(hce.1 h).2.2.2.2,λh=>hce.2 ⟨h1,h2,h3,h4,h⟩⟩
 rw[h5]
 by_cases h6:c.ss.length=d.ss.length
 rotate_left
 ·rw[Tj (λe=>h6 (by have:=TG List.length e;rwa [Tt,Tt]at this))]
  repeat'(first|refine zgc ?_|(refine zge ?_ ?_<;>intro _<;>try exact zo)|(refine zgh ?_;intro _)|fail)
  first|apply Yb en49|apply Yc en49
  exact za
  exact rfl
  exactλ_ hw=>(p1 (hc.mono zc0) (hd.mono zc0) hw)
  repeat'(first|refine zgd ?_|fail)
  first|apply Yb Z1|apply Yc Z1
  exact za
  exact rfl
  exactλ_ hw=>(p2 (hc.mono zc0) (hd.mono zc0) hw)
  repeat'(first|refine zgd ?_|fail)
  first|apply Yb Z1|apply Yc Z1
  exact za
  exact rfl
  exactλ_ hw=>(p3 (hc.mono zc0) (hd.mono zc0) hw)
  repeat'(first|refine zgd ?_|(refine zge ?_ ?_<;>intro _<;>try exact zo)|fail)
  apply Yh H
  ·exact zc0
  exact zc4
 repeat'(first|refine zgc ?_|(refine zge ?_ ?_<;>intro _<;>try exact zo)|(refine zgh ?_;intro _)|fail)
 first|apply Yb en49|apply Yc en49
 exact za
 exact rfl
 exactλ_ hw=>(p1 (hc.mono zc0) (hd.mono zc0) hw)
 repeat'(first|refine zgd ?_|fail)
 first|apply Yb Z1|apply Yc Z1
 exact za
 exact rfl
 exactλ_ hw=>(p2 (hc.mono zc0) (hd.mono zc0) hw)
 repeat'(first|refine zgd ?_|fail)
 first|apply Yb Z1|apply Yc Z1
 exact za
 exact rfl
 exactλ_ hw=>(p3 (hc.mono zc0) (hd.mono zc0) hw)
 repeat'(first|refine zgd ?_|(refine zge ?_ ?_<;>intro _<;>try exact zo)|fail)
 rename_i g2 g3 _ _
 refine Yg (λk:Nat=>[(5,.int .i64 (k:Nat)),(3,.pointer (some ⟨g3,0,none⟩)),(2,.pointer (some ⟨g2,0,none⟩))]) (λ_=>clA g3 d::clA g2 c::H) (λk=>k<=c.ss.length/\(c.ss.take k).map (·.xs)=(d.ss.take k).map (·.xs)) (λk=>c.ss.length-k) 0 ⟨Ti _,by simp⟩ ?_ (λw hw=>hw) ?_
 ·exact zc1
 rintro k ⟨hk,hz⟩ K hK
 have hcs:Rd B w0 (clA g3 d::clA g2 c::H) c.sA (c.ss.flatMap rowF):=hc.st.cons.cons
 have hds:Rd B w0 (clA g3 d::clA g2 c::H) d.sA (d.ss.flatMap rowF):=hd.st.cons.cons
 by_cases hlt:k<c.ss.length
 ·obtain⟨a,ha⟩:∃a,c.ss[k]? =some a:=⟨_,Ta hlt⟩
  obtain⟨b,hb⟩:∃b,d.ss[k]? =some b:=⟨_,Ta (by omega)⟩
  have ham:=Tc ha
  have hbm:=Tc hb
  have p4:=λ{H':List HP}{w:World}(hc:c.In B w0 H') (hd:d.In B w0 H') (hw:St B w0 H' w)=>Jq a.xs b.xs (cap:=a.cap) (cap2:=b.cap) (hc.sl a ham) (hd.sl b hbm) (hc.sw a ham) (hd.sw b hbm) hw
  by_cases he:a.xs=b.xs
  ·rw[Td he]at p4
   repeat'(first|refine zgb ?_|(refine zge ?_ ?_<;>intro _<;>try exact zo)|fail)
   apply Xc [0,1,2,3,4,5,6,7,8,9,10,11] []
   kernel_rfl
   kernel_rfl
   (simp only[Yd,nthO];rfl)
   exact rfl
   repeat'(first|refine zgd ?_|fail)
   first|apply Yb Z1|apply Yc Z1
   exact za
   exact rfl
   exactλ_ hw=>(p4 (hc.mono zc0) (hd.mono zc0) hw)
   repeat'(first|(apply Yj;(repeat(first|with_reducible exact YM|(with_reducible apply YF;(repeat(first|with_reducible exact Yq|with_reducible apply Yu))))))|refine zgd ?_|fail)
   ·show Perm H (H++[])
    exact zc25
   repeat'(first|fail)
   apply hK (k+1)
   ·exact Ytb
   ·omega
   ·exact zc1
   exact zc20
  ·rw[Tj he]at p4
   have hne:¬(c.ss.map (·.xs)=d.ss.map (·.xs)):=λe=>by
    have h1:(c.ss.map (·.xs))[k]? =(d.ss.map (·.xs))[k]? :=by rw[e]
    exact Yts
   rw[Tj hne]
   clear hK
   repeat'(first|refine zgb ?_|(refine zge ?_ ?_<;>intro _<;>try exact zo)|fail)
   apply Xc [0,1,2,3,4,5,6,7,8,9,10,11] []
   kernel_rfl
   kernel_rfl
   (simp only[Yd,nthO];rfl)
   exact rfl
   repeat'(first|refine zgd ?_|fail)
   first|apply Yb Z1|apply Yc Z1
   exact za
   exact rfl
   exactλ_ hw=>(p4 (hc.mono zc0) (hd.mono zc0) hw)
   repeat'(first|(apply Yj;(repeat(first|with_reducible exact YM|(with_reducible apply YF;(repeat(first|with_reducible exact Yq|with_reducible apply Yu))))))|refine zgd ?_|fail)
   ·show Perm H (H++[])
    exact zc25
   repeat'(first|fail)
   apply Yh H
   ·exact zc0
   exact zc4
 ·rw[TL (by omega),TL (by omega)]at hz
  rw[Td hz]
  clear hK
  repeat'(first|refine zgc ?_|(refine zge ?_ ?_<;>intro _<;>try exact zo)|fail)
  apply Yh H
  ·exact zc0
  exact zc4
theorem Ydh(c d:List ClM){A A2:Option Addr}{cap cap2:Nat}(hc:CIn B w0 H A c)(hd:CIn B w0 H A2 d)(hw:St B w0 H w):
 CX B w0 16 [.slice A c.length cap,.slice A2 d.length cap2] w λu K=>u=.bool (decide (c.map ClM.clm=d.map ClM.clm))/\K=H:=by
 refine Ya Tryz.func16 Tryz.ntmps16 rfl rfl hw ?_
 have hcl:=hc.ln
 have hdl:=hd.ln
 have hcr:=hc.rd
 have hdr:=hd.rd
 by_cases h6:c.length=d.length
 rotate_left
 ·rw[Tj (λe=>h6 (by have:=TG List.length e;grind))]
  repeat'(first|refine zgb ?_|(refine zge ?_ ?_<;>intro _<;>try exact zo)|fail)
  exact zc13
 repeat'(first|refine zgb ?_|(refine zge ?_ ?_<;>intro _<;>try exact zo)|fail)
 refine Yg (λk:Nat=>[(5,.int .i64 (k:Nat)),(0,.slice A c.length cap),(1,.slice A2 d.length cap2)]) (λ_=>H) (λk=>k<=c.length/\(c.take k).map ClM.clm=(d.take k).map ClM.clm) (λk=>c.length-k) 0 ⟨Ti _,by simp⟩ ?_ (λw hw=>hw) ?_
 ·exact zc1
 rintro k ⟨hk,hz⟩ K hK
 by_cases hlt:k<c.length
 ·obtain⟨a,ha⟩:∃a,c[k]? =some a:=⟨_,Ta hlt⟩
  obtain⟨b,hb⟩:∃b,d[k]? =some b:=⟨_,Ta (by omega)⟩
  have hax:=hc.x a (Tc ha)
  have hbx:=hd.x b (Tc hb)
  have p2:=λ{H':List HP}{w:World}(hx:a.In B w0 H') (hy:b.In B w0 H') (hw:St B w0 H' w)=>Ybw a b hx hy hw
  by_cases he:a.clm=b.clm
  ·rw[Td he]at p2
   repeat'(first|refine zgb ?_|(refine zge ?_ ?_<;>intro _<;>try exact zo)|fail)
   apply Xc [0,1,2,3,4,5,6,7,8,9] []
   kernel_rfl
   kernel_rfl
   (simp only[Yd,nthO];rfl)
   exact rfl
   repeat'(first|refine zgd ?_|fail)
   first|apply Yb en50|apply Yc en50
   exact za
   exact rfl
   exactλ_ hw=>(p2 hax hbx hw)
   repeat'(first|(apply Yj;(repeat(first|with_reducible exact YM|(with_reducible apply YF;(repeat(first|with_reducible exact Yq|with_reducible apply Yu))))))|refine zgd ?_|fail)
   ·show Perm H (H++[])
    exact zc25
   repeat'(first|fail)
   apply hK (k+1)
   ·exact Ytb
   ·omega
   ·exact zc1
   exact zc20
  ·rw[Tj he]at p2
   have hne:¬(c.map ClM.clm=d.map ClM.clm):=λe=>by
    have h1:(c.map ClM.clm)[k]? =(d.map ClM.clm)[k]? :=by rw[e]
    exact Yts
   rw[Tj hne]
   clear hK
   repeat'(first|refine zgb ?_|(refine zge ?_ ?_<;>intro _<;>try exact zo)|fail)
   apply Xc [0,1,2,3,4,5,6,7,8,9] []
   kernel_rfl
   kernel_rfl
   (simp only[Yd,nthO];rfl)
   exact rfl
   repeat'(first|refine zgd ?_|fail)
   first|apply Yb en50|apply Yc en50
   exact za
   exact rfl
   exactλ_ hw=>(p2 hax hbx hw)
   repeat'(first|(apply Yj;(repeat(first|with_reducible exact YM|(with_reducible apply YF;(repeat(first|with_reducible exact Yq|with_reducible apply Yu))))))|refine zgd ?_|fail)
   ·show Perm H (H++[])
    exact zc25
   repeat'(first|fail)
   exact zc4
 ·rw[TL (by omega),TL (by omega)]at hz
  rw[Td hz]
  repeat'(first|refine zgc ?_|(refine zge ?_ ?_<;>intro _<;>try exact zo)|fail)
  exact zc4
def slC(len:Int)(cs:List Cel)(a:Int):Nat:=(cs.filter λc=>decide (c.1=a.tmod len)).length
def cntS(len:Int)(cs:List Cel):Nat->Int->Nat
 |0,_=>0
 |m+1,a=>slC len cs a+cntS len cs m (a+1)
theorem Yqg(len:Int)(c:Cel)(cs:List Cel)(a:Int):slC len (c::cs) a=(if c.1=a.tmod len then 1 else 0)+slC len cs a:=by
 unfold slC
 grind
theorem Qf(len a:Int):∀(cs:List Cel) (k:Nat),(XH len a cs k).length=min k (slC len cs a)
 |[],k=>by simp[XH,slC]
 |c::cs,k=>by
  rw[Yqg]
  unfold XH
  by_cases h:c.1=a.tmod len
  ·by_cases hk:k=0
   ·simp_all [YnH]
   ·rw[Tn ⟨h,hk⟩,Tn h,T0,Qf len a cs (k-1)];omega
  ·rw[Tf (λe=>h e.1),Tf h,Qf len a cs k];omega
theorem Yhk(len:Int)(cs:List Cel):∀(m k:Nat) (a:Int),cntS len cs (m+k) a=cntS len cs m a+cntS len cs k (a+m)
 |0,k,a=>by simp[cntS]
 |m+1,k,a=>by
  rw[show m+1+k=(m+k)+1 by omega,cntS,Yhk len cs m k (a+1),cntS]
  grind
variable {a b y:Int}
theorem YmC(len:Int)(cs:List Cel){z:Int}(h1:a<=b)(h2:b<=z):cntS len cs (z-b).toNat b<=cntS len cs (z-a).toNat a:=by
 obtain⟨x,hx⟩:∃x:Nat,b=a+x:=⟨(b-a).toNat,by omega⟩
 obtain⟨y,hy⟩:∃y:Nat,z=b+y:=⟨(z-b).toNat,by omega⟩
 rw[show(z-b).toNat=y by omega,show(z-a).toNat=x+y by omega,Yhk,hx]
 omega
theorem Qq(x r:List (Cel×Int))(a:Int):XA (x++r) a=XA r (XA x a):=by
 grind [XA]
theorem YoA{x:List (Cel×Int)}(h:XA x a<=y)(hb:b<=y):XA x b<=y:=by
 grind [XA]
theorem YhJ{len:Int}{cs:List Cel}:∀(f k:Nat) (a y:Int),a<=y->y<=a+f->k<=cntS len cs (y-a).toNat a->(hopP len cs f k a).length=k/\XA (hopP len cs f k a) a<=y
 |0,k,a,y,h1,h2,h3=>by
  obtain rfl:y=a:=by omega
  rw[show(y-y).toNat=0 by omega]at h3
  obtain rfl:k=0:=by grind [cntS]
  exact⟨rfl,h1⟩
 |f+1,k,a,y,h1,h2,h3=>by
  by_cases hk:k=0
  ·subst hk
   rw[YhK]
   exact⟨rfl,h1⟩
  have hlt:a<y:=by
   by_cases e:a=y
   ·simp_all [cntS]
   ·omega
  rw[show(y-a).toNat=(y-(a+1)).toNat+1 by omega,cntS]at h3
  have hs:=Qf len a cs k
  obtain⟨e1,e2⟩:=YhJ (len:=len) (cs:=cs) f (k-(XH len a cs k).length) (a+1) y (by omega) (by omega) (by omega)
  rw[hopP,Tq,e1,Qq]
  refine⟨by omega,YoA e2 ?_⟩
  grind [XA,W6]
def WayT(len:Int)(C:Lk->List Cel):List Lk->Int->Int->Prop
 |[],a,y=>a<=y
 |l::ls,a,y=>∃z,a<=z/\Y9 l<=cntS len (C l) (z-a).toNat a/\WayT len C ls z y
variable {C:Lk->List Cel}
theorem WayT.le{len:Int}:∀{ls:List Lk}{a y:Int},WayT len C ls a y->a<=y
 |[],_,_,h=>h
 |_::_,_,_,⟨_,h1,_,h3⟩=>Int.le_trans h1 h3.le
theorem YlT{len:Int}{C:Lk->List Cel}{endd:Int}:∀{ls:List Lk}{a a' y:Int},WayT len C ls a y->a'<=a->y<=endd->(runP len C endd ls a').length=XY ls/\XA (runP len C endd ls a') a'<=y
 |[],a,a',y,h,h1,_=>⟨rfl,Int.le_trans h1 h⟩
 |l::ls,a,a',y,⟨z,h1,h2,h3⟩,h4,h5=>by
  have hz:=h3.le
  obtain⟨e1,e2⟩:=YhJ (len:=len) (cs:=C l) (endd-a').toNat (Y9 l) a' z (by omega) (by omega) (TY h2 (YmC len (C l) h4 h1))
  obtain⟨i1,i2⟩:=YlT (endd:=endd) h3 e2 h5
  simp_all [runP,Qq,XY]
theorem WayT.mono{len:Int}{D:Lk->List Cel}(h:∀l a,slC len (C l) a<=slC len (D l) a):∀{ls:List Lk}{a y:Int},WayT len C ls a y->WayT len D ls a y
 |[],_,_,hw=>hw
 |l::ls,a,y,⟨z,h1,h2,h3⟩=>by
  refine⟨z,h1,TY h2 ?_,h3.mono h⟩
  have:∀(m:Nat) (a:Int),cntS len (C l) m a<=cntS len (D l) m a:=λm=>by
   induction m with
   |zero=>exactλ_=>TI _
   |succ m ih=>grind [cntS]
  simp_all
theorem YkP{S:Int->Option (List Int)}{len per d:Int}(hp:1<=per):∀{fuel:Nat}{rel:Int}{b:Int×Int×List Int},b.1<=d->(∀i:Nat,rel+i*per<len->∃l,S (rel+i*per)=some l/\Jj l-(rel+i*per)+1<=d)->∃r,J0 S len per fuel rel b=some r/\r.1<=d
 |0,rel,b,hb,_=>⟨b,rfl,hb⟩
 |fuel+1,rel,b,hb,h=>by
  rw[J0]
  by_cases hle:len<=rel
  ·simp_all
  rw[Tf hle]
  obtain⟨l,h1,h2⟩:=h 0 (by omega)
  have h1:S rel=some l:=by simp_all
  rw[h1]
  refine YkP hp ?_ λi hi=>?_
  ·grind
  ·have e:rel+((i+1:Nat):Int)*per=rel+per+(i:Int)*per:=by
    grind
   have:=h (i+1) (by omega)
   simp_all
theorem YnW{n:Net}{s:Sch}{f:Flw}{r:List Int}{rel:Int}(hne:Yp n r≠[])(hloss:∀x∈Yp n r,0<=x.2.2)(hy:y<=rel+f.2.2.2.1)(h:WayT s.len (Xz s f.1) (Yp n r) rel y):
 ∃l,JD n s f r rel=some l/\Jj l-rel+1<=y-rel:=by
 obtain⟨h1,h2⟩:=YlT (endd:=rel+f.2.2.2.1) h (SK _) hy
 refine⟨(runP s.len (Xz s f.1) (rel+f.2.2.2.1) (Yp n r) rel).map Prod.snd,?_,?_⟩
 ·simp_all [JD,Ygn]
 ·have hn:1<=XY (Yp n r):=by
   cases hl:Yp n r with
   |nil=>simp_all
   |cons x xs=>
    grind [XY,Y9]
  have:=YjL (x:=runP s.len (Xz s f.1) (rel+f.2.2.2.1) (Yp n r) rel) (a:=rel) (λe=>by grind)
  omega
structure Sm(n:Net)(l:List Flw)(s:Sch):Prop where
 ck:Yo n=0
 fl:(YE n.nodes l).2=0
 per:∀f∈l,s.len.tmod f.2.2.2.1=0
 sized:ZP s=true
 formed:∀c∈s.cells,Zu s c=true
 ord:Ord s.cells
 good:∀c∈s.cells,YZ n (YB c) (toC c)=true/\0<=Z3 l (Xo c)
 once:s.cells.Pairwise λa b=>a.1=b.1->YC a b=false
 clear:∀c∈s.cells,Vv n s.cells c=true
variable {n:Net}{l:List Flw}{s:Sch}
theorem Sem.sm(h:Sem n l s):Sm n l s:=⟨h.ck,h.fl,h.per,h.frm.sized,h.frm.formed,h.frm.ord,h.good,h.once,h.clear⟩
theorem Sm.sem(h:Sm n l s)(hl:s.cells.length<=512):Sem n l s:=⟨h.ck,h.fl,h.per,⟨h.sized,hl,h.formed,h.ord⟩,h.good,h.once,h.clear⟩
theorem Yff{node:Int}{l m:List Cel}(h:l.Perm m):Go.Proofs.YtjlgijpmnfabcaaGreatDoor.sumC n node l=Go.Proofs.YtjlgijpmnfabcaaGreatDoor.sumC n node m:=by
 induction h with
 |nil=>rfl
 |cons a _ ih=>simp_all [Zd]
 |swap a b l=>rw[Zd,Zd,Zd,Zd];omega
 |trans _ _ h1 h2=>omega
variable {slot o a b:Int}
theorem Yhy{l:List Cel}(h:fitE n l slot o a b=true)(id:Int):(∀d∈l,d.1=slot->YC d (slot,o,a,b,id)=false)/\Jh n (l.filter (atP slot o)++[(slot,o,a,b,id)])=true:=by
 unfold fitE at h
 rw[Tm]at h
 obtain⟨h1,h2⟩:=h
 refine⟨λd hd e=>?_,?_⟩
 ·rw[RY,RJ]at h1
  have:=h1 d hd
  rw[Td e,RV,Bool.not_eq_true]at this
  rw[<-this]
  exact(W8 (c:=(slot,o,a,b,id)) (c':=(0,0,a,b,0)) rfl rfl).2
 ·rw[<-h2,YcH (c':=(slot,o,a,b,id)) rfl rfl,YcH (c:=(0,0,a,b,0)) (c':=(slot,o,a,b,id)) rfl rfl]
theorem Yrl{l:List Cel}(h:fitE n l slot o a b=true)(id:Int):(slot,o,a,b,id)∉l:=λhm=>by
 have:=(Yhy h id).1 _ hm rfl
 grind [YC]
theorem YhI{m d:Int}(h:X7 n m d=true):ZA n m d=true:=by
 simp_all [X7]
theorem Sm.ins(h:Sm n l s){id:Int}(hs:0<=slot/\slot<s.len)(ho:0<=o/\o<s.off)(hg:YZ n a b=true)(hid:0<=Z3 l id)(hib:0<=id/\id<256)(hfit:fitE n s.cells slot o a b=true):
 Sm n l ⟨s.len,s.off,insC s.cells (slot,o,a,b,id)⟩:=by
 have hok:=YK h.ck
 have hgn:=Xk hok hg
 have hn:=hok.n1
 obtain⟨ht,hgl⟩:=Yhy hfit id
 have hnew:=Yrl hfit id
 have hperm:=YhO s.cells (slot,o,a,b,id)
 refine⟨h.ck,h.fl,h.per,h.sized,λc hc=>?_,Yrv h.ord hnew,λc hc=>?_,?_,λc hc=>?_⟩
 ·rcases On.1 hc with rfl|hc
  ·grind [Zu,Zv,insE]
  ·exact h.formed c hc
 ·rcases On.1 hc with rfl|hc
  ·exact⟨hg,hid⟩
  ·exact h.good c hc
 ·refine(hperm.pairwise_iff (λ{x y} hxy e=>by rw[JE];simp_all)).2 (.cons (λd hd e=>?_) h.once)
  rw[JE]
  grind
 ·by_cases hp:c.1=slot/\c.2.1=o
  ·have hX:(s.cells.filter (atP slot o)++[(slot,o,a,b,id)]).Nodup:=by
    rw[NB]
    refine⟨(Ye2 h.ord).sublist SZ,by simp,λx hx y hy e=>?_⟩
    rw[TX.1 hy]at e
    subst e
    exact hnew (RA.1 hx).1
   generalize hXe:s.cells.filter (atP slot o)++[(slot,o,a,b,id)]=X at hX hgl
   have hcX:c∈X:=by
    rw[<-hXe]
    rcases On.1 hc with rfl|hc
    ·simp
    ·exact List.mem_append_left _ (RA.2 ⟨hc,Td hp⟩)
   obtain⟨j,hj⟩:=TP.1 hcX
   have hjl:=(Tu.1 hj).1
   have hd:∀node,Yz n X j node X.length=Uz n (insC s.cells (slot,o,a,b,id)) c node:=λnode=>by
    rw[Ycn hX hj node _ (TI _),TM]
    refine Yff ?_
    have e1:(insC s.cells (slot,o,a,b,id)).filter (λd=>Ze c d&&decide (d≠c))=((insC s.cells (slot,o,a,b,id)).filter (Ze c)).filter λd=>decide (d≠c):=by
     rw[List.filter_filter]
     exact Nk λx _=>Bool.and_comm _ _
    rw[e1]
    refine List.Perm.filter _ ?_
    have e2:Ze c=atP slot o:=by
     obtain⟨rfl,rfl⟩:=hp
     rfl
    rw[e2,<-hXe]
    refine List.Perm.trans ?_ (hperm.filter _).symm
    rw[Nr,Tn (show atP slot o (slot,o,a,b,id)=true from Td ⟨rfl,rfl⟩)]
    exact Ni
   unfold Jh at hgl
   rw[Tm]at hgl
   have hpf:=TK.1 hgl.2 j (T8.2 hjl)
   simp_all [celL,Zh,Vv,YhI]
  ·have hcs:c∈s.cells:=by
    rcases On.1 hc with rfl|hc
    ·exact absurd ⟨rfl,rfl⟩ hp
    ·exact hc
   have hd:∀node,Uz n (insC s.cells (slot,o,a,b,id)) c node=Uz n s.cells c node:=λnode=>by
    unfold Uz
    refine(Yff (hperm.filter _)).trans ?_
    rw[Nr,Tf]
    rw[Tm]
    rintro⟨h1,-⟩
    exact hp (by have:=Rm h1;exact⟨this.1.symm,this.2.symm⟩)
   have:=h.clear c hcs
   unfold Vv at this⊢
   rw[hd,hd]
   exact this
end Go.Proofs.YtjlgijpmnfabcaaGreatDoor
namespace Go.Eng
open Go.RowKit
end Go.Eng
namespace Go.Proofs.YtjlgijpmnfabcaaGreatDoor
open Go.RowKit Go.Eng Go.Nw Go.Rt
abbrev flwB(g:Nat)(f:Flw):HP:=blk g (.cells #[.int .i64 f.1,.int .i64 f.2.1,.int .i64 f.2.2.1,.int .i64 f.2.2.2.1,.int .i64 f.2.2.2.2.1,.int .i64 f.2.2.2.2.2] 66 (0,0))
variable {f:Flw}{r:List Int}
theorem Yqs{n:Net}{s:Sch}(h:wayE n s f r=0):f.2.2.2.2.1<s.len:=by
 obtain⟨_,h2,h3,h4,_⟩:=Ygx h
 have hsz:=Rm (Xw.1 h2).sized
 unfold Xv at h3
 split at h3
 ·cases h3
 split at h3
 ·cases h3
 rename_i k1 k2
 have hd:f.2.2.2.1∣s.len:=Int.dvd_of_tmod_eq_zero h4
 have:=Int.le_of_dvd (by omega) hd
 omega
theorem Yhb{S:Int->Option (List Int)}{len per:Int}(hS:∀a l,S a=some l->1<=Jj l-a+1):∀{k:Nat}{rel:Int}{b0 b:Int×Int×List Int},(1<=b0.1\/rel<len/\k≠0/\b0.1=0)->J0 S len per k rel b0=some b->1<=b.1
 |0,rel,b0,b,h0,h=>by
  unfold J0 at h
  rw[<-Tv h]
  rcases h0 with h0|⟨_,h0,_⟩
  ·exact h0
  ·exact absurd rfl h0
 |k+1,rel,b0,b,h0,h=>by
  unfold J0 at h
  split at h
  ·rw[<-Tv h]
   rcases h0 with h0|⟨h0,_⟩
   ·exact h0
   ·omega
  cases hs:S rel with
  |none=>rw[hs]at h;cases h
  |some l=>
   rw[hs]at h
   have h1:=hS _ _ hs
   refine Yhb hS (.inl ?_) h
   split
   ·exact h1
   ·rcases h0 with h0|h0<;>omega
theorem Ymz{x:WayM}(hok:Uo x)(hl:x.f.2.2.2.2.1<x.s.len){b:Int×Int×List Int}(h:Jx x.n.net x.s.sch x.f x.r=some b):1<=b.1:=by
 have h3:=hok.slen
 refine Yhb (len:=x.s.sch.len) (per:=x.f.2.2.2.1) (λa l hs=>?_) (.inr ⟨hl,?_,rfl⟩) h
 ·have:=Ydv hok hs
  omega
 ·show x.s.len.toNat≠0
  omega
theorem Ynz{n:NetM}{s:SchM}(h:(YP n.net s.sch f r).2=0):∃b,Jx n.net s.sch f r=some b/\(YP n.net s.sch f r).1=b/\1<=b.1/\wayE n.net s.sch f r=0:=by
 obtain⟨h1,b,h2,h3⟩:=W4 h
 exact⟨b,h2,by rw[h3],Ymz (x:=⟨n,s,f,none,0,r⟩) (Q9 h1) (Yqs h1) h2,h1⟩
theorem YeL{nodes:Int}{l:List Flw}(h:(YE nodes l).2=0):∀{i j:Nat},i<j->j<l.length->(Xp l i).1<(Xp l j).1:=by
 have hstep:∀j,0<j->j<l.length->(Xp l (j-1)).1<(Xp l j).1:=λj h0 hj=>by
  unfold YE at h
  split at h
  ·cases h
  split at h
  ·cases h
  have:=YD.1 h j (Ti _) (by omega)
  unfold Xb at this
  split at this
  ·contradiction
  split at this
  ·cases this
  ·omega
 intro i j hij hj
 induction j with
 |zero=>omega
 |succ j ih=>
  have h1:=hstep (j+1) (by omega) hj
  rw[R7]at h1
  rcases SU i j with h2|h2
  ·have:=ih h2 (by omega);omega
  ·obtain rfl:i=j:=by omega
   exact h1
theorem max_le:∀(l:List Int) (a m:Int),a<=m->(∀z∈l,z<=m)->l.foldl (λx y=>if x<y then y else x) a<=m
 |[],_,_,h,_=>h
 |z::l,a,m,h,hl=>by
  rw[List.foldl_cons]
  refine max_le l _ m ?_ λy hy=>hl y (TD _ hy)
  have:=hl z TB
  split<;>omega
structure Grow(id:Int)(s t:Sch):Prop where
 len:t.len=s.len
 off:t.off=s.off
 sub:∀c∈s.cells,c∈t.cells
 oth:∀p:Cel->Bool,(∀c,Xo c=id->p c=false)->t.cells.filter p=s.cells.filter p
theorem Grow.refl(id:Int)(s:Sch):Grow id s s:=⟨rfl,rfl,λ_ h=>h,λ_ _=>rfl⟩
variable {id a b:Int}{s t u:Sch}
theorem Grow.trans(h:Grow id s t)(k:Grow id t u):Grow id s u:=⟨k.len.trans h.len,k.off.trans h.off,λc hc=>k.sub c (h.sub c hc),λp hp=>(k.oth p hp).trans (h.oth p hp)⟩
structure LkOk(n:Net)(l:List Flw)(a b id:Int):Prop where
 g:YZ n a b=true
 f:0<=Z3 l id
 i:0<=id/\id<256
theorem Yiz{n:Net}{l:List Flw}{slot:Int}(h:Sm n l s)(hk:LkOk n l a b id)(hs:0<=slot/\slot<s.len)(ht:Jr n s a b id slot=some t):Sm n l t/\Grow id s t/\hasC t.cells slot a b id=true:=by
 unfold Jr at ht
 by_cases hh:hasC s.cells slot a b id=true
 ·rw[Tn hh]at ht
  obtain rfl:=Tv ht
  exact⟨h,.refl _ _,hh⟩
 rw[Tf hh]at ht
 cases hf:(List.range s.off.toNat).find? λo:Nat=>fitE n s.cells slot o a b with
 |none=>rw[hf]at ht;cases ht
 |some o=>
  rw[hf]at ht
  obtain rfl:=Tv ht
  have h1:=List.find?_some hf
  have h2:=T8.1 (List.mem_of_find?_eq_some hf)
  refine⟨h.ins hs (by omega) hk.g hk.f hk.i h1,⟨rfl,rfl,λc hc=>On.2 (.inr hc),λp hp=>?_⟩,?_⟩
  ·show(insC s.cells (slot,(o:Int),a,b,id)).filter p=_
   unfold insC
   rw[SD,Nr,Tf (by rw[hp _ rfl];decide),<-SD,RN]
  ·exact Ri.2 ⟨(slot,(o:Int),a,b,id),On.2 (.inl rfl),Td ⟨rfl,rfl,rfl,rfl⟩⟩
structure Sup(t u:Sch):Prop where
 len:u.len=t.len
 sub:∀c∈t.cells,c∈u.cells
theorem Grow.sup(h:Grow id s t)(k:Sup t u):Sup s u:=⟨k.len.trans h.len,λc hc=>k.sub c (h.sub c hc)⟩
theorem Yrm{loss z:Int}(h:hasC u.cells (z.tmod u.len) a b id=true):1<=slC u.len (Xz u id (a,b,loss)) z:=by
 obtain⟨d,hd,h1⟩:=Ri.1 h
 have h1:=Rm h1
 refine List.length_pos_of_mem (a:=d) (RA.2 ⟨RA.2 ⟨hd,Td ⟨h1.2.2.2,h1.2.1,h1.2.2.1⟩⟩,Td h1.1⟩)
theorem YfZ{n:Net}{l:List Flw}{a b id:Int}(hk:LkOk n l a b id)(loss:Int):∀(f k:Nat) {s t:Sch}{z y:Int},Sm n l s->0<=z->1<=s.len->hopA n a b id f k s z=some (t,y)->
 Sm n l t/\Grow id s t/\(z<=y/\y<=z+f)/\∀u,Sup t u->k<=cntS u.len (Xz u id (a,b,loss)) (y-z).toNat z
 |0,0,s,t,z,y,h,_,_,e=>by
  obtain⟨rfl,rfl⟩:=Prod.mk.inj (Tv (show some (s,z)=some (t,y) from e))
  exact⟨h,.refl _ _,by omega,λu _=>Ti _⟩
 |f+1,0,s,t,z,y,h,_,_,e=>by
  obtain⟨rfl,rfl⟩:=Prod.mk.inj (Tv (show some (s,z)=some (t,y) from e))
  exact⟨h,.refl _ _,by omega,λu _=>Ti _⟩
 |0,k+1,s,t,z,y,h,_,_,e=>by cases e
 |f+1,k+1,s,t,z,y,h,hz,hl,e=>by
  rw[hopA]at e
  have hm:0<=z.tmod s.len/\z.tmod s.len<s.len:=by
   rw[Rn hz]
   exact⟨Int.emod_nonneg _ (by omega),Int.emod_lt_of_pos _ (by omega)⟩
  cases hs:Jr n s a b id (z.tmod s.len)with
  |none=>
   rw[hs]at e
   obtain⟨h1,h2,h3,h4⟩:=YfZ hk loss f (k+1) h (show 0<=z+1 by omega) hl e
   refine⟨h1,h2,by omega,λu hu=>?_⟩
   have:=h4 u hu
   rw[show(y-z).toNat=(y-(z+1)).toNat+1 by omega,cntS]
   omega
  |some t1=>
   rw[hs]at e
   obtain⟨g1,g2,g3⟩:=Yiz h hk hm hs
   obtain⟨h1,h2,h3,h4⟩:=YfZ hk loss f k g1 (show 0<=z+1 by omega) (by rw[g2.len];exact hl) e
   refine⟨h1,g2.trans h2,by omega,λu hu=>?_⟩
   have:=h4 u hu
   have hsu:=(g2.trans h2).sup hu
   have h5:1<=slC u.len (Xz u id (a,b,loss)) z:=Yrm (by
    obtain⟨d,hd,h6⟩:=Ri.1 g3
    refine Ri.2 ⟨d,(h2.sup hu).sub d hd,?_⟩
    rw[hsu.len];exact h6)
   rw[show(y-z).toNat=(y-(z+1)).toNat+1 by omega,cntS]
   omega
theorem Ygh{n:Net}{l:List Flw}{id endd:Int}:∀(ls:List Lk) {s t:Sch}{z:Int},(∀x∈ls,LkOk n l x.1 x.2.1 id)->Sm n l s->0<=z->z<=endd->1<=s.len->relA n id endd ls s z=some t->
 Sm n l t/\Grow id s t/\∀u,Sup t u->∃y,y<=endd/\WayT u.len (Xz u id) ls z y
 |[],s,t,z,_,h,_,hze,_,e=>by
  obtain rfl:=Tv (show some s=some t from e)
  exact⟨h,.refl _ _,λu _=>⟨z,hze,SK _⟩⟩
 |x::ls,s,t,z,hk,h,hz,hze,hl,e=>by
  rw[relA]at e
  cases hs:hopA n x.1 x.2.1 id (endd-z).toNat (Y9 x) s z with
  |none=>rw[hs]at e;cases e
  |some w=>
   obtain⟨t1,y1⟩:=w
   rw[hs]at e
   obtain⟨g1,g2,g3,g4⟩:=YfZ (hk x TB) x.2.2 _ _ h hz hl hs
   obtain⟨h1,h2,h3⟩:=Ygh ls (λy hy=>hk y (TD _ hy)) g1 (by omega) (by omega) (by rw[g2.len];exact hl) e
   refine⟨h1,g2.trans h2,λu hu=>?_⟩
   obtain⟨y,k1,k2⟩:=h3 u hu
   exact⟨y,k1,y1,g3.1,g4 u (h2.sup hu),k2⟩
theorem Yio{n:Net}{l:List Flw}{f:Flw}{ls:List Lk}(hk:∀x∈ls,LkOk n l x.1 x.2.1 f.1)(hd:0<=f.2.2.2.2.2)(hp:1<=f.2.2.2.1):∀(k:Nat) {s t:Sch}{z:Int},Sm n l s->0<=z->1<=s.len->QW n f ls k s z=some t->
 Sm n l t/\Grow f.1 s t/\∀u,Sup t u->∀i:Nat,i<k->z+i*f.2.2.2.1<s.len->∃y,y<=z+i*f.2.2.2.1+f.2.2.2.2.2/\WayT u.len (Xz u f.1) ls (z+i*f.2.2.2.1) y
 |0,s,t,z,h,_,_,e=>by
  obtain rfl:=Tv (show some s=some t from e)
  exact⟨h,.refl _ _,λu _ i hi=>absurd hi (RE _)⟩
 |k+1,s,t,z,h,hz,hl,e=>by
  rw[QW]at e
  by_cases hzl:z<s.len
  rotate_left
  ·rw[Tf hzl]at e
   obtain rfl:=Tv e
   refine⟨h,.refl _ _,λu _ i _ hi=>?_⟩
   have:0<=(i:Int)*f.2.2.2.1:=Int.mul_nonneg (by omega) (by omega)
   omega
  rw[Tn hzl]at e
  cases hs:relA n f.1 (z+f.2.2.2.2.2) ls s z with
  |none=>rw[hs]at e;cases e
  |some t1=>
   rw[hs]at e
   obtain⟨g1,g2,g3⟩:=Ygh ls hk h hz (by omega) hl hs
   obtain⟨h1,h2,h3⟩:=Yio hk hd hp k (z:=z+f.2.2.2.1) g1 (by omega) (by rw[g2.len];exact hl) e
   refine⟨h1,g2.trans h2,λu hu i hi hil=>?_⟩
   cases i with
   |zero=>
    obtain⟨y,k1,k2⟩:=g3 u (h2.sup hu)
    refine⟨y,?_,?_⟩
    ·simpa using k1
    ·simpa using k2
   |succ i=>
    have e1:z+((i+1:Nat):Int)*f.2.2.2.1=z+f.2.2.2.1+(i:Int)*f.2.2.2.1:=by
     rw[show((i+1:Nat):Int)=(i:Int)+1 by omega,Int.add_mul];omega
    rw[e1]at hil⊢
    exact h3 u hu i (by omega) (by rw[g2.len];exact hil)
theorem Ye6{n:Net}{l:List Flw}{f:Flw}(hd:0<=f.2.2.2.2.2)(hp:1<=f.2.2.2.1)(h0:0<=f.2.2.2.2.1):∀(rs:List (List Int)) {s t:Sch},(∀r∈rs,∀x∈Yp n r,LkOk n l x.1 x.2.1 f.1)->Sm n l s->1<=s.len->Jm n f rs s=some t->
 Sm n l t/\Grow f.1 s t/\∀u,Sup t u->∀r∈rs,∀i:Nat,f.2.2.2.2.1+i*f.2.2.2.1<s.len->∃y,y<=f.2.2.2.2.1+i*f.2.2.2.1+f.2.2.2.2.2/\WayT u.len (Xz u f.1) (Yp n r) (f.2.2.2.2.1+i*f.2.2.2.1) y
 |[],s,t,_,h,_,e=>by
  obtain rfl:=Tv (show some s=some t from e)
  exact⟨h,.refl _ _,λu _ r hr=>by cases hr⟩
 |r::rs,s,t,hk,h,hl,e=>by
  rw[Jm]at e
  cases hs:QW n f (Yp n r) s.len.toNat s f.2.2.2.2.1 with
  |none=>rw[hs]at e;cases e
  |some t1=>
   rw[hs]at e
   obtain⟨g1,g2,g3⟩:=Yio (hk r TB) hd hp s.len.toNat h h0 hl hs
   obtain⟨h1,h2,h3⟩:=Ye6 hd hp h0 rs (λx hx=>hk x (TD _ hx)) g1 (by rw[g2.len];exact hl) e
   refine⟨h1,g2.trans h2,λu hu x hx i hi=>?_⟩
   rcases TV.1 hx with rfl|hx
   ·refine g3 u (h2.sup hu) i ?_ hi
    have:(i:Int)<=i*f.2.2.2.1:=by
     have:=SI hp (show(0:Int)<=i by omega)
     rw[Int.mul_one]at this
     exact this
    omega
   ·exact h3 u hu x hx i (by rw[g2.len];exact hi)
variable {r:List Int}
theorem Yqp:YaC r=false↔r.Nodup:=by
 unfold YaC
 rw[RJ]
 constructor
 ·intro h
  refine Rb.2 λi j hi hj hij e=>?_
  have h1:=h j (T8.2 hj)
  apply h1
  rw[List.contains_iff_mem,Tz,Ta hj,Option.getD_some,<-e]
  refine TP.2 ⟨i,?_⟩
  simp_all
 grind [TP,Rb]
theorem Ycd{n:Net}{b:Int}{r:List Int}(hl:r.getD (r.length-1) 0=b)(hnd:r.Nodup)(hk:∀i,i+1<r.length->(Zo n r i).1=r.getD i 0/\(Zo n r i).2.1=r.getD (i+1) 0):∀(m i:Nat),i+m+1=r.length->
 Chain b (r.getD i 0) ((List.range' i m).map (Zo n r))
 |0,i,h=>by
  show r.getD i 0=b
  grind
 |m+1,i,h=>by
  obtain⟨h1,h2⟩:=hk i (by omega)
  refine⟨h1.symm,λe=>?_,?_⟩
  ·rw[<-hl]at e
   rw[Tz,Tz,Ta (show i<r.length by omega),Ta (show r.length-1<r.length by omega)]at e
   exact Rb.1 hnd i (r.length-1) (by omega) (by omega) (by omega) (Tv (by simp_all))
  ·rw[h2]
   exact Ycd hl hnd hk m (i+1) (by omega)
theorem Ya8{n:Net}{a b:Int}(h:X0 n a b r=0):Chain b a (Yp n r)/\(∀x∈Yp n r,0<=x.2.2)/\Yp n r≠[]/\r.Nodup/\
 ∀i,i+1<r.length->(Zo n r i).1=r.getD i 0/\(Zo n r i).2.1=r.getD (i+1) 0:=by
 have h':=h
 unfold X0 at h
 by_cases h0:Z2 n a b=0
 rotate_left
 ·omega
 rw[Tf (λe=>e h0)]at h
 obtain⟨hlen,-,⟨hs,ht⟩,htw,-⟩:=WQ h
 obtain⟨hck,-,hg⟩:=JA h'
 have hok:=YK hck
 have hnd:=Yqp.1 htw
 have hk:∀i,i+1<r.length->(Zo n r i).1=r.getD i 0/\(Zo n r i).2.1=r.getD (i+1) 0:=λi hi=>QC (Ol (hg i hi))
 refine⟨?_,λx hx=>?_,?_,hnd,hk⟩
 ·grind [Ycd,Yp,List.range_eq_range']
 ·obtain⟨i,hi,rfl⟩:=TC.1 hx
  exact(YbF hok (r.getD i 0) (r.getD (i+1) 0)).1
 ·intro e
  have:=TG List.length e
  grind [Yp]
def posQ(q:List Rqs)(id:Int):Nat:=(q.takeWhile λy=>decide (y.1.1<id)).length
def insQ(q:List Rqs)(x:Rqs):List Rqs:=q.take (posQ q x.1.1)++x::q.drop (posQ q x.1.1)
variable {q:List Rqs}{x:Rqs}
theorem JS{y:Rqs}:y∈insQ q x↔y=x\/y∈q:=by
 have h:y∈q↔y∈q.take (posQ q x.1.1)\/y∈q.drop (posQ q x.1.1):=by grind [RN]
 grind [insQ]
variable {l:List Flw}{f:Flw}
theorem JB{nodes:Int}(h:(YE nodes l).2=0)(hf:f∈l):Xv nodes f=0:=by
 obtain⟨j,hj,rfl⟩:=List.mem_iff_getElem.1 hf
 unfold YE at h
 split at h
 ·cases h
 split at h
 ·cases h
 have:=YD.1 h j (Ti _) (by omega)
 unfold Xb at this
 split at this
 all_goals simp_all [Xp]
theorem X6{nodes:Int}(hf:Xv nodes f=0):(0<=f.1/\f.1<256)/\(1<=f.2.2.2.1/\f.2.2.2.1<=512)/\(0<=f.2.2.2.2.1/\f.2.2.2.2.1<f.2.2.2.1)/\f.2.1≠f.2.2.1/\(1<=f.2.2.2.2.2/\f.2.2.2.2.2<=f.2.2.2.1):=by
 unfold Xv at hf
 omega
theorem Vi{id:Int}:0<=Z3 l id↔∃f∈l,f.1=id:=by
 unfold Z3
 rw[Ve _ _ _ (SK 0),Ri]
 simp_all
variable {n:Net}{s t:Sch}{r:List Int}
theorem Ykd(hl:t.len=s.len)(hs:Y1 s=true)(ht:Y1 t=true)(hc:∀l,Xz t f.1 l=Xz s f.1 l):YP n t f r=YP n s f r:=by
 have h1:wayE n t f r=wayE n s f r:=by grind [wayE]
 have h2:Jx n t f r=Jx n s f r:=by
  have:Xz t f.1=Xz s f.1:=funext hc
  unfold Jx
  have h3:JD n t f r=JD n s f r:=by grind [JD]
  simp_all
 grind [YP]
theorem YnV(hl:t.len=s.len)(hs:Y1 s=true)(ht:Y1 t=true)(hc:∀l,Xz t x.1.1 l=Xz s x.1.1 l):Oa n t x=Oa n s x:=by
 unfold Oa JT
 have:badR n t x.1=badR n s x.1:=by grind [badR,Ykd]
 rw[this]
theorem Yke(hw:wayE n t f r=0)(h:∀i:Nat,f.2.2.2.2.1+i*f.2.2.2.1<t.len->∃y,y<=f.2.2.2.2.1+i*f.2.2.2.1+f.2.2.2.2.2/\WayT t.len (Xz t f.1) (Yp n r) (f.2.2.2.2.1+i*f.2.2.2.1) y):
 (YP n t f r).2=0/\(YP n t f r).1.1<=f.2.2.2.2.2:=by
 obtain⟨-,-,hf,-,hck⟩:=Ygx hw
 obtain⟨-,hp,h0,-,hd⟩:=X6 hf
 obtain⟨-,hloss,hne,-,-⟩:=Ya8 hck
 obtain⟨b,hb,hbd⟩:=YkP (S:=JD n t f r) (len:=t.len) (per:=f.2.2.2.1) (d:=f.2.2.2.2.2) hp.1 (fuel:=t.len.toNat) (rel:=f.2.2.2.2.1) (b:=(0,0,[])) (by omega) (λi hi=>by
  obtain⟨y,h1,h2⟩:=h i hi
  obtain⟨l,h3,h4⟩:=YnW hne hloss (by omega) h2
  grind)
 have hbe:Jx n t f r=some b:=hb
 unfold YP
 simp_all
theorem VM(h:(rqsE n q).2=0):Yo n=0/\(YE n.nodes (YR q)).2=0/\∀x∈q,rtsE n x=0:=by
 unfold rqsE at h
 by_cases h1:Yo n=0
 rotate_left
 ·simp_all
 by_cases h2:(YE n.nodes (YR q)).2=0
 rotate_left
 ·simp_all
 refine⟨h1,h2,λx hx=>?_⟩
 obtain⟨i,hi,rfl⟩:=Yh3 hx
 simp_all [YD]
theorem ZN(h:rtsE n x=0):∀r∈x.2,X0 n x.1.2.1 x.1.2.2.1 r=0:=by
 intro r hr
 unfold rtsE at h
 split at h
 ·cases h
 split at h
 ·cases h
 split at h
 ·omega
 rename_i h3
 obtain⟨k,hk⟩:=TP.1 hr
 have hkl:=(Tu.1 hk).1
 have:=YD.1 (Rw.1 h3) k (Ti _) (by omega)
 grind [rtAt]
theorem YcV{a b:Int}(h:X0 n a b r=0):∀x∈Yp n r,YZ n x.1 x.2.1=true:=by
 obtain⟨-,-,-,-,hk⟩:=Ya8 h
 obtain⟨-,-,hg⟩:=JA h
 grind [Yp]
theorem YfI(hc:(YO n q s).2.2=0)(hx:(rqsE n (insQ q x)).2=0)(hnew:∀y∈q,y.1.1≠x.1.1)(hm:s.len.tmod x.1.2.2.2.1=0)(hp:Jm n x.1 x.2 s=some t)(hl:t.cells.length<=512):
 (YO n (insQ q x) t).2.2=0/\Grow x.1.1 s t:=by
 obtain⟨h1,h2⟩:=Za.1 hc
 have hsem:=JM.1 (Zw.1 h1)
 obtain⟨-,hfl,hrt⟩:=VM hx
 have hxm:x∈insQ q x:=by simp[JS]
 have hrx:=hrt x hxm
 have hfx:Xv n.nodes x.1=0:=JB hfl (TC.2 ⟨x,hxm,rfl⟩)
 obtain⟨hib,hper,hph,-,hd⟩:=X6 hfx
 have hsz:1<=s.len:=by
  have:=hsem.frm.sized
  unfold ZP at this
  simp_all
 have hsm:Sm n (YR (insQ q x)) s:=by
  have h0:=hsem.sm
  refine⟨h0.ck,hfl,λf hf=>?_,h0.sized,h0.formed,h0.ord,λc hcm=>⟨(h0.good c hcm).1,?_⟩,h0.once,h0.clear⟩
  ·obtain⟨y,hy,rfl⟩:=TC.1 hf
   rcases JS.1 hy with rfl|hy
   ·exact hm
   ·exact h0.per _ (TC.2 ⟨y,hy,rfl⟩)
  ·obtain⟨f,hf,e⟩:=Vi.1 (h0.good c hcm).2
   obtain⟨y,hy,rfl⟩:=TC.1 hf
   exact Vi.2 ⟨y.1,TC.2 ⟨y,JS.2 (.inr hy),rfl⟩,e⟩
 have hfi:0<=Z3 (YR (insQ q x)) x.1.1:=Vi.2 ⟨x.1,TC.2 ⟨x,hxm,rfl⟩,rfl⟩
 obtain⟨g1,g2,g3⟩:=Ye6 (l:=YR (insQ q x)) (by omega) hper.1 hph.1 x.2 (λr hr y hy=>⟨YcV (ZN hrx r hr) y hy,hfi,hib⟩) hsm hsz hp
 have hsem2:=g1.sem hl
 have hft:=Xw.2 hsem2.frm
 have hfs:=Xw.2 hsem.frm
 refine⟨Za.2 ⟨Zw.2 (JM.2 hsem2),λy hy=>?_⟩,g2⟩
 rcases JS.1 hy with rfl|hy
 ·unfold Oa
  rw[Tm,To]
  refine⟨Ow hrx,?_⟩
  unfold JT
  rw[RY,RJ]
  intro r hr
  have hway:wayE n t y.1 r=0:=by
   unfold wayE
   rw[hft,Tf (by rintro(h|h|h);exact h g1.ck;cases h;exact h hfx),Tf (λe=>e (by rw[g2.len];exact hm))]
   exact ZN hrx r hr
  have:=Yke hway λi hi=>g3 t ⟨rfl,λ_ h=>h⟩ r hr i (by rw[<-g2.len];exact hi)
  unfold badR
  rw[To]
  omega
 ·rw[YnV g2.len hfs hft λl=>g2.oth _ λc e=>by
   refine Tj λh=>?_
   exact hnew y hy (h.1.symm.trans e)]
  exact h2 y hy
def W9(n:Net)(s:Sch)(f:Flw)(r:List Int)(c:Cel):Bool:=(List.range s.len.toNat).any λi=>decide (f.2.2.2.2.1+i*f.2.2.2.1<s.len)&&(runP s.len (Xz s f.1) (f.2.2.2.2.1+i*f.2.2.2.1+f.2.2.2.1) (Yp n r) (f.2.2.2.2.1+i*f.2.2.2.1)).any λp=>decide (p.1=c)
def OZ(n:Net)(s:Sch)(x:Rqs)(c:Cel):Bool:=x.2.any λr=>W9 n s x.1 r c
def YiL(n:Net)(s:Sch)(q:List Rqs)(c:Cel):Bool:=q.any λx=>OZ n s x c
def YvY(n:Net)(q:List Rqs)(s:Sch):Sch:=⟨s.len,s.off,s.cells.filter (YiL n s q)⟩
end Go.Proofs.YtjlgijpmnfabcaaGreatDoor
