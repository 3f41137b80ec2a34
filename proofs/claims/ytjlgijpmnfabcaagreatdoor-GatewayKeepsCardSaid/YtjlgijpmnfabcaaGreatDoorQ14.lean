/- Lemmas. -/
import Derived.Test.YtjlgijpmnfabcaaGreatDoorQ12
import Derived.Test.YtjlgijpmnfabcaaGreatDoorQ13
set_option maxRecDepth 100000
set_option maxHeartbeats 8000000
set_option linter.all false
namespace Go.Proofs.YtjlgijpmnfabcaaGreatDoor
open Go.RowKit Go.Eng Go.Nw Go.Rt
variable {A A2:Option Addr}{cap cap2 B:Nat}{w0 w:World}{H:List HP}
theorem WH(l m:List Int)(hlen:l.length<=9223372036854775807)(_hlen2:m.length<=9223372036854775807)(hr:Rd B w0 H A (l.flatMap numF))(hr2:Rd B w0 H A2 (m.flatMap numF))(hw:St B w0 H w):
 CX B w0 195 [.slice A l.length cap,.slice A2 m.length cap2] w λu K=>u=.bool (decide (l=m))/\K=H:=by
 refine Ya Tryz.func195 Tryz.ntmps195 rfl rfl hw ?_
 by_cases hll:l.length=m.length
 rotate_left
 ·exact zc16
 refine zX5 ?_<;>intros
 refine Yi (λ(k:Nat)=>[(13,.int .i64 k),(12,.int .i64 l.length),(0,.slice A l.length cap),(1,.slice A2 m.length cap2)]) (λ_=>H) (λk=>k<=l.length/\l.take k=m.take k) (λk=>l.length-k) 0 ⟨Ti _,by simp⟩ ?_ (λw hw=>hw) ?_
 ·exact zc1
 rintro k ⟨hk,hi⟩ K hK
 by_cases hlt:k<l.length
 ·obtain⟨a,ha⟩:∃a,l[k]? =some a:=⟨_,Ta hlt⟩
  obtain⟨b,hb⟩:∃b,m[k]? =some b:=⟨_,Ta (by omega)⟩
  repeat'(first|refine zgd ?_|(refine zge ?_ ?_<;>intro _<;>try exact zo)|fail)
  ·exact zc58
  ·rename_i h
   apply hK (k+1)
   ·exact⟨by omega,by simp_all [YfB]⟩
   ·omega
   ·exact zc1
   exact zc21
 exact zc8
theorem Ydz(a b:RowM)(hl:a.xs.length<=1000000000000/\b.xs.length<=1000000000000)(hr:Rd B w0 H a.A (a.xs.flatMap numF))(hr2:Rd B w0 H b.A (b.xs.flatMap numF))(hw:St B w0 H w):
 CX B w0 192 [.slice a.A a.xs.length a.cap,.slice b.A b.xs.length b.cap] w λu K=>u=.bool (decide (a.xs=b.xs))/\K=H:=by
 refine Ya Tryz.func192 Tryz.ntmps192 rfl rfl hw ?_
 repeat'(first|((first|apply Yb YeI|apply Yc YeI);exact za;exact rfl;exactλ_ hw=>(YaP a.xs b.xs (by omega) (by omega) hr hr2 hw))|refine zga ?_|fail)
 exact zc12
theorem Yab(l m:List RowM)(hlen:l.length<=1000000000000)(_hlen2:m.length<=1000000000000)(hl2:∀r∈l,r.xs.length<=1000000000000)(hm2:∀r∈m,r.xs.length<=1000000000000)(hr:Rd B w0 H A (l.flatMap rowF))(hr2:Rd B w0 H A2 (m.flatMap rowF))(hrl:∀r∈l,Rd B w0 H r.A (r.xs.flatMap numF))(hrm:∀r∈m,Rd B w0 H r.A (r.xs.flatMap numF))(hw:St B w0 H w):
 CX B w0 196 [.slice A l.length cap,.slice A2 m.length cap2,.func (.func 192) #[] #[]] w λu K=>u=.bool (decide (l.map (·.xs)=m.map (·.xs)))/\K=H:=by
 refine Ya Tryz.func196 Tryz.ntmps196 rfl rfl hw ?_
 by_cases hll:l.length=m.length
 rotate_left
 ·exact zc24
 refine zX5 ?_<;>intros
 refine Yi (λ(k:Nat)=>[(17,.int .i64 k),(16,.int .i64 l.length),(15,.slice A l.length cap),(0,.slice A l.length cap),(1,.slice A2 m.length cap2),(2,.func (.func 192) #[] #[])]) (λ_=>H) (λk=>k<=l.length/\(l.take k).map (·.xs)=(m.take k).map (·.xs)) (λk=>l.length-k) 0 ⟨Ti _,by simp⟩ ?_ (λw hw=>hw) ?_
 ·exact zc1
 rintro k ⟨hk,hi⟩ K hK
 by_cases hlt:k<l.length
 ·obtain⟨a,ha⟩:∃a,l[k]? =some a:=⟨_,Ta hlt⟩
  obtain⟨b,hb⟩:∃b,m[k]? =some b:=⟨_,Ta (by omega)⟩
  have ham:=Td ha
  have hbm:=Td hb
  have hss:=λ{w:World}(hw:St B w0 H w)=>Ydz a b ⟨hl2 a ham,hm2 b hbm⟩ (hrl a ham) (hrm b hbm) hw
  by_cases hab:a.xs=b.xs
  ·rw[Tj hab]at hss
   refine zX96 ?_<;>intros
   apply hK (k+1)
   ·exact YtL
   ·omega
   ·exact zc1
   exact zc21
  ·rw[Tu hab]at hss
   refine zX96 ?_<;>intros
   exact zc35
 exact zc8
theorem Yei(a b:RowM)(hl:a.xs.length<=1000000000000/\b.xs.length<=1000000000000)(hr:Rd B w0 H a.A (a.xs.flatMap numF))(hr2:Rd B w0 H b.A (b.xs.flatMap numF))(hw:St B w0 H w):
 CX B w0 194 [.slice a.A a.xs.length a.cap,.slice b.A b.xs.length b.cap] w λu K=>u=.bool (decide (a.xs=b.xs))/\K=H:=by
 refine Ya Tryz.func194 Tryz.ntmps194 rfl rfl hw ?_
 repeat'(first|((first|apply Yb Wi|apply Yc Wi);exact za;exact rfl;exactλ_ hw=>(WH a.xs b.xs (by omega) (by omega) hr hr2 hw))|refine zga ?_|fail)
 exact zc12
theorem Ybu(l m:List RowM)(hlen:l.length<=1000000000000)(_hlen2:m.length<=1000000000000)(hl2:∀r∈l,r.xs.length<=1000000000000)(hm2:∀r∈m,r.xs.length<=1000000000000)(hr:Rd B w0 H A (l.flatMap rowF))(hr2:Rd B w0 H A2 (m.flatMap rowF))(hrl:∀r∈l,Rd B w0 H r.A (r.xs.flatMap numF))(hrm:∀r∈m,Rd B w0 H r.A (r.xs.flatMap numF))(hw:St B w0 H w):
 CX B w0 197 [.slice A l.length cap,.slice A2 m.length cap2,.func (.func 194) #[] #[]] w λu K=>u=.bool (decide (l.map (·.xs)=m.map (·.xs)))/\K=H:=by
 refine Ya Tryz.func197 Tryz.ntmps197 rfl rfl hw ?_
 by_cases hll:l.length=m.length
 rotate_left
 ·exact zc24
 refine zX5 ?_<;>intros
 refine Yi (λ(k:Nat)=>[(17,.int .i64 k),(16,.int .i64 l.length),(15,.slice A l.length cap),(0,.slice A l.length cap),(1,.slice A2 m.length cap2),(2,.func (.func 194) #[] #[])]) (λ_=>H) (λk=>k<=l.length/\(l.take k).map (·.xs)=(m.take k).map (·.xs)) (λk=>l.length-k) 0 ⟨Ti _,by simp⟩ ?_ (λw hw=>hw) ?_
 ·exact zc1
 rintro k ⟨hk,hi⟩ K hK
 by_cases hlt:k<l.length
 ·obtain⟨a,ha⟩:∃a,l[k]? =some a:=⟨_,Ta hlt⟩
  obtain⟨b,hb⟩:∃b,m[k]? =some b:=⟨_,Ta (by omega)⟩
  have ham:=Td ha
  have hbm:=Td hb
  have hss:=λ{w:World}(hw:St B w0 H w)=>Yei a b ⟨hl2 a ham,hm2 b hbm⟩ (hrl a ham) (hrm b hbm) hw
  by_cases hab:a.xs=b.xs
  ·rw[Tj hab]at hss
   refine zX98 ?_<;>intros
   apply hK (k+1)
   ·exact YtL
   ·omega
   ·exact zc1
   exact zc21
  ·rw[Tu hab]at hss
   refine zX98 ?_<;>intros
   exact zc35
 exact zc8
theorem Yu3{c d:ClM}:c.clm=d.clm↔c.flow=d.flow/\c.rs.map (·.xs)=d.rs.map (·.xs)/\c.bs=d.bs/\c.ws=d.ws/\c.ss.map (·.xs)=d.ss.map (·.xs):=by
 unfold ClM.clm
 simp_all
theorem YkE(c d:ClM)(hc:c.In B w0 H)(hd:d.In B w0 H)(hw:St B w0 H w):
 CX B w0 103 [clV c,clV d] w λu K=>u=.bool (decide (c.clm=d.clm))/\K=H:=by
 refine Ya Tryz.func103 Tryz.ntmps103 rfl rfl hw ?_
 have hcl:=hc.ln
 have hdl:=hd.ln
 have p1:=λ{H':List HP}{w:World}(hc:c.In B w0 H') (hd:d.In B w0 H') (hw:St B w0 H' w)=>Yab c.rs d.rs (cap:=c.rcap) (cap2:=d.rcap) hcl.1 hdl.1 hc.rl hd.rl hc.rt hd.rt hc.rw_ hd.rw_ hw
 have p2:=λ{H':List HP}{w:World}(hc:c.In B w0 H') (hd:d.In B w0 H') (hw:St B w0 H' w)=>WH c.bs d.bs (cap:=c.bcap) (cap2:=d.bcap) (by omega) (by omega) hc.bd hd.bd hw
 have p3:=λ{H':List HP}{w:World}(hc:c.In B w0 H') (hd:d.In B w0 H') (hw:St B w0 H' w)=>WH c.ws d.ws (cap:=c.wcap) (cap2:=d.wcap) (by omega) (by omega) hc.ws hd.ws hw
 have p4:=λ{H':List HP}{w:World}(hc:c.In B w0 H') (hd:d.In B w0 H') (hw:St B w0 H' w)=>Ybu c.ss d.ss (cap:=c.scap) (cap2:=d.scap) hcl.2.2.2 hdl.2.2.2 hc.sl hd.sl hc.st hd.st hc.sw hd.sw hw
 have hce:=@Yu3 c d
 unfold clV
 by_cases h1:c.flow=d.flow
 rotate_left
 ·rw[Tu (λh=>h1 (hce.1 h).1)]
  refine zX99 ?_<;>intros
  apply Yh H
  ·exact zc0
  exact zc7
 by_cases h2:c.rs.map (·.xs)=d.rs.map (·.xs)
 rotate_left
 ·rw[Tu (λh=>h2 (hce.1 h).2.1)]
  rw[Tu h2]at p1
  refine zX99 ?_<;>intros
  first|apply Yb YaO|apply Yc YaO
  exact za
  exact rfl
  exactλ_ hw=>(p1 (hc.mono zc0) (hd.mono zc0) hw)
  refine zX9 ?_
  apply Yh H
  ·exact zc0
  exact zc7
 rw[Tj h2]at p1
 by_cases h3:c.bs=d.bs
 rotate_left
 ·rw[Tu (λh=>h3 (hce.1 h).2.2.1)]
  rw[Tu h3]at p2
  refine zX99 ?_<;>intros
  first|apply Yb YaO|apply Yc YaO
  exact za
  exact rfl
  exactλ_ hw=>(p1 (hc.mono zc0) (hd.mono zc0) hw)
  refine zX9 ?_
  first|apply Yb Wi|apply Yc Wi
  exact za
  exact rfl
  exactλ_ hw=>(p2 (hc.mono zc0) (hd.mono zc0) hw)
  refine zX9 ?_
  apply Yh H
  ·exact zc0
  exact zc7
 rw[Tj h3]at p2
 by_cases h4:c.ws=d.ws
 rotate_left
 ·rw[Tu (λh=>h4 (hce.1 h).2.2.2.1)]
  rw[Tu h4]at p3
  refine zX99 ?_<;>intros
  first|apply Yb YaO|apply Yc YaO
  exact za
  exact rfl
  exactλ_ hw=>(p1 (hc.mono zc0) (hd.mono zc0) hw)
  refine zX9 ?_
  first|apply Yb Wi|apply Yc Wi
  exact za
  exact rfl
  exactλ_ hw=>(p2 (hc.mono zc0) (hd.mono zc0) hw)
  refine zX9 ?_
  first|apply Yb Wi|apply Yc Wi
  exact za
  exact rfl
  exactλ_ hw=>(p3 (hc.mono zc0) (hd.mono zc0) hw)
  refine zX9 ?_
  apply Yh H
  ·exact zc0
  exact zc7
 rw[Tj h4]at p3
 have h5:decide (c.clm=d.clm)=decide (c.ss.map (·.xs)=d.ss.map (·.xs)):=decide_eq_decide.2 ⟨λh=>(hce.1 h).2.2.2.2,λh=>hce.2 ⟨h1,h2,h3,h4,h⟩⟩
 rw[h5]
 refine zX99 ?_<;>intros
 first|apply Yb YaO|apply Yc YaO
 exact za
 exact rfl
 exactλ_ hw=>(p1 (hc.mono zc0) (hd.mono zc0) hw)
 refine zX9 ?_
 first|apply Yb Wi|apply Yc Wi
 exact za
 exact rfl
 exactλ_ hw=>(p2 (hc.mono zc0) (hd.mono zc0) hw)
 refine zX9 ?_
 first|apply Yb Wi|apply Yc Wi
 exact za
 exact rfl
 exactλ_ hw=>(p3 (hc.mono zc0) (hd.mono zc0) hw)
 refine zX9 ?_
 first|apply Yb YsT|apply Yc YsT
 exact za
 exact rfl
 exactλ_ hw=>(p4 (hc.mono zc0) (hd.mono zc0) hw)
 refine zX9 ?_
 apply Yh H
 ·exact zc0
 exact zc7
theorem Yez{c:List ClM}{i:Nat}{x:ClM}(h:c[i]? =some x):Qo (c.map ClM.clm) i=x.clm:=by
 grind [Qo]
variable {B:Nat}{w0:World}{H:List HP}
theorem Ykr{C:List ClM}{c:ClM}(hm:many (C.map clQ)∈H)(hc:c∈C)(hl:c.lens):c.In B w0 H:=by
 have hb:∀w,St B w0 H w->St B w0 (C.map clQ) w:=λw hw=>hw.inM hm
 refine ClM.In.mono (H:=C.map clQ) (Yu2 (RA hc) ⟨⟨?_,?_,?_,?_⟩,?_,?_⟩) hb
 ·have:=hl.1.1;omega
 ·have:=hl.1.2.1;omega
 ·have:=hl.1.2.2.1;omega
 ·have:=hl.1.2.2.2;omega
 ·exactλr hr=>TY (hl.2.1 r hr) (by decide)
 ·exactλr hr=>TY (hl.2.2 r hr) (by decide)
theorem Yf4(n:NetM)(q:List RqM)(s:SchM)(c:List ClM){A A1:Option Addr}{cap cap1:Nat}{w:World}(ht:TabsB B w0)(hin:n.In B w0 H)(hq:QIn B w0 H A q)(hrs:Rd B w0 H s.A (s.cells.flatMap celF))(hsl:s.cells.length<=1000000000000)(hc:CIn B w0 H A1 c)(hw:St B w0 H w):
 CX B w0 41 [n.val,.slice A q.length cap,s.val,.slice A1 c.length cap1] w λv K=>v=.tuple #[.int .i64 (chkE n.net (q.map RqM.rq) s.sch (c.map ClM.clm)).1,.int .i64 (chkE n.net (q.map RqM.rq) s.sch (c.map ClM.clm)).2]/\K=H:=by
 refine Ya Tryz.func41 Tryz.ntmps41 rfl rfl hw ?_
 have hcl:=hc.ln
 have hcr:=hc.rd
 have p1:=λ{H':List HP}{w:World}(hin:n.In B w0 H') (hq:QIn B w0 H' A q) (hrs:Rd B w0 H' s.A (s.cells.flatMap celF)) (hw:St B w0 H' w)=>Uz n q s (cap:=cap) ht hin hq hrs hsl hw
 obtain⟨⟨RC,ri,re⟩,hR⟩:∃R,Y4 n.net (q.map RqM.rq) s.sch=R:=⟨_,rfl⟩
 unfold chkE
 rw[Tv]
 rw[hR]at p1⊢
 unfold OutC at p1
 dsimp only at p1⊢
 unfold NetM.val SchM.val
 by_cases h0:re=0
 rotate_left
 ·rw[Tm h0]
  repeat'(first|refine zgb ?_|(refine zgh ?_;intro _)|fail)
  apply Yg _ en40
  exact za
  exact rfl
  exactλ_ hw=>(p1 (hin.mono zc0) (hq.mono zc0) (hrs.mono zc0) (hw))
  rintro _ _ ⟨A2,cap2,C,rfl,hC,hCl,rfl⟩
  repeat'(first|refine zgc ?_|(refine zge ?_ ?_<;>intro _<;>try exact zo)|fail)
  apply Yh H
  ·exact zc0
  exact zc10
 subst h0
 rw[Tf (λe=>e rfl)]
 repeat'(first|refine zgb ?_|(refine zgh ?_;intro _)|fail)
 apply Yg _ en40
 exact za
 exact rfl
 exactλ_ hw=>(p1 (hin.mono zc0) (hq.mono zc0) (hrs.mono zc0) (hw))
 rintro _ _ ⟨A2,cap2,C,rfl,hC,hCl,rfl⟩
 subst hC
 rw[Tv]
 by_cases h1:c.length=C.length
 rotate_left
 ·rw[Tm h1]
  repeat'(first|refine zgc ?_|(refine zge ?_ ?_<;>intro _<;>try exact zo)|fail)
  apply Yh H
  ·exact zc0
  exact zc10
 rw[Tf (λe=>e h1)]
 obtain⟨F,hF⟩:∃F:Nat->Int,(λi=>if Qo (c.map ClM.clm) i=Qo (C.map ClM.clm) i then(0:Int)else 20)=F:=⟨_,rfl⟩
 rw[hF]
 have hFv:∀{k:Nat}{x y:ClM},c[k]? =some x->C[k]? =some y->F k=if x.clm=y.clm then 0 else 20:=λhx hy=>by rw[<-hF];show(if _=_ then _ else _)=_;rw[Yez hx,Yez hy]
 repeat'(first|refine zgc ?_|(refine zge ?_ ?_<;>intro _<;>try exact zo)|fail)
 refine Yi (λk:Nat=>[(33,.int .i64 (k:Nat)),(32,.int .i64 C.length),(10,.slice A2 C.length cap2),(3,.slice A1 c.length cap1)]) (λ_=>clsP A2 cap2 C::many (C.map clQ)::H) (λk=>k<=C.length/\∀j,0<=j->j<k->F j=0) (λk=>C.length-k) 0 ⟨Ti _,λj _ h=>absurd h (RD _)⟩ ?_ ?_ ?_
 ·exact zc1
 ·exact zc0
 rintro k ⟨hk,hz⟩ K hK
 have hcr':Rd B w0 (clsP A2 cap2 C::many (C.map clQ)::H) A1 (c.flatMap clF):=hcr.cons.cons
 have hCr':Rd B w0 (clsP A2 cap2 C::many (C.map clQ)::H) A2 (C.flatMap clF):=.sl (.head _)
 by_cases hlt:k<C.length
 ·obtain⟨x,hx⟩:∃x,c[k]? =some x:=⟨_,Ta (by omega)⟩
  obtain⟨y,hy⟩:∃y,C[k]? =some y:=⟨_,Ta hlt⟩
  have hym:=Td hy
  have hFk:=hFv hx hy
  have hxi:=hc.x x (Td hx)
  have p2:=λ{H':List HP}{w:World}(hx:x.In B w0 H') (hy:y.In B w0 H') (hw:St B w0 H' w)=>YkE x y hx hy hw
  by_cases he:x.clm=y.clm
  ·rw[Tm he]at hFk
   rw[Tj he]at p2
   repeat'(first|refine zgb ?_|(refine zge ?_ ?_<;>intro _<;>try exact zo)|fail)
   apply Jc [0,1,2,3,4,5,6,7,8,9] []
   kernel_rfl
   kernel_rfl
   (simp only[Ye,nthO];rfl)
   exact rfl
   repeat'(first|refine zgd ?_|fail)
   first|apply Yb Ylg|apply Yc Ylg
   exact za
   exact rfl
   exactλ_ hw=>(p2 (hxi.mono zc0) (Ykr (by(focus exact zc2)) hym (hCl y hym)) hw)
   repeat'(first|(apply Yj;(repeat(first|with_reducible exact Xe|(with_reducible apply Y2;(repeat(first|with_reducible exact Yy|with_reducible apply YR))))))|refine zgd ?_|fail)
   ·show Perm H (H++[])
    exact zc44
   repeat'(first|fail)
   apply hK (k+1)
   ·exact⟨by omega,λj h1 h2=>by
     rcases SL.1 h2 with h|rfl
     ·exact hz j h1 h
     ·exact hFk⟩
   ·omega
   ·exact zc1
   ·exact zc0
  ·rw[Tf he]at hFk
   rw[Tu he]at p2
   have hfe:=Ze (f:=F) (r:=c.length) (i0:=0) (i:=k) (λj h1 h2=>hz j h1 h2) (Ti _) (by omega) (by rw[hFk];decide)
   rw[hfe,hFk]
   clear hK
   repeat'(first|refine zgb ?_|(refine zge ?_ ?_<;>intro _<;>try exact zo)|fail)
   apply Jc [0,1,2,3,4,5,6,7,8,9] []
   kernel_rfl
   kernel_rfl
   (simp only[Ye,nthO];rfl)
   exact rfl
   repeat'(first|refine zgd ?_|fail)
   first|apply Yb Ylg|apply Yc Ylg
   exact za
   exact rfl
   exactλ_ hw=>(p2 (hxi.mono zc0) (Ykr (by(focus exact zc2)) hym (hCl y hym)) hw)
   repeat'(first|(apply Yj;(repeat(first|with_reducible exact Xe|(with_reducible apply Y2;(repeat(first|with_reducible exact Yy|with_reducible apply YR))))))|refine zgd ?_|fail)
   ·show Perm H (H++[])
    exact zc44
   repeat'(first|fail)
   apply Yh H
   ·exact zc0
   exact zc10
 ·obtain rfl:k=C.length:=by omega
  have hfe:=Zy (f:=F) (r:=c.length) (i0:=0) λj h1 h2=>hz j h1 (by omega)
  rw[hfe]
  clear hK
  repeat'(first|refine zgc ?_|(refine zge ?_ ?_<;>intro _<;>try exact zo)|fail)
  apply Yh H
  ·exact zc0
  exact zc10
variable {B:Nat}{w0 w:World}{H:List HP}
theorem ClM.In.here{c:ClM}(h:c.In B w0 H)(hw:St B w0 H w):c.In w.heap.size w []:=
 ⟨h.rt.here hw,λr hr=>(h.rw_ r hr).here hw,h.bd.here hw,h.ws.here hw,h.st.here hw,λr hr=>(h.sw r hr).here hw,h.ln,h.rl,h.sl⟩
theorem CIn.here{c:List ClM}{A:Option Addr}(h:CIn B w0 H A c)(hw:St B w0 H w):CIn w.heap.size w [] A c:=⟨h.rd.here hw,λx hx=>(h.x x hx).here hw,h.ln⟩
end Go.Proofs.YtjlgijpmnfabcaaGreatDoor
namespace Go.Eng
open Go.RowKit
section
variable {P:Program}{B:Nat}{w0:World}{Q:Exit->Act->World->Prop}{env:Env}{H:List HP}{m:Mode}{n:Shp}{ops:Array Oper}{rest:List Oper}{d:Nat}{ty:TypeId}{pos:String}{after:Array Edge}
theorem YuQ{tx:Array TypeId}{x y:Operand}{a b:Int}{k k':IntKind}(hx:evo env x=some (.int k a))(hy:evo env y=some (.int k' b))(hn:Nat.ble (d+1) n.k=true)(h:VL P m n B w0 ops Q rest ((d,.int k (if b<a then b else a))::env) H):
 VL P m n B w0 ops Q (⟨some d,.call ⟨.builtin .min,#[x,y],tx⟩,ty,pos,after,none⟩::rest) env H:=
 YH rfl rfl hn rfl (λf w ha _=>by simp[execOp,resolve,invoke,builtin,ha.eval hx,ha.eval hy,run_min_int2]) h
end
end Go.Eng
namespace Go.Proofs.YtjlgijpmnfabcaaGreatDoor
open Go.RowKit Go.Eng Go.Nw Go.Rt
def Uw(id:Int)(x:Clm):Bool:=decide (x.flow=id)&&decide (0<x.bounds.length)
variable {B cap:Nat}{w0 w:World}{H:List HP}
theorem Yf2(x:ClM)(id:Int)(g:Nat)(hl:x.bs.length<=1000000000000)(hm:blk g (.cells #[.int .i64 id] 3 (0,0))∈H)(hw:St B w0 H w):
 CX B w0 155 [clV x,.pointer (some ⟨g,0,none⟩)] w λv K=>v=.bool (Uw id x.clm)/\K=H:=by
 refine Ya Tryz.func155 Tryz.ntmps155 rfl rfl hw ?_
 have e1:Uw id x.clm=(decide (x.flow=id)&&decide (0<x.bs.length)):=rfl
 unfold clV
 by_cases h1:x.flow=id
 ·by_cases h2:0<x.bs.length
  ·rw[e1,Tj h1,Tj h2]
   repeat'(first|apply(zs1 ?_)|apply(zs2 ?_)|(apply zg1;refine zs4 ?_)|(apply zg2;refine zs6 ?_)|(apply zg3;refine zs7 ?_)|(apply zg4;refine zs9 ?_)|(apply zg6;refine zs11 ?_)|(apply zg7;(refine zs15 ?_ ?_<;>intro _<;>try exact zo))|(apply(zs19 ?_ ?_)<;>intro _<;>try exact zo)|(apply zg23;(refine zs52 ?_;intro _))|apply(zs65 ?_)|apply(zs68 ?_)|apply(zs69 ?_)|apply(zs70 ?_)|apply(zs74 ?_)|fail)
   apply Yh H
   ·exact zk
   apply Yd;exact rfl;exact rfl;exact⟨rfl,rfl⟩
  ·rw[e1,Tj h1,Tu h2]
   repeat'(first|apply(zs1 ?_)|apply(zs2 ?_)|(apply zg1;refine zs4 ?_)|(apply zg2;refine zs6 ?_)|(apply zg3;refine zs7 ?_)|(apply zg4;refine zs9 ?_)|(apply zg6;refine zs11 ?_)|(apply zg7;(refine zs15 ?_ ?_<;>intro _<;>try exact zo))|(apply(zs19 ?_ ?_)<;>intro _<;>try exact zo)|(apply zg23;(refine zs52 ?_;intro _))|apply(zs65 ?_)|apply(zs68 ?_)|apply(zs69 ?_)|apply(zs70 ?_)|apply(zs74 ?_)|fail)
   apply Yh H
   ·exact zk
   apply Yd;exact rfl;exact rfl;exact⟨rfl,rfl⟩
 ·rw[e1,Tu h1]
  repeat'(first|apply(zs1 ?_)|apply(zs2 ?_)|(apply zg1;refine zs3 ?_)|(apply zg2;refine zs6 ?_)|(apply zg3;refine zs7 ?_)|(apply zg6;refine zs12 ?_)|(apply zg7;(refine zs15 ?_ ?_<;>intro _<;>try exact zo))|(apply zg23;(refine zs52 ?_;intro _))|apply(zs65 ?_)|apply(zs68 ?_)|apply(zs69 ?_)|apply(zs70 ?_)|apply(zs74 ?_)|fail)
  apply Yh H
  ·exact zk
  apply Yd;exact rfl;exact rfl;exact⟨rfl,rfl⟩
def idxC(P:Clm->Bool)(c:List Clm):Int:=match c.findIdx? P with|none=> -1|some i=>(i:Nat)
variable {P:Clm->Bool}{c:List Clm}
theorem YeY(h:∀x∈c,P x=false):idxC P c= -1:=by
 have:c.findIdx? P=none:=by rw[List.findIdx?_eq_none_iff];exact h
 unfold idxC;rw[this]
theorem Yal{i:Nat}{x:Clm}(h0:∀y∈c.take i,P y=false)(hx:c[i]? =some x)(hp:P x=true):idxC P c=(i:Nat)/\c.find? P=some x:=by
 have hc:c=c.take i++(x::c.drop (i+1)):=by
  have hi:=(Tc.1 hx)
  obtain⟨hi,e⟩:=hi
  rw[<-e,Nr,Rx]
 have hl:(c.take i).length=i:=by
  have hi:=(Tc.1 hx).1
  rw[TK];omega
 have h1:c.findIdx? P=some i:=by
  rw[hc,List.findIdx?_append]
  have:(c.take i).findIdx? P=none:=by rw[List.findIdx?_eq_none_iff];exact h0
  rw[this]
  simp[List.findIdx?_cons,hp,hl]
 refine⟨by unfold idxC;rw[h1],?_⟩
 rw[hc,List.find?_append]
 have:(c.take i).find? P=none:=by rw[SK];exactλy hy=>by rw[h0 y hy];decide
 rw[this]
 simp[hp]
variable {A:Option Addr}
theorem YhH(c:List ClM)(id:Int)(g:Nat)(hc:CIn B w0 H A c)(hm:blk g (.cells #[.int .i64 id] 3 (0,0))∈H)(hw:St B w0 H w):
 CX B w0 154 [.slice A c.length cap,.func (.func 155) #[] #[.pointer (some ⟨g,0,none⟩)]] w λv K=>v=.int .i64 (idxC (Uw id) (c.map ClM.clm))/\K=H:=by
 refine Ya Tryz.func154 Tryz.ntmps154 rfl rfl hw ?_
 have hcl:=hc.ln
 have hcr:=hc.rd
 repeat'(first|apply(zs1 ?_)|apply(zs2 ?_)|(apply zg4;refine zs9 ?_)|apply(zs65 ?_)|apply(zs68 ?_)|apply(zs69 ?_)|apply(zs70 ?_)|apply(zs73 ?_)|fail)
 refine Yi (λk:Nat=>[(8,.int .i64 (k:Nat)),(7,.int .i64 c.length),(6,.slice A c.length cap),(0,.slice A c.length cap),(1,.func (.func 155) #[] #[.pointer (some ⟨g,0,none⟩)])]) (λ_=>H) (λk=>k<=c.length/\∀y∈(c.map ClM.clm).take k,Uw id y=false) (λk=>c.length-k) 0 ⟨Ti _,by simp⟩ ?_ (λw hw=>hw) ?_
 ·exact zu
 rintro k ⟨hk,hz⟩ K hK
 by_cases hlt:k<c.length
 ·obtain⟨x,hx⟩:∃x,c[k]? =some x:=⟨_,Ta hlt⟩
  have hxm:(c.map ClM.clm)[k]? =some x.clm:=by rw[TS,hx];rfl
  have hxi:=hc.x x (Td hx)
  have p1:=λ{w:World}(hw:St B w0 H w)=>Yf2 x id g hxi.ln.2.1 hm hw
  cases hb:Uw id x.clm with
  |true=>
   rw[hb]at p1
   have hi:=(Yal hz hxm hb).1
   rw[hi]
   clear hK
   repeat'(first|((first|apply YK (cs:=[.pointer (some ⟨g,0,none⟩)])|apply YU (cs:=[.pointer (some ⟨g,0,none⟩)]));exact rfl;exact YsH;exact za;exact rfl;exactλ_ hw=>(p1 hw))|apply(zs1 ?_)|apply(zs2 ?_)|(apply zg3;refine zs61 ?_)|(apply zg5;refine zs57 ?_)|(apply(zs17 ?_ ?_)<;>intro _<;>try exact zo)|apply(zs65 ?_)|apply(zs68 ?_)|apply(zs69 ?_)|apply(zs70 ?_)|(apply zg27;refine zs71 ?_)|apply(zs73 ?_)|apply(zs74 ?_)|apply(zs76 ?_)|apply(zs77 ?_)|apply(zs78 ?_)|fail)
   apply Yd;exact rfl;exact rfl;exact⟨rfl,rfl⟩
  |false=>
   rw[hb]at p1
   repeat'(first|((first|apply YK (cs:=[.pointer (some ⟨g,0,none⟩)])|apply YU (cs:=[.pointer (some ⟨g,0,none⟩)]));exact rfl;exact YsH;exact za;exact rfl;exactλ_ hw=>(p1 hw))|apply(zs1 ?_)|apply(zs2 ?_)|(apply zg3;refine zs61 ?_)|(apply zg5;refine zs57 ?_)|(apply(zs17 ?_ ?_)<;>intro _<;>try exact zo)|(apply zg13;refine zs30 ?_)|apply(zs65 ?_)|apply(zs68 ?_)|apply(zs69 ?_)|apply(zs70 ?_)|(apply zg27;first|refine zs71 ?_|refine zs72 ?_)|apply(zs73 ?_)|apply(zs76 ?_)|apply(zs79 ?_)|fail)
   apply hK (k+1)
   ·exact⟨by omega,λy hy=>by
     rw[TF,hxm,RE]at hy
     rcases TJ.1 hy with h|h
     ·exact hz y h
     ·rw[TU.1 h];exact hb⟩
   ·omega
   ·exact zu
   ·exactλw hw=>hw
 ·rw[TX (by rw[Tv];omega)]at hz
  rw[YeY hz]
  repeat'(first|apply(zs2 ?_)|(apply(zs17 ?_ ?_)<;>intro _<;>try exact zo)|apply(zs65 ?_)|apply(zs68 ?_)|apply(zs69 ?_)|apply(zs70 ?_)|(apply zg27;refine zs72 ?_)|apply(zs74 ?_)|apply(zs75 ?_)|apply(zs80 ?_)|apply(zs81 ?_)|fail)
  apply Yd;exact rfl;exact rfl;exact⟨rfl,rfl⟩
theorem YpL{l:List Int}{k:Nat}{y:Int}(h0:1<=k)(h:l[k]? =some y):minI (l.take (k+1))=if y<minI (l.take k)then y else minI (l.take k):=by
 rw[TF,h,RE]
 cases l with
 |nil=>cases h
 |cons a l=>
  obtain⟨k,rfl⟩:∃j,k=j+1:=⟨k-1,by omega⟩
  rw[List.take_succ_cons]
  show List.foldl (λx y=>if y<x then y else x) a (l.take k++[y])=_
  rw[List.foldl_append]
  rfl
theorem YnP(l:List Int)(hlen:l.length<=1000000000000)(h0:1<=l.length)(hr:Rd B w0 H A (l.flatMap numF))(hw:St B w0 H w):
 CX B w0 156 [.slice A l.length cap] w λv K=>v=.int .i64 (minI l)/\K=H:=by
 refine Ya Tryz.func156 Tryz.ntmps156 rfl rfl hw ?_
 obtain⟨a,ha⟩:∃a,l[0]? =some a:=⟨_,Ta (by omega)⟩
 have ha2:l[(0:Int).toNat]? =some a:=ha
 have hm1:minI (l.take 1)=a:=by
  cases l with
  |nil=>cases ha
  |cons b l=>exact Tn ha
 repeat'(first|apply(zs1 ?_)|apply(zs2 ?_)|(apply zg3;refine zs60 ?_)|(apply zg4;refine zs9 ?_)|(apply zg5;refine zs57 ?_)|(apply(zs17 ?_ ?_)<;>intro _<;>try exact zo)|apply(zs65 ?_)|apply(zs68 ?_)|apply(zs69 ?_)|apply(zs70 ?_)|(apply zg27;refine zs72 ?_)|apply(zs73 ?_)|apply(zs76 ?_)|fail)
 refine Yi (λk:Nat=>[(4,.int .i64 (k:Nat)),(3,.int .i64 (minI (l.take k))),(0,.slice A l.length cap)]) (λ_=>H) (λk=>1<=k/\k<=l.length) (λk=>l.length-k) 1 ⟨TM _,h0⟩ ?_ (λw hw=>hw) ?_
 ·rw[hm1]
  exact zu
 rintro k ⟨hk1,hk⟩ K hK
 by_cases hlt:k<l.length
 ·obtain⟨y,hy⟩:∃y,l[k]? =some y:=⟨_,Ta hlt⟩
  repeat'(first|(apply YuQ;(iterate 3 exact rfl))|apply(zs1 ?_)|apply(zs2 ?_)|(apply zg3;refine zs60 ?_)|(apply zg4;refine zs9 ?_)|(apply zg5;refine zs57 ?_)|(apply(zs17 ?_ ?_)<;>intro _<;>try exact zo)|(apply zg13;refine zs30 ?_)|apply(zs65 ?_)|apply(zs68 ?_)|apply(zs69 ?_)|apply(zs70 ?_)|(apply zg27;refine zs71 ?_)|apply(zs73 ?_)|apply(zs76 ?_)|apply(zs79 ?_)|fail)
  apply hK (k+1)
  ·exact⟨by omega,by omega⟩
  ·omega
  ·rw[YpL hk1 hy]
   exact zu
  ·exactλw hw=>hw
 ·rw[show l.take k=l from TX (by omega)]
  repeat'(first|apply(zs1 ?_)|apply(zs2 ?_)|(apply zg4;refine zs9 ?_)|(apply(zs17 ?_ ?_)<;>intro _<;>try exact zo)|apply(zs65 ?_)|apply(zs68 ?_)|apply(zs69 ?_)|apply(zs70 ?_)|(apply zg27;refine zs72 ?_)|apply(zs74 ?_)|apply(zs75 ?_)|apply(zs80 ?_)|apply(zs81 ?_)|fail)
  apply Yd;exact rfl;exact rfl;exact⟨rfl,rfl⟩
theorem YhA(c:List ClM)(id:Int)(hc:CIn B w0 H A c)(hw:St B w0 H w):
 CX B w0 75 [.slice A c.length cap,.int .i64 id] w λv K=>v=.tuple #[.int .i64 (bndE (c.map ClM.clm) id).1,.bool (bndE (c.map ClM.clm) id).2]/\K=H:=by
 refine Ya Tryz.func75 Tryz.ntmps75 rfl rfl hw ?_
 have hcl:=hc.ln
 have hcr:=hc.rd
 repeat'(first|apply(zs1 ?_)|apply(zs2 ?_)|(apply zg23;(refine zs53 ?_;intro _))|apply(zs65 ?_)|apply(zs68 ?_)|apply(zs69 ?_)|apply(zs70 ?_)|(apply zg29;(apply Ys;exact za;exact rfl))|fail)
 rename_i g
 have p1:=λ{H':List HP}{w:World}(hc:CIn B w0 H' A c) (hm:blk g (.cells #[.int .i64 id] 3 (0,0))∈H') (hw:St B w0 H' w)=>YhH c id g (cap:=cap) hc hm hw
 by_cases hex:∃i x,(c.map ClM.clm)[i]? =some x/\Uw id x=true/\∀y∈(c.map ClM.clm).take i,Uw id y=false
 ·obtain⟨i,x,hx,hb,hz⟩:=hex
  obtain⟨h1,h2⟩:=Yal hz hx hb
  have hbe:bndE (c.map ClM.clm) id=(minI x.bounds,true):=by
   unfold bndE
   rw[show(c.map ClM.clm).find? (λx=>decide (x.flow=id)&&decide (0<x.bounds.length))=some x from h2]
  rw[TS]at hx
  obtain⟨y,hy,rfl⟩:∃y,c[i]? =some y/\y.clm=x:=by
   cases hc0:c[i]? with
   |none=>rw[hc0]at hx;cases hx
   |some y=>rw[hc0]at hx;exact⟨y,rfl,Tn hx⟩
  have hyi:=hc.x y (Td hy)
  have hi:=(Tc.1 hy).1
  have hpos:1<=y.bs.length:=by
   unfold Uw at hb
   rw[To,Tq,Tq]at hb
   exact hb.2
  rw[h1]at p1
  rw[hbe]
  have p2:=λ{H':List HP}{w:World}(hr:Rd B w0 H' y.bA (y.bs.flatMap numF)) (hw:St B w0 H' w)=>YnP y.bs hyi.ln.2.1 hpos (cap:=y.bcap) hr hw
  have hcr2:Rd B w0 (blk g (.cells #[.int .i64 id] 3 (0,0))::H) A (c.flatMap clF):=hcr.cons
  first|apply Yb Ylk|apply Yc Ylk
  exact za
  exact rfl
  exactλ_ hw=>(p1 hc.cons (.head _) hw)
  repeat'(first|apply(zs1 ?_)|apply(zs2 ?_)|(apply zg2;refine zs58 ?_)|(apply zg3;refine zs59 ?_)|(apply zg5;refine zs57 ?_)|(apply(zs17 ?_ ?_)<;>intro _<;>try exact zo)|apply(zs65 ?_)|apply(zs68 ?_)|apply(zs69 ?_)|apply(zs70 ?_)|(apply zg27;refine zs72 ?_)|apply(zs76 ?_)|fail)
  first|apply Yb YsI|apply Yc YsI
  exact za
  exact rfl
  exactλ_ hw=>(p2 hyi.bd.cons hw)
  repeat'(first|apply(zs2 ?_)|apply(zs65 ?_)|apply(zs68 ?_)|apply(zs74 ?_)|fail)
  apply Yh H
  ·exact zk
  apply Yu;(iterate 3 exact rfl);exact⟨rfl,rfl⟩
 ·have hall:∀y∈c.map ClM.clm,Uw id y=false:=by
   intro y hy
   cases hb:Uw id y with
   |false=>rfl
   |true=>
    exfalso
    have hsm:((c.map ClM.clm).find? (Uw id)).isSome=true:=by
     rw[List.find?_isSome];exact⟨y,hy,hb⟩
    have hsi:((c.map ClM.clm).findIdx? (Uw id)).isSome=true:=by
     rw[List.findIdx?_isSome,Rf];exact⟨y,hy,hb⟩
    obtain⟨i,hi⟩:=Sr.1 hsi
    rw[List.findIdx?_eq_some_iff_getElem]at hi
    obtain⟨hlt,hpi,hno⟩:=hi
    refine hex ⟨i,_,Ta hlt,hpi,λz hz=>?_⟩
    obtain⟨j,hj⟩:=TN.1 hz
    rw[SZ]at hj
    split at hj
    ·rename_i hji
     obtain⟨hj1,hj2⟩:=Tc.1 hj
     have:=hno j hji
     rw[hj2]at this
     simpa using this
    ·cases hj
  have hbe:bndE (c.map ClM.clm) id=(0,false):=by
   unfold bndE
   have:(c.map ClM.clm).find? (Uw id)=none:=by rw[SK];exactλy hy=>by rw[hall y hy];decide
   rw[show(c.map ClM.clm).find? (λx=>decide (x.flow=id)&&decide (0<x.bounds.length))=none from this]
  rw[YeY hall]at p1
  rw[hbe]
  first|apply Yb Ylk|apply Yc Ylk
  exact za
  exact rfl
  exactλ_ hw=>(p1 hc.cons (.head _) hw)
  repeat'(first|apply(zs1 ?_)|apply(zs2 ?_)|(apply(zs17 ?_ ?_)<;>intro _<;>try exact zo)|apply(zs65 ?_)|apply(zs68 ?_)|apply(zs69 ?_)|apply(zs70 ?_)|(apply zg27;refine zs71 ?_)|apply(zs74 ?_)|apply(zs77 ?_)|fail)
  apply Yh H
  ·exact zk
  apply Yu;(iterate 3 exact rfl);exact⟨rfl,rfl⟩
end Go.Proofs.YtjlgijpmnfabcaaGreatDoor
namespace Go.Eng
open Go.RowKit
end Go.Eng
namespace Go.Proofs.YtjlgijpmnfabcaaGreatDoor
open Go.RowKit Go.Eng Go.Nw Go.Rt
abbrev flwB(g:Nat)(f:Flw):HP:=blk g (.cells #[.int .i64 f.1,.int .i64 f.2.1,.int .i64 f.2.2.1,.int .i64 f.2.2.2.1,.int .i64 f.2.2.2.2.1,.int .i64 f.2.2.2.2.2] 66 (0,0))
def Ysx(c:List Clm)(l:List Flw)(i:Nat):List Int:=((List.range i).filter λk=>admB c (Y1 l k)).map λk=>((k:Nat):Int)
def Wn(n:Net)(s:Sch)(f:Flw)(a:Int)(r:List Int):Int:=match JY n s f r with|none=>a|some b=>if a=0\/b.1<a then b.1 else a
theorem Ynk(n:Net)(s:Sch)(f:Flw)(l:List (List Int)):Yj9 n s f l=if l.length=0 then(0,14)else
 if(YG (λk=>wayE n s f (rtAt l k)) l.length 0).2≠0 then(0,(YG (λk=>wayE n s f (rtAt l k)) l.length 0).2)
 else if l.foldl (Wn n s f) 0=0 then(0,15)else(l.foldl (Wn n s f) 0,0):=rfl
variable {f:Flw}{r:List Int}
theorem YqB{n:Net}{s:Sch}(h:wayE n s f r=0):f.2.2.2.2.1<s.len:=by
 obtain⟨_,h2,h3,h4,_⟩:=YgU h
 have hsz:=TV (Jl.1 h2).sized
 unfold YX at h3
 split at h3
 ·cases h3
 split at h3
 ·cases h3
 rename_i k1 k2
 have hd:f.2.2.2.1∣s.len:=Int.dvd_of_tmod_eq_zero h4
 have:=Int.le_of_dvd (by omega) hd
 omega
theorem Yhx{S:Int->Option (List Int)}{len per:Int}(hS:∀a l,S a=some l->1<=JA l-a+1):∀{k:Nat}{rel:Int}{b0 b:Int×Int×List Int},(1<=b0.1\/rel<len/\k≠0/\b0.1=0)->Vr S len per k rel b0=some b->1<=b.1
 |0,rel,b0,b,h0,h=>by
  unfold Vr at h
  rw[<-Tn h]
  rcases h0 with h0|⟨_,h0,_⟩
  ·exact h0
  ·exact absurd rfl h0
 |k+1,rel,b0,b,h0,h=>by
  unfold Vr at h
  split at h
  ·rw[<-Tn h]
   rcases h0 with h0|⟨h0,_⟩
   ·exact h0
   ·omega
  cases hs:S rel with
  |none=>rw[hs]at h;cases h
  |some l=>
   rw[hs]at h
   have h1:=hS _ _ hs
   refine Yhx hS (.inl ?_) h
   split
   ·exact h1
   ·rcases h0 with h0|h0<;>omega
theorem YmK{x:WayM}(hok:We x)(hl:x.f.2.2.2.2.1<x.s.len){b:Int×Int×List Int}(h:JY x.n.net x.s.sch x.f x.r=some b):1<=b.1:=by
 have h3:=hok.slen
 refine Yhx (len:=x.s.sch.len) (per:=x.f.2.2.2.1) (λa l hs=>?_) (.inr ⟨hl,?_,rfl⟩) h
 ·have:=YiR hok hs
  omega
 ·show x.s.len.toNat≠0
  omega
variable {n:NetM}{s:SchM}
theorem UF(h:(YN n.net s.sch f r).2=0):∃b,JY n.net s.sch f r=some b/\(YN n.net s.sch f r).1=b/\1<=b.1/\wayE n.net s.sch f r=0:=by
 obtain⟨h1,b,h2,h3⟩:=QO h
 exact⟨b,h2,by rw[h3],YmK (x:=⟨n,s,f,none,0,r⟩) (YgV h1) (YqB h1) h2,h1⟩
theorem Ydf:∀(l:List Int) (a:Int),1<=a->(∀z∈l,1<=z)->1<=l.foldl (λx y=>if y<x then y else x) a
 |[],a,h,_=>h
 |z::l,a,h,hl=>by
  rw[R9]
  refine Ydf l _ ?_ λy hy=>hl y (TE _ hy)
  have:=hl z TC
  split<;>omega
theorem Yc4{n:NetM}{s:SchM}{f:Flw}:∀(l:List (List Int)) (a:Int),1<=a->(∀r∈l,(YN n.net s.sch f r).2=0)->l.foldl (Wn n.net s.sch f) a=(l.map λr=>(YN n.net s.sch f r).1.1).foldl (λx y=>if y<x then y else x) a
 |[],a,_,_=>rfl
 |r::l,a,h,hl=>by
  obtain⟨b,h1,h2,h3,_⟩:=UF (hl r TC)
  rw[R9,Ro,R9,h2]
  have hs:Wn n.net s.sch f a r=if b.1<a then b.1 else a:=by
   unfold Wn
   rw[h1]
   show(if a=0\/b.1<a then b.1 else a)=_
   by_cases hb:b.1<a
   ·rw[Tm (.inr hb),Tm hb]
   ·rw[Tf (by omega),Tf hb]
  rw[hs]
  refine Yc4 l _ ?_ λy hy=>hl y (TE _ hy)
  split<;>omega
variable {x:Rqs}
theorem YpE(h0:1<=x.2.length)(h:∀r∈x.2,(YN n.net s.sch x.1 r).2=0):Yj9 n.net s.sch x.1 x.2=(minI (clmE n.net s.sch x).bounds,0):=by
 rw[Ynk,Tf (by omega)]
 have hw:(YG (λk=>wayE n.net s.sch x.1 (rtAt x.2 k)) x.2.length 0).2=0:=YF.2 λk _ hk=>by
  obtain⟨_,_,_,_,h4⟩:=UF (h (rtAt x.2 k) (YiJ (by omega)))
  exact h4
 rw[Tf (λe=>e hw)]
 obtain⟨f,l⟩:=x
 cases l with
 |nil=>exact absurd h0 (by show¬1<=0;decide)
 |cons r l=>
  obtain⟨b,h1,h2,h3,_⟩:=UF (h r TC)
  have h5:=Yc4 (n:=n) (s:=s) (f:=f) l b.1 h3 λy hy=>h y (TE _ hy)
  have h6:(r::l).foldl (Wn n.net s.sch f) 0=minI (clmE n.net s.sch (f,r::l)).bounds:=by
   rw[R9]
   have hs:Wn n.net s.sch f 0 r=b.1:=by
    unfold Wn
    rw[h1]
    exact Tm (.inl rfl)
   rw[hs,h5]
   show _=minI (((YN n.net s.sch f r).1.1)::(l.map λr=>(YN n.net s.sch f r).1.1))
   rw[h2];rfl
  have h7:1<=minI (clmE n.net s.sch (f,r::l)).bounds:=by
   rw[<-h6,R9]
   have hs:Wn n.net s.sch f 0 r=b.1:=by
    unfold Wn
    rw[h1]
    exact Tm (.inl rfl)
   rw[hs,h5]
   refine Ydf _ _ h3 λz hz=>?_
   obtain⟨y,hy,rfl⟩:=TD.1 hz
   obtain⟨c,_,k2,k3,_⟩:=UF (h y (TE _ hy))
   rw[k2];exact k3
  show(if(r::l).foldl (Wn n.net s.sch f) 0=0 then _ else((r::l).foldl (Wn n.net s.sch f) 0,(0:Int)))=_
  rw[h6,Tf (by omega)]
theorem Yag{nodes:Int}{l:List Flw}(h:(Yx nodes l).2=0):∀{i j:Nat},i<j->j<l.length->(Y1 l i).1<(Y1 l j).1:=by
 have hstep:∀j,0<j->j<l.length->(Y1 l (j-1)).1<(Y1 l j).1:=λj h0 hj=>by
  unfold Yx at h
  split at h
  ·cases h
  split at h
  ·cases h
  have:=YF.1 h j (Ti _) (by omega)
  unfold Xj at this
  split at this
  ·contradiction
  split at this
  ·cases this
  ·omega
 intro i j hij hj
 induction j with
 |zero=>omega
 |succ j ih=>
  have h1:=hstep (j+1) (by omega) hj
  rw[SY]at h1
  rcases S9 i j with h2|h2
  ·have:=ih h2 (by omega);omega
  ·obtain rfl:i=j:=by omega
   exact h1
variable {q:List Rqs}
theorem YcF{n:Net}{s:Sch}{nodes:Int}(hf:(Yx nodes (YE q)).2=0){P:Clm->Bool}{k:Nat}(hx:q[k]? =some x)(hp:P (clmE n s x)=true)(hid:∀c,P c=true->c.flow=x.1.1):(q.map (clmE n s)).find? P=some (clmE n s x):=by
 have hk:=(Tc.1 hx).1
 have hat:∀{i:Nat}{y:Rqs},q[i]? =some y->Y1 (YE q) i=y.1:=λ{i y} h=>by
  unfold Y1 YE
  rw[Tz,TS,h];rfl
 refine(Yal (c:=q.map (clmE n s)) (i:=k) ?_ ?_ hp).2
 ·intro y hy
  obtain⟨j,hj⟩:=TN.1 hy
  rw[SZ]at hj
  split at hj
  ·rename_i hjk
   rw[TS]at hj
   obtain⟨z,hz,rfl⟩:∃z,q[j]? =some z/\clmE n s z=y:=by
    cases h:q[j]? with
    |none=>rw[h]at hj;cases hj
    |some z=>rw[h]at hj;exact⟨z,rfl,Tn hj⟩
   cases hb:P (clmE n s z)with
   |false=>rfl
   |true=>
    have h1:=hid _ hb
    have h2:=Yag hf hjk (by unfold YE;rw[Tv];exact hk)
    rw[hat hz,hat hx]at h2
    have h3:(clmE n s z).flow=z.1.1:=rfl
    omega
  ·cases hj
 ·rw[TS,hx];rfl
theorem max_le:∀(l:List Int) (a m:Int),a<=m->(∀z∈l,z<=m)->l.foldl (λx y=>if x<y then y else x) a<=m
 |[],_,_,h,_=>h
 |z::l,a,m,h,hl=>by
  rw[R9]
  refine max_le l _ m ?_ λy hy=>hl y (TE _ hy)
  have:=hl z TC
  split<;>omega
theorem YrR{l:List Int}{m:Int}(hne:1<=l.length)(h:∀z∈l,z<=m):maxI l<=m:=by
 cases l with
 |nil=>exact absurd hne (by decide)
 |cons a l=>exact max_le l a m (h a TC) λz hz=>h z (TE _ hz)
structure SvM(n:NetM)(s:SchM)(q:List Rqs):Prop where
 adm:(Ysx (q.map (clmE n.net s.sch)) (YE q) q.length).length=q.length
 bnd:∀x∈q,bndE (q.map (clmE n.net s.sch)) x.1.1=(minI (clmE n.net s.sch x).bounds,true)
 lst:∀x∈q,Yj9 n.net s.sch x.1 x.2=(minI (clmE n.net s.sch x).bounds,0)
theorem Yfv(h:(Y4 n.net q s.sch).2.2=0):SvM n s q:=by
 obtain⟨h1,h2⟩:=Jh.1 h
 have hf:(Yx n.net.nodes (YE q)).2=0:=(JW (Vg.1 h1).whole).2.1
 have hx:∀x∈q,(1<=x.2.length)/\∀r∈x.2,(YN n.net s.sch x.1 r).2=0/\(YN n.net s.sch x.1 r).1.1<=x.1.2.2.2.2.2:=λx hx=>by
  have hw:=h2 x hx
  unfold Ybj at hw
  rw[To,Tq]at hw
  have hl:=hw.2
  simp only[RX]at hl
  exact⟨by rcases hw.1 with h3|h3<;>omega,λr hr=>QD hl hr⟩
 have hbl:∀x:Rqs,(clmE n.net s.sch x).bounds.length=x.2.length:=λx=>by
  show(x.2.map _).length=_
  rw[Tv]
 refine⟨?_,λx hxm=>?_,λx hxm=>YpE (hx x hxm).1 λr hr=>((hx x hxm).2 r hr).1⟩
 ·unfold Ysx
  rw[Tv]
  have hall:(List.range q.length).filter (λk=>admB (q.map (clmE n.net s.sch)) (Y1 (YE q) k))=List.range q.length:=by
   rw[List.filter_eq_self]
   intro k hk
   have hk:=Ru.1 hk
   have hxk:=Vl hk
   have hfk:Y1 (YE q) k=(rqAt q k).1:=by
    unfold Y1 YE
    rw[Tz,TS,hxk];rfl
   have hc:=YcF (n:=n.net) (s:=s.sch) hf (P:=λc=>decide (c.flow=(rqAt q k).1.1)) hxk (Tj rfl) (λc hc=>TV hc)
   rw[hfk]
   unfold admB
   rw[hc]
   have hm:=hx _ (QP hk)
   show(decide (0<(clmE n.net s.sch (rqAt q k)).bounds.length)&&decide (maxI (clmE n.net s.sch (rqAt q k)).bounds<=_))=true
   rw[To,Tq,Tq]
   refine⟨by rw[hbl];omega,YrR (by rw[hbl];omega) λz hz=>?_⟩
   obtain⟨r,hr,rfl⟩:=TD.1 (show z∈(rqAt q k).2.map λr=>(YN n.net s.sch (rqAt q k).1 r).1.1 from hz)
   exact(hm.2 r hr).2
  rw[hall,List.length_range]
 ·obtain⟨k,hk,rfl⟩:=Yde hxm
  have hc:=YcF (n:=n.net) (s:=s.sch) hf (P:=λc=>decide (c.flow=(rqAt q k).1.1)&&decide (0<c.bounds.length)) (Vl hk) (by
   rw[To,Tq,Tq]
   exact⟨rfl,by rw[hbl];have:=(hx _ (QP hk)).1;omega⟩) (λc hc=>by
   rw[To,Tq]at hc
   exact hc.1)
  unfold bndE
  rw[hc]
def slC(len:Int)(cs:List Cel)(a:Int):Nat:=(cs.filter λc=>decide (c.1=a.tmod len)).length
def cntS(len:Int)(cs:List Cel):Nat->Int->Nat
 |0,_=>0
 |m+1,a=>slC len cs a+cntS len cs m (a+1)
def WayT(len:Int)(C:Lk->List Cel):List Lk->Int->Int->Prop
 |[],a,y=>a<=y
 |l::ls,a,y=>∃z,a<=z/\YV l<=cntS len (C l) (z-a).toNat a/\WayT len C ls z y
variable {C:Lk->List Cel}
theorem WayT.le{len:Int}:∀{ls:List Lk}{a y:Int},WayT len C ls a y->a<=y
 |[],_,_,h=>h
 |_::_,_,_,⟨_,h1,_,h3⟩=>Int.le_trans h1 h3.le
theorem WayT.mono{len:Int}{D:Lk->List Cel}(h:∀l a,slC len (C l) a<=slC len (D l) a):∀{ls:List Lk}{a y:Int},WayT len C ls a y->WayT len D ls a y
 |[],_,_,hw=>hw
 |l::ls,a,y,⟨z,h1,h2,h3⟩=>by
  refine⟨z,h1,TY h2 ?_,h3.mono h⟩
  have:∀(m:Nat) (a:Int),cntS len (C l) m a<=cntS len (D l) m a:=λm=>by
   induction m with
   |zero=>exactλ_=>TM _
   |succ m ih=>grind [cntS]
  simp_all
structure Sm(n:Net)(l:List Flw)(s:Sch):Prop where
 ck:Yq n=0
 fl:(Yx n.nodes l).2=0
 per:∀f∈l,s.len.tmod f.2.2.2.1=0
 sized:Zs s=true
 formed:∀c∈s.cells,ZA s c=true
 ord:Ord s.cells
 good:∀c∈s.cells,Y5 n (Yr c) (toC c)=true/\0<=ZG l (Xr c)
 once:s.cells.Pairwise λa b=>a.1=b.1->YI a b=false
 clear:∀c∈s.cells,Vt n s.cells c=true
variable {n:Net}{s:Sch}
theorem Sem.sm{l:List Flw}(h:Sem n l s):Sm n l s:=⟨h.ck,h.fl,h.per,h.frm.sized,h.frm.formed,h.frm.ord,h.good,h.once,h.clear⟩
variable {l:List Cel}
theorem Yfz{node:Int}{m:List Cel}(h:l.Perm m):Go.Proofs.YtjlgijpmnfabcaaGreatDoor.sumC n node l=Go.Proofs.YtjlgijpmnfabcaaGreatDoor.sumC n node m:=by
 induction h with
 |nil=>rfl
 |cons a _ ih=>simp_all [Zf]
 |swap a b l=>rw[Zf,Zf,Zf,Zf];omega
 |trans _ _ h1 h2=>omega
variable {slot o a b:Int}
theorem YhV(h:fitE n l slot o a b=true)(id:Int):(∀d∈l,d.1=slot->YI d (slot,o,a,b,id)=false)/\Jm n (l.filter (atP slot o)++[(slot,o,a,b,id)])=true:=by
 unfold fitE at h
 rw[To]at h
 obtain⟨h1,h2⟩:=h
 refine⟨λd hd e=>?_,?_⟩
 ·rw[RX,RY]at h1
  have:=h1 d hd
  rw[Tj e,SB,Bool.not_eq_true]at this
  rw[<-this]
  exact(W9 (c:=(slot,o,a,b,id)) (c':=(0,0,a,b,0)) rfl rfl).2
 ·rw[<-h2,YcS (c':=(slot,o,a,b,id)) rfl rfl,YcS (c:=(0,0,a,b,0)) (c':=(slot,o,a,b,id)) rfl rfl]
theorem Yrz(h:fitE n l slot o a b=true)(id:Int):(slot,o,a,b,id)∉l:=λhm=>by
 have:=(YhV h id).1 _ hm rfl
 grind [YI]
theorem Yh6{m d:Int}(h:X8 n m d=true):ZK n m d=true:=by
 simp_all [X8]
theorem Sm.ins{l:List Flw}(h:Sm n l s){id:Int}(hs:0<=slot/\slot<s.len)(ho:0<=o/\o<s.off)(hg:Y5 n a b=true)(hid:0<=ZG l id)(hib:0<=id/\id<256)(hfit:fitE n s.cells slot o a b=true):
 Sm n l ⟨s.len,s.off,insC s.cells (slot,o,a,b,id)⟩:=by
 have hok:=YT h.ck
 have hgn:=Xu hok hg
 have hn:=hok.n1
 obtain⟨ht,hgl⟩:=YhV hfit id
 have hnew:=Yrz hfit id
 have hperm:=Yh9 s.cells (slot,o,a,b,id)
 refine⟨h.ck,h.fl,h.per,h.sized,λc hc=>?_,YrN h.ord hnew,λc hc=>?_,?_,λc hc=>?_⟩
 ·rcases Oi.1 hc with rfl|hc
  ·grind [ZA,ZC,insE]
  ·exact h.formed c hc
 ·rcases Oi.1 hc with rfl|hc
  ·exact⟨hg,hid⟩
  ·exact h.good c hc
 ·refine(hperm.pairwise_iff (λ{x y} hxy e=>by rw[JI];simp_all)).2 (.cons (λd hd e=>?_) h.once)
  rw[JI]
  grind
 ·by_cases hp:c.1=slot/\c.2.1=o
  ·have hX:(s.cells.filter (atP slot o)++[(slot,o,a,b,id)]).Nodup:=by
    rw[Nc]
    refine⟨(Yfj h.ord).sublist NH,by simp,λx hx y hy e=>?_⟩
    rw[TU.1 hy]at e
    subst e
    exact hnew (RI.1 hx).1
   generalize hXe:s.cells.filter (atP slot o)++[(slot,o,a,b,id)]=X at hX hgl
   have hcX:c∈X:=by
    rw[<-hXe]
    rcases Oi.1 hc with rfl|hc
    ·simp
    ·exact List.mem_append_left _ (RI.2 ⟨hc,Tj hp⟩)
   obtain⟨j,hj⟩:=TN.1 hcX
   have hjl:=(Tc.1 hj).1
   have hd:∀node,YD n X j node X.length=Uq n (insC s.cells (slot,o,a,b,id)) c node:=λnode=>by
    rw[Ycq hX hj node _ (TM _),TL]
    refine Yfz ?_
    have e1:(insC s.cells (slot,o,a,b,id)).filter (λd=>Zh c d&&decide (d≠c))=((insC s.cells (slot,o,a,b,id)).filter (Zh c)).filter λd=>decide (d≠c):=by
     rw[NP]
     exact NT λx _=>Bool.and_comm _ _
    rw[e1]
    refine List.Perm.filter _ ?_
    have e2:Zh c=atP slot o:=by
     obtain⟨rfl,rfl⟩:=hp
     rfl
    rw[e2,<-hXe]
    refine List.Perm.trans ?_ (hperm.filter _).symm
    rw[Np,Tm (show atP slot o (slot,o,a,b,id)=true from Tj ⟨rfl,rfl⟩)]
    exact Ny
   unfold Jm at hgl
   rw[To]at hgl
   have hpf:=Ri.1 hgl.2 j (Ru.2 hjl)
   simp_all [celL,Zm,Vt,Yh6]
  ·have hcs:c∈s.cells:=by
    rcases Oi.1 hc with rfl|hc
    ·exact absurd ⟨rfl,rfl⟩ hp
    ·exact hc
   have hd:∀node,Uq n (insC s.cells (slot,o,a,b,id)) c node=Uq n s.cells c node:=λnode=>by
    unfold Uq
    refine(Yfz (hperm.filter _)).trans ?_
    rw[Np,Tf]
    rw[To]
    rintro⟨h1,-⟩
    exact hp (by have:=TV h1;exact⟨this.1.symm,this.2.symm⟩)
   have:=h.clear c hcs
   unfold Vt at this⊢
   rw[hd,hd]
   exact this
structure Grow(id:Int)(s t:Sch):Prop where
 len:t.len=s.len
 off:t.off=s.off
 sub:∀c∈s.cells,c∈t.cells
 oth:∀p:Cel->Bool,(∀c,Xr c=id->p c=false)->t.cells.filter p=s.cells.filter p
theorem Grow.refl(id:Int)(s:Sch):Grow id s s:=⟨rfl,rfl,λ_ h=>h,λ_ _=>rfl⟩
variable {id a b:Int}{s t u:Sch}
theorem Grow.trans(h:Grow id s t)(k:Grow id t u):Grow id s u:=⟨k.len.trans h.len,k.off.trans h.off,λc hc=>k.sub c (h.sub c hc),λp hp=>(k.oth p hp).trans (h.oth p hp)⟩
structure LkOk(n:Net)(l:List Flw)(a b id:Int):Prop where
 g:Y5 n a b=true
 f:0<=ZG l id
 i:0<=id/\id<256
theorem YiQ{n:Net}{l:List Flw}{slot:Int}(h:Sm n l s)(hk:LkOk n l a b id)(hs:0<=slot/\slot<s.len)(ht:Jt n s a b id slot=some t):Sm n l t/\Grow id s t/\hasC t.cells slot a b id=true:=by
 unfold Jt at ht
 by_cases hh:hasC s.cells slot a b id=true
 ·rw[Tm hh]at ht
  obtain rfl:=Tn ht
  exact⟨h,.refl _ _,hh⟩
 rw[Tf hh]at ht
 cases hf:(List.range s.off.toNat).find? λo:Nat=>fitE n s.cells slot o a b with
 |none=>rw[hf]at ht;cases ht
 |some o=>
  rw[hf]at ht
  obtain rfl:=Tn ht
  have h1:=NN hf
  have h2:=Ru.1 (SG hf)
  refine⟨h.ins hs (by omega) hk.g hk.f hk.i h1,⟨rfl,rfl,λc hc=>Oi.2 (.inr hc),λp hp=>?_⟩,?_⟩
  ·show(insC s.cells (slot,(o:Int),a,b,id)).filter p=_
   unfold insC
   rw[SI,Np,Tf (by rw[hp _ rfl];decide),<-SI,Rx]
  ·exact Rf.2 ⟨(slot,(o:Int),a,b,id),Oi.2 (.inl rfl),Tj ⟨rfl,rfl,rfl,rfl⟩⟩
structure Sup(t u:Sch):Prop where
 len:u.len=t.len
 sub:∀c∈t.cells,c∈u.cells
theorem Grow.sup(h:Grow id s t)(k:Sup t u):Sup s u:=⟨k.len.trans h.len,λc hc=>k.sub c (h.sub c hc)⟩
theorem YrA{loss z:Int}(h:hasC u.cells (z.tmod u.len) a b id=true):1<=slC u.len (Xx u id (a,b,loss)) z:=by
 obtain⟨d,hd,h1⟩:=Rf.1 h
 have h1:=TV h1
 refine List.length_pos_of_mem (a:=d) (RI.2 ⟨RI.2 ⟨hd,Tj ⟨h1.2.2.2,h1.2.1,h1.2.2.1⟩⟩,Tj h1.1⟩)
theorem Yge{n:Net}{l:List Flw}{a b id:Int}(hk:LkOk n l a b id)(loss:Int):∀(f k:Nat) {s t:Sch}{z y:Int},Sm n l s->0<=z->1<=s.len->hopA n a b id f k s z=some (t,y)->
 Sm n l t/\Grow id s t/\(z<=y/\y<=z+f)/\∀u,Sup t u->k<=cntS u.len (Xx u id (a,b,loss)) (y-z).toNat z
 |0,0,s,t,z,y,h,_,_,e=>by
  obtain⟨rfl,rfl⟩:=Prod.mk.inj (Tn (show some (s,z)=some (t,y) from e))
  exact⟨h,.refl _ _,by omega,λu _=>Ti _⟩
 |f+1,0,s,t,z,y,h,_,_,e=>by
  obtain⟨rfl,rfl⟩:=Prod.mk.inj (Tn (show some (s,z)=some (t,y) from e))
  exact⟨h,.refl _ _,by omega,λu _=>Ti _⟩
 |0,k+1,s,t,z,y,h,_,_,e=>by cases e
 |f+1,k+1,s,t,z,y,h,hz,hl,e=>by
  rw[hopA]at e
  have hm:0<=z.tmod s.len/\z.tmod s.len<s.len:=by
   rw[Rj hz]
   exact⟨Ns _ (by omega),S0 _ (by omega)⟩
  cases hs:Jt n s a b id (z.tmod s.len)with
  |none=>
   rw[hs]at e
   obtain⟨h1,h2,h3,h4⟩:=Yge hk loss f (k+1) h (show 0<=z+1 by omega) hl e
   refine⟨h1,h2,by omega,λu hu=>?_⟩
   have:=h4 u hu
   rw[show(y-z).toNat=(y-(z+1)).toNat+1 by omega,cntS]
   omega
  |some t1=>
   rw[hs]at e
   obtain⟨g1,g2,g3⟩:=YiQ h hk hm hs
   obtain⟨h1,h2,h3,h4⟩:=Yge hk loss f k g1 (show 0<=z+1 by omega) (by rw[g2.len];exact hl) e
   refine⟨h1,g2.trans h2,by omega,λu hu=>?_⟩
   have:=h4 u hu
   have hsu:=(g2.trans h2).sup hu
   have h5:1<=slC u.len (Xx u id (a,b,loss)) z:=YrA (by
    obtain⟨d,hd,h6⟩:=Rf.1 g3
    refine Rf.2 ⟨d,(h2.sup hu).sub d hd,?_⟩
    rw[hsu.len];exact h6)
   rw[show(y-z).toNat=(y-(z+1)).toNat+1 by omega,cntS]
   omega
theorem YlX{n:Net}{l:List Flw}{id endd:Int}:∀(ls:List Lk) {s t:Sch}{z:Int},(∀x∈ls,LkOk n l x.1 x.2.1 id)->Sm n l s->0<=z->z<=endd->1<=s.len->relA n id endd ls s z=some t->
 Sm n l t/\Grow id s t/\∀u,Sup t u->∃y,y<=endd/\WayT u.len (Xx u id) ls z y
 |[],s,t,z,_,h,_,hze,_,e=>by
  obtain rfl:=Tn (show some s=some t from e)
  exact⟨h,.refl _ _,λu _=>⟨z,hze,RB _⟩⟩
 |x::ls,s,t,z,hk,h,hz,hze,hl,e=>by
  rw[relA]at e
  cases hs:hopA n x.1 x.2.1 id (endd-z).toNat (YV x) s z with
  |none=>rw[hs]at e;cases e
  |some w=>
   obtain⟨t1,y1⟩:=w
   rw[hs]at e
   obtain⟨g1,g2,g3,g4⟩:=Yge (hk x TC) x.2.2 _ _ h hz hl hs
   obtain⟨h1,h2,h3⟩:=YlX ls (λy hy=>hk y (TE _ hy)) g1 (by omega) (by omega) (by rw[g2.len];exact hl) e
   refine⟨h1,g2.trans h2,λu hu=>?_⟩
   obtain⟨y,k1,k2⟩:=h3 u hu
   exact⟨y,k1,y1,g3.1,g4 u (h2.sup hu),k2⟩
open Go.RowKit Go.Eng Go.Nw
variable {B cap:Nat}{w0 w:World}{H:List HP}
theorem NetM.In.inM{K:List HP}{n:NetM}(h:n.In B w0 H)(hm:Eng.many H∈K):n.In B w0 K:=
 ⟨h.pw.inM hm,λr hr=>(h.rw_ r hr).inM hm,h.lk.inM hm,h.mg.inM hm,h.s1,h.s2,h.s3,h.s4⟩
theorem YgQ(a b:Cel)(hw:St B w0 H w):
 CX B w0 460 [celV a,celV b] w λv K=>v=.bool (YI a b)/\K=H:=by
 refine Ya Tryz.func460 Tryz.ntmps460 rfl rfl hw ?_
 have htc:YI a b=true↔(a.2.2.1=b.2.2.1\/a.2.2.1=b.2.2.2.1\/a.2.2.2.1=b.2.2.1\/a.2.2.2.1=b.2.2.2.1):=by unfold YI Yr toC;simp_all
 obtain⟨z,hz⟩:∃z,YI a b=z:=⟨_,rfl⟩
 rw[hz]at htc⊢
 repeat'(first|apply(zs1 ?_)|apply(zs2 ?_)|(apply zg1;first|refine zs3 ?_|refine zs4 ?_)|(apply zg2;refine zs6 ?_)|(apply zg3;refine zs7 ?_)|(apply zg6;first|refine zs11 ?_|refine zs12 ?_)|(apply zg7;(refine zs15 ?_ ?_<;>intro _<;>try exact zo))|(apply zg23;(refine zs52 ?_;intro _))|apply(zs65 ?_)|apply(zs68 ?_)|apply(zs69 ?_)|apply(zs70 ?_)|apply(zs74 ?_)|fail)
 all_goals(
  apply Yh H
  ·exact zk
  apply Yd;exact rfl;exact rfl
  cases z<;>simp at htc<;>first|exact⟨rfl,rfl⟩|(exfalso;omega))
def VX(_:Net)(l:List Cel)(i:Nat)(c:Cel)(k:Nat):Bool:=(List.range k).any λj=>decide (j≠i)&&YI c (celL l j)
theorem YaW(n:NetM)(l:List Cel)(i:Nat)(gn gl gi:Nat)(A:Option Addr)(cap:Nat)(lk node:Int)(hok:Ok n.net)(hnode:0<=node/\node<n.nodes)(hlk:0<=lk/\lk.toNat<n.net.links.length)(hlen:l.length<=1000)(hin:n.In B w0 H)(hr:Rd B w0 H A (l.flatMap celF))
 (h1:netN gn n∈H) (h2:blk gl (.cells #[.slice A l.length cap] 28 (0,0))∈H) (h3:blk gi (.cells #[.int .i64 i] 3 (0,0))∈H) (hw:St B w0 H w):
 CX B w0 461 [.int .i64 lk,.int .i64 node,.pointer (some ⟨gn,0,none⟩),.pointer (some ⟨gl,0,none⟩),.pointer (some ⟨gi,0,none⟩)] w λv K=>v=.bool (X8 n.net (mar n.net lk.toNat) (YD n.net l i node l.length))/\K=H:=by
 refine Ya Tryz.func461 Tryz.ntmps461 rfl rfl hw ?_
 have hmg:=hin.mg
 have hs4:=hin.s4
 have hml:n.margin.length=n.net.links.length:=hok.k1
 have hm1:n.margin[lk.toNat]? =some (mar n.net lk.toNat):=zc48
 have p1:=λ{w:World}(hw:St B w0 H w)=>Ycr n l i node hok hnode hlen (cap:=cap) hin hr hw
 obtain⟨d,hd⟩:∃d,YD n.net l i node l.length=d:=⟨_,rfl⟩
 rw[hd]at p1⊢
 have p2:=λ{w:World}(hw:St B w0 H w)=>OL n (mar n.net lk.toNat) d hin hw
 unfold netN at h1
 repeat'(first|apply(zs2 ?_)|apply(zs65 ?_)|apply(zs68 ?_)|apply(zs69 ?_)|apply(zs70 ?_)|fail)
 apply Jc [0,1,2,3,4,5,6,7,8,9,10,11,12] []
 kernel_rfl
 kernel_rfl
 (simp only[Ye,nthO];rfl)
 exact rfl
 repeat'(first|apply(zs1 ?_)|(apply zg2;refine zs6 ?_)|(apply zg3;first|refine zs7 ?_|refine zs8 ?_|refine zs60 ?_)|(apply zg5;refine zs57 ?_)|apply(zs87 ?_)|fail)
 first|apply Yb YlD|apply Yc YlD
 exact za
 exact rfl
 exactλ_ hw=>(p1 hw)
 repeat'(first|apply(zs65 ?_)|apply(zs87 ?_)|(apply Yj;(repeat(first|with_reducible exact Xe|(with_reducible apply Y2;(repeat(first|with_reducible exact Yy|with_reducible apply YR))))))|fail)
 ·show Perm H (H++[])
  exact zc44
 repeat'(first|fail)
 first|apply Yb Wj|apply Yc Wj
 exact za
 exact rfl
 exactλ_ hw=>(p2 hw)
 repeat'(first|apply(zs2 ?_)|apply(zs65 ?_)|(apply Ybv;exact zp)|apply(zs68 ?_)|apply(zs74 ?_)|(apply Yj;(repeat(first|with_reducible exact Xe|(with_reducible apply Y2;(repeat(first|with_reducible exact Yy|with_reducible apply YR))))))|apply(zs93 ?_)|apply(zs94 ?_)|fail)
 ·show Perm H (H++[])
  exact zc44
 repeat'(first|fail)
 exact zc12
variable {A:Option Addr}
theorem YhR(n:NetM)(l:List Cel)(i:Nat)(hck:Yq n.net=0)(hi:i<l.length)(hlen:l.length<=1000)(hin:n.In B w0 H)(hr:Rd B w0 H A (l.flatMap celF))(hw:St B w0 H w):
 CX B w0 458 [n.val,.slice A l.length cap,.int .i64 i] w λv K=>v=.bool (Zm n.net l i)/\K=H:=by
 refine Ya Tryz.func458 Tryz.ntmps458 rfl rfl hw ?_
 have hok:=YT hck
 have hget:l[i]? =some (celL l i):=by unfold celL;rw[Tz,Ta hi];rfl
 obtain⟨c,hc⟩:∃c,celL l i=c:=⟨_,rfl⟩
 rw[hc]at hget
 have p1:=λ{H':List HP}{w:World}(hin:n.In B w0 H') (hw:St B w0 H' w)=>XM n c.2.2.1 c.2.2.2.1 hin hw
 have p2:=λ{H':List HP}{w:World}(hin:n.In B w0 H') (hw:St B w0 H' w)=>XM n c.2.2.2.1 c.2.2.1 hin hw
 have hix:∀u v:Int,XG n.net u v=YA n.net u v:=λu v=>by unfold XG;rw[Tf (by omega)]
 have hus:=Yi3 hck c.2.2.1 c.2.2.2.1
 have p3:=λ{H':List HP}{w:World}(hin:n.In B w0 H') (hw:St B w0 H' w)=>VM n (XG n.net c.2.2.1 c.2.2.2.1) hin hw
 rw[hus]at p3
 have hP:Zm n.net l i=(!(Y5 n.net c.2.2.1 c.2.2.2.1)||VX n.net l i c l.length||(!(X8 n.net (mar n.net (YA n.net c.2.2.1 c.2.2.2.1).toNat) (YD n.net l i c.2.2.2.1 l.length))||!(X8 n.net (mar n.net (YA n.net c.2.2.2.1 c.2.2.1).toNat) (YD n.net l i c.2.2.1 l.length)))):=by
  unfold Zm VX
  rw[hc,show JJ n.net (XG n.net (Yr c) (toC c))=Y5 n.net c.2.2.1 c.2.2.2.1 from hus]
  rfl
 rw[hP]
 by_cases hg:Y5 n.net c.2.2.1 c.2.2.2.1=true
 rotate_left
 ·have hg:Y5 n.net c.2.2.1 c.2.2.2.1=false:=by simpa using hg
  rw[hg]at p3⊢
  repeat'(first|apply(zs2 ?_)|(apply zg3;first|refine zs7 ?_|refine zs61 ?_)|(apply zg5;refine zs57 ?_)|(apply zg22;refine zs51 ?_)|(apply zg23;first|(refine zs52 ?_;intro _)|(refine zs53 ?_;intro _))|(apply zg24;(refine zs54 ?_;intro _))|apply(zs65 ?_)|apply(zs68 ?_)|apply(zs69 ?_)|apply(zs70 ?_)|fail)
  rename_i gn gl gi gc
  apply Yz [0,1,2,3,4,6,7,8,9,10,5,11,12,13] [] [true,false,false,true]
  kernel_rfl
  kernel_rfl
  exact zy
  (simp only[Ye,nthO];rfl)
  exact rfl
  repeat'(first|(apply zg2;refine zs6 ?_)|(apply zg3;first|refine zs7 ?_|refine zs8 ?_)|apply(zs87 ?_)|fail)
  first|apply Yb en69|apply Yc en69
  exact za
  exact rfl
  exactλ_ hw=>(p1 zc51 hw)
  repeat'(first|apply(zs65 ?_)|apply(zs87 ?_)|(apply Yj;(repeat(first|with_reducible exact Xe|(with_reducible apply Y2;(repeat(first|with_reducible exact Yy|with_reducible apply YR))))))|fail)
  first|apply Yb en69|apply Yc en69
  exact za
  exact rfl
  exactλ_ hw=>(p2 zc51 hw)
  repeat'(first|apply(zs1 ?_)|apply(zs2 ?_)|(apply zg3;refine zs8 ?_)|apply(zs65 ?_)|(apply Ybv;exact zp)|apply(zs68 ?_)|apply(zs69 ?_)|apply(zs70 ?_)|(apply Yj;(repeat(first|with_reducible exact Xe|(with_reducible apply Y2;(repeat(first|with_reducible exact Yy|with_reducible apply YR))))))|apply(zs93 ?_)|apply(zs94 ?_)|fail)
  first|apply Yb J4|apply Yc J4
  exact za
  exact rfl
  exactλ_ hw=>(p3 zc51 hw)
  repeat'(first|apply(zs2 ?_)|(apply zg20;refine zs48 ?_)|apply(zs65 ?_)|apply(zs68 ?_)|apply(zs69 ?_)|apply(zs70 ?_)|(apply zg27;refine zs71 ?_)|apply(zs74 ?_)|apply(zs77 ?_)|fail)
  apply Yh H
  ·exact zc0
  exact zc7
 rw[hg]at p3⊢
 obtain⟨⟨f0,f1⟩,⟨t0,t1⟩,_,k1,k2⟩:(0<=c.2.2.1/\c.2.2.1<n.net.nodes)/\(0<=c.2.2.2.1/\c.2.2.2.1<n.net.nodes)/\c.2.2.1≠c.2.2.2.1/\0<=YA n.net c.2.2.1 c.2.2.2.1/\0<=YA n.net c.2.2.2.1 c.2.2.1:=Xu hok hg
 have x1:=Zl k1
 have x2:=Zl k2
 rw[hix]at p1 p2 p3
 obtain⟨i1,hi1⟩:∃z,YA n.net c.2.2.1 c.2.2.2.1=z:=⟨_,rfl⟩
 obtain⟨i2,hi2⟩:∃z,YA n.net c.2.2.2.1 c.2.2.1=z:=⟨_,rfl⟩
 rw[hi1]at p1 p3 k1 x1⊢
 rw[hi2]at p2 k2 x2⊢
 have q1:=λ{H':List HP}{w:World}(gn gl gi:Nat) (hin:n.In B w0 H') (hr:Rd B w0 H' A (l.flatMap celF)) (h1:netN gn n∈H') (h2:blk gl (.cells #[.slice A l.length cap] 28 (0,0))∈H') (h3:blk gi (.cells #[.int .i64 i] 3 (0,0))∈H') (hw:St B w0 H' w)=>YaW n l i gn gl gi A cap i1 c.2.2.2.1 hok ⟨t0,t1⟩ ⟨k1,x1⟩ hlen hin hr h1 h2 h3 hw
 have q2:=λ{H':List HP}{w:World}(gn gl gi:Nat) (hin:n.In B w0 H') (hr:Rd B w0 H' A (l.flatMap celF)) (h1:netN gn n∈H') (h2:blk gl (.cells #[.slice A l.length cap] 28 (0,0))∈H') (h3:blk gi (.cells #[.int .i64 i] 3 (0,0))∈H') (hw:St B w0 H' w)=>YaW n l i gn gl gi A cap i2 c.2.2.1 hok ⟨f0,f1⟩ ⟨k2,x2⟩ hlen hin hr h1 h2 h3 hw
 obtain⟨b1,hb1⟩:∃b,X8 n.net (mar n.net i1.toNat) (YD n.net l i c.2.2.2.1 l.length)=b:=⟨_,rfl⟩
 obtain⟨b2,hb2⟩:∃b,X8 n.net (mar n.net i2.toNat) (YD n.net l i c.2.2.1 l.length)=b:=⟨_,rfl⟩
 rw[hb1]at q1⊢
 rw[hb2]at q2⊢
 repeat'(first|apply(zs2 ?_)|(apply zg3;first|refine zs7 ?_|refine zs61 ?_)|(apply zg5;refine zs57 ?_)|(apply zg22;refine zs51 ?_)|(apply zg23;first|(refine zs52 ?_;intro _)|(refine zs53 ?_;intro _))|(apply zg24;(refine zs54 ?_;intro _))|apply(zs65 ?_)|apply(zs68 ?_)|apply(zs69 ?_)|apply(zs70 ?_)|fail)
 rename_i gn gl gi gc
 apply Yz [0,1,2,3,4,6,7,8,9,10,5,11,12,13] [] [true,false,false,true]
 kernel_rfl
 kernel_rfl
 exact zy
 (simp only[Ye,nthO];rfl)
 exact rfl
 repeat'(first|(apply zg2;refine zs6 ?_)|(apply zg3;first|refine zs7 ?_|refine zs8 ?_)|apply(zs87 ?_)|fail)
 first|apply Yb en69|apply Yc en69
 exact za
 exact rfl
 exactλ_ hw=>(p1 zc51 hw)
 repeat'(first|apply(zs65 ?_)|apply(zs87 ?_)|(apply Yj;(repeat(first|with_reducible exact Xe|(with_reducible apply Y2;(repeat(first|with_reducible exact Yy|with_reducible apply YR))))))|fail)
 first|apply Yb en69|apply Yc en69
 exact za
 exact rfl
 exactλ_ hw=>(p2 zc51 hw)
 repeat'(first|apply(zs1 ?_)|apply(zs2 ?_)|(apply zg3;refine zs8 ?_)|apply(zs65 ?_)|(apply Ybv;exact zp)|apply(zs68 ?_)|apply(zs69 ?_)|apply(zs70 ?_)|(apply Yj;(repeat(first|with_reducible exact Xe|(with_reducible apply Y2;(repeat(first|with_reducible exact Yy|with_reducible apply YR))))))|apply(zs93 ?_)|apply(zs94 ?_)|fail)
 first|apply Yb J4|apply Yc J4
 exact za
 exact rfl
 exactλ_ hw=>(p3 zc51 hw)
 repeat'(first|apply(zs1 ?_)|(apply zg3;refine zs7 ?_)|(apply zg4;refine zs9 ?_)|(apply zg20;refine zs47 ?_)|apply(zs65 ?_)|apply(zs68 ?_)|apply(zs69 ?_)|apply(zs70 ?_)|(apply zg27;refine zs72 ?_)|apply(zs73 ?_)|apply(zs76 ?_)|fail)
 refine Yi (λ(k:Nat)=>[(35,.int .i64 k),(34,.int .i64 l.length),(33,.slice A l.length cap),(3,.pointer (some ⟨gn,0,none⟩)),(4,.pointer (some ⟨gl,0,none⟩)),(5,.pointer (some ⟨gi,0,none⟩)),(7,.pointer (some ⟨gc,0,none⟩)),(8,.int .i64 i1),(9,.int .i64 i2)])
  (λ_=>blk gc (.cells #[.int .i64 c.1,.int .i64 c.2.1,.int .i64 c.2.2.1,.int .i64 c.2.2.2.1,.int .i64 c.2.2.2.2] 48 (0,0))::blk gi (.cells #[.int .i64 i] 3 (0,0))::blk gl (.cells #[.slice A l.length cap] 28 (0,0))::netN gn n::H) (λk=>k<=l.length/\VX n.net l i c k=false) (λk=>l.length-k) 0 ⟨Ti _,rfl⟩ ?_ ?_ ?_
 ·exact zc1
 ·unfold netN
  exact zc0
 rintro k ⟨hk,hno⟩ K hK
 have hrc:Rd B w0 (blk gc (.cells #[.int .i64 c.1,.int .i64 c.2.1,.int .i64 c.2.2.1,.int .i64 c.2.2.2.1,.int .i64 c.2.2.2.2] 48 (0,0))::blk gi (.cells #[.int .i64 i] 3 (0,0))::blk gl (.cells #[.slice A l.length cap] 28 (0,0))::netN gn n::H) A (l.flatMap celF):=hr.cons.cons.cons.cons
 by_cases hlt:k<l.length
 ·have hgk:l[k]? =some (celL l k):=Yuc
  have hst:VX n.net l i c (k+1)=(VX n.net l i c k||(decide (k≠i)&&YI c (celL l k))):=by
   unfold VX
   rw[RL,List.any_append]
   simp
  obtain⟨d,hd⟩:∃d,celL l k=d:=⟨_,rfl⟩
  rw[hd]at hgk hst
  have p4:=λ{H':List HP}{w:World}(hw:St B w0 H' w)=>YgQ c d hw
  unfold netN at hrc⊢
  obtain⟨t,ht⟩:∃t,YI c d=t:=⟨_,rfl⟩
  rw[ht]at p4 hst
  rw[hno,NX]at hst
  by_cases hki:k=i
  ·rw[Tu (λh=>h hki),NV]at hst
   repeat'(first|apply(zs1 ?_)|apply(zs2 ?_)|(apply zg1;refine zs3 ?_)|(apply zg3;first|refine zs7 ?_|refine zs61 ?_)|(apply zg5;refine zs57 ?_)|(apply zg6;refine zs12 ?_)|(apply zg8;(refine zs16 ?_ ?_<;>intro _<;>try exact zo))|(apply(zs17 ?_ ?_)<;>intro _<;>try exact zo)|(apply zg13;refine zs30 ?_)|(apply zg22;refine zs51 ?_)|(apply zg24;(refine zs54 ?_;intro _))|apply(zs65 ?_)|apply(zs68 ?_)|apply(zs69 ?_)|apply(zs70 ?_)|(apply zg27;first|refine zs71 ?_|refine zs72 ?_)|apply(zs73 ?_)|apply(zs76 ?_)|apply(zs79 ?_)|fail)
   apply hK (k+1)
   ·exact⟨by omega,hst⟩
   ·omega
   ·exact zc1
   ·unfold netN
    exact zc0
  rw[Tj hki,SB]at hst
  cases t with
  |false=>
   repeat'(first|((first|apply Yb YlJ|apply Yc YlJ);exact za;exact rfl;exactλ_ hw=>(p4 hw))|apply(zs1 ?_)|apply(zs2 ?_)|(apply zg1;refine zs4 ?_)|(apply zg3;first|refine zs7 ?_|refine zs8 ?_|refine zs61 ?_)|(apply zg5;refine zs57 ?_)|(apply zg6;refine zs11 ?_)|(apply zg8;(refine zs16 ?_ ?_<;>intro _<;>try exact zo))|(apply(zs17 ?_ ?_)<;>intro _<;>try exact zo)|(apply zg13;refine zs30 ?_)|(apply zg22;refine zs51 ?_)|(apply zg24;(refine zs54 ?_;intro _))|apply(zs65 ?_)|apply(zs68 ?_)|apply(zs69 ?_)|apply(zs70 ?_)|(apply zg27;first|refine zs71 ?_|refine zs72 ?_)|apply(zs73 ?_)|apply(zs76 ?_)|apply(zs79 ?_)|fail)
   apply hK (k+1)
   ·exact⟨by omega,hst⟩
   ·omega
   ·exact zc1
   ·unfold netN
    exact zc0
  |true=>
   have hfa:VX n.net l i c l.length=true:=by
    unfold VX
    rw[Rf]
    exact⟨k,Ru.2 hlt,by rw[hd,ht,Tj hki];rfl⟩
   rw[hfa]
   repeat'(first|((first|apply Yb YlJ|apply Yc YlJ);exact za;exact rfl;exactλ_ hw=>(p4 hw))|apply(zs1 ?_)|apply(zs2 ?_)|(apply zg1;refine zs4 ?_)|(apply zg3;first|refine zs7 ?_|refine zs8 ?_|refine zs61 ?_)|(apply zg5;refine zs57 ?_)|(apply zg6;refine zs11 ?_)|(apply zg8;(refine zs16 ?_ ?_<;>intro _<;>try exact zo))|(apply(zs17 ?_ ?_)<;>intro _<;>try exact zo)|(apply zg22;refine zs51 ?_)|(apply zg24;(refine zs54 ?_;intro _))|apply(zs65 ?_)|apply(zs68 ?_)|apply(zs69 ?_)|apply(zs70 ?_)|(apply zg27;refine zs71 ?_)|apply(zs73 ?_)|apply(zs74 ?_)|apply(zs76 ?_)|apply(zs77 ?_)|apply(zs78 ?_)|fail)
   apply Yh H
   ·exact zc0
   exact zc7
 ·obtain rfl:k=l.length:=by omega
  rw[hno]
  clear hK
  unfold netN at hrc q1 q2⊢
  cases b1 with
  |false=>
   repeat'(first|apply(zs1 ?_)|apply(zs2 ?_)|(apply zg2;refine zs6 ?_)|(apply zg3;refine zs7 ?_)|(apply(zs17 ?_ ?_)<;>intro _<;>try exact zo)|apply(zs65 ?_)|apply(zs68 ?_)|apply(zs69 ?_)|apply(zs70 ?_)|(apply zg27;refine zs72 ?_)|apply(zs75 ?_)|apply(zs80 ?_)|apply(zs81 ?_)|(apply zg29;(apply Ys;exact za;exact rfl))|fail)
   first|apply YK (cs:=[.pointer (some ⟨gn,0,none⟩),.pointer (some ⟨gl,0,none⟩),.pointer (some ⟨gi,0,none⟩)])|apply YU (cs:=[.pointer (some ⟨gn,0,none⟩),.pointer (some ⟨gl,0,none⟩),.pointer (some ⟨gi,0,none⟩)])
   exact rfl
   exact Yo9
   exact za
   exact rfl
   exactλ_ hw=>q1 gn gl gi zc51 hrc (by(focus exact zc2)) (by(focus exact zc2)) (by(focus exact zc2)) hw
   repeat'(first|apply(zs1 ?_)|apply(zs2 ?_)|(apply zg1;refine zs3 ?_)|(apply zg6;refine zs11 ?_)|(apply zg20;refine zs48 ?_)|apply(zs65 ?_)|apply(zs68 ?_)|apply(zs74 ?_)|fail)
   apply Yh H
   ·exact zc0
   exact zc7
  |true=>
   cases b2<;>(
    repeat'(first|apply(zs1 ?_)|apply(zs2 ?_)|(apply zg2;refine zs6 ?_)|(apply zg3;refine zs7 ?_)|(apply(zs17 ?_ ?_)<;>intro _<;>try exact zo)|apply(zs65 ?_)|apply(zs68 ?_)|apply(zs69 ?_)|apply(zs70 ?_)|(apply zg27;refine zs72 ?_)|apply(zs75 ?_)|apply(zs80 ?_)|apply(zs81 ?_)|(apply zg29;(apply Ys;exact za;exact rfl))|fail)
    first|apply YK (cs:=[.pointer (some ⟨gn,0,none⟩),.pointer (some ⟨gl,0,none⟩),.pointer (some ⟨gi,0,none⟩)])|apply YU (cs:=[.pointer (some ⟨gn,0,none⟩),.pointer (some ⟨gl,0,none⟩),.pointer (some ⟨gi,0,none⟩)])
    exact rfl
    exact Yo9
    exact za
    exact rfl
    exactλ_ hw=>q1 gn gl gi (by repeat(first|exact hin|apply NetM.In.cons)) hrc zm zm zm hw
    repeat'(first|apply(zs1 ?_)|(apply zg1;refine zs4 ?_)|(apply zg2;refine zs6 ?_)|(apply zg3;refine zs7 ?_)|(apply zg20;refine zs47 ?_)|fail)
    first|apply YK (cs:=[.pointer (some ⟨gn,0,none⟩),.pointer (some ⟨gl,0,none⟩),.pointer (some ⟨gi,0,none⟩)])|apply YU (cs:=[.pointer (some ⟨gn,0,none⟩),.pointer (some ⟨gl,0,none⟩),.pointer (some ⟨gi,0,none⟩)])
    exact rfl
    exact Yo9
    exact za
    exact rfl
    exactλ_ hw=>q2 gn gl gi (by repeat(first|exact hin|apply NetM.In.cons)) hrc zm zm zm hw
    repeat'(first|apply(zs2 ?_)|(apply zg1;refine zs4 ?_)|(apply zg6;refine zs12 ?_)|(apply zg20;first|refine zs47 ?_|refine zs48 ?_)|apply(zs65 ?_)|apply(zs68 ?_)|apply(zs74 ?_)|fail)
    apply Yh H
    ·exact zk
    apply Yd;exact rfl;exact rfl;exact⟨rfl,rfl⟩)
def JM(n:Net)(l:List Cel)(k:Nat):Bool:=(List.range k).any (Zm n l)
theorem YhU(n:NetM)(l:List Cel)(hck:Yq n.net=0)(hlen:l.length<=1000)(hin:n.In B w0 H)(hr:Rd B w0 H A (l.flatMap celF))(hw:St B w0 H w):
 CX B w0 455 [n.val,.slice A l.length cap] w λv K=>∃i:Int,v=.tuple #[.int .i64 i,.bool (JM n.net l l.length)]/\K=H:=by
 refine Ya Tryz.func455 Tryz.ntmps455 rfl rfl hw ?_
 have p1:=λ{H':List HP}{w:World}(hin:n.In B w0 H') (hw:St B w0 H' w)=>YY n hin hw
 rw[hck]at p1
 (apply Y7;apply YM;apply YO;exact rfl;exact rfl;intro g)
 repeat'(first|((first|apply Yb en68|apply Yc en68);exact za;exact rfl;exactλ_ hw=>(p1 hin.cons hw))|apply(zs1 ?_)|apply(zs2 ?_)|(apply zg3;refine zs8 ?_)|(apply zg4;refine zs9 ?_)|(apply zg8;(refine zs16 ?_ ?_<;>intro _<;>try exact zo))|apply(zs65 ?_)|apply(zs68 ?_)|apply(zs69 ?_)|apply(zs70 ?_)|(apply zg27;refine zs72 ?_)|apply(zs73 ?_)|apply(zs76 ?_)|fail)
 refine Yi (λ(k:Nat)=>[(12,.int .i64 k),(11,.int .i64 l.length),(1,.slice A l.length cap),(2,.pointer (some ⟨g,0,none⟩))]) (λ_=>netN g n::H) (λk=>k<=l.length/\JM n.net l k=false) (λk=>l.length-k) 0 ⟨Ti _,rfl⟩ ?_ (λw hw=>hw) ?_
 ·exact zc1
 rintro k ⟨hk,hno⟩ K hK
 unfold netN
 by_cases hlt:k<l.length
 ·have p2:=λ{H':List HP}{w:World}(hin:n.In B w0 H') (hr:Rd B w0 H' A (l.flatMap celF)) (hw:St B w0 H' w)=>YhR n l k hck hlt hlen (cap:=cap) hin hr hw
  have hst:JM n.net l (k+1)=(JM n.net l k||Zm n.net l k):=by
   grind [JM]
  rw[hno,NX]at hst
  cases hp:Zm n.net l k with
  |false=>
   rw[hp]at p2 hst
   repeat'(first|((first|apply Yb YlI|apply Yc YlI);exact za;exact rfl;exactλ_ hw=>(p2 hin.cons hr.cons hw))|apply(zs1 ?_)|apply(zs2 ?_)|(apply zg3;refine zs8 ?_)|(apply(zs17 ?_ ?_)<;>intro _<;>try exact zo)|(apply zg13;refine zs30 ?_)|apply(zs65 ?_)|apply(zs68 ?_)|apply(zs69 ?_)|apply(zs70 ?_)|(apply zg27;first|refine zs71 ?_|refine zs72 ?_)|apply(zs73 ?_)|apply(zs76 ?_)|apply(zs79 ?_)|fail)
   apply hK (k+1)
   ·exact⟨by omega,hst⟩
   ·omega
   ·exact zc1
   ·unfold netN
    exact zc0
  |true=>
   rw[hp]at p2
   have hfa:JM n.net l l.length=true:=by
    unfold JM
    rw[Rf]
    exact⟨k,Ru.2 hlt,hp⟩
   rw[hfa]
   repeat'(first|((first|apply Yb YlI|apply Yc YlI);exact za;exact rfl;exactλ_ hw=>(p2 hin.cons hr.cons hw))|apply(zs1 ?_)|apply(zs2 ?_)|(apply zg3;refine zs8 ?_)|(apply(zs17 ?_ ?_)<;>intro _<;>try exact zo)|apply(zs65 ?_)|apply(zs68 ?_)|apply(zs69 ?_)|apply(zs70 ?_)|(apply zg27;refine zs71 ?_)|apply(zs73 ?_)|apply(zs74 ?_)|apply(zs76 ?_)|apply(zs77 ?_)|apply(zs78 ?_)|fail)
   apply Yh H
   ·exact zc0
   exact YqL
 ·obtain rfl:k=l.length:=by omega
  rw[hno]
  repeat'(first|apply(zs2 ?_)|(apply(zs17 ?_ ?_)<;>intro _<;>try exact zo)|apply(zs65 ?_)|apply(zs68 ?_)|apply(zs69 ?_)|apply(zs70 ?_)|(apply zg27;refine zs72 ?_)|apply(zs74 ?_)|apply(zs75 ?_)|apply(zs80 ?_)|apply(zs81 ?_)|fail)
  apply Yh H
  ·exact zc0
  exact YqL
theorem Yh3{n:Net}{l:List Cel}(hck:Yq n=0):Jm n l=!(JM n l l.length):=by
 simp_all [Jm,JM,List.not_any_eq_all_not]
theorem YjZ(n:NetM)(l:List Cel)(hck:Yq n.net=0)(hlen:l.length<=1000)(hin:n.In B w0 H)(hr:Rd B w0 H A (l.flatMap celF))(hw:St B w0 H w):
 CX B w0 449 [n.val,.slice A l.length cap] w λv K=>v=.bool (Jm n.net l)/\K=H:=by
 refine Ya Tryz.func449 Tryz.ntmps449 rfl rfl hw ?_
 have p1:=λ{H':List HP}{w:World}(hin:n.In B w0 H') (hw:St B w0 H' w)=>YY n hin hw
 rw[hck]at p1
 rw[Yh3 hck]
 repeat'(first|apply(zs1 ?_)|apply(zs2 ?_)|(apply zg3;refine zs8 ?_)|(apply zg23;(refine zs52 ?_;intro _))|apply(zs65 ?_)|apply(zs68 ?_)|apply(zs69 ?_)|apply(zs70 ?_)|fail)
 apply Yg _ YwN
 exact za
 exact rfl
 exactλ_ hw=>(YhU n l hck hlen hin.cons hr.cons (hw))
 rintro _ _ ⟨i,rfl,rfl⟩
 cases JM n.net l l.length<;>(
  repeat'(first|((first|apply Yb en68|apply Yc en68);exact za;exact rfl;exactλ_ hw=>(p1 hin.cons hw))|apply(zs1 ?_)|apply(zs2 ?_)|(apply zg1;refine zs4 ?_)|(apply zg3;refine zs8 ?_)|(apply zg6;refine zs11 ?_)|apply(zs13 ?_)|(apply zg7;(refine zs15 ?_ ?_<;>intro _<;>try exact zo))|(apply zg20;first|refine zs47 ?_|refine zs48 ?_)|apply(zs65 ?_)|apply(zs68 ?_)|apply(zs69 ?_)|apply(zs70 ?_)|apply(zs74 ?_)|fail)
  apply Yh H
  ·exact zk
  apply Yd;exact rfl;exact rfl;exact⟨rfl,rfl⟩)
variable {r:List Int}
theorem Yqz:Yaw r=false↔r.Nodup:=by
 unfold Yaw
 rw[RY]
 constructor
 ·intro h
  refine TG.2 λi j hi hj hij e=>?_
  have h1:=h j (Ru.2 hj)
  apply h1
  rw[List.contains_iff_mem,Tz,Ta hj,Option.getD_some,<-e]
  refine TN.2 ⟨i,?_⟩
  simp_all
 grind [TN,TG]
theorem Ycd{n:Net}{b:Int}{r:List Int}(hl:r.getD (r.length-1) 0=b)(hnd:r.Nodup)(hk:∀i,i+1<r.length->(X9 n r i).1=r.getD i 0/\(X9 n r i).2.1=r.getD (i+1) 0):∀(m i:Nat),i+m+1=r.length->
 Chain b (r.getD i 0) ((List.range' i m).map (X9 n r))
 |0,i,h=>by
  show r.getD i 0=b
  grind
 |m+1,i,h=>by
  obtain⟨h1,h2⟩:=hk i (by omega)
  refine⟨h1.symm,λe=>?_,?_⟩
  ·rw[<-hl]at e
   rw[Tz,Tz,Ta (show i<r.length by omega),Ta (show r.length-1<r.length by omega)]at e
   exact TG.1 hnd i (r.length-1) (by omega) (by omega) (by omega) (Tn (by simp_all))
  ·rw[h2]
   exact Ycd hl hnd hk m (i+1) (by omega)
theorem WP{n:Net}{a b:Int}(h:X6 n a b r=0):Chain b a (YB n r)/\(∀x∈YB n r,0<=x.2.2)/\YB n r≠[]/\r.Nodup/\
 ∀i,i+1<r.length->(X9 n r i).1=r.getD i 0/\(X9 n r i).2.1=r.getD (i+1) 0:=by
 have h':=h
 unfold X6 at h
 by_cases h0:Jk n a b=0
 rotate_left
 ·omega
 rw[Tf (λe=>e h0)]at h
 obtain⟨hlen,-,⟨hs,ht⟩,htw,-⟩:=Qs h
 obtain⟨hck,-,hg⟩:=ZY h'
 have hok:=YT hck
 have hnd:=Yqz.1 htw
 have hk:∀i,i+1<r.length->(X9 n r i).1=r.getD i 0/\(X9 n r i).2.1=r.getD (i+1) 0:=λi hi=>Qu (Uv (hg i hi))
 refine⟨?_,λx hx=>?_,?_,hnd,hk⟩
 ·grind [Ycd,YB,List.range_eq_range']
 ·obtain⟨i,hi,rfl⟩:=TD.1 hx
  exact(YbB hok (r.getD i 0) (r.getD (i+1) 0)).1
 ·intro e
  have:=TA List.length e
  grind [YB]
def posQ(q:List Rqs)(id:Int):Nat:=(q.takeWhile λy=>decide (y.1.1<id)).length
def insQ(q:List Rqs)(x:Rqs):List Rqs:=q.take (posQ q x.1.1)++x::q.drop (posQ q x.1.1)
variable {q:List Rqs}{x:Rqs}
theorem QB{y:Rqs}:y∈insQ q x↔y=x\/y∈q:=by
 have h:y∈q↔y∈q.take (posQ q x.1.1)\/y∈q.drop (posQ q x.1.1):=by grind [Rx]
 grind [insQ]
variable {l:List Flw}{f:Flw}
theorem Ut{nodes:Int}(h:(Yx nodes l).2=0)(hf:f∈l):YX nodes f=0:=by
 obtain⟨j,hj,rfl⟩:=NC.1 hf
 unfold Yx at h
 split at h
 ·cases h
 split at h
 ·cases h
 have:=YF.1 h j (Ti _) (by omega)
 unfold Xj at this
 split at this
 all_goals simp_all [Y1]
theorem JF{nodes:Int}(hf:YX nodes f=0):(0<=f.1/\f.1<256)/\(1<=f.2.2.2.1/\f.2.2.2.1<=512)/\(0<=f.2.2.2.2.1/\f.2.2.2.2.1<f.2.2.2.1)/\f.2.1≠f.2.2.1/\(1<=f.2.2.2.2.2/\f.2.2.2.2.2<=f.2.2.2.1):=by
 unfold YX at hf
 omega
theorem Yad{id:Int}:0<=ZG l id↔∃f∈l,f.1=id:=by
 unfold ZG
 rw[V1 _ _ _ (RB 0),Rf]
 simp_all
variable {n:Net}
theorem W6(h:(rqsE n q).2=0):Yq n=0/\(Yx n.nodes (YE q)).2=0/\∀x∈q,rtsE n x=0:=by
 unfold rqsE at h
 by_cases h1:Yq n=0
 rotate_left
 ·simp_all
 by_cases h2:(Yx n.nodes (YE q)).2=0
 rotate_left
 ·simp_all
 refine⟨h1,h2,λx hx=>?_⟩
 obtain⟨i,hi,rfl⟩:=Yde hx
 simp_all [YF]
theorem U6(h:rtsE n x=0):∀r∈x.2,X6 n x.1.2.1 x.1.2.2.1 r=0:=by
 intro r hr
 unfold rtsE at h
 split at h
 ·cases h
 split at h
 ·cases h
 split at h
 ·omega
 rename_i h3
 obtain⟨k,hk⟩:=TN.1 hr
 have hkl:=(Tc.1 hk).1
 have:=YF.1 (T8.1 h3) k (Ti _) (by omega)
 grind [rtAt]
theorem Ykd{a b:Int}{r:List Int}(h:X6 n a b r=0):∀x∈YB n r,Y5 n x.1 x.2.1=true:=by
 obtain⟨-,-,-,-,hk⟩:=WP h
 obtain⟨-,-,hg⟩:=ZY h
 grind [YB]
def hasQ(q:List Rqs)(id:Int):Bool:=q.any λy=>decide (y.1.1=id)
def JC(n:Net)(q:List Rqs)(s:Sch)(x:Rqs):Sch×Int:=
 if(Y4 n q s).2.2≠0 then(JX,1)else if hasQ q x.1.1=true then(JX,6)else if(rqsE n (insQ q x)).2≠0 then(JX,1)
 else if s.len.tmod x.1.2.2.2.1≠0 then(JX,11)else match Ub n x.1 x.2 s with
  |none=>(JX,18)
  |some t=>if 512<t.cells.length then(JX,8)else(t,0)
theorem Yvl{n:Net}{q:List Rqs}(h:(rqsE n q).2=0){i j:Nat}(hij:i<j)(hj:j<q.length):(rqAt q i).1.1<(rqAt q j).1.1:=by
 obtain⟨-,hfl,-⟩:=W6 h
 have:=Yag hfl hij (by unfold YE;rw[Tv];exact hj)
 have hat:∀{i:Nat},i<q.length->Y1 (YE q) i=(rqAt q i).1:=λ{i} hi=>by
  unfold Y1 YE
  rw[Tz,TS,Vl hi];rfl
 rw[hat (by omega),hat hj]at this
 exact this
end Go.Proofs.YtjlgijpmnfabcaaGreatDoor
namespace Go.Eng
open Go.RowKit
section
variable {P:Program}{n:Shp}{B:Nat}{w0:World}{Q:Exit->Act->World->Prop}{env:Env}{H:List HP}{m:Mode}{ops:Array Oper}{rest:List Oper}{d:Nat}{ty:TypeId}{pos:String}{after:Array Edge}
variable {a b:Int}
theorem Ymj{x y:Operand}{k:IntKind}{xt yt:TypeId}(hx:evo env x=some (.int k a))(hy:evo env y=some (.int k b))(hn:Nat.ble (d+1) n.k=true)(h:VL P m n B w0 ops Q rest ((d,.int k (bits .andNot k a b))::env) H):
 VL P m n B w0 ops Q (⟨some d,.binOp .andNot xt x y yt,ty,pos,after,none⟩::rest) env H:=Xb hx hy hn (λ_=>rfl) (λ_=>by rw[show binOp .andNot xt (.int k a) (.int k b)=Op.intBits .andNot k a b by simp[binOp]];rfl) h
end
end Go.Eng
namespace Go.Proofs.YtjlgijpmnfabcaaGreatDoor
open Go.RowKit Go.Eng Go.Nw Go.Rt
def pow1(o:Int):Int:=IntKind.i64.wrap (1*2^o.toNat)
theorem Ysd{o:Int}(h:0<=o/\o<=16):1<=pow1 o/\pow1 o<=65536:=by
 have key:∀n:Nat,n<17->1<=IntKind.i64.wrap (1*2^n)/\IntKind.i64.wrap (1*2^n)<=65536:=by decide+kernel
 exact key o.toNat (by omega)
def QI(m:List Int)(c:Cel):List Int:=m.set c.1.toNat (bits .andNot .i64 (m.getD c.1.toNat 0) (pow1 c.2.1))
def ZP(s:Sch):List Int:=s.cells.foldl QI (List.replicate s.len.toNat (pow1 s.off-1))
def ZH(s:Sch):List Int×Int:=if Xh s=false then([],1)else(ZP s,0)
theorem YpH(m:List Int)(c:Cel):(QI m c).length=m.length:=TT
theorem Vj:∀(cs:List Cel) (m:List Int),(cs.foldl QI m).length=m.length
 |[],_=>rfl
 |c::cs,m=>by rw[R9,Vj cs,YpH]
variable {a b:Int}
theorem Ysf{n i:Nat}(h:i<n):(List.replicate i a++List.replicate (n-i) b).set i a=List.replicate (i+1) a++List.replicate (n-(i+1)) b:=by
 obtain⟨k,rfl⟩:∃k,n=i+(k+1):=⟨n-i-1,by omega⟩
 rw[show i+(k+1)-i=k+1 by omega,show i+(k+1)-(i+1)=k by omega,Nv _ _ (by simp),TQ,NG,Nl,List.set_cons_zero,List.replicate_succ' (n:=i),Ry];rfl
theorem Yqd(n:Nat)(x:Int):(List.replicate 0 x++List.replicate (n-0) 0).flatMap numF=List.replicate n (Value.int .i64 0):=by
 rw[NJ,TI,Nat.sub_zero]
 induction n with
 |zero=>rfl
 |succ n ih=>rw[Nl,Rl,ih,Nl];rfl
variable {B:Nat}{w0 w:World}{H:List HP}
theorem Yh0(s:SchM)(ht:TabsB B w0)(hr:Rd B w0 H s.A (s.cells.flatMap celF))(hl:s.cells.length<=1000000000000)(hw:St B w0 H w):
 CX B w0 104 [s.val] w λv K=>v=.bool (Xh s.sch)/\K=H:=by
 refine Ya Tryz.func104 Tryz.ntmps104 rfl rfl hw ?_
 have p1:=λ{H':List HP}{w:World}(hr:Rd B w0 H' s.A (s.cells.flatMap celF)) (hw:St B w0 H' w)=>O4 s ht hr hl hw
 unfold SchM.val at p1⊢
 refine zX71 ?_<;>intros
 first|apply Yb en11|apply Yc en11
 exact za
 exact rfl
 exactλ_ hw=>(p1 hr.cons hw)
 cases hf:Xh s.sch with
 |false=>
  rw[show(ZM s.sch).2=1 by simp_all [ZM]]
  refine Wq ?_<;>intros
  apply Yh H
  ·exact zc0
  exact zc12
 |true=>
  rw[show(ZM s.sch).2=0 by simp_all [ZM]]
  refine Wq ?_<;>intros
  apply Yh H
  ·exact zc0
  exact zc12
theorem Ykg(s:SchM)(hf:Frm s.sch)(hr:Rd B w0 H s.A (s.cells.flatMap celF))(hw:St B w0 H w):
 CX B w0 105 [s.val] w λv K=>∃g,v=.slice (some ⟨g,0,none⟩) (ZP s.sch).length (ZP s.sch).length/\K=nrs (some ⟨g,0,none⟩) (ZP s.sch).length (ZP s.sch)::H:=by
 refine Ya Tryz.func105 Tryz.ntmps105 rfl rfl hw ?_
 have hsz:1<=s.len/\s.len<=512/\1<=s.off/\s.off<=16:=TV hf.sized
 have hp:=Ysd (o:=s.off) ⟨by omega,hsz.2.2.2⟩
 have hcl:s.cells.length<=512:=hf.few
 obtain⟨n,hn⟩:∃n:Nat,s.len=n:=⟨s.len.toNat,by omega⟩
 have hp2:1<=IntKind.i64.wrap (1*2^s.off.toNat)/\IntKind.i64.wrap (1*2^s.off.toNat)<=65536:=hp
 have hm0:List.replicate s.sch.len.toNat (pow1 s.sch.off-1)=List.replicate n (IntKind.i64.wrap (1*2^s.off.toNat)-1):=by
  show List.replicate s.len.toNat _=_
  rw[hn,Rq];rfl
 have hml:(ZP s.sch).length=n:=by
  unfold ZP
  rw[Vj,hm0,TQ]
 unfold SchM.val
 rw[hn]
 repeat'(first|(apply YbT T;(iterate 3 exact rfl);exact zi3;(iterate 3 exact rfl);omega;intro _)|refine zgb ?_|(refine zgh ?_;intro _)|fail)
 rename_i gs g
 simp only[Rq]
 refine Yi (λi:Nat=>[(12,.int .i64 (i:Nat)),(11,.int .i64 (n:Nat)),(3,.slice (some ⟨g,0,none⟩) n n),(1,.pointer (some ⟨gs,0,none⟩))])
  (λi=>sl 3 1 (some ⟨g,0,none⟩) n n ((List.replicate i (IntKind.i64.wrap (1*2^s.off.toNat)-1)++List.replicate (n-i) 0).flatMap numF)::blk gs (.cells #[.int .i64 (n:Nat),.int .i64 s.off,.slice s.A s.cells.length s.cap] 30 (0,0))::H) (λi=>i<=n) (λi=>n-i) 0 (Ti _) ?_ ?_ ?_
 ·exact zc1
 ·have e0:=Yqd n (IntKind.i64.wrap (1*2^s.off.toNat)-1)
  rw[e0]
  exact zc0
 rintro i hi K hK
 by_cases hlt:i<n
 ·have hL:(List.replicate i (IntKind.i64.wrap (1*2^s.off.toNat)-1)++List.replicate (n-i) 0).length=n:=by
   rw[Tt,TQ,TQ];omega
  repeat'(first|(apply Xo T (f:=numF) (l:=List.replicate i (IntKind.i64.wrap (1*2^s.off.toNat)-1)++List.replicate (n-i) 0) (i:=(i:Int).toNat) (a:=IntKind.i64.wrap (1*2^s.off.toNat)-1);(iterate 3 exact rfl);exact zd;exact rfl;exactλ_=>rfl;exact rfl;omega)|refine zgd ?_|(refine zge ?_ ?_<;>intro _<;>try exact zo)|fail)
  rw[Rq,Ysf hlt]
  apply hK (i+1)
  ·show i+1<=n;omega
  ·omega
  ·exact zc1
  ·exact zc0
 obtain rfl:i=n:=by omega
 rw[NG,NJ,Rm]
 clear hK
 refine zX1 ?_<;>intros
 refine Yi (λj:Nat=>[(26,.int .i64 (j:Nat)),(25,.int .i64 s.cells.length),(24,.slice s.A s.cells.length s.cap),(3,.slice (some ⟨g,0,none⟩) i i),(1,.pointer (some ⟨gs,0,none⟩))])
  (λj=>sl 3 1 (some ⟨g,0,none⟩) i i (((s.cells.take j).foldl QI (List.replicate i (IntKind.i64.wrap (1*2^s.off.toNat)-1))).flatMap numF)::blk gs (.cells #[.int .i64 (i:Nat),.int .i64 s.off,.slice s.A s.cells.length s.cap] 30 (0,0))::H) (λj=>j<=s.cells.length) (λj=>s.cells.length-j) 0 (Ti _) ?_ ?_ ?_
 ·exact zc1
 ·rw[SO,List.foldl_nil]
  exact zc0
 rintro j hj K hK
 by_cases hlt2:j<s.cells.length
 rotate_left
 ·obtain rfl:j=s.cells.length:=by omega
  rw[TL]
  clear hK
  refine zX1 ?_<;>intros
  apply Yh (nrs (some ⟨g,0,none⟩) (ZP s.sch).length (ZP s.sch)::H)
  ·unfold nrs
   rw[hml]
   unfold ZP
   rw[hm0,show s.sch.cells=s.cells from rfl]
   exact zc0
  apply Yd;exact rfl;exact rfl
  exact⟨g,by rw[hml],rfl⟩
 obtain⟨c,hc⟩:∃c,s.cells[j]? =some c:=⟨_,Ta hlt2⟩
 obtain⟨m,hm⟩:∃m,(s.cells.take j).foldl QI (List.replicate i (IntKind.i64.wrap (1*2^s.off.toNat)-1))=m:=⟨_,rfl⟩
 have hmn:m.length=i:=by rw[<-hm,Vj,TQ]
 have hnext:(s.cells.take (j+1)).foldl QI (List.replicate i (IntKind.i64.wrap (1*2^s.off.toNat)-1))=QI m c:=by
  rw[TF,hc,List.foldl_append,hm];rfl
 rw[hm]
 have hform:=hf.formed c (Td hc)
 unfold ZA ZC insE at hform
 simp only[To,Tq]at hform
 have hc1:0<=c.1/\c.1<i:=by have:=hform.1.1.1.1;have e:s.sch.len=i:=hn;omega
 have hc2:0<=c.2.1/\c.2.1<16:=by have:=hform.1.1.1.2;have e:s.sch.off=s.off:=rfl;omega
 obtain⟨v,hv⟩:∃v,m[c.1.toNat]? =some v:=⟨_,Ta (by omega)⟩
 have hmc:QI m c=m.set c.1.toNat (bits .andNot .i64 v (IntKind.i64.wrap (1*2^c.2.1.toNat))):=by
  unfold QI;rw[Tz,hv];rfl
 refine zX46 ?_<;>intros
 apply Jc [0,1,2,3,4,5,6,7,8,9] [10]
 kernel_rfl
 kernel_rfl
 (simp only[Ye,nthO];rfl)
 (simp only[Ye,nthO];rfl)
 repeat'(first|(apply Xo T (f:=numF) (l:=m) (i:=c.1.toNat) (a:=bits .andNot .i64 v (IntKind.i64.wrap (1*2^c.2.1.toNat)));(iterate 3 exact rfl);exact zd;exact rfl;exactλ_=>rfl;exact rfl;omega)|(apply Ymj;(iterate 3 exact rfl))|refine zgd ?_|fail)
 rw[<-hmc,<-hnext]
 apply hK (j+1)
 ·show j+1<=_;omega
 ·omega
 ·exact zc1
 ·exact zc0
theorem Yeo(s:SchM)(ht:TabsB B w0)(hr:Rd B w0 H s.A (s.cells.flatMap celF))(hl:s.cells.length<=1000000000000)(hw:St B w0 H w):
 CX B w0 42 [s.val] w λv K=>∃A,v=.tuple #[.slice A (ZH s.sch).1.length (ZH s.sch).1.length,.int .i64 (ZH s.sch).2]/\K=nrs A (ZH s.sch).1.length (ZH s.sch).1::H:=by
 refine Ya Tryz.func42 Tryz.ntmps42 rfl rfl hw ?_
 have p1:=λ{H':List HP}{w:World}(hr:Rd B w0 H' s.A (s.cells.flatMap celF)) (hw:St B w0 H' w)=>Yh0 s ht hr hl hw
 have p2:=λ(hf:Frm s.sch) {H':List HP}{w:World}(hr:Rd B w0 H' s.A (s.cells.flatMap celF)) (hw:St B w0 H' w)=>Ykg s hf hr hw
 repeat'(first|(refine zs8 ?_)|((refine zs52 ?_;intro _))|refine zga ?_|fail)
 first|apply Yb Ysz|apply Yc Ysz
 exact za
 exact rfl
 exactλ_ hw=>(p1 hr.cons hw)
 cases hf:Xh s.sch with
 |false=>
  rw[show ZH s.sch=([],1) by simp_all [ZH]]
  repeat'(first|(refine zs48 ?_)|(refine zs71 ?_)|refine zgb ?_|fail)
  apply Yh (nrs none 0 []::H)
  ·intro w hw
   have h5:St B w0 H w:=by
    revert w
    exact zc82
   exact h5.nilSlice _ _
  exact zc86
 |true=>
  rw[show ZH s.sch=(ZP s.sch,0) by simp_all [ZH]]
  repeat'(first|(refine zs8 ?_)|(refine zs47 ?_)|(refine zs72 ?_)|refine zga ?_|fail)
  apply Yg _ YvK
  exact za
  exact rfl
  exactλ_ hw=>(p2 (Jl.1 hf) hr.cons (hw))
  rintro _ _ ⟨g,rfl,rfl⟩
  refine zX3 ?_
  apply Yh (nrs (some ⟨g,0,none⟩) (ZP s.sch).length (ZP s.sch)::H)
  ·exact zc0
  exact zc86
variable {B:Nat}{w0 w:World}{H:List HP}
theorem Yi0(c:Cel)(l:Lk)(hw:St B w0 H w):
 CX B w0 447 [celV c,lkV l] w λv K=>v=.bool (YI c (0,0,l.1,l.2.1,0))/\K=H:=by
 refine Ya Tryz.func447 Tryz.ntmps447 rfl rfl hw ?_
 have htc:YI c (0,0,l.1,l.2.1,0)=true↔(c.2.2.1=l.1\/c.2.2.1=l.2.1\/c.2.2.2.1=l.1\/c.2.2.2.1=l.2.1):=by unfold YI Yr toC;simp_all
 obtain⟨z,hz⟩:∃z,YI c (0,0,l.1,l.2.1,0)=z:=⟨_,rfl⟩
 rw[hz]at htc⊢
 unfold lkV
 repeat'(first|refine zgc ?_|(refine zgf ?_ ?_<;>intro _<;>try exact zo)|(refine zgh ?_;intro _)|fail)
 all_goals(
  apply Yh H
  ·exact zk
  apply Yd;exact rfl;exact rfl
  cases z<;>simp at htc<;>first|exact⟨rfl,rfl⟩|(exfalso;omega))
abbrev grdA(g:Nat)(n:NetM)(s:SchM):HP:=blk g (.cells #[.int .i64 n.nodes,.slice n.pA n.rows.length n.pcap,.int .i64 n.noise,.int .i64 n.thr,.slice n.lA n.links.length n.lcap,.slice n.mA n.margin.length n.mcap,.int .i64 s.len,.int .i64 s.off,.slice s.A s.cells.length s.cap] 410 (0,0))
def grdV(n:NetM)(s:SchM):Value:=.agg #[.int .i64 n.nodes,.slice n.pA n.rows.length n.pcap,.int .i64 n.noise,.int .i64 n.thr,.slice n.lA n.links.length n.lcap,.slice n.mA n.margin.length n.mcap,.int .i64 s.len,.int .i64 s.off,.slice s.A s.cells.length s.cap]
abbrev lnkA(g:Nat)(l:Lk):HP:=blk g (.cells #[.int .i64 l.1,.int .i64 l.2.1,.int .i64 l.2.2] 145 (0,0))
abbrev intA(g:Nat)(v:Int):HP:=blk g (.cells #[.int .i64 v] 3 (0,0))
theorem Ym7(c:Cel)(l:Lk)(slot id:Int)(g7 g5 g6:Nat)(h7:intA g7 slot∈H)(h5:lnkA g5 l∈H)(h6:intA g6 id∈H)(hw:St B w0 H w):
 CX B w0 445 [celV c,.pointer (some ⟨g7,0,none⟩),.pointer (some ⟨g5,0,none⟩),.pointer (some ⟨g6,0,none⟩)] w λv K=>v=.bool (decide (c.1=slot/\Yr c=l.1/\toC c=l.2.1/\Xr c=id))/\K=H:=by
 refine Ya Tryz.func445 Tryz.ntmps445 rfl rfl hw ?_
 have hb:decide (c.1=slot/\Yr c=l.1/\toC c=l.2.1/\Xr c=id)=true↔c.1=slot/\c.2.2.1=l.1/\c.2.2.2.1=l.2.1/\c.2.2.2.2=id:=by unfold Xr Yr toC;simp_all
 obtain⟨b,hbe⟩:∃b,decide (c.1=slot/\Yr c=l.1/\toC c=l.2.1/\Xr c=id)=b:=⟨_,rfl⟩
 rw[hbe]at hb⊢
 repeat'(first|refine zgc ?_|(refine zgf ?_ ?_<;>intro _<;>try exact zo)|(refine zgh ?_;intro _)|fail)
 all_goals(
  apply Yh H
  ·exact zk
  apply Yd;exact rfl;exact rfl
  cases b<;>simp at hb<;>first|exact⟨rfl,rfl⟩|(exfalso;omega))
theorem Ym8(n:NetM)(s:SchM)(l:Lk)(id slot:Int)(hl:s.cells.length<=1000)(hr:Rd B w0 H s.A (s.cells.flatMap celF))(hw:St B w0 H w):
 CX B w0 433 [grdV n s,lkV l,.int .i64 id,.int .i64 slot] w λv K=>v=.bool (hasC s.cells slot l.1 l.2.1 id)/\K=H:=by
 refine Ya Tryz.func433 Tryz.ntmps433 rfl rfl hw ?_
 unfold grdV lkV
 repeat'(first|(apply zg23;first|(refine zs52 ?_;intro _)|(refine zs53 ?_;intro _))|(apply zg29;(apply Ys;exact za;exact rfl))|refine zgb ?_|fail)
 rename_i g4 g5 g6 g7
 first|apply Yb YlC|apply Yc YlC
 exact za
 exact rfl
 exactλ_ hw=>(WE (λc=>decide (c.1=slot/\Yr c=l.1/\toC c=l.2.1/\Xr c=id)) s.cells 445 [.pointer (some ⟨g7,0,none⟩),.pointer (some ⟨g5,0,none⟩),.pointer (some ⟨g6,0,none⟩)] YwK hl hr.cons.cons.cons.cons (λc _ w hw=>Ym7 c l slot id g7 g5 g6 zm zm zm hw) hw)
 repeat'(first|refine zga ?_|fail)
 apply Yh H
 ·exact zk
 apply Yd;exact rfl;exact rfl;exact⟨rfl,rfl⟩
theorem Ykm(c:Cel)(o:Int)(g:Nat)(hm:intA g o∈H)(hw:St B w0 H w):
 CX B w0 448 [celV c,.pointer (some ⟨g,0,none⟩)] w λv K=>v=.bool (!(decide (c.2.1=o)))/\K=H:=by
 refine Ya Tryz.func448 Tryz.ntmps448 rfl rfl hw ?_
 by_cases h:c.2.1=o
 ·rw[Tj h]
  repeat'(first|refine zgb ?_|(refine zge ?_ ?_<;>intro _<;>try exact zo)|(refine zgh ?_;intro _)|fail)
  apply Yh H
  ·exact zc0
  exact zc12
 ·rw[Tu h]
  repeat'(first|refine zgb ?_|(refine zge ?_ ?_<;>intro _<;>try exact zo)|(refine zgh ?_;intro _)|fail)
  apply Yh H
  ·exact zc0
  exact zc12
end Go.Proofs.YtjlgijpmnfabcaaGreatDoor
