/- Lemmas. -/
import Derived.Test.YtjlgijpmnfabcaaGreatDoorQ11
import Derived.Test.YtjlgijpmnfabcaaGreatDoorQ12
set_option maxRecDepth 100000
set_option maxHeartbeats 8000000
set_option linter.all false
namespace Go.Proofs.YtjlgijpmnfabcaaGreatDoor
open Go.RowKit Go.Eng Go.Nw Go.Rt
theorem YcR{α:Type}(f:α->HP)(l:List α)(r:α)(H:List HP):Perm (f r::many (l.map f)::H) (many ((l++[r]).map f)::H):=by
 have:=Perm.push (f r) (l.map f) [] H
 simp_all
abbrev clsP(A:Option Addr)(cap:Nat)(C:List ClM):HP:=sl 116 5 A C.length cap (C.flatMap clF)
theorem Yhe(A:Option Addr)(cap:Nat)(l:List ClM)(c:ClM):sl 116 5 A (l.length+1) cap (l.flatMap clF++#[Value.int .i64 c.flow,.slice c.rA c.rs.length c.rcap,.slice c.bA c.bs.length c.bcap,.slice c.wA c.ws.length c.wcap,.slice c.sA c.ss.length c.scap].toList)=clsP A cap (l++[c]):=by simp[clsP,List.flatMap_append,clF]
def OutC(H:List HP)(R:List Clm×(Int×Int))(v:Value)(K:List HP):Prop:=∃A cap C,v=.tuple #[.slice A (C:List ClM).length cap,.int .i64 R.2.1,.int .i64 R.2.2]/\C.map ClM.clm=R.1/\(∀c∈C,c.lens)/\K=clsP A cap C::many (C.map clQ)::H
variable {B:Nat}{w0 w:World}{H:List HP}
theorem YcU(h:St B w0 H w):St B w0 (clsP none 0 []::many (([]:List ClM).map clQ)::H) w:=(h.perm (.noMany H)).nilSlice _ _
theorem Ybz{R:List Clm×(Int×Int)}{v:Value}(h1:R.1=[])(hv:v=.tuple #[.slice none 0 0,.int .i64 R.2.1,.int .i64 R.2.2]):OutC H R v (clsP none 0 []::many (([]:List ClM).map clQ)::H):=⟨none,0,[],hv,h1.symm,(λc hc=>by cases hc),rfl⟩
structure MkM where
 i:Nat
 A:Option Addr
 cap:Nat
 C:List ClM
theorem Uv(n:NetM)(q:List RqM)(s:SchM){A:Option Addr}{cap:Nat}(ht:TabsB B w0)(hin:n.In B w0 H)(hq:QIn B w0 H A q)(hrs:Rd B w0 H s.A (s.cells.flatMap celF))(hsl:s.cells.length<=1000000000000)(hw:St B w0 H w):
 CX B w0 40 [n.val,.slice A q.length cap,s.val] w (OutC H (YK n.net (q.map RqM.rq) s.sch)):=by
 refine Yc Tryz.func40 Tryz.ntmps40 rfl rfl hw ?_
 have hql:=hq.ln
 have hqr:=hq.rd
 have p1:=λ{H':List HP}{w:World}(hin:n.In B w0 H') (hq:QIn B w0 H' A q) (hw:St B w0 H' w)=>YdX n q (cap:=cap) hin hq hw
 have p2:=λ{H':List HP}{w:World}(hq:QIn B w0 H' A q) (hw:St B w0 H' w)=>YaE q (cap:=cap) hql hq.rd hw
 have p3:=λ{A2:Option Addr}{cap2:Nat}{H':List HP}{w:World}(hin:n.In B w0 H') (hf:Rd B w0 H' A2 ((RqM.fl q).flatMap flwF)) (hrs:Rd B w0 H' s.A (s.cells.flatMap celF)) (hw:St B w0 H' w)=>Yd8 n (RqM.fl q) s (by unfold RqM.fl;rw[Tu];omega) hsl (cap:=cap2) hin hf hrs hw
 have p4:=λ{H':List HP}{w:World}(x:RqM) (h9:x.rows.length<=9) (hin:n.In B w0 H') (hrs:Rd B w0 H' s.A (s.cells.flatMap celF)) (hx:x.In B w0 H') (hw:St B w0 H' w)=>Yjl n s x ht hin hrs hsl hx h9 hw
 obtain⟨R,hR⟩:∃R,YK n.net (q.map RqM.rq) s.sch=R:=⟨_,rfl⟩
 rw[hR]
 unfold YK at hR
 rw[Tu]at hR
 have hrq:(rqsE n.net (q.map RqM.rq)).2=0->∀x∈q,x.rows.length<=9:=λh x hx=>by
  unfold rqsE at h
  split at h
  ·cases h
  split at h
  ·exact absurd h (by assumption)
  obtain⟨k,hk⟩:=TO.1 hx
  have h1:=YF.1 h k (Tc _) (by rw[Tu];have:=(Tn.1 hk).1;omega)
  rw[UA hk]at h1
  have h2:=QV h1
  have h3:x.rq.2.length=x.rows.length:=by unfold RqM.rq;rw[Tu]
  omega
 obtain⟨⟨ri,re⟩,hr⟩:∃r,rqsE n.net (q.map RqM.rq)=r:=⟨_,rfl⟩
 obtain⟨⟨ci,ce⟩,hc⟩:∃r,schE n.net (Y1 (q.map RqM.rq)) s.sch=r:=⟨_,rfl⟩
 obtain⟨F,hF⟩:∃F:Nat->Int,(λi=>if ZC n.net s.sch (rqAt (q.map RqM.rq) i)=true then 15 else 0)=F:=⟨_,rfl⟩
 rw[hr]at p1 hR hrq
 rw[YeN]at p3
 rw[hc]at p3 hR
 rw[hF]at hR
 have hFv:∀{k:Nat}{x:RqM},q[k]? =some x->F k=if ZC n.net s.sch x.rq=true then 15 else 0:=λh=>by rw[<-hF];show(if ZC _ _ _=true then _ else _)=_;rw[UA h]
 rw[<-YeN]at p3
 dsimp only at p1 p3 hR hrq
 unfold NetM.val SchM.val
 by_cases h0:re=0
 rotate_left
 ·rw[Tm h0]at hR
  subst hR
  refine zX92 ?_<;>intros
  apply Yg (clsP none 0 []::many (([]:List ClM).map clQ)::H)
  ·intro w hw
   have h5:St B w0 H w:=by
    revert w
    exact zc0
   exact YcU h5
  exact zc88
 subst h0
 rw[Tf (λe=>e rfl)]at hR
 have hrq:=hrq rfl
 by_cases h1:ce=0
 rotate_left
 ·rw[Tm h1]at hR
  subst hR
  refine zX92 ?_<;>intros
  apply YG [0,1,3,2,4,5,6,7,8,9] [] [true,true]
  kernel_rfl
  kernel_rfl
  exact zy
  (simp only[Yh,nthO];rfl)
  exact rfl
  refine zX2 ?_
  apply Yi _ YkI
  exact za
  exact rfl
  exactλ_ hw=>(p2 (hq.mono zc0) (hw))
  rintro _ _ ⟨A2,cap2,rfl,rfl⟩
  refine zX16 ?_
  first|apply Ya YkH|apply Yb YkH
  exact za
  exact rfl
  exactλ_ hw=>(p3 (hin.mono zc0) (Rd.sl (by(focus exact zc2))) (hrs.mono zc0) hw)
  refine zX93 ?_<;>intros
  apply Yg (clsP none 0 []::many (([]:List ClM).map clQ)::H)
  ·intro w hw
   have h5:St B w0 H w:=by
    revert w
    exact zc0
   exact YcU h5
  exact zc88
 subst h1
 rw[Tf (λe=>e rfl)]at hR
 refine zX92 ?_<;>intros
 first|(rename_i g3 g5;guard_hyp g3:Nat;guard_hyp g5:Nat)|(rename_i g3 g5 _;guard_hyp g3:Nat;guard_hyp g5:Nat)|(rename_i g3 g5 _ _;guard_hyp g3:Nat;guard_hyp g5:Nat)
 apply YG [0,1,3,2,4,5,6,7,8,9] [] [true,true]
 kernel_rfl
 kernel_rfl
 exact zy
 (simp only[Yh,nthO];rfl)
 exact rfl
 refine zX2 ?_
 apply Yi _ YkI
 exact za
 exact rfl
 exactλ_ hw=>(p2 (hq.mono zc0) (hw))
 rintro _ _ ⟨A2,cap2,rfl,rfl⟩
 refine zX16 ?_
 first|apply Ya YkH|apply Yb YkH
 exact za
 exact rfl
 exactλ_ hw=>(p3 (hin.mono zc0) (Rd.sl (by(focus exact zc2))) (hrs.mono zc0) hw)
 refine zX93 ?_<;>intros
 refine Yf (λz:MkM=>[(40,.int .i64 (z.i:Nat)),(39,.int .i64 q.length),(38,.slice A q.length cap),(13,.slice z.A z.C.length z.cap),(5,.pointer (some ⟨g5,0,none⟩)),(3,.pointer (some ⟨g3,0,none⟩))]) (λz=>clsP z.A z.cap z.C::many (z.C.map clQ)::schA g5 s::netA g3 n::H)
  (λz=>z.i<=q.length/\z.C.map ClM.clm=(q.take z.i).map (λx=>clmE n.net s.sch x.rq)/\(∀c∈z.C,c.lens)/\∀j,0<=j->j<z.i->F j=0) (λz=>q.length-z.i) ⟨0,none,0,[]⟩ ⟨Tc _,rfl,(λc hc=>by cases hc),λj _ h=>absurd h (Rj _)⟩ ?_ ?_ ?_
 ·exact zc1
 ·intro w hw
  have h5:St B w0 (schA g5 s::netA g3 n::H) w:=by
   revert w
   exact zc0
  exact YcU h5
 rintro⟨i,A3,cap3,C⟩ ⟨hi,hC,hCl,hz⟩ K hK
 dsimp only at hi hC hCl hz⊢
 have hqr':Rd B w0 (clsP A3 cap3 C::many (C.map clQ)::schA g5 s::netA g3 n::H) A (q.flatMap rqF):=hqr.cons.cons.cons.cons
 have hCn:C.length<=q.length:=by
  have:=TD List.length hC
  exact Ytv
 by_cases hlt:i<q.length
 rotate_left
 ·obtain rfl:i=q.length:=by omega
  have hfe:=Xj (f:=F) (r:=q.length) (i0:=0) λj h1 h2=>hz j h1 (by omega)
  rw[hfe,Tf (λe=>e rfl)]at hR
  subst hR
  rw[TC]at hC
  clear hK
  refine zX1 ?_<;>intros
  apply Yg (clsP A3 cap3 C::many (C.map clQ)::H)
  ·exact zc0
  apply ZK;(iterate 4 exact rfl)
  exact⟨A3,cap3,C,rfl,by rw[hC,SV];rfl,hCl,rfl⟩
 obtain⟨x,hx⟩:∃x,q[i]? =some x:=⟨_,Ta hlt⟩
 have hxm:=Td hx
 have hFx:=hFv hx
 have p5:=λ{H':List HP}{w:World}(hin:n.In B w0 H') (hrs:Rd B w0 H' s.A (s.cells.flatMap celF)) (hxi:x.In B w0 H') (hw:St B w0 H' w)=>p4 x (hrq x hxm) hin hrs hxi hw
 have hxi:=hq.x x hxm
 cases hlb:ZC n.net s.sch x.rq with
 |true=>
  rw[hlb,Tm rfl]at hFx
  rw[hlb]at p5
  have hfe:=Xa (f:=F) (r:=q.length) (i0:=0) (i:=i) (λj h1 h2=>hz j h1 h2) (Tc _) (by omega) (by rw[hFx];decide)
  rw[hfe,hFx]at hR
  rw[Tm (show(15:Int)≠0 from by decide)]at hR
  subst hR
  clear hK
  refine zX44 ?_<;>intros
  apply Yi _ Yrz
  exact za
  exact rfl
  exactλ_ hw=>(p5 (hin.mono zc0) (hrs.mono zc0) (hxi.mono zc0) (hw))
  rintro _ _ ⟨c,rfl,_,rfl⟩
  unfold clV
  refine zX25 ?_<;>intros
  apply Yg (clsP none 0 []::many (([]:List ClM).map clQ)::H)
  ·intro w hw
   have h5:St B w0 H w:=by
    revert w
    exact zc0
   exact YcU h5
  exact zc88
 |false=>
  rw[hlb,Tf (by decide)]at hFx
  rw[hlb]at p5
  refine zX44 ?_<;>intros
  apply Yi _ Yrz
  exact za
  exact rfl
  exactλ_ hw=>(p5 (hin.mono zc0) (hrs.mono zc0) (hxi.mono zc0) (hw))
  rintro _ _ ⟨c,rfl,hcc,rfl⟩
  obtain⟨hcm,hcl⟩:=hcc rfl
  unfold clV
  repeat'(first|refine zgd ?_|(refine zgh ?_;intro _)|(refine zgi ?_;intro _ _)|fail)
  first|(rename_i A4 cap4;guard_hyp A4:Option Addr)
  rw[Yhe,show C.length+1=(C++[c]).length by simp]
  apply hK ⟨i+1,A4,cap4,C++[c]⟩
  ·refine⟨by exact Ydy,?_,λy hy=>?_,λj h1 h2=>?_⟩
   ·show(C++[c]).map ClM.clm=_
    rw[TB,hx,Ru,TX,TX,hC]
    simp[hcm]
   ·rcases Re.1 hy with h|h
    ·exact hCl y h
    ·rw[Rk.1 h];exact hcl
   ·rcases RN.1 h2 with h|rfl
    ·exact hz j h1 h
    ·exact hFx
  ·exact zc83
  ·exact zc1
  ·intro w hw
   have h5:St B w0 (clsP A4 cap4 (C++[c])::clQ c::many (C.map clQ)::schA g5 s::netA g3 n::H) w:=by
    revert w
    exact zc0
   exact h5.perm (.cons _ (YcR clQ C c _))
variable {A A2:Option Addr}{cap cap2 B:Nat}{w0 w:World}{H:List HP}
theorem WG(l m:List Int)(hlen:l.length<=9223372036854775807)(_hlen2:m.length<=9223372036854775807)(hr:Rd B w0 H A (l.flatMap numF))(hr2:Rd B w0 H A2 (m.flatMap numF))(hw:St B w0 H w):
 CX B w0 195 [.slice A l.length cap,.slice A2 m.length cap2] w λu K=>u=.bool (decide (l=m))/\K=H:=by
 refine Yc Tryz.func195 Tryz.ntmps195 rfl rfl hw ?_
 by_cases hll:l.length=m.length
 rotate_left
 ·exact zc11
 refine zX3 ?_<;>intros
 refine Yf (λ(k:Nat)=>[(13,.int .i64 k),(12,.int .i64 l.length),(0,.slice A l.length cap),(1,.slice A2 m.length cap2)]) (λ_=>H) (λk=>k<=l.length/\l.take k=m.take k) (λk=>l.length-k) 0 ⟨Tc _,by simp⟩ ?_ (λw hw=>hw) ?_
 ·exact zc1
 rintro k ⟨hk,hi⟩ K hK
 by_cases hlt:k<l.length
 ·obtain⟨a,ha⟩:∃a,l[k]? =some a:=⟨_,Ta hlt⟩
  obtain⟨b,hb⟩:∃b,m[k]? =some b:=⟨_,Ta (by omega)⟩
  repeat'(first|refine zgd ?_|(refine zge ?_ ?_<;>intro _<;>try exact zo)|fail)
  ·exact zc61
  ·rename_i h
   apply hK (k+1)
   ·exact Yp3
   ·omega
   ·exact zc1
   exact zc20
 exact zc9
theorem Yde(a b:RowM)(hl:a.xs.length<=1000000000000/\b.xs.length<=1000000000000)(hr:Rd B w0 H a.A (a.xs.flatMap numF))(hr2:Rd B w0 H b.A (b.xs.flatMap numF))(hw:St B w0 H w):
 CX B w0 192 [.slice a.A a.xs.length a.cap,.slice b.A b.xs.length b.cap] w λu K=>u=.bool (decide (a.xs=b.xs))/\K=H:=by
 refine Yc Tryz.func192 Tryz.ntmps192 rfl rfl hw ?_
 repeat'(first|((first|apply Ya Yex|apply Yb Yex);exact za;exact rfl;exactλ_ hw=>(YaM a.xs b.xs (by omega) (by omega) hr hr2 hw))|refine zga ?_|fail)
 exact zc13
theorem Yag(l m:List RowM)(hlen:l.length<=1000000000000)(_hlen2:m.length<=1000000000000)(hl2:∀r∈l,r.xs.length<=1000000000000)(hm2:∀r∈m,r.xs.length<=1000000000000)(hr:Rd B w0 H A (l.flatMap rowF))(hr2:Rd B w0 H A2 (m.flatMap rowF))(hrl:∀r∈l,Rd B w0 H r.A (r.xs.flatMap numF))(hrm:∀r∈m,Rd B w0 H r.A (r.xs.flatMap numF))(hw:St B w0 H w):
 CX B w0 196 [.slice A l.length cap,.slice A2 m.length cap2,.func (.func 192) #[] #[]] w λu K=>u=.bool (decide (l.map (·.xs)=m.map (·.xs)))/\K=H:=by
 refine Yc Tryz.func196 Tryz.ntmps196 rfl rfl hw ?_
 by_cases hll:l.length=m.length
 rotate_left
 ·exact zc18
 refine zX3 ?_<;>intros
 refine Yf (λ(k:Nat)=>[(17,.int .i64 k),(16,.int .i64 l.length),(15,.slice A l.length cap),(0,.slice A l.length cap),(1,.slice A2 m.length cap2),(2,.func (.func 192) #[] #[])]) (λ_=>H) (λk=>k<=l.length/\(l.take k).map (·.xs)=(m.take k).map (·.xs)) (λk=>l.length-k) 0 ⟨Tc _,by simp⟩ ?_ (λw hw=>hw) ?_
 ·exact zc1
 rintro k ⟨hk,hi⟩ K hK
 by_cases hlt:k<l.length
 ·obtain⟨a,ha⟩:∃a,l[k]? =some a:=⟨_,Ta hlt⟩
  obtain⟨b,hb⟩:∃b,m[k]? =some b:=⟨_,Ta (by omega)⟩
  have ham:=Td ha
  have hbm:=Td hb
  have hss:=λ{w:World}(hw:St B w0 H w)=>Yde a b ⟨hl2 a ham,hm2 b hbm⟩ (hrl a ham) (hrm b hbm) hw
  by_cases hab:a.xs=b.xs
  ·rw[Ti hab]at hss
   refine zX96 ?_<;>intros
   apply hK (k+1)
   ·exact zc49
   ·omega
   ·exact zc1
   exact zc20
  ·rw[Tj hab]at hss
   refine zX96 ?_<;>intros
   exact zc24
 exact zc9
theorem Yd7(a b:RowM)(hl:a.xs.length<=1000000000000/\b.xs.length<=1000000000000)(hr:Rd B w0 H a.A (a.xs.flatMap numF))(hr2:Rd B w0 H b.A (b.xs.flatMap numF))(hw:St B w0 H w):
 CX B w0 194 [.slice a.A a.xs.length a.cap,.slice b.A b.xs.length b.cap] w λu K=>u=.bool (decide (a.xs=b.xs))/\K=H:=by
 refine Yc Tryz.func194 Tryz.ntmps194 rfl rfl hw ?_
 repeat'(first|((first|apply Ya Wj|apply Yb Wj);exact za;exact rfl;exactλ_ hw=>(WG a.xs b.xs (by omega) (by omega) hr hr2 hw))|refine zga ?_|fail)
 exact zc13
theorem Ybm(l m:List RowM)(hlen:l.length<=1000000000000)(_hlen2:m.length<=1000000000000)(hl2:∀r∈l,r.xs.length<=1000000000000)(hm2:∀r∈m,r.xs.length<=1000000000000)(hr:Rd B w0 H A (l.flatMap rowF))(hr2:Rd B w0 H A2 (m.flatMap rowF))(hrl:∀r∈l,Rd B w0 H r.A (r.xs.flatMap numF))(hrm:∀r∈m,Rd B w0 H r.A (r.xs.flatMap numF))(hw:St B w0 H w):
 CX B w0 197 [.slice A l.length cap,.slice A2 m.length cap2,.func (.func 194) #[] #[]] w λu K=>u=.bool (decide (l.map (·.xs)=m.map (·.xs)))/\K=H:=by
 refine Yc Tryz.func197 Tryz.ntmps197 rfl rfl hw ?_
 by_cases hll:l.length=m.length
 rotate_left
 ·exact zc18
 refine zX3 ?_<;>intros
 refine Yf (λ(k:Nat)=>[(17,.int .i64 k),(16,.int .i64 l.length),(15,.slice A l.length cap),(0,.slice A l.length cap),(1,.slice A2 m.length cap2),(2,.func (.func 194) #[] #[])]) (λ_=>H) (λk=>k<=l.length/\(l.take k).map (·.xs)=(m.take k).map (·.xs)) (λk=>l.length-k) 0 ⟨Tc _,by simp⟩ ?_ (λw hw=>hw) ?_
 ·exact zc1
 rintro k ⟨hk,hi⟩ K hK
 by_cases hlt:k<l.length
 ·obtain⟨a,ha⟩:∃a,l[k]? =some a:=⟨_,Ta hlt⟩
  obtain⟨b,hb⟩:∃b,m[k]? =some b:=⟨_,Ta (by omega)⟩
  have ham:=Td ha
  have hbm:=Td hb
  have hss:=λ{w:World}(hw:St B w0 H w)=>Yd7 a b ⟨hl2 a ham,hm2 b hbm⟩ (hrl a ham) (hrm b hbm) hw
  by_cases hab:a.xs=b.xs
  ·rw[Ti hab]at hss
   refine zX98 ?_<;>intros
   apply hK (k+1)
   ·exact zc49
   ·omega
   ·exact zc1
   exact zc20
  ·rw[Tj hab]at hss
   refine zX98 ?_<;>intros
   exact zc24
 exact zc9
theorem Yn5{c d:ClM}:c.clm=d.clm↔c.flow=d.flow/\c.rs.map (·.xs)=d.rs.map (·.xs)/\c.bs=d.bs/\c.ws=d.ws/\c.ss.map (·.xs)=d.ss.map (·.xs):=by
 unfold ClM.clm
 simp_all
theorem Yke(c d:ClM)(hc:c.In B w0 H)(hd:d.In B w0 H)(hw:St B w0 H w):
 CX B w0 103 [clV c,clV d] w λu K=>u=.bool (decide (c.clm=d.clm))/\K=H:=by
 refine Yc Tryz.func103 Tryz.ntmps103 rfl rfl hw ?_
 have hcl:=hc.ln
 have hdl:=hd.ln
 have p1:=λ{H':List HP}{w:World}(hc:c.In B w0 H') (hd:d.In B w0 H') (hw:St B w0 H' w)=>Yag c.rs d.rs (cap:=c.rcap) (cap2:=d.rcap) hcl.1 hdl.1 hc.rl hd.rl hc.rt hd.rt hc.rw_ hd.rw_ hw
 have p2:=λ{H':List HP}{w:World}(hc:c.In B w0 H') (hd:d.In B w0 H') (hw:St B w0 H' w)=>WG c.bs d.bs (cap:=c.bcap) (cap2:=d.bcap) (by omega) (by omega) hc.bd hd.bd hw
 have p3:=λ{H':List HP}{w:World}(hc:c.In B w0 H') (hd:d.In B w0 H') (hw:St B w0 H' w)=>WG c.ws d.ws (cap:=c.wcap) (cap2:=d.wcap) (by omega) (by omega) hc.ws hd.ws hw
 have p4:=λ{H':List HP}{w:World}(hc:c.In B w0 H') (hd:d.In B w0 H') (hw:St B w0 H' w)=>Ybm c.ss d.ss (cap:=c.scap) (cap2:=d.scap) hcl.2.2.2 hdl.2.2.2 hc.sl hd.sl hc.st hd.st hc.sw hd.sw hw
 have hce:=@Yn5 c d
 unfold clV
 by_cases h1:c.flow=d.flow
 rotate_left
 ·rw[Tj (λh=>h1 (hce.1 h).1)]
  refine zX99 ?_<;>intros
  apply Yg H
  ·exact zc0
  exact zc3
 by_cases h2:c.rs.map (·.xs)=d.rs.map (·.xs)
 rotate_left
 ·rw[Tj (λh=>h2 (hce.1 h).2.1)]
  rw[Tj h2]at p1
  refine zX99 ?_<;>intros
  first|apply Ya YaH|apply Yb YaH
  exact za
  exact rfl
  exactλ_ hw=>(p1 (hc.mono zc0) (hd.mono zc0) hw)
  refine zX9 ?_
  apply Yg H
  ·exact zc0
  exact zc3
 rw[Ti h2]at p1
 by_cases h3:c.bs=d.bs
 rotate_left
 ·rw[Tj (λh=>h3 (hce.1 h).2.2.1)]
  rw[Tj h3]at p2
  refine zX99 ?_<;>intros
  first|apply Ya YaH|apply Yb YaH
  exact za
  exact rfl
  exactλ_ hw=>(p1 (hc.mono zc0) (hd.mono zc0) hw)
  refine zX9 ?_
  first|apply Ya Wj|apply Yb Wj
  exact za
  exact rfl
  exactλ_ hw=>(p2 (hc.mono zc0) (hd.mono zc0) hw)
  refine zX9 ?_
  apply Yg H
  ·exact zc0
  exact zc3
 rw[Ti h3]at p2
 by_cases h4:c.ws=d.ws
 rotate_left
 ·rw[Tj (λh=>h4 (hce.1 h).2.2.2.1)]
  rw[Tj h4]at p3
  refine zX99 ?_<;>intros
  first|apply Ya YaH|apply Yb YaH
  exact za
  exact rfl
  exactλ_ hw=>(p1 (hc.mono zc0) (hd.mono zc0) hw)
  refine zX9 ?_
  first|apply Ya Wj|apply Yb Wj
  exact za
  exact rfl
  exactλ_ hw=>(p2 (hc.mono zc0) (hd.mono zc0) hw)
  refine zX9 ?_
  first|apply Ya Wj|apply Yb Wj
  exact za
  exact rfl
  exactλ_ hw=>(p3 (hc.mono zc0) (hd.mono zc0) hw)
  refine zX9 ?_
  apply Yg H
  ·exact zc0
  exact zc3
 rw[Ti h4]at p3
 have h5:decide (c.clm=d.clm)=decide (c.ss.map (·.xs)=d.ss.map (·.xs)):=decide_eq_decide.2 ⟨λh=>(hce.1 h).2.2.2.2,λh=>hce.2 ⟨h1,h2,h3,h4,h⟩⟩
 rw[h5]
 refine zX99 ?_<;>intros
 first|apply Ya YaH|apply Yb YaH
 exact za
 exact rfl
 exactλ_ hw=>(p1 (hc.mono zc0) (hd.mono zc0) hw)
 refine zX9 ?_
 first|apply Ya Wj|apply Yb Wj
 exact za
 exact rfl
 exactλ_ hw=>(p2 (hc.mono zc0) (hd.mono zc0) hw)
 refine zX9 ?_
 first|apply Ya Wj|apply Yb Wj
 exact za
 exact rfl
 exactλ_ hw=>(p3 (hc.mono zc0) (hd.mono zc0) hw)
 refine zX9 ?_
 first|apply Ya YrY|apply Yb YrY
 exact za
 exact rfl
 exactλ_ hw=>(p4 (hc.mono zc0) (hd.mono zc0) hw)
 refine zX9 ?_
 apply Yg H
 ·exact zc0
 exact zc3
theorem Yer{c:List ClM}{i:Nat}{x:ClM}(h:c[i]? =some x):OA (c.map ClM.clm) i=x.clm:=by
 grind [OA]
variable {B:Nat}{w0:World}{H:List HP}
theorem YcX{C:List ClM}{c:ClM}(hm:many (C.map clQ)∈H)(hc:c∈C)(hl:c.lens):c.In B w0 H:=by
 have hb:∀w,St B w0 H w->St B w0 (C.map clQ) w:=λw hw=>hw.inM hm
 refine ClM.In.mono (H:=C.map clQ) (Yt4 (Rx hc) ⟨⟨?_,?_,?_,?_⟩,?_,?_⟩) hb
 ·have:=hl.1.1;omega
 ·have:=hl.1.2.1;omega
 ·have:=hl.1.2.2.1;omega
 ·have:=hl.1.2.2.2;omega
 ·exactλr hr=>T0 (hl.2.1 r hr) (by decide)
 ·exactλr hr=>T0 (hl.2.2 r hr) (by decide)
theorem YfP(n:NetM)(q:List RqM)(s:SchM)(c:List ClM){A A1:Option Addr}{cap cap1:Nat}{w:World}(ht:TabsB B w0)(hin:n.In B w0 H)(hq:QIn B w0 H A q)(hrs:Rd B w0 H s.A (s.cells.flatMap celF))(hsl:s.cells.length<=1000000000000)(hc:CIn B w0 H A1 c)(hw:St B w0 H w):
 CX B w0 41 [n.val,.slice A q.length cap,s.val,.slice A1 c.length cap1] w λv K=>v=.tuple #[.int .i64 (chkE n.net (q.map RqM.rq) s.sch (c.map ClM.clm)).1,.int .i64 (chkE n.net (q.map RqM.rq) s.sch (c.map ClM.clm)).2]/\K=H:=by
 refine Yc Tryz.func41 Tryz.ntmps41 rfl rfl hw ?_
 have hcl:=hc.ln
 have hcr:=hc.rd
 have p1:=λ{H':List HP}{w:World}(hin:n.In B w0 H') (hq:QIn B w0 H' A q) (hrs:Rd B w0 H' s.A (s.cells.flatMap celF)) (hw:St B w0 H' w)=>Uv n q s (cap:=cap) ht hin hq hrs hsl hw
 obtain⟨⟨RC,ri,re⟩,hR⟩:∃R,YK n.net (q.map RqM.rq) s.sch=R:=⟨_,rfl⟩
 unfold chkE
 rw[Tu]
 rw[hR]at p1⊢
 unfold OutC at p1
 dsimp only at p1⊢
 unfold NetM.val SchM.val
 by_cases h0:re=0
 rotate_left
 ·rw[Tm h0]
  repeat'(first|refine zgb ?_|(refine zgh ?_;intro _)|fail)
  apply Yi _ en40
  exact za
  exact rfl
  exactλ_ hw=>(p1 (hin.mono zc0) (hq.mono zc0) (hrs.mono zc0) (hw))
  rintro _ _ ⟨A2,cap2,C,rfl,hC,hCl,rfl⟩
  repeat'(first|refine zgc ?_|(refine zge ?_ ?_<;>intro _<;>try exact zo)|fail)
  apply Yg H
  ·exact zc0
  exact zc8
 subst h0
 rw[Tf (λe=>e rfl)]
 repeat'(first|refine zgb ?_|(refine zgh ?_;intro _)|fail)
 apply Yi _ en40
 exact za
 exact rfl
 exactλ_ hw=>(p1 (hin.mono zc0) (hq.mono zc0) (hrs.mono zc0) (hw))
 rintro _ _ ⟨A2,cap2,C,rfl,hC,hCl,rfl⟩
 subst hC
 rw[Tu]
 by_cases h1:c.length=C.length
 rotate_left
 ·rw[Tm h1]
  repeat'(first|refine zgc ?_|(refine zge ?_ ?_<;>intro _<;>try exact zo)|fail)
  apply Yg H
  ·exact zc0
  exact zc8
 rw[Tf (λe=>e h1)]
 obtain⟨F,hF⟩:∃F:Nat->Int,(λi=>if OA (c.map ClM.clm) i=OA (C.map ClM.clm) i then(0:Int)else 20)=F:=⟨_,rfl⟩
 rw[hF]
 have hFv:∀{k:Nat}{x y:ClM},c[k]? =some x->C[k]? =some y->F k=if x.clm=y.clm then 0 else 20:=λhx hy=>by rw[<-hF];show(if _=_ then _ else _)=_;rw[Yer hx,Yer hy]
 repeat'(first|refine zgc ?_|(refine zge ?_ ?_<;>intro _<;>try exact zo)|fail)
 refine Yf (λk:Nat=>[(33,.int .i64 (k:Nat)),(32,.int .i64 C.length),(10,.slice A2 C.length cap2),(3,.slice A1 c.length cap1)]) (λ_=>clsP A2 cap2 C::many (C.map clQ)::H) (λk=>k<=C.length/\∀j,0<=j->j<k->F j=0) (λk=>C.length-k) 0 ⟨Tc _,λj _ h=>absurd h (Rj _)⟩ ?_ ?_ ?_
 ·exact zc1
 ·exact zc0
 rintro k ⟨hk,hz⟩ K hK
 have hcr':Rd B w0 (clsP A2 cap2 C::many (C.map clQ)::H) A1 (c.flatMap clF):=hcr.cons.cons
 have hCr':Rd B w0 (clsP A2 cap2 C::many (C.map clQ)::H) A2 (C.flatMap clF):=.sl (.head _)
 by_cases hlt:k<C.length
 ·obtain⟨x,hx⟩:∃x,c[k]? =some x:=⟨_,Ta (by omega)⟩
  obtain⟨y,hy⟩:∃y,C[k]? =some y:=⟨_,Ta hlt⟩
  have hym:=Td hy
  have hFk:=hFv hx hy
  have hxi:=hc.x x (Td hx)
  have p2:=λ{H':List HP}{w:World}(hx:x.In B w0 H') (hy:y.In B w0 H') (hw:St B w0 H' w)=>Yke x y hx hy hw
  by_cases he:x.clm=y.clm
  ·rw[Tm he]at hFk
   rw[Ti he]at p2
   repeat'(first|refine zgb ?_|(refine zge ?_ ?_<;>intro _<;>try exact zo)|fail)
   apply Y7 [0,1,2,3,4,5,6,7,8,9] []
   kernel_rfl
   kernel_rfl
   (simp only[Yh,nthO];rfl)
   exact rfl
   repeat'(first|refine zgd ?_|fail)
   first|apply Ya YkJ|apply Yb YkJ
   exact za
   exact rfl
   exactλ_ hw=>(p2 (hxi.mono zc0) (YcX (by(focus exact zc2)) hym (hCl y hym)) hw)
   repeat'(first|(apply Yj;(repeat(first|with_reducible exact Y5|(with_reducible apply YY;(repeat(first|with_reducible exact YD|with_reducible apply YO))))))|refine zgd ?_|fail)
   ·show Perm H (H++[])
    exact zc33
   repeat'(first|fail)
   apply hK (k+1)
   ·exact⟨by omega,λj h1 h2=>by
     rcases RN.1 h2 with h|rfl
     ·exact hz j h1 h
     ·exact hFk⟩
   ·omega
   ·exact zc1
   ·exact zc0
  ·rw[Tf he]at hFk
   rw[Tj he]at p2
   have hfe:=Xa (f:=F) (r:=c.length) (i0:=0) (i:=k) (λj h1 h2=>hz j h1 h2) (Tc _) (by omega) (by rw[hFk];decide)
   rw[hfe,hFk]
   clear hK
   repeat'(first|refine zgb ?_|(refine zge ?_ ?_<;>intro _<;>try exact zo)|fail)
   apply Y7 [0,1,2,3,4,5,6,7,8,9] []
   kernel_rfl
   kernel_rfl
   (simp only[Yh,nthO];rfl)
   exact rfl
   repeat'(first|refine zgd ?_|fail)
   first|apply Ya YkJ|apply Yb YkJ
   exact za
   exact rfl
   exactλ_ hw=>(p2 (hxi.mono zc0) (YcX (by(focus exact zc2)) hym (hCl y hym)) hw)
   repeat'(first|(apply Yj;(repeat(first|with_reducible exact Y5|(with_reducible apply YY;(repeat(first|with_reducible exact YD|with_reducible apply YO))))))|refine zgd ?_|fail)
   ·show Perm H (H++[])
    exact zc33
   repeat'(first|fail)
   apply Yg H
   ·exact zc0
   exact zc8
 ·obtain rfl:k=C.length:=by omega
  have hfe:=Xj (f:=F) (r:=c.length) (i0:=0) λj h1 h2=>hz j h1 (by omega)
  rw[hfe]
  clear hK
  repeat'(first|refine zgc ?_|(refine zge ?_ ?_<;>intro _<;>try exact zo)|fail)
  apply Yg H
  ·exact zc0
  exact zc8
variable {B:Nat}{w0 w:World}{H:List HP}
theorem ClM.In.here{c:ClM}(h:c.In B w0 H)(hw:St B w0 H w):c.In w.heap.size w []:=
 ⟨h.rt.here hw,λr hr=>(h.rw_ r hr).here hw,h.bd.here hw,h.ws.here hw,h.st.here hw,λr hr=>(h.sw r hr).here hw,h.ln,h.rl,h.sl⟩
theorem CIn.here{c:List ClM}{A:Option Addr}(h:CIn B w0 H A c)(hw:St B w0 H w):CIn w.heap.size w [] A c:=⟨h.rd.here hw,λx hx=>(h.x x hx).here hw,h.ln⟩
variable {B:Nat}{w0 w:World}{H:List HP}
theorem Ybn(c d:ClM)(hc:c.In B w0 H)(hd:d.In B w0 H)(hw:St B w0 H w):
 CX B w0 50 [clV c,clV d] w λu K=>u=.bool (decide (c.clm=d.clm))/\K=H:=by
 refine Yc Tryz.func50 Tryz.ntmps50 rfl rfl hw ?_
 have hcl:=hc.ln
 have hdl:=hd.ln
 have p1:=λ{H':List HP}{w:World}(hc:c.In B w0 H') (hd:d.In B w0 H') (hw:St B w0 H' w)=>Wr c.rs d.rs (cap:=c.rcap) (cap2:=d.rcap) hcl.1 hdl.1 hc.rl hd.rl hc.rt hd.rt hc.rw_ hd.rw_ hw
 have p2:=λ{H':List HP}{w:World}(hc:c.In B w0 H') (hd:d.In B w0 H') (hw:St B w0 H' w)=>ZG c.bs d.bs (cap:=c.bcap) (cap2:=d.bcap) (by omega) (by omega) hc.bd hd.bd hw
 have p3:=λ{H':List HP}{w:World}(hc:c.In B w0 H') (hd:d.In B w0 H') (hw:St B w0 H' w)=>ZG c.ws d.ws (cap:=c.wcap) (cap2:=d.wcap) (by omega) (by omega) hc.ws hd.ws hw
 have hce:=@Yn5 c d
 unfold clV
 by_cases h1:c.flow=d.flow
 rotate_left
 ·rw[Tj (λh=>h1 (hce.1 h).1)]
  repeat'(first|refine zgc ?_|(refine zge ?_ ?_<;>intro _<;>try exact zo)|(refine zgh ?_;intro _)|fail)
  apply Yg H
  ·exact zc0
  exact zc3
 by_cases h2:c.rs.map (·.xs)=d.rs.map (·.xs)
 rotate_left
 ·rw[Tj (λh=>h2 (hce.1 h).2.1)]
  rw[Tj h2]at p1
  repeat'(first|refine zgc ?_|(refine zge ?_ ?_<;>intro _<;>try exact zo)|(refine zgh ?_;intro _)|fail)
  first|apply Ya en49|apply Yb en49
  exact za
  exact rfl
  exactλ_ hw=>(p1 (hc.mono zc0) (hd.mono zc0) hw)
  repeat'(first|refine zgd ?_|fail)
  apply Yg H
  ·exact zc0
  exact zc3
 rw[Ti h2]at p1
 by_cases h3:c.bs=d.bs
 rotate_left
 ·rw[Tj (λh=>h3 (hce.1 h).2.2.1)]
  rw[Tj h3]at p2
  repeat'(first|refine zgc ?_|(refine zge ?_ ?_<;>intro _<;>try exact zo)|(refine zgh ?_;intro _)|fail)
  first|apply Ya en49|apply Yb en49
  exact za
  exact rfl
  exactλ_ hw=>(p1 (hc.mono zc0) (hd.mono zc0) hw)
  repeat'(first|refine zgd ?_|fail)
  first|apply Ya XW|apply Yb XW
  exact za
  exact rfl
  exactλ_ hw=>(p2 (hc.mono zc0) (hd.mono zc0) hw)
  repeat'(first|refine zgd ?_|fail)
  apply Yg H
  ·exact zc0
  exact zc3
 rw[Ti h3]at p2
 by_cases h4:c.ws=d.ws
 rotate_left
 ·rw[Tj (λh=>h4 (hce.1 h).2.2.2.1)]
  rw[Tj h4]at p3
  repeat'(first|refine zgc ?_|(refine zge ?_ ?_<;>intro _<;>try exact zo)|(refine zgh ?_;intro _)|fail)
  first|apply Ya en49|apply Yb en49
  exact za
  exact rfl
  exactλ_ hw=>(p1 (hc.mono zc0) (hd.mono zc0) hw)
  repeat'(first|refine zgd ?_|fail)
  first|apply Ya XW|apply Yb XW
  exact za
  exact rfl
  exactλ_ hw=>(p2 (hc.mono zc0) (hd.mono zc0) hw)
  repeat'(first|refine zgd ?_|fail)
  first|apply Ya XW|apply Yb XW
  exact za
  exact rfl
  exactλ_ hw=>(p3 (hc.mono zc0) (hd.mono zc0) hw)
  repeat'(first|refine zgd ?_|fail)
  apply Yg H
  ·exact zc0
  exact zc3
 rw[Ti h4]at p3
 have h5:decide (c.clm=d.clm)=decide (c.ss.map (·.xs)=d.ss.map (·.xs)):=decide_eq_decide.2 ⟨λh=>(hce.1 h).2.2.2.2,λh=>hce.2 ⟨h1,h2,h3,h4,h⟩⟩
 rw[h5]
 by_cases h6:c.ss.length=d.ss.length
 rotate_left
 ·rw[Tj (λe=>h6 (by have:=TD List.length e;rwa [Tu,Tu]at this))]
  repeat'(first|refine zgc ?_|(refine zge ?_ ?_<;>intro _<;>try exact zo)|(refine zgh ?_;intro _)|fail)
  first|apply Ya en49|apply Yb en49
  exact za
  exact rfl
  exactλ_ hw=>(p1 (hc.mono zc0) (hd.mono zc0) hw)
  repeat'(first|refine zgd ?_|fail)
  first|apply Ya XW|apply Yb XW
  exact za
  exact rfl
  exactλ_ hw=>(p2 (hc.mono zc0) (hd.mono zc0) hw)
  repeat'(first|refine zgd ?_|fail)
  first|apply Ya XW|apply Yb XW
  exact za
  exact rfl
  exactλ_ hw=>(p3 (hc.mono zc0) (hd.mono zc0) hw)
  repeat'(first|refine zgd ?_|(refine zge ?_ ?_<;>intro _<;>try exact zo)|fail)
  apply Yg H
  ·exact zc0
  exact zc3
 repeat'(first|refine zgc ?_|(refine zge ?_ ?_<;>intro _<;>try exact zo)|(refine zgh ?_;intro _)|fail)
 first|apply Ya en49|apply Yb en49
 exact za
 exact rfl
 exactλ_ hw=>(p1 (hc.mono zc0) (hd.mono zc0) hw)
 repeat'(first|refine zgd ?_|fail)
 first|apply Ya XW|apply Yb XW
 exact za
 exact rfl
 exactλ_ hw=>(p2 (hc.mono zc0) (hd.mono zc0) hw)
 repeat'(first|refine zgd ?_|fail)
 first|apply Ya XW|apply Yb XW
 exact za
 exact rfl
 exactλ_ hw=>(p3 (hc.mono zc0) (hd.mono zc0) hw)
 repeat'(first|refine zgd ?_|(refine zge ?_ ?_<;>intro _<;>try exact zo)|fail)
 rename_i g2 g3 _ _
 refine Yf (λk:Nat=>[(5,.int .i64 (k:Nat)),(3,.pointer (some ⟨g3,0,none⟩)),(2,.pointer (some ⟨g2,0,none⟩))]) (λ_=>clA g3 d::clA g2 c::H) (λk=>k<=c.ss.length/\(c.ss.take k).map (·.xs)=(d.ss.take k).map (·.xs)) (λk=>c.ss.length-k) 0 ⟨Tc _,by simp⟩ ?_ (λw hw=>hw) ?_
 ·exact zc1
 rintro k ⟨hk,hz⟩ K hK
 have hcs:Rd B w0 (clA g3 d::clA g2 c::H) c.sA (c.ss.flatMap rowF):=hc.st.cons.cons
 have hds:Rd B w0 (clA g3 d::clA g2 c::H) d.sA (d.ss.flatMap rowF):=hd.st.cons.cons
 by_cases hlt:k<c.ss.length
 ·obtain⟨a,ha⟩:∃a,c.ss[k]? =some a:=⟨_,Ta hlt⟩
  obtain⟨b,hb⟩:∃b,d.ss[k]? =some b:=⟨_,Ta (by omega)⟩
  have ham:=Td ha
  have hbm:=Td hb
  have p4:=λ{H':List HP}{w:World}(hc:c.In B w0 H') (hd:d.In B w0 H') (hw:St B w0 H' w)=>ZG a.xs b.xs (cap:=a.cap) (cap2:=b.cap) (hc.sl a ham) (hd.sl b hbm) (hc.sw a ham) (hd.sw b hbm) hw
  by_cases he:a.xs=b.xs
  ·rw[Ti he]at p4
   repeat'(first|refine zgb ?_|(refine zge ?_ ?_<;>intro _<;>try exact zo)|fail)
   apply Y7 [0,1,2,3,4,5,6,7,8,9,10,11] []
   kernel_rfl
   kernel_rfl
   (simp only[Yh,nthO];rfl)
   exact rfl
   repeat'(first|refine zgd ?_|fail)
   first|apply Ya XW|apply Yb XW
   exact za
   exact rfl
   exactλ_ hw=>(p4 (hc.mono zc0) (hd.mono zc0) hw)
   repeat'(first|(apply Yj;(repeat(first|with_reducible exact Y5|(with_reducible apply YY;(repeat(first|with_reducible exact YD|with_reducible apply YO))))))|refine zgd ?_|fail)
   ·show Perm H (H++[])
    exact zc33
   repeat'(first|fail)
   apply hK (k+1)
   ·exact Ys0
   ·omega
   ·exact zc1
   exact zc20
  ·rw[Tj he]at p4
   have hne:¬(c.ss.map (·.xs)=d.ss.map (·.xs)):=λe=>by
    have h1:(c.ss.map (·.xs))[k]? =(d.ss.map (·.xs))[k]? :=by rw[e]
    exact Ytd
   rw[Tj hne]
   clear hK
   repeat'(first|refine zgb ?_|(refine zge ?_ ?_<;>intro _<;>try exact zo)|fail)
   apply Y7 [0,1,2,3,4,5,6,7,8,9,10,11] []
   kernel_rfl
   kernel_rfl
   (simp only[Yh,nthO];rfl)
   exact rfl
   repeat'(first|refine zgd ?_|fail)
   first|apply Ya XW|apply Yb XW
   exact za
   exact rfl
   exactλ_ hw=>(p4 (hc.mono zc0) (hd.mono zc0) hw)
   repeat'(first|(apply Yj;(repeat(first|with_reducible exact Y5|(with_reducible apply YY;(repeat(first|with_reducible exact YD|with_reducible apply YO))))))|refine zgd ?_|fail)
   ·show Perm H (H++[])
    exact zc33
   repeat'(first|fail)
   apply Yg H
   ·exact zc0
   exact zc3
 ·rw[TE (by omega),TE (by omega)]at hz
  rw[Ti hz]
  clear hK
  repeat'(first|refine zgc ?_|(refine zge ?_ ?_<;>intro _<;>try exact zo)|fail)
  apply Yg H
  ·exact zc0
  exact zc3
theorem W4(c d:List ClM){A A2:Option Addr}{cap cap2:Nat}(hc:CIn B w0 H A c)(hd:CIn B w0 H A2 d)(hw:St B w0 H w):
 CX B w0 16 [.slice A c.length cap,.slice A2 d.length cap2] w λu K=>u=.bool (decide (c.map ClM.clm=d.map ClM.clm))/\K=H:=by
 refine Yc Tryz.func16 Tryz.ntmps16 rfl rfl hw ?_
 have hcl:=hc.ln
 have hdl:=hd.ln
 have hcr:=hc.rd
 have hdr:=hd.rd
 by_cases h6:c.length=d.length
 rotate_left
 ·rw[Tj (λe=>h6 (by have:=TD List.length e;grind))]
  repeat'(first|refine zgb ?_|(refine zge ?_ ?_<;>intro _<;>try exact zo)|fail)
  exact zc13
 repeat'(first|refine zgb ?_|(refine zge ?_ ?_<;>intro _<;>try exact zo)|fail)
 refine Yf (λk:Nat=>[(5,.int .i64 (k:Nat)),(0,.slice A c.length cap),(1,.slice A2 d.length cap2)]) (λ_=>H) (λk=>k<=c.length/\(c.take k).map ClM.clm=(d.take k).map ClM.clm) (λk=>c.length-k) 0 ⟨Tc _,by simp⟩ ?_ (λw hw=>hw) ?_
 ·exact zc1
 rintro k ⟨hk,hz⟩ K hK
 by_cases hlt:k<c.length
 ·obtain⟨a,ha⟩:∃a,c[k]? =some a:=⟨_,Ta hlt⟩
  obtain⟨b,hb⟩:∃b,d[k]? =some b:=⟨_,Ta (by omega)⟩
  have hax:=hc.x a (Td ha)
  have hbx:=hd.x b (Td hb)
  have p2:=λ{H':List HP}{w:World}(hx:a.In B w0 H') (hy:b.In B w0 H') (hw:St B w0 H' w)=>Ybn a b hx hy hw
  by_cases he:a.clm=b.clm
  ·rw[Ti he]at p2
   repeat'(first|refine zgb ?_|(refine zge ?_ ?_<;>intro _<;>try exact zo)|fail)
   apply Y7 [0,1,2,3,4,5,6,7,8,9] []
   kernel_rfl
   kernel_rfl
   (simp only[Yh,nthO];rfl)
   exact rfl
   repeat'(first|refine zgd ?_|fail)
   first|apply Ya en50|apply Yb en50
   exact za
   exact rfl
   exactλ_ hw=>(p2 hax hbx hw)
   repeat'(first|(apply Yj;(repeat(first|with_reducible exact Y5|(with_reducible apply YY;(repeat(first|with_reducible exact YD|with_reducible apply YO))))))|refine zgd ?_|fail)
   ·show Perm H (H++[])
    exact zc33
   repeat'(first|fail)
   apply hK (k+1)
   ·exact Ys0
   ·omega
   ·exact zc1
   exact zc20
  ·rw[Tj he]at p2
   have hne:¬(c.map ClM.clm=d.map ClM.clm):=λe=>by
    have h1:(c.map ClM.clm)[k]? =(d.map ClM.clm)[k]? :=by rw[e]
    exact Ytd
   rw[Tj hne]
   clear hK
   repeat'(first|refine zgb ?_|(refine zge ?_ ?_<;>intro _<;>try exact zo)|fail)
   apply Y7 [0,1,2,3,4,5,6,7,8,9] []
   kernel_rfl
   kernel_rfl
   (simp only[Yh,nthO];rfl)
   exact rfl
   repeat'(first|refine zgd ?_|fail)
   first|apply Ya en50|apply Yb en50
   exact za
   exact rfl
   exactλ_ hw=>(p2 hax hbx hw)
   repeat'(first|(apply Yj;(repeat(first|with_reducible exact Y5|(with_reducible apply YY;(repeat(first|with_reducible exact YD|with_reducible apply YO))))))|refine zgd ?_|fail)
   ·show Perm H (H++[])
    exact zc33
   repeat'(first|fail)
   exact zc3
 ·rw[TE (by omega),TE (by omega)]at hz
  rw[Ti hz]
  repeat'(first|refine zgc ?_|(refine zge ?_ ?_<;>intro _<;>try exact zo)|fail)
  exact zc3
end Go.Proofs.YtjlgijpmnfabcaaGreatDoor
namespace Go.Eng
open Go.RowKit
section
variable {P:Program}{B:Nat}{w0:World}{Q:Exit->Act->World->Prop}{env:Env}{H:List HP}{m:Mode}{n:Shp}{ops:Array Oper}{rest:List Oper}{d:Nat}{ty:TypeId}{pos:String}{after:Array Edge}
theorem YtS{tx:Array TypeId}{x y:Operand}{a b:Int}{k k':IntKind}(hx:evo env x=some (.int k a))(hy:evo env y=some (.int k' b))(hn:Nat.ble (d+1) n.k=true)(h:VL P m n B w0 ops Q rest ((d,.int k (if b<a then b else a))::env) H):
 VL P m n B w0 ops Q (⟨some d,.call ⟨.builtin .min,#[x,y],tx⟩,ty,pos,after,none⟩::rest) env H:=
 YP rfl rfl hn rfl (λf w ha _=>by simp[execOp,resolve,invoke,builtin,ha.eval hx,ha.eval hy,run_min_int2]) h
end
end Go.Eng
namespace Go.Proofs.YtjlgijpmnfabcaaGreatDoor
open Go.RowKit Go.Eng Go.Nw Go.Rt
def Uq(id:Int)(x:Clm):Bool:=decide (x.flow=id)&&decide (0<x.bounds.length)
variable {B cap:Nat}{w0 w:World}{H:List HP}
theorem YfN(x:ClM)(id:Int)(g:Nat)(hl:x.bs.length<=1000000000000)(hm:blk g (.cells #[.int .i64 id] 3 (0,0))∈H)(hw:St B w0 H w):
 CX B w0 155 [clV x,.pointer (some ⟨g,0,none⟩)] w λv K=>v=.bool (Uq id x.clm)/\K=H:=by
 refine Yc Tryz.func155 Tryz.ntmps155 rfl rfl hw ?_
 have e1:Uq id x.clm=(decide (x.flow=id)&&decide (0<x.bs.length)):=rfl
 unfold clV
 by_cases h1:x.flow=id
 ·by_cases h2:0<x.bs.length
  ·rw[e1,Ti h1,Ti h2]
   repeat'(first|apply(zs1 ?_)|apply(zs2 ?_)|(apply zg1;refine zs4 ?_)|(apply zg2;refine zs6 ?_)|(apply zg3;refine zs7 ?_)|(apply zg4;refine zs9 ?_)|(apply zg6;refine zs11 ?_)|(apply zg7;(refine zs15 ?_ ?_<;>intro _<;>try exact zo))|(apply(zs19 ?_ ?_)<;>intro _<;>try exact zo)|(apply zg23;(refine zs52 ?_;intro _))|apply(zs65 ?_)|apply(zs68 ?_)|apply(zs69 ?_)|apply(zs70 ?_)|apply(zs74 ?_)|fail)
   apply Yg H
   ·exact zk
   apply Yd;exact rfl;exact rfl;exact⟨rfl,rfl⟩
  ·rw[e1,Ti h1,Tj h2]
   repeat'(first|apply(zs1 ?_)|apply(zs2 ?_)|(apply zg1;refine zs4 ?_)|(apply zg2;refine zs6 ?_)|(apply zg3;refine zs7 ?_)|(apply zg4;refine zs9 ?_)|(apply zg6;refine zs11 ?_)|(apply zg7;(refine zs15 ?_ ?_<;>intro _<;>try exact zo))|(apply(zs19 ?_ ?_)<;>intro _<;>try exact zo)|(apply zg23;(refine zs52 ?_;intro _))|apply(zs65 ?_)|apply(zs68 ?_)|apply(zs69 ?_)|apply(zs70 ?_)|apply(zs74 ?_)|fail)
   apply Yg H
   ·exact zk
   apply Yd;exact rfl;exact rfl;exact⟨rfl,rfl⟩
 ·rw[e1,Tj h1]
  repeat'(first|apply(zs1 ?_)|apply(zs2 ?_)|(apply zg1;refine zs3 ?_)|(apply zg2;refine zs6 ?_)|(apply zg3;refine zs7 ?_)|(apply zg6;refine zs12 ?_)|(apply zg7;(refine zs15 ?_ ?_<;>intro _<;>try exact zo))|(apply zg23;(refine zs52 ?_;intro _))|apply(zs65 ?_)|apply(zs68 ?_)|apply(zs69 ?_)|apply(zs70 ?_)|apply(zs74 ?_)|fail)
  apply Yg H
  ·exact zk
  apply Yd;exact rfl;exact rfl;exact⟨rfl,rfl⟩
def idxC(P:Clm->Bool)(c:List Clm):Int:=match c.findIdx? P with|none=> -1|some i=>(i:Nat)
variable {P:Clm->Bool}{c:List Clm}
theorem YeQ(h:∀x∈c,P x=false):idxC P c= -1:=by
 have:c.findIdx? P=none:=by rw[List.findIdx?_eq_none_iff];exact h
 unfold idxC;rw[this]
theorem YeR{i:Nat}{x:Clm}(h0:∀y∈c.take i,P y=false)(hx:c[i]? =some x)(hp:P x=true):idxC P c=(i:Nat)/\c.find? P=some x:=by
 have hc:c=c.take i++(x::c.drop (i+1)):=by
  have hi:=(Tn.1 hx)
  obtain⟨hi,e⟩:=hi
  rw[<-e,SU,RG]
 have hl:(c.take i).length=i:=by
  have hi:=(Tn.1 hx).1
  rw[TJ];omega
 have h1:c.findIdx? P=some i:=by
  rw[hc,List.findIdx?_append]
  have:(c.take i).findIdx? P=none:=by rw[List.findIdx?_eq_none_iff];exact h0
  rw[this]
  simp[List.findIdx?_cons,hp,hl]
 refine⟨by unfold idxC;rw[h1],?_⟩
 rw[hc,List.find?_append]
 have:(c.take i).find? P=none:=by rw[Nk];exactλy hy=>by rw[h0 y hy];decide
 rw[this]
 simp[hp]
variable {A:Option Addr}
theorem Yhd(c:List ClM)(id:Int)(g:Nat)(hc:CIn B w0 H A c)(hm:blk g (.cells #[.int .i64 id] 3 (0,0))∈H)(hw:St B w0 H w):
 CX B w0 154 [.slice A c.length cap,.func (.func 155) #[] #[.pointer (some ⟨g,0,none⟩)]] w λv K=>v=.int .i64 (idxC (Uq id) (c.map ClM.clm))/\K=H:=by
 refine Yc Tryz.func154 Tryz.ntmps154 rfl rfl hw ?_
 have hcl:=hc.ln
 have hcr:=hc.rd
 repeat'(first|apply(zs1 ?_)|apply(zs2 ?_)|(apply zg4;refine zs9 ?_)|apply(zs65 ?_)|apply(zs68 ?_)|apply(zs69 ?_)|apply(zs70 ?_)|apply(zs73 ?_)|fail)
 refine Yf (λk:Nat=>[(8,.int .i64 (k:Nat)),(7,.int .i64 c.length),(6,.slice A c.length cap),(0,.slice A c.length cap),(1,.func (.func 155) #[] #[.pointer (some ⟨g,0,none⟩)])]) (λ_=>H) (λk=>k<=c.length/\∀y∈(c.map ClM.clm).take k,Uq id y=false) (λk=>c.length-k) 0 ⟨Tc _,by simp⟩ ?_ (λw hw=>hw) ?_
 ·exact zu
 rintro k ⟨hk,hz⟩ K hK
 by_cases hlt:k<c.length
 ·obtain⟨x,hx⟩:∃x,c[k]? =some x:=⟨_,Ta hlt⟩
  have hxm:(c.map ClM.clm)[k]? =some x.clm:=by rw[TU,hx];rfl
  have hxi:=hc.x x (Td hx)
  have p1:=λ{w:World}(hw:St B w0 H w)=>YfN x id g hxi.ln.2.1 hm hw
  cases hb:Uq id x.clm with
  |true=>
   rw[hb]at p1
   have hi:=(YeR hz hxm hb).1
   rw[hi]
   clear hK
   repeat'(first|((first|apply YV (cs:=[.pointer (some ⟨g,0,none⟩)])|apply Y2 (cs:=[.pointer (some ⟨g,0,none⟩)]));exact rfl;exact YrN;exact za;exact rfl;exactλ_ hw=>(p1 hw))|apply(zs1 ?_)|apply(zs2 ?_)|(apply zg3;refine zs61 ?_)|(apply zg5;refine zs57 ?_)|(apply(zs17 ?_ ?_)<;>intro _<;>try exact zo)|apply(zs65 ?_)|apply(zs68 ?_)|apply(zs69 ?_)|apply(zs70 ?_)|(apply zg27;refine zs71 ?_)|apply(zs73 ?_)|apply(zs74 ?_)|apply(zs76 ?_)|apply(zs77 ?_)|apply(zs78 ?_)|fail)
   apply Yd;exact rfl;exact rfl;exact⟨rfl,rfl⟩
  |false=>
   rw[hb]at p1
   repeat'(first|((first|apply YV (cs:=[.pointer (some ⟨g,0,none⟩)])|apply Y2 (cs:=[.pointer (some ⟨g,0,none⟩)]));exact rfl;exact YrN;exact za;exact rfl;exactλ_ hw=>(p1 hw))|apply(zs1 ?_)|apply(zs2 ?_)|(apply zg3;refine zs61 ?_)|(apply zg5;refine zs57 ?_)|(apply(zs17 ?_ ?_)<;>intro _<;>try exact zo)|(apply zg13;refine zs30 ?_)|apply(zs65 ?_)|apply(zs68 ?_)|apply(zs69 ?_)|apply(zs70 ?_)|(apply zg27;first|refine zs71 ?_|refine zs72 ?_)|apply(zs73 ?_)|apply(zs76 ?_)|apply(zs79 ?_)|fail)
   apply hK (k+1)
   ·exact⟨by omega,λy hy=>by
     rw[TB,hxm,Ru]at hy
     rcases Re.1 hy with h|h
     ·exact hz y h
     ·rw[Rk.1 h];exact hb⟩
   ·omega
   ·exact zu
   ·exactλw hw=>hw
 ·rw[TE (by rw[Tu];omega)]at hz
  rw[YeQ hz]
  repeat'(first|apply(zs2 ?_)|(apply(zs17 ?_ ?_)<;>intro _<;>try exact zo)|apply(zs65 ?_)|apply(zs68 ?_)|apply(zs69 ?_)|apply(zs70 ?_)|(apply zg27;refine zs72 ?_)|apply(zs74 ?_)|apply(zs75 ?_)|apply(zs80 ?_)|apply(zs81 ?_)|fail)
  apply Yd;exact rfl;exact rfl;exact⟨rfl,rfl⟩
theorem YoU{l:List Int}{k:Nat}{y:Int}(h0:1<=k)(h:l[k]? =some y):minI (l.take (k+1))=if y<minI (l.take k)then y else minI (l.take k):=by
 rw[TB,h,Ru]
 cases l with
 |nil=>cases h
 |cons a l=>
  obtain⟨k,rfl⟩:∃j,k=j+1:=⟨k-1,by omega⟩
  rw[List.take_succ_cons]
  show List.foldl (λx y=>if y<x then y else x) a (l.take k++[y])=_
  rw[List.foldl_append]
  rfl
theorem Ym9(l:List Int)(hlen:l.length<=1000000000000)(h0:1<=l.length)(hr:Rd B w0 H A (l.flatMap numF))(hw:St B w0 H w):
 CX B w0 156 [.slice A l.length cap] w λv K=>v=.int .i64 (minI l)/\K=H:=by
 refine Yc Tryz.func156 Tryz.ntmps156 rfl rfl hw ?_
 obtain⟨a,ha⟩:∃a,l[0]? =some a:=⟨_,Ta (by omega)⟩
 have ha2:l[(0:Int).toNat]? =some a:=ha
 have hm1:minI (l.take 1)=a:=by
  cases l with
  |nil=>cases ha
  |cons b l=>exact Tz ha
 repeat'(first|apply(zs1 ?_)|apply(zs2 ?_)|(apply zg3;refine zs60 ?_)|(apply zg4;refine zs9 ?_)|(apply zg5;refine zs57 ?_)|(apply(zs17 ?_ ?_)<;>intro _<;>try exact zo)|apply(zs65 ?_)|apply(zs68 ?_)|apply(zs69 ?_)|apply(zs70 ?_)|(apply zg27;refine zs72 ?_)|apply(zs73 ?_)|apply(zs76 ?_)|fail)
 refine Yf (λk:Nat=>[(4,.int .i64 (k:Nat)),(3,.int .i64 (minI (l.take k))),(0,.slice A l.length cap)]) (λ_=>H) (λk=>1<=k/\k<=l.length) (λk=>l.length-k) 1 ⟨TQ _,h0⟩ ?_ (λw hw=>hw) ?_
 ·rw[hm1]
  exact zu
 rintro k ⟨hk1,hk⟩ K hK
 by_cases hlt:k<l.length
 ·obtain⟨y,hy⟩:∃y,l[k]? =some y:=⟨_,Ta hlt⟩
  repeat'(first|(apply YtS;(iterate 3 exact rfl))|apply(zs1 ?_)|apply(zs2 ?_)|(apply zg3;refine zs60 ?_)|(apply zg4;refine zs9 ?_)|(apply zg5;refine zs57 ?_)|(apply(zs17 ?_ ?_)<;>intro _<;>try exact zo)|(apply zg13;refine zs30 ?_)|apply(zs65 ?_)|apply(zs68 ?_)|apply(zs69 ?_)|apply(zs70 ?_)|(apply zg27;refine zs71 ?_)|apply(zs73 ?_)|apply(zs76 ?_)|apply(zs79 ?_)|fail)
  apply hK (k+1)
  ·exact⟨by omega,by omega⟩
  ·omega
  ·rw[YoU hk1 hy]
   exact zu
  ·exactλw hw=>hw
 ·rw[show l.take k=l from TE (by omega)]
  repeat'(first|apply(zs1 ?_)|apply(zs2 ?_)|(apply zg4;refine zs9 ?_)|(apply(zs17 ?_ ?_)<;>intro _<;>try exact zo)|apply(zs65 ?_)|apply(zs68 ?_)|apply(zs69 ?_)|apply(zs70 ?_)|(apply zg27;refine zs72 ?_)|apply(zs74 ?_)|apply(zs75 ?_)|apply(zs80 ?_)|apply(zs81 ?_)|fail)
  apply Yd;exact rfl;exact rfl;exact⟨rfl,rfl⟩
theorem Yg7(c:List ClM)(id:Int)(hc:CIn B w0 H A c)(hw:St B w0 H w):
 CX B w0 75 [.slice A c.length cap,.int .i64 id] w λv K=>v=.tuple #[.int .i64 (bndE (c.map ClM.clm) id).1,.bool (bndE (c.map ClM.clm) id).2]/\K=H:=by
 refine Yc Tryz.func75 Tryz.ntmps75 rfl rfl hw ?_
 have hcl:=hc.ln
 have hcr:=hc.rd
 repeat'(first|apply(zs1 ?_)|apply(zs2 ?_)|(apply zg23;(refine zs53 ?_;intro _))|apply(zs65 ?_)|apply(zs68 ?_)|apply(zs69 ?_)|apply(zs70 ?_)|(apply zg29;(apply Ys;exact za;exact rfl))|fail)
 rename_i g
 have p1:=λ{H':List HP}{w:World}(hc:CIn B w0 H' A c) (hm:blk g (.cells #[.int .i64 id] 3 (0,0))∈H') (hw:St B w0 H' w)=>Yhd c id g (cap:=cap) hc hm hw
 by_cases hex:∃i x,(c.map ClM.clm)[i]? =some x/\Uq id x=true/\∀y∈(c.map ClM.clm).take i,Uq id y=false
 ·obtain⟨i,x,hx,hb,hz⟩:=hex
  obtain⟨h1,h2⟩:=YeR hz hx hb
  have hbe:bndE (c.map ClM.clm) id=(minI x.bounds,true):=by
   unfold bndE
   rw[show(c.map ClM.clm).find? (λx=>decide (x.flow=id)&&decide (0<x.bounds.length))=some x from h2]
  rw[TU]at hx
  obtain⟨y,hy,rfl⟩:∃y,c[i]? =some y/\y.clm=x:=by
   cases hc0:c[i]? with
   |none=>rw[hc0]at hx;cases hx
   |some y=>rw[hc0]at hx;exact⟨y,rfl,Tz hx⟩
  have hyi:=hc.x y (Td hy)
  have hi:=(Tn.1 hy).1
  have hpos:1<=y.bs.length:=by
   unfold Uq at hb
   rw[Tt,To,To]at hb
   exact hb.2
  rw[h1]at p1
  rw[hbe]
  have p2:=λ{H':List HP}{w:World}(hr:Rd B w0 H' y.bA (y.bs.flatMap numF)) (hw:St B w0 H' w)=>Ym9 y.bs hyi.ln.2.1 hpos (cap:=y.bcap) hr hw
  have hcr2:Rd B w0 (blk g (.cells #[.int .i64 id] 3 (0,0))::H) A (c.flatMap clF):=hcr.cons
  first|apply Ya YkP|apply Yb YkP
  exact za
  exact rfl
  exactλ_ hw=>(p1 hc.cons (.head _) hw)
  repeat'(first|apply(zs1 ?_)|apply(zs2 ?_)|(apply zg2;refine zs58 ?_)|(apply zg3;refine zs59 ?_)|(apply zg5;refine zs57 ?_)|(apply(zs17 ?_ ?_)<;>intro _<;>try exact zo)|apply(zs65 ?_)|apply(zs68 ?_)|apply(zs69 ?_)|apply(zs70 ?_)|(apply zg27;refine zs72 ?_)|apply(zs76 ?_)|fail)
  first|apply Ya YrO|apply Yb YrO
  exact za
  exact rfl
  exactλ_ hw=>(p2 hyi.bd.cons hw)
  repeat'(first|apply(zs2 ?_)|apply(zs65 ?_)|apply(zs68 ?_)|apply(zs74 ?_)|fail)
  apply Yg H
  ·exact zk
  apply Yo;(iterate 3 exact rfl);exact⟨rfl,rfl⟩
 ·have hall:∀y∈c.map ClM.clm,Uq id y=false:=by
   intro y hy
   cases hb:Uq id y with
   |false=>rfl
   |true=>
    exfalso
    have hsm:((c.map ClM.clm).find? (Uq id)).isSome=true:=by
     rw[List.find?_isSome];exact⟨y,hy,hb⟩
    have hsi:((c.map ClM.clm).findIdx? (Uq id)).isSome=true:=by
     rw[List.findIdx?_isSome,TZ];exact⟨y,hy,hb⟩
    obtain⟨i,hi⟩:=SK.1 hsi
    rw[List.findIdx?_eq_some_iff_getElem]at hi
    obtain⟨hlt,hpi,hno⟩:=hi
    refine hex ⟨i,_,Ta hlt,hpi,λz hz=>?_⟩
    obtain⟨j,hj⟩:=TO.1 hz
    rw[SB]at hj
    split at hj
    ·rename_i hji
     obtain⟨hj1,hj2⟩:=Tn.1 hj
     have:=hno j hji
     rw[hj2]at this
     simpa using this
    ·cases hj
  have hbe:bndE (c.map ClM.clm) id=(0,false):=by
   unfold bndE
   have:(c.map ClM.clm).find? (Uq id)=none:=by rw[Nk];exactλy hy=>by rw[hall y hy];decide
   rw[show(c.map ClM.clm).find? (λx=>decide (x.flow=id)&&decide (0<x.bounds.length))=none from this]
  rw[YeQ hall]at p1
  rw[hbe]
  first|apply Ya YkP|apply Yb YkP
  exact za
  exact rfl
  exactλ_ hw=>(p1 hc.cons (.head _) hw)
  repeat'(first|apply(zs1 ?_)|apply(zs2 ?_)|(apply(zs17 ?_ ?_)<;>intro _<;>try exact zo)|apply(zs65 ?_)|apply(zs68 ?_)|apply(zs69 ?_)|apply(zs70 ?_)|(apply zg27;refine zs71 ?_)|apply(zs74 ?_)|apply(zs77 ?_)|fail)
  apply Yg H
  ·exact zk
  apply Yo;(iterate 3 exact rfl);exact⟨rfl,rfl⟩
theorem Yn4{n:Net}{q:List Rqs}{s:Sch}(h:(YK n q s).2.2=0):chkE n q s (YK n q s).1=(-1,0):=by
 simp_all [chkE,Xj]
structure AttM where
 slot:Int
 frame:Int
 c:Cel
 o:Int
structure StM where
 frame:Int
 since:Int->Option Int
 acked:Int->Int->Option Int
 done:Bool
structure PlM where
 st:List StM
 atts:List AttM
 dels:List (Int×Int×Int)
def perF(f:Flw):Int:=f.2.2.2.1
def phaF(f:Flw):Int:=f.2.2.2.2.1
def dstF(f:Flw):Int:=f.2.2.1
def Yt5(f:Flw)(k:Int):Int:=phaF f+k*perF f
def newS(f:Flw)(n k:Int):StM:=⟨k,λv=>if v=f.2.1 then some n else none,λ_ _=>none,false⟩
def relS(f:Flw)(n:Int)(x:StM):StM:=if n<phaF f then x else if(n-phaF f)/perF f=x.frame then x else newS f n ((n-phaF f)/perF f)
def canT(f:Flw)(x:StM)(c:Cel)(n:Int):Prop:=0<=x.frame/\(∃a,x.since (YM c)=some a/\a<=n)/\YM c≠dstF f/\∀t,x.acked (YM c) (toC c)=some t->n<=t
def YvX(f:Flw)(x:StM)(c:Cel)(n o:Int):StM:=
 ⟨x.frame,if o=3\/(x.since (toC c)).isSome then x.since elseλv=>if v=toC c then some (n+1)else x.since v,
  if o=1/\x.acked (YM c) (toC c)=none thenλu v=>if u=YM c/\v=toC c then some n else x.acked u v else x.acked,
  x.done||(decide (o≠3)&&decide (toC c=dstF f))⟩
def delS(f:Flw)(x:StM)(c:Cel)(n o:Int):List (Int×Int×Int):=if o≠3/\toC c=dstF f/\x.done=false then [(f.1,x.frame,n)]else []
def Yuz:StM:=⟨-1,λ_=>none,λ_ _=>none,false⟩
inductive Pl (l:List Flw) (s:Sch):Int->Nat->PlM->Prop
 |start:Pl l s 0 0 ⟨l.map λ_=>Yuz,[],[]⟩
 |rel {n:Int}{p:PlM}(st:List StM):Pl l s n 0 p->st.length=l.length->(∀(i:Nat) f x,l[i]? =some f->p.st[i]? =some x->st[i]? =some (relS f n x))->Pl l s n 1 ⟨st,p.atts,p.dels⟩
 |skip {n:Int}{j:Nat}{p:PlM}{c:Cel}:Pl l s n (j+1) p->(atE s n)[j]? =some c->(∀(i:Nat) f x,l[i]? =some f->p.st[i]? =some x->f.1=Zw c->¬canT f x c n)->Pl l s n (j+2) p
 |att {n:Int}{j i:Nat}{p:PlM}{c:Cel}{f:Flw}{x:StM}(o:Int):Pl l s n (j+1) p->(atE s n)[j]? =some c->l[i]? =some f->p.st[i]? =some x->f.1=Zw c->canT f x c n->
  Pl l s n (j+2) ⟨p.st.set i (YvX f x c n o),p.atts++[⟨n,x.frame,c,o⟩],p.dels++delS f x c n o⟩
 |next {n:Int}{p:PlM}(ds:List (Int×Int×Int)):Pl l s n ((atE s n).length+1) p->ds.Perm p.dels->Pl l s (n+1) 0 ⟨p.st,p.atts,ds⟩
def onK(id k u v:Int)(a:AttM):Bool:=decide (Zw a.c=id/\a.frame=k/\YM a.c=u/\toC a.c=v)
def keyL(atts:List AttM)(id k u v:Int):List AttM:=atts.filter (onK id k u v)
def cntL(s:Sch)(q:Cel->Bool):Nat->Int->Nat
 |0,_=>0
 |m+1,a=>((atE s a).filter q).length+cntL s q m (a+1)
def Ylm(s:Sch)(q:Cel->Bool)(b:Option Int)(a0 n:Int)(j:Nat):Nat:=
 match b with
 |some b=>cntL s q (b-1-a0).toNat a0
 |none=>cntL s q (n-a0).toNat a0+if a0<=n then(((atE s n).take j).filter q).length else 0
def Hop(s:Sch)(f:Flw)(k:Int)(atts:List AttM)(since:Int->Option Int)(n:Int)(j:Nat):Prop:=
 ∀u v a0,u≠dstF f->since u=some a0->∃K1,K1<+:keyL atts f.1 k u v/\(∀a∈K1,a.o=3)/\Ylm s (onP f.1 u v) (since v) a0 n j<=K1.length
def Dlv(f:Flw)(k:Int)(dels:List (Int×Int×Int))(since:Int->Option Int):Prop:=
 (∀d∈dels,d.1=f.1->d.2.1=k->since (dstF f)=some (d.2.2+1))/\∀b,since (dstF f)=some b->(f.1,k,b-1)∈dels
structure Arch(s:Sch)(f:Flw)(k n:Int)(j:Nat)(p:PlM)(since:Int->Option Int):Prop where
 src:since f.2.1=some (Yt5 f k)
 hop:Hop s f k p.atts since n j
 dlv:Dlv f k p.dels since
variable {s:Sch}{f:Flw}{k n:Int}{j:Nat}{p:PlM}{since:Int->Option Int}
theorem Arch.mono{p':PlM}(h:Arch s f k n j p since)
 (ha:∀u v,keyL p.atts f.1 k u v<+:keyL p'.atts f.1 k u v) (hd:∀d,d.1=f.1->d.2.1=k->(d∈p'.dels↔d∈p.dels)):Arch s f k n j p' since:=by
 refine⟨h.src,λu v a0 hu hs=>?_,?_,?_⟩
 ·obtain⟨K1,h1,h2,h3⟩:=h.hop u v a0 hu hs
  grind
 ·intro d hm h1 h2
  exact h.dlv.1 d ((hd d h1 h2).1 hm) h1 h2
 ·intro b hb
  exact(hd (f.1,k,b-1) rfl rfl).2 (h.dlv.2 b hb)
theorem Ykl{α:Type}{L:List α}{c:α}(h:L[j]? =some c):L.take (j+1)=L.take j++[c]:=zc81
variable {c:Cel}
theorem Ymq{L:List Cel}(h:L[j]? =some c)(q:Cel->Bool):((L.take (j+1)).filter q).length=((L.take j).filter q).length+if q c then 1 else 0:=by
 rw[Ykl h,Su,Tq]
 grind
theorem YoZ{a0:Int}(h:(atE s n)[j]? =some c){q:Cel->Bool}(hq:q c=false)(b:Option Int):Ylm s q b a0 n (j+1)=Ylm s q b a0 n j:=by
 simp_all [Ylm,Ymq]
theorem Yq4{id u v:Int}:onP id u v c=true↔Zw c=id/\YM c=u/\toC c=v:=by simp[onP]
theorem Arch.offs(h:Arch s f k n j p since)(hc:(atE s n)[j]? =some c)(hf:Zw c≠f.1):Arch s f k n (j+1) p since:=by
 refine⟨h.src,λu v a0 hu hs=>?_,h.dlv⟩
 obtain⟨K1,h1,h2,h3⟩:=h.hop u v a0 hu hs
 grind [YoZ,Yq4]
def Chain(d:Int):Int->List Lk->Prop
 |u,[]=>u=d
 |u,l::ls=>u=l.1/\u≠d/\Chain d l.2.1 ls
def slC(len:Int)(cs:List Cel)(a:Int):Nat:=(cs.filter λc=>decide (c.1=a.tmod len)).length
def cntS(len:Int)(cs:List Cel):Nat->Int->Nat
 |0,_=>0
 |m+1,a=>slC len cs a+cntS len cs m (a+1)
def WayT(len:Int)(C:Lk->List Cel):List Lk->Int->Int->Prop
 |[],a,y=>a<=y
 |l::ls,a,y=>∃z,a<=z/\Y6 l<=cntS len (C l) (z-a).toNat a/\WayT len C ls z y
variable {C:Lk->List Cel}
theorem WayT.le{len:Int}:∀{ls:List Lk}{a y:Int},WayT len C ls a y->a<=y
 |[],_,_,h=>h
 |_::_,_,_,⟨_,h1,_,h3⟩=>Int.le_trans h1 h3.le
theorem WayT.mono{len:Int}{D:Lk->List Cel}(h:∀l a,slC len (C l) a<=slC len (D l) a):∀{ls:List Lk}{a y:Int},WayT len C ls a y->WayT len D ls a y
 |[],_,_,hw=>hw
 |l::ls,a,y,⟨z,h1,h2,h3⟩=>by
  refine⟨z,h1,T0 h2 ?_,h3.mono h⟩
  have:∀(m:Nat) (a:Int),cntS len (C l) m a<=cntS len (D l) m a:=λm=>by
   induction m with
   |zero=>exactλ_=>TQ _
   |succ m ih=>grind [cntS]
  simp_all
structure Sm(n:Net)(l:List Flw)(s:Sch):Prop where
 ck:Ym n=0
 fl:(YA n.nodes l).2=0
 per:∀f∈l,s.len.tmod f.2.2.2.1=0
 sized:XU s=true
 formed:∀c∈s.cells,XC s c=true
 ord:Ord s.cells
 good:∀c∈s.cells,YX n (YM c) (toC c)=true/\0<=Zv l (Zw c)
 once:s.cells.Pairwise λa b=>a.1=b.1->YE a b=false
 clear:∀c∈s.cells,Vt n s.cells c=true
variable {n:Net}{s:Sch}
theorem Sem.sm{l:List Flw}(h:Sem n l s):Sm n l s:=⟨h.ck,h.fl,h.per,h.frm.sized,h.frm.formed,h.frm.ord,h.good,h.once,h.clear⟩
variable {l:List Cel}
theorem Yfn{node:Int}{m:List Cel}(h:l.Perm m):Go.Proofs.YtjlgijpmnfabcaaGreatDoor.sumC n node l=Go.Proofs.YtjlgijpmnfabcaaGreatDoor.sumC n node m:=by
 induction h with
 |nil=>rfl
 |cons a _ ih=>simp_all [Zq]
 |swap a b l=>rw[Zq,Zq,Zq,Zq];omega
 |trans _ _ h1 h2=>omega
variable {slot o a b:Int}
theorem Yhs(h:fitE n l slot o a b=true)(id:Int):(∀d∈l,d.1=slot->YE d (slot,o,a,b,id)=false)/\Jm n (l.filter (atP slot o)++[(slot,o,a,b,id)])=true:=by
 unfold fitE at h
 rw[Tt]at h
 obtain⟨h1,h2⟩:=h
 refine⟨λd hd e=>?_,?_⟩
 ·rw[SD,RL]at h1
  have:=h1 d hd
  rw[Ti e,RX,Bool.not_eq_true]at this
  rw[<-this]
  exact(W7 (c:=(slot,o,a,b,id)) (c':=(0,0,a,b,0)) rfl rfl).2
 ·rw[<-h2,YcD (c':=(slot,o,a,b,id)) rfl rfl,YcD (c:=(0,0,a,b,0)) (c':=(slot,o,a,b,id)) rfl rfl]
theorem YqH(h:fitE n l slot o a b=true)(id:Int):(slot,o,a,b,id)∉l:=λhm=>by
 have:=(Yhs h id).1 _ hm rfl
 grind [YE]
theorem YhF{m d:Int}(h:Zh n m d=true):XJ n m d=true:=by
 simp_all [Zh]
theorem Sm.ins{l:List Flw}(h:Sm n l s){id:Int}(hs:0<=slot/\slot<s.len)(ho:0<=o/\o<s.off)(hg:YX n a b=true)(hid:0<=Zv l id)(hib:0<=id/\id<256)(hfit:fitE n s.cells slot o a b=true):
 Sm n l ⟨s.len,s.off,insC s.cells (slot,o,a,b,id)⟩:=by
 have hok:=YN h.ck
 have hgn:=Xr hok hg
 have hn:=hok.n1
 obtain⟨ht,hgl⟩:=Yhs hfit id
 have hnew:=YqH hfit id
 have hperm:=YhL s.cells (slot,o,a,b,id)
 refine⟨h.ck,h.fl,h.per,h.sized,λc hc=>?_,YqW h.ord hnew,λc hc=>?_,?_,λc hc=>?_⟩
 ·rcases Ol.1 hc with rfl|hc
  ·grind [XC,XE,insE]
  ·exact h.formed c hc
 ·rcases Ol.1 hc with rfl|hc
  ·exact⟨hg,hid⟩
  ·exact h.good c hc
 ·refine(hperm.pairwise_iff (λ{x y} hxy e=>by rw[Z7];simp_all)).2 (.cons (λd hd e=>?_) h.once)
  rw[Z7]
  grind
 ·by_cases hp:c.1=slot/\c.2.1=o
  ·have hX:(s.cells.filter (atP slot o)++[(slot,o,a,b,id)]).Nodup:=by
    rw[Nq]
    refine⟨(Ye8 h.ord).sublist SL,by simp,λx hx y hy e=>?_⟩
    rw[Rk.1 hy]at e
    subst e
    exact hnew (RH.1 hx).1
   generalize hXe:s.cells.filter (atP slot o)++[(slot,o,a,b,id)]=X at hX hgl
   have hcX:c∈X:=by
    rw[<-hXe]
    rcases Ol.1 hc with rfl|hc
    ·simp
    ·exact List.mem_append_left _ (RH.2 ⟨hc,Ti hp⟩)
   obtain⟨j,hj⟩:=TO.1 hcX
   have hjl:=(Tn.1 hj).1
   have hd:∀node,Yz n X j node X.length=Um n (insC s.cells (slot,o,a,b,id)) c node:=λnode=>by
    rw[Ycg hX hj node _ (TQ _),TC]
    refine Yfn ?_
    have e1:(insC s.cells (slot,o,a,b,id)).filter (λd=>Xb c d&&decide (d≠c))=((insC s.cells (slot,o,a,b,id)).filter (Xb c)).filter λd=>decide (d≠c):=by
     rw[List.filter_filter]
     exact Np λx _=>Bool.and_comm _ _
    rw[e1]
    refine List.Perm.filter _ ?_
    have e2:Xb c=atP slot o:=by
     obtain⟨rfl,rfl⟩:=hp
     rfl
    rw[e2,<-hXe]
    refine List.Perm.trans ?_ (hperm.filter _).symm
    rw[Nb,Tm (show atP slot o (slot,o,a,b,id)=true from Ti ⟨rfl,rfl⟩)]
    exact SY
   unfold Jm at hgl
   rw[Tt]at hgl
   have hpf:=Rf.1 hgl.2 j (Ro.2 hjl)
   simp_all [celL,Zy,Vt,YhF]
  ·have hcs:c∈s.cells:=by
    rcases Ol.1 hc with rfl|hc
    ·exact absurd ⟨rfl,rfl⟩ hp
    ·exact hc
   have hd:∀node,Um n (insC s.cells (slot,o,a,b,id)) c node=Um n s.cells c node:=λnode=>by
    unfold Um
    refine(Yfn (hperm.filter _)).trans ?_
    rw[Nb,Tf]
    rw[Tt]
    rintro⟨h1,-⟩
    exact hp (by have:=TR h1;exact⟨this.1.symm,this.2.symm⟩)
   have:=h.clear c hcs
   unfold Vt at this⊢
   rw[hd,hd]
   exact this
end Go.Proofs.YtjlgijpmnfabcaaGreatDoor
namespace Go.Eng
open Go.RowKit
end Go.Eng
namespace Go.Proofs.YtjlgijpmnfabcaaGreatDoor
open Go.RowKit Go.Eng Go.Nw Go.Rt
theorem W0(q:List RqM){A:Option Addr}{cap B:Nat}{w0:World}{H:List HP}{w:World}(hl:q.length<=1000000000000)(hr:Rd B w0 H A (q.flatMap rqF))(hw:St B w0 H w):
 CX B w0 64 [.slice A q.length cap] w λv K=>∃A2 cap2,v=.slice A2 (RqM.fl q).length cap2/\K=flws A2 cap2 (RqM.fl q)::H:=by
 refine Yc Tryz.func64 Tryz.ntmps64 rfl rfl hw ?_
 repeat'(first|(apply Yr T;exact rfl;exact rfl;intro g2)|apply(zs2 ?_)|apply(zs65 ?_)|apply(zs68 ?_)|apply(zs69 ?_)|apply(zs70 ?_)|apply(zs73 ?_)|fail)
 refine Yf (λz:FlM=>[(4,.int .i64 (z.i:Nat)),(3,.slice z.A (RqM.fl (q.take z.i)).length z.cap),(0,.slice A q.length cap)]) (λz=>flws z.A z.cap (RqM.fl (q.take z.i))::H) (λz=>z.i<=q.length) (λz=>q.length-z.i) ⟨0,some ⟨g2,0,none⟩,0⟩ (Tc _) ?_ (λw hw=>hw) ?_
 ·exact zu
 rintro⟨i,A2,cap2⟩ hi K hK
 dsimp only at hi⊢
 have hlen:(RqM.fl (q.take i)).length=i:=by grind [Go.Proofs.YtjlgijpmnfabcaaGreatDoor.RqM.fl]
 have hr':=hr.cons (X:=flws A2 cap2 (RqM.fl (q.take i)))
 by_cases hlt:i<q.length
 ·obtain⟨x,hx⟩:∃x,q[i]? =some x:=⟨_,Ta hlt⟩
  have hst:RqM.fl (q.take (i+1))=RqM.fl (q.take i)++[x.f]:=by grind [Go.Proofs.YtjlgijpmnfabcaaGreatDoor.RqM.fl,TB]
  repeat'(first|(apply Vr T (vs:=[.int .i64 x.f.1,.int .i64 x.f.2.1,.int .i64 x.f.2.2.1,.int .i64 x.f.2.2.2.1,.int .i64 x.f.2.2.2.2.1,.int .i64 x.f.2.2.2.2.2]);exact rfl;exact hr';exact hx;exactλ_=>rfl;(iterate 6 exact rfl))|apply(zs1 ?_)|apply(zs2 ?_)|(apply zg2;refine zs58 ?_)|(apply zg4;refine zs9 ?_)|(apply zg5;refine zs57 ?_)|(apply(zs17 ?_ ?_)<;>intro _<;>try exact zo)|(apply zg13;refine zs30 ?_)|(apply zg21;(refine zs49 ?_;intro _ _))|(apply zg26;(refine zs56 ?_;intro _))|apply(zs65 ?_)|apply(zs68 ?_)|apply(zs69 ?_)|apply(zs70 ?_)|(apply zg27;refine zs71 ?_)|apply(zs73 ?_)|apply(zs76 ?_)|apply(zs79 ?_)|fail)
  rename_i A' cap'
  rw[Up,<-hst,show(RqM.fl (q.take i)).length+1=(RqM.fl (q.take (i+1))).length from by rw[hst];simp]
  apply hK ⟨i+1,A',cap'⟩
  ·show i+1<=_
   omega
  ·dsimp only;omega
  ·exact zu
  ·exact zk
 ·obtain rfl:i=q.length:=by omega
  rw[TC]
  repeat'(first|apply(zs1 ?_)|apply(zs2 ?_)|(apply zg4;refine zs9 ?_)|(apply(zs17 ?_ ?_)<;>intro _<;>try exact zo)|apply(zs65 ?_)|apply(zs68 ?_)|apply(zs69 ?_)|apply(zs70 ?_)|(apply zg27;refine zs72 ?_)|apply(zs74 ?_)|apply(zs75 ?_)|apply(zs80 ?_)|apply(zs81 ?_)|fail)
  apply Yd;exact rfl;exact rfl
  exact⟨A2,cap2,rfl,rfl⟩
abbrev flwB(g:Nat)(f:Flw):HP:=blk g (.cells #[.int .i64 f.1,.int .i64 f.2.1,.int .i64 f.2.2.1,.int .i64 f.2.2.2.1,.int .i64 f.2.2.2.2.1,.int .i64 f.2.2.2.2.2] 66 (0,0))
theorem YeP{nodes:Int}{l:List Flw}(h:(YA nodes l).2=0):∀{i j:Nat},i<j->j<l.length->(Y3 l i).1<(Y3 l j).1:=by
 have hstep:∀j,0<j->j<l.length->(Y3 l (j-1)).1<(Y3 l j).1:=λj h0 hj=>by
  unfold YA at h
  split at h
  ·cases h
  split at h
  ·cases h
  have:=YF.1 h j (Tc _) (by omega)
  unfold YT at this
  split at this
  ·contradiction
  split at this
  ·cases this
  ·omega
 intro i j hij hj
 induction j with
 |zero=>omega
 |succ j ih=>
  have h1:=hstep (j+1) (by omega) hj
  rw[SR]at h1
  rcases SE i j with h2|h2
  ·have:=ih h2 (by omega);omega
  ·obtain rfl:i=j:=by omega
   exact h1
theorem max_le:∀(l:List Int) (a m:Int),a<=m->(∀z∈l,z<=m)->l.foldl (λx y=>if x<y then y else x) a<=m
 |[],_,_,h,_=>h
 |z::l,a,m,h,hl=>by
  rw[List.foldl_cons]
  refine max_le l _ m ?_ λy hy=>hl y (TP _ hy)
  have:=hl z TM
  split<;>omega
structure Grow(id:Int)(s t:Sch):Prop where
 len:t.len=s.len
 off:t.off=s.off
 sub:∀c∈s.cells,c∈t.cells
 oth:∀p:Cel->Bool,(∀c,Zw c=id->p c=false)->t.cells.filter p=s.cells.filter p
theorem Grow.refl(id:Int)(s:Sch):Grow id s s:=⟨rfl,rfl,λ_ h=>h,λ_ _=>rfl⟩
variable {id a b:Int}{s t u:Sch}
theorem Grow.trans(h:Grow id s t)(k:Grow id t u):Grow id s u:=⟨k.len.trans h.len,k.off.trans h.off,λc hc=>k.sub c (h.sub c hc),λp hp=>(k.oth p hp).trans (h.oth p hp)⟩
structure LkOk(n:Net)(l:List Flw)(a b id:Int):Prop where
 g:YX n a b=true
 f:0<=Zv l id
 i:0<=id/\id<256
theorem YiD{n:Net}{l:List Flw}{slot:Int}(h:Sm n l s)(hk:LkOk n l a b id)(hs:0<=slot/\slot<s.len)(ht:Js n s a b id slot=some t):Sm n l t/\Grow id s t/\hasC t.cells slot a b id=true:=by
 unfold Js at ht
 by_cases hh:hasC s.cells slot a b id=true
 ·rw[Tm hh]at ht
  obtain rfl:=Tz ht
  exact⟨h,.refl _ _,hh⟩
 rw[Tf hh]at ht
 cases hf:(List.range s.off.toNat).find? λo:Nat=>fitE n s.cells slot o a b with
 |none=>rw[hf]at ht;cases ht
 |some o=>
  rw[hf]at ht
  obtain rfl:=Tz ht
  have h1:=List.find?_some hf
  have h2:=Ro.1 (List.mem_of_find?_eq_some hf)
  refine⟨h.ins hs (by omega) hk.g hk.f hk.i h1,⟨rfl,rfl,λc hc=>Ol.2 (.inr hc),λp hp=>?_⟩,?_⟩
  ·show(insC s.cells (slot,(o:Int),a,b,id)).filter p=_
   unfold insC
   rw[Su,Nb,Tf (by rw[hp _ rfl];decide),<-Su,RG]
  ·exact TZ.2 ⟨(slot,(o:Int),a,b,id),Ol.2 (.inl rfl),Ti ⟨rfl,rfl,rfl,rfl⟩⟩
structure Sup(t u:Sch):Prop where
 len:u.len=t.len
 sub:∀c∈t.cells,c∈u.cells
theorem Grow.sup(h:Grow id s t)(k:Sup t u):Sup s u:=⟨k.len.trans h.len,λc hc=>k.sub c (h.sub c hc)⟩
theorem YqI{loss z:Int}(h:hasC u.cells (z.tmod u.len) a b id=true):1<=slC u.len (VB u id (a,b,loss)) z:=by
 obtain⟨d,hd,h1⟩:=TZ.1 h
 have h1:=TR h1
 refine List.length_pos_of_mem (a:=d) (RH.2 ⟨RH.2 ⟨hd,Ti ⟨h1.2.2.2,h1.2.1,h1.2.2.1⟩⟩,Ti h1.1⟩)
theorem YfX{n:Net}{l:List Flw}{a b id:Int}(hk:LkOk n l a b id)(loss:Int):∀(f k:Nat) {s t:Sch}{z y:Int},Sm n l s->0<=z->1<=s.len->hopA n a b id f k s z=some (t,y)->
 Sm n l t/\Grow id s t/\(z<=y/\y<=z+f)/\∀u,Sup t u->k<=cntS u.len (VB u id (a,b,loss)) (y-z).toNat z
 |0,0,s,t,z,y,h,_,_,e=>by
  obtain⟨rfl,rfl⟩:=Nx (Tz (show some (s,z)=some (t,y) from e))
  exact⟨h,.refl _ _,by omega,λu _=>Tc _⟩
 |f+1,0,s,t,z,y,h,_,_,e=>by
  obtain⟨rfl,rfl⟩:=Nx (Tz (show some (s,z)=some (t,y) from e))
  exact⟨h,.refl _ _,by omega,λu _=>Tc _⟩
 |0,k+1,s,t,z,y,h,_,_,e=>by cases e
 |f+1,k+1,s,t,z,y,h,hz,hl,e=>by
  rw[hopA]at e
  have hm:0<=z.tmod s.len/\z.tmod s.len<s.len:=by
   rw[Rb hz]
   exact⟨Int.emod_nonneg _ (by omega),Int.emod_lt_of_pos _ (by omega)⟩
  cases hs:Js n s a b id (z.tmod s.len)with
  |none=>
   rw[hs]at e
   obtain⟨h1,h2,h3,h4⟩:=YfX hk loss f (k+1) h (show 0<=z+1 by omega) hl e
   refine⟨h1,h2,by omega,λu hu=>?_⟩
   have:=h4 u hu
   rw[show(y-z).toNat=(y-(z+1)).toNat+1 by omega,cntS]
   omega
  |some t1=>
   rw[hs]at e
   obtain⟨g1,g2,g3⟩:=YiD h hk hm hs
   obtain⟨h1,h2,h3,h4⟩:=YfX hk loss f k g1 (show 0<=z+1 by omega) (by rw[g2.len];exact hl) e
   refine⟨h1,g2.trans h2,by omega,λu hu=>?_⟩
   have:=h4 u hu
   have hsu:=(g2.trans h2).sup hu
   have h5:1<=slC u.len (VB u id (a,b,loss)) z:=YqI (by
    obtain⟨d,hd,h6⟩:=TZ.1 g3
    refine TZ.2 ⟨d,(h2.sup hu).sub d hd,?_⟩
    rw[hsu.len];exact h6)
   rw[show(y-z).toNat=(y-(z+1)).toNat+1 by omega,cntS]
   omega
theorem Yls{n:Net}{l:List Flw}{id endd:Int}:∀(ls:List Lk) {s t:Sch}{z:Int},(∀x∈ls,LkOk n l x.1 x.2.1 id)->Sm n l s->0<=z->z<=endd->1<=s.len->relA n id endd ls s z=some t->
 Sm n l t/\Grow id s t/\∀u,Sup t u->∃y,y<=endd/\WayT u.len (VB u id) ls z y
 |[],s,t,z,_,h,_,hze,_,e=>by
  obtain rfl:=Tz (show some s=some t from e)
  exact⟨h,.refl _ _,λu _=>⟨z,hze,RS _⟩⟩
 |x::ls,s,t,z,hk,h,hz,hze,hl,e=>by
  rw[relA]at e
  cases hs:hopA n x.1 x.2.1 id (endd-z).toNat (Y6 x) s z with
  |none=>rw[hs]at e;cases e
  |some w=>
   obtain⟨t1,y1⟩:=w
   rw[hs]at e
   obtain⟨g1,g2,g3,g4⟩:=YfX (hk x TM) x.2.2 _ _ h hz hl hs
   obtain⟨h1,h2,h3⟩:=Yls ls (λy hy=>hk y (TP _ hy)) g1 (by omega) (by omega) (by rw[g2.len];exact hl) e
   refine⟨h1,g2.trans h2,λu hu=>?_⟩
   obtain⟨y,k1,k2⟩:=h3 u hu
   exact⟨y,k1,y1,g3.1,g4 u (h2.sup hu),k2⟩
open Go.RowKit Go.Eng Go.Nw
variable {B cap:Nat}{w0 w:World}{H:List HP}
theorem NetM.In.inM{K:List HP}{n:NetM}(h:n.In B w0 H)(hm:Eng.many H∈K):n.In B w0 K:=
 ⟨h.pw.inM hm,λr hr=>(h.rw_ r hr).inM hm,h.lk.inM hm,h.mg.inM hm,h.s1,h.s2,h.s3,h.s4⟩
theorem Ygx(a b:Cel)(hw:St B w0 H w):
 CX B w0 460 [celV a,celV b] w λv K=>v=.bool (YE a b)/\K=H:=by
 refine Yc Tryz.func460 Tryz.ntmps460 rfl rfl hw ?_
 have htc:YE a b=true↔(a.2.2.1=b.2.2.1\/a.2.2.1=b.2.2.2.1\/a.2.2.2.1=b.2.2.1\/a.2.2.2.1=b.2.2.2.1):=by unfold YE YM toC;simp_all
 obtain⟨z,hz⟩:∃z,YE a b=z:=⟨_,rfl⟩
 rw[hz]at htc⊢
 repeat'(first|apply(zs1 ?_)|apply(zs2 ?_)|(apply zg1;first|refine zs3 ?_|refine zs4 ?_)|(apply zg2;refine zs6 ?_)|(apply zg3;refine zs7 ?_)|(apply zg6;first|refine zs11 ?_|refine zs12 ?_)|(apply zg7;(refine zs15 ?_ ?_<;>intro _<;>try exact zo))|(apply zg23;(refine zs52 ?_;intro _))|apply(zs65 ?_)|apply(zs68 ?_)|apply(zs69 ?_)|apply(zs70 ?_)|apply(zs74 ?_)|fail)
 all_goals(
  apply Yg H
  ·exact zk
  apply Yd;exact rfl;exact rfl
  cases z<;>simp at htc<;>first|exact⟨rfl,rfl⟩|(exfalso;omega))
def VS(_:Net)(l:List Cel)(i:Nat)(c:Cel)(k:Nat):Bool:=(List.range k).any λj=>decide (j≠i)&&YE c (celL l j)
theorem YaT(n:NetM)(l:List Cel)(i:Nat)(gn gl gi:Nat)(A:Option Addr)(cap:Nat)(lk node:Int)(hok:Ok n.net)(hnode:0<=node/\node<n.nodes)(hlk:0<=lk/\lk.toNat<n.net.links.length)(hlen:l.length<=1000)(hin:n.In B w0 H)(hr:Rd B w0 H A (l.flatMap celF))
 (h1:netN gn n∈H) (h2:blk gl (.cells #[.slice A l.length cap] 28 (0,0))∈H) (h3:blk gi (.cells #[.int .i64 i] 3 (0,0))∈H) (hw:St B w0 H w):
 CX B w0 461 [.int .i64 lk,.int .i64 node,.pointer (some ⟨gn,0,none⟩),.pointer (some ⟨gl,0,none⟩),.pointer (some ⟨gi,0,none⟩)] w λv K=>v=.bool (Zh n.net (mar n.net lk.toNat) (Yz n.net l i node l.length))/\K=H:=by
 refine Yc Tryz.func461 Tryz.ntmps461 rfl rfl hw ?_
 have hmg:=hin.mg
 have hs4:=hin.s4
 have hml:n.margin.length=n.net.links.length:=hok.k1
 have hm1:n.margin[lk.toNat]? =some (mar n.net lk.toNat):=zc31
 have p1:=λ{w:World}(hw:St B w0 H w)=>Ych n l i node hok hnode hlen (cap:=cap) hin hr hw
 obtain⟨d,hd⟩:∃d,Yz n.net l i node l.length=d:=⟨_,rfl⟩
 rw[hd]at p1⊢
 have p2:=λ{w:World}(hw:St B w0 H w)=>OY n (mar n.net lk.toNat) d hin hw
 unfold netN at h1
 repeat'(first|apply(zs2 ?_)|apply(zs65 ?_)|apply(zs68 ?_)|apply(zs69 ?_)|apply(zs70 ?_)|fail)
 apply Y7 [0,1,2,3,4,5,6,7,8,9,10,11,12] []
 kernel_rfl
 kernel_rfl
 (simp only[Yh,nthO];rfl)
 exact rfl
 repeat'(first|apply(zs1 ?_)|(apply zg2;refine zs6 ?_)|(apply zg3;first|refine zs7 ?_|refine zs8 ?_|refine zs60 ?_)|(apply zg5;refine zs57 ?_)|apply(zs87 ?_)|fail)
 first|apply Ya Yla|apply Yb Yla
 exact za
 exact rfl
 exactλ_ hw=>(p1 hw)
 repeat'(first|apply(zs65 ?_)|apply(zs87 ?_)|(apply Yj;(repeat(first|with_reducible exact Y5|(with_reducible apply YY;(repeat(first|with_reducible exact YD|with_reducible apply YO))))))|fail)
 ·show Perm H (H++[])
  exact zc33
 repeat'(first|fail)
 first|apply Ya Wl|apply Yb Wl
 exact za
 exact rfl
 exactλ_ hw=>(p2 hw)
 repeat'(first|apply(zs2 ?_)|apply(zs65 ?_)|(apply Jf;exact zp)|apply(zs68 ?_)|apply(zs74 ?_)|(apply Yj;(repeat(first|with_reducible exact Y5|(with_reducible apply YY;(repeat(first|with_reducible exact YD|with_reducible apply YO))))))|apply(zs93 ?_)|apply(zs94 ?_)|fail)
 ·show Perm H (H++[])
  exact zc33
 repeat'(first|fail)
 exact zc13
variable {A:Option Addr}
theorem Yho(n:NetM)(l:List Cel)(i:Nat)(hck:Ym n.net=0)(hi:i<l.length)(hlen:l.length<=1000)(hin:n.In B w0 H)(hr:Rd B w0 H A (l.flatMap celF))(hw:St B w0 H w):
 CX B w0 458 [n.val,.slice A l.length cap,.int .i64 i] w λv K=>v=.bool (Zy n.net l i)/\K=H:=by
 refine Yc Tryz.func458 Tryz.ntmps458 rfl rfl hw ?_
 have hok:=YN hck
 have hget:l[i]? =some (celL l i):=by unfold celL;rw[TA,Ta hi];rfl
 obtain⟨c,hc⟩:∃c,celL l i=c:=⟨_,rfl⟩
 rw[hc]at hget
 have p1:=λ{H':List HP}{w:World}(hin:n.In B w0 H') (hw:St B w0 H' w)=>Zi n c.2.2.1 c.2.2.2.1 hin hw
 have p2:=λ{H':List HP}{w:World}(hin:n.In B w0 H') (hw:St B w0 H' w)=>Zi n c.2.2.2.1 c.2.2.1 hin hw
 have hix:∀u v:Int,Zb n.net u v=Yu n.net u v:=λu v=>by unfold Zb;rw[Tf (by omega)]
 have hus:=YiP hck c.2.2.1 c.2.2.2.1
 have p3:=λ{H':List HP}{w:World}(hin:n.In B w0 H') (hw:St B w0 H' w)=>VK n (Zb n.net c.2.2.1 c.2.2.2.1) hin hw
 rw[hus]at p3
 have hP:Zy n.net l i=(!(YX n.net c.2.2.1 c.2.2.2.1)||VS n.net l i c l.length||(!(Zh n.net (mar n.net (Yu n.net c.2.2.1 c.2.2.2.1).toNat) (Yz n.net l i c.2.2.2.1 l.length))||!(Zh n.net (mar n.net (Yu n.net c.2.2.2.1 c.2.2.1).toNat) (Yz n.net l i c.2.2.1 l.length)))):=by
  unfold Zy VS
  rw[hc,show JQ n.net (Zb n.net (YM c) (toC c))=YX n.net c.2.2.1 c.2.2.2.1 from hus]
  rfl
 rw[hP]
 by_cases hg:YX n.net c.2.2.1 c.2.2.2.1=true
 rotate_left
 ·have hg:YX n.net c.2.2.1 c.2.2.2.1=false:=by simpa using hg
  rw[hg]at p3⊢
  repeat'(first|apply(zs2 ?_)|(apply zg3;first|refine zs7 ?_|refine zs61 ?_)|(apply zg5;refine zs57 ?_)|(apply zg22;refine zs51 ?_)|(apply zg23;first|(refine zs52 ?_;intro _)|(refine zs53 ?_;intro _))|(apply zg24;(refine zs54 ?_;intro _))|apply(zs65 ?_)|apply(zs68 ?_)|apply(zs69 ?_)|apply(zs70 ?_)|fail)
  rename_i gn gl gi gc
  apply YG [0,1,2,3,4,6,7,8,9,10,5,11,12,13] [] [true,false,false,true]
  kernel_rfl
  kernel_rfl
  exact zy
  (simp only[Yh,nthO];rfl)
  exact rfl
  repeat'(first|(apply zg2;refine zs6 ?_)|(apply zg3;first|refine zs7 ?_|refine zs8 ?_)|apply(zs87 ?_)|fail)
  first|apply Ya en69|apply Yb en69
  exact za
  exact rfl
  exactλ_ hw=>(p1 zc32 hw)
  repeat'(first|apply(zs65 ?_)|apply(zs87 ?_)|(apply Yj;(repeat(first|with_reducible exact Y5|(with_reducible apply YY;(repeat(first|with_reducible exact YD|with_reducible apply YO))))))|fail)
  first|apply Ya en69|apply Yb en69
  exact za
  exact rfl
  exactλ_ hw=>(p2 zc32 hw)
  repeat'(first|apply(zs1 ?_)|apply(zs2 ?_)|(apply zg3;refine zs8 ?_)|apply(zs65 ?_)|(apply Jf;exact zp)|apply(zs68 ?_)|apply(zs69 ?_)|apply(zs70 ?_)|(apply Yj;(repeat(first|with_reducible exact Y5|(with_reducible apply YY;(repeat(first|with_reducible exact YD|with_reducible apply YO))))))|apply(zs93 ?_)|apply(zs94 ?_)|fail)
  first|apply Ya Jz|apply Yb Jz
  exact za
  exact rfl
  exactλ_ hw=>(p3 zc32 hw)
  repeat'(first|apply(zs2 ?_)|(apply zg20;refine zs48 ?_)|apply(zs65 ?_)|apply(zs68 ?_)|apply(zs69 ?_)|apply(zs70 ?_)|(apply zg27;refine zs71 ?_)|apply(zs74 ?_)|apply(zs77 ?_)|fail)
  apply Yg H
  ·exact zc0
  exact zc3
 rw[hg]at p3⊢
 obtain⟨⟨f0,f1⟩,⟨t0,t1⟩,_,k1,k2⟩:(0<=c.2.2.1/\c.2.2.1<n.net.nodes)/\(0<=c.2.2.2.1/\c.2.2.2.1<n.net.nodes)/\c.2.2.1≠c.2.2.2.1/\0<=Yu n.net c.2.2.1 c.2.2.2.1/\0<=Yu n.net c.2.2.2.1 c.2.2.1:=Xr hok hg
 have x1:=XM k1
 have x2:=XM k2
 rw[hix]at p1 p2 p3
 obtain⟨i1,hi1⟩:∃z,Yu n.net c.2.2.1 c.2.2.2.1=z:=⟨_,rfl⟩
 obtain⟨i2,hi2⟩:∃z,Yu n.net c.2.2.2.1 c.2.2.1=z:=⟨_,rfl⟩
 rw[hi1]at p1 p3 k1 x1⊢
 rw[hi2]at p2 k2 x2⊢
 have q1:=λ{H':List HP}{w:World}(gn gl gi:Nat) (hin:n.In B w0 H') (hr:Rd B w0 H' A (l.flatMap celF)) (h1:netN gn n∈H') (h2:blk gl (.cells #[.slice A l.length cap] 28 (0,0))∈H') (h3:blk gi (.cells #[.int .i64 i] 3 (0,0))∈H') (hw:St B w0 H' w)=>YaT n l i gn gl gi A cap i1 c.2.2.2.1 hok ⟨t0,t1⟩ ⟨k1,x1⟩ hlen hin hr h1 h2 h3 hw
 have q2:=λ{H':List HP}{w:World}(gn gl gi:Nat) (hin:n.In B w0 H') (hr:Rd B w0 H' A (l.flatMap celF)) (h1:netN gn n∈H') (h2:blk gl (.cells #[.slice A l.length cap] 28 (0,0))∈H') (h3:blk gi (.cells #[.int .i64 i] 3 (0,0))∈H') (hw:St B w0 H' w)=>YaT n l i gn gl gi A cap i2 c.2.2.1 hok ⟨f0,f1⟩ ⟨k2,x2⟩ hlen hin hr h1 h2 h3 hw
 obtain⟨b1,hb1⟩:∃b,Zh n.net (mar n.net i1.toNat) (Yz n.net l i c.2.2.2.1 l.length)=b:=⟨_,rfl⟩
 obtain⟨b2,hb2⟩:∃b,Zh n.net (mar n.net i2.toNat) (Yz n.net l i c.2.2.1 l.length)=b:=⟨_,rfl⟩
 rw[hb1]at q1⊢
 rw[hb2]at q2⊢
 repeat'(first|apply(zs2 ?_)|(apply zg3;first|refine zs7 ?_|refine zs61 ?_)|(apply zg5;refine zs57 ?_)|(apply zg22;refine zs51 ?_)|(apply zg23;first|(refine zs52 ?_;intro _)|(refine zs53 ?_;intro _))|(apply zg24;(refine zs54 ?_;intro _))|apply(zs65 ?_)|apply(zs68 ?_)|apply(zs69 ?_)|apply(zs70 ?_)|fail)
 rename_i gn gl gi gc
 apply YG [0,1,2,3,4,6,7,8,9,10,5,11,12,13] [] [true,false,false,true]
 kernel_rfl
 kernel_rfl
 exact zy
 (simp only[Yh,nthO];rfl)
 exact rfl
 repeat'(first|(apply zg2;refine zs6 ?_)|(apply zg3;first|refine zs7 ?_|refine zs8 ?_)|apply(zs87 ?_)|fail)
 first|apply Ya en69|apply Yb en69
 exact za
 exact rfl
 exactλ_ hw=>(p1 zc32 hw)
 repeat'(first|apply(zs65 ?_)|apply(zs87 ?_)|(apply Yj;(repeat(first|with_reducible exact Y5|(with_reducible apply YY;(repeat(first|with_reducible exact YD|with_reducible apply YO))))))|fail)
 first|apply Ya en69|apply Yb en69
 exact za
 exact rfl
 exactλ_ hw=>(p2 zc32 hw)
 repeat'(first|apply(zs1 ?_)|apply(zs2 ?_)|(apply zg3;refine zs8 ?_)|apply(zs65 ?_)|(apply Jf;exact zp)|apply(zs68 ?_)|apply(zs69 ?_)|apply(zs70 ?_)|(apply Yj;(repeat(first|with_reducible exact Y5|(with_reducible apply YY;(repeat(first|with_reducible exact YD|with_reducible apply YO))))))|apply(zs93 ?_)|apply(zs94 ?_)|fail)
 first|apply Ya Jz|apply Yb Jz
 exact za
 exact rfl
 exactλ_ hw=>(p3 zc32 hw)
 repeat'(first|apply(zs1 ?_)|(apply zg3;refine zs7 ?_)|(apply zg4;refine zs9 ?_)|(apply zg20;refine zs47 ?_)|apply(zs65 ?_)|apply(zs68 ?_)|apply(zs69 ?_)|apply(zs70 ?_)|(apply zg27;refine zs72 ?_)|apply(zs73 ?_)|apply(zs76 ?_)|fail)
 refine Yf (λ(k:Nat)=>[(35,.int .i64 k),(34,.int .i64 l.length),(33,.slice A l.length cap),(3,.pointer (some ⟨gn,0,none⟩)),(4,.pointer (some ⟨gl,0,none⟩)),(5,.pointer (some ⟨gi,0,none⟩)),(7,.pointer (some ⟨gc,0,none⟩)),(8,.int .i64 i1),(9,.int .i64 i2)])
  (λ_=>blk gc (.cells #[.int .i64 c.1,.int .i64 c.2.1,.int .i64 c.2.2.1,.int .i64 c.2.2.2.1,.int .i64 c.2.2.2.2] 48 (0,0))::blk gi (.cells #[.int .i64 i] 3 (0,0))::blk gl (.cells #[.slice A l.length cap] 28 (0,0))::netN gn n::H) (λk=>k<=l.length/\VS n.net l i c k=false) (λk=>l.length-k) 0 ⟨Tc _,rfl⟩ ?_ ?_ ?_
 ·exact zc1
 ·unfold netN
  exact zc0
 rintro k ⟨hk,hno⟩ K hK
 have hrc:Rd B w0 (blk gc (.cells #[.int .i64 c.1,.int .i64 c.2.1,.int .i64 c.2.2.1,.int .i64 c.2.2.2.1,.int .i64 c.2.2.2.2] 48 (0,0))::blk gi (.cells #[.int .i64 i] 3 (0,0))::blk gl (.cells #[.slice A l.length cap] 28 (0,0))::netN gn n::H) A (l.flatMap celF):=hr.cons.cons.cons.cons
 by_cases hlt:k<l.length
 ·have hgk:l[k]? =some (celL l k):=Ytj
  have hst:VS n.net l i c (k+1)=(VS n.net l i c k||(decide (k≠i)&&YE c (celL l k))):=by
   unfold VS
   rw[RI,Nj]
   simp
  obtain⟨d,hd⟩:∃d,celL l k=d:=⟨_,rfl⟩
  rw[hd]at hgk hst
  have p4:=λ{H':List HP}{w:World}(hw:St B w0 H' w)=>Ygx c d hw
  unfold netN at hrc⊢
  obtain⟨t,ht⟩:∃t,YE c d=t:=⟨_,rfl⟩
  rw[ht]at p4 hst
  rw[hno,Nu]at hst
  by_cases hki:k=i
  ·rw[Tj (λh=>h hki),Bool.false_and]at hst
   repeat'(first|apply(zs1 ?_)|apply(zs2 ?_)|(apply zg1;refine zs3 ?_)|(apply zg3;first|refine zs7 ?_|refine zs61 ?_)|(apply zg5;refine zs57 ?_)|(apply zg6;refine zs12 ?_)|(apply zg8;(refine zs16 ?_ ?_<;>intro _<;>try exact zo))|(apply(zs17 ?_ ?_)<;>intro _<;>try exact zo)|(apply zg13;refine zs30 ?_)|(apply zg22;refine zs51 ?_)|(apply zg24;(refine zs54 ?_;intro _))|apply(zs65 ?_)|apply(zs68 ?_)|apply(zs69 ?_)|apply(zs70 ?_)|(apply zg27;first|refine zs71 ?_|refine zs72 ?_)|apply(zs73 ?_)|apply(zs76 ?_)|apply(zs79 ?_)|fail)
   apply hK (k+1)
   ·exact YlK
   ·omega
   ·exact zc1
   ·unfold netN
    exact zc0
  rw[Ti hki,RX]at hst
  cases t with
  |false=>
   repeat'(first|((first|apply Ya Ylg|apply Yb Ylg);exact za;exact rfl;exactλ_ hw=>(p4 hw))|apply(zs1 ?_)|apply(zs2 ?_)|(apply zg1;refine zs4 ?_)|(apply zg3;first|refine zs7 ?_|refine zs8 ?_|refine zs61 ?_)|(apply zg5;refine zs57 ?_)|(apply zg6;refine zs11 ?_)|(apply zg8;(refine zs16 ?_ ?_<;>intro _<;>try exact zo))|(apply(zs17 ?_ ?_)<;>intro _<;>try exact zo)|(apply zg13;refine zs30 ?_)|(apply zg22;refine zs51 ?_)|(apply zg24;(refine zs54 ?_;intro _))|apply(zs65 ?_)|apply(zs68 ?_)|apply(zs69 ?_)|apply(zs70 ?_)|(apply zg27;first|refine zs71 ?_|refine zs72 ?_)|apply(zs73 ?_)|apply(zs76 ?_)|apply(zs79 ?_)|fail)
   apply hK (k+1)
   ·exact YlK
   ·omega
   ·exact zc1
   ·unfold netN
    exact zc0
  |true=>
   have hfa:VS n.net l i c l.length=true:=by
    unfold VS
    rw[TZ]
    exact⟨k,Ro.2 hlt,by rw[hd,ht,Ti hki];rfl⟩
   rw[hfa]
   repeat'(first|((first|apply Ya Ylg|apply Yb Ylg);exact za;exact rfl;exactλ_ hw=>(p4 hw))|apply(zs1 ?_)|apply(zs2 ?_)|(apply zg1;refine zs4 ?_)|(apply zg3;first|refine zs7 ?_|refine zs8 ?_|refine zs61 ?_)|(apply zg5;refine zs57 ?_)|(apply zg6;refine zs11 ?_)|(apply zg8;(refine zs16 ?_ ?_<;>intro _<;>try exact zo))|(apply(zs17 ?_ ?_)<;>intro _<;>try exact zo)|(apply zg22;refine zs51 ?_)|(apply zg24;(refine zs54 ?_;intro _))|apply(zs65 ?_)|apply(zs68 ?_)|apply(zs69 ?_)|apply(zs70 ?_)|(apply zg27;refine zs71 ?_)|apply(zs73 ?_)|apply(zs74 ?_)|apply(zs76 ?_)|apply(zs77 ?_)|apply(zs78 ?_)|fail)
   apply Yg H
   ·exact zc0
   exact zc3
 ·obtain rfl:k=l.length:=by omega
  rw[hno]
  clear hK
  unfold netN at hrc q1 q2⊢
  cases b1 with
  |false=>
   repeat'(first|apply(zs1 ?_)|apply(zs2 ?_)|(apply zg2;refine zs6 ?_)|(apply zg3;refine zs7 ?_)|(apply(zs17 ?_ ?_)<;>intro _<;>try exact zo)|apply(zs65 ?_)|apply(zs68 ?_)|apply(zs69 ?_)|apply(zs70 ?_)|(apply zg27;refine zs72 ?_)|apply(zs75 ?_)|apply(zs80 ?_)|apply(zs81 ?_)|(apply zg29;(apply Ys;exact za;exact rfl))|fail)
   first|apply YV (cs:=[.pointer (some ⟨gn,0,none⟩),.pointer (some ⟨gl,0,none⟩),.pointer (some ⟨gi,0,none⟩)])|apply Y2 (cs:=[.pointer (some ⟨gn,0,none⟩),.pointer (some ⟨gl,0,none⟩),.pointer (some ⟨gi,0,none⟩)])
   exact rfl
   exact Yoq
   exact za
   exact rfl
   exactλ_ hw=>q1 gn gl gi zc32 hrc (by(focus exact zc2)) (by(focus exact zc2)) (by(focus exact zc2)) hw
   repeat'(first|apply(zs1 ?_)|apply(zs2 ?_)|(apply zg1;refine zs3 ?_)|(apply zg6;refine zs11 ?_)|(apply zg20;refine zs48 ?_)|apply(zs65 ?_)|apply(zs68 ?_)|apply(zs74 ?_)|fail)
   apply Yg H
   ·exact zc0
   exact zc3
  |true=>
   cases b2<;>(
    repeat'(first|apply(zs1 ?_)|apply(zs2 ?_)|(apply zg2;refine zs6 ?_)|(apply zg3;refine zs7 ?_)|(apply(zs17 ?_ ?_)<;>intro _<;>try exact zo)|apply(zs65 ?_)|apply(zs68 ?_)|apply(zs69 ?_)|apply(zs70 ?_)|(apply zg27;refine zs72 ?_)|apply(zs75 ?_)|apply(zs80 ?_)|apply(zs81 ?_)|(apply zg29;(apply Ys;exact za;exact rfl))|fail)
    first|apply YV (cs:=[.pointer (some ⟨gn,0,none⟩),.pointer (some ⟨gl,0,none⟩),.pointer (some ⟨gi,0,none⟩)])|apply Y2 (cs:=[.pointer (some ⟨gn,0,none⟩),.pointer (some ⟨gl,0,none⟩),.pointer (some ⟨gi,0,none⟩)])
    exact rfl
    exact Yoq
    exact za
    exact rfl
    exactλ_ hw=>q1 gn gl gi (by repeat(first|exact hin|apply NetM.In.cons)) hrc zm zm zm hw
    repeat'(first|apply(zs1 ?_)|(apply zg1;refine zs4 ?_)|(apply zg2;refine zs6 ?_)|(apply zg3;refine zs7 ?_)|(apply zg20;refine zs47 ?_)|fail)
    first|apply YV (cs:=[.pointer (some ⟨gn,0,none⟩),.pointer (some ⟨gl,0,none⟩),.pointer (some ⟨gi,0,none⟩)])|apply Y2 (cs:=[.pointer (some ⟨gn,0,none⟩),.pointer (some ⟨gl,0,none⟩),.pointer (some ⟨gi,0,none⟩)])
    exact rfl
    exact Yoq
    exact za
    exact rfl
    exactλ_ hw=>q2 gn gl gi (by repeat(first|exact hin|apply NetM.In.cons)) hrc zm zm zm hw
    repeat'(first|apply(zs2 ?_)|(apply zg1;refine zs4 ?_)|(apply zg6;refine zs12 ?_)|(apply zg20;first|refine zs47 ?_|refine zs48 ?_)|apply(zs65 ?_)|apply(zs68 ?_)|apply(zs74 ?_)|fail)
    apply Yg H
    ·exact zk
    apply Yd;exact rfl;exact rfl;exact⟨rfl,rfl⟩)
def JT(n:Net)(l:List Cel)(k:Nat):Bool:=(List.range k).any (Zy n l)
theorem Yhr(n:NetM)(l:List Cel)(hck:Ym n.net=0)(hlen:l.length<=1000)(hin:n.In B w0 H)(hr:Rd B w0 H A (l.flatMap celF))(hw:St B w0 H w):
 CX B w0 455 [n.val,.slice A l.length cap] w λv K=>∃i:Int,v=.tuple #[.int .i64 i,.bool (JT n.net l l.length)]/\K=H:=by
 refine Yc Tryz.func455 Tryz.ntmps455 rfl rfl hw ?_
 have p1:=λ{H':List HP}{w:World}(hin:n.In B w0 H') (hw:St B w0 H' w)=>Y8 n hin hw
 rw[hck]at p1
 (apply Y0;apply YL;apply Yy;exact rfl;exact rfl;intro g)
 repeat'(first|((first|apply Ya en68|apply Yb en68);exact za;exact rfl;exactλ_ hw=>(p1 hin.cons hw))|apply(zs1 ?_)|apply(zs2 ?_)|(apply zg3;refine zs8 ?_)|(apply zg4;refine zs9 ?_)|(apply zg8;(refine zs16 ?_ ?_<;>intro _<;>try exact zo))|apply(zs65 ?_)|apply(zs68 ?_)|apply(zs69 ?_)|apply(zs70 ?_)|(apply zg27;refine zs72 ?_)|apply(zs73 ?_)|apply(zs76 ?_)|fail)
 refine Yf (λ(k:Nat)=>[(12,.int .i64 k),(11,.int .i64 l.length),(1,.slice A l.length cap),(2,.pointer (some ⟨g,0,none⟩))]) (λ_=>netN g n::H) (λk=>k<=l.length/\JT n.net l k=false) (λk=>l.length-k) 0 ⟨Tc _,rfl⟩ ?_ (λw hw=>hw) ?_
 ·exact zc1
 rintro k ⟨hk,hno⟩ K hK
 unfold netN
 by_cases hlt:k<l.length
 ·have p2:=λ{H':List HP}{w:World}(hin:n.In B w0 H') (hr:Rd B w0 H' A (l.flatMap celF)) (hw:St B w0 H' w)=>Yho n l k hck hlt hlen (cap:=cap) hin hr hw
  have hst:JT n.net l (k+1)=(JT n.net l k||Zy n.net l k):=by
   grind [JT]
  rw[hno,Nu]at hst
  cases hp:Zy n.net l k with
  |false=>
   rw[hp]at p2 hst
   repeat'(first|((first|apply Ya Ylf|apply Yb Ylf);exact za;exact rfl;exactλ_ hw=>(p2 hin.cons hr.cons hw))|apply(zs1 ?_)|apply(zs2 ?_)|(apply zg3;refine zs8 ?_)|(apply(zs17 ?_ ?_)<;>intro _<;>try exact zo)|(apply zg13;refine zs30 ?_)|apply(zs65 ?_)|apply(zs68 ?_)|apply(zs69 ?_)|apply(zs70 ?_)|(apply zg27;first|refine zs71 ?_|refine zs72 ?_)|apply(zs73 ?_)|apply(zs76 ?_)|apply(zs79 ?_)|fail)
   apply hK (k+1)
   ·exact YlK
   ·omega
   ·exact zc1
   ·unfold netN
    exact zc0
  |true=>
   rw[hp]at p2
   have hfa:JT n.net l l.length=true:=by
    unfold JT
    rw[TZ]
    exact⟨k,Ro.2 hlt,hp⟩
   rw[hfa]
   repeat'(first|((first|apply Ya Ylf|apply Yb Ylf);exact za;exact rfl;exactλ_ hw=>(p2 hin.cons hr.cons hw))|apply(zs1 ?_)|apply(zs2 ?_)|(apply zg3;refine zs8 ?_)|(apply(zs17 ?_ ?_)<;>intro _<;>try exact zo)|apply(zs65 ?_)|apply(zs68 ?_)|apply(zs69 ?_)|apply(zs70 ?_)|(apply zg27;refine zs71 ?_)|apply(zs73 ?_)|apply(zs74 ?_)|apply(zs76 ?_)|apply(zs77 ?_)|apply(zs78 ?_)|fail)
   apply Yg H
   ·exact zc0
   exact YpR
 ·obtain rfl:k=l.length:=by omega
  rw[hno]
  repeat'(first|apply(zs2 ?_)|(apply(zs17 ?_ ?_)<;>intro _<;>try exact zo)|apply(zs65 ?_)|apply(zs68 ?_)|apply(zs69 ?_)|apply(zs70 ?_)|(apply zg27;refine zs72 ?_)|apply(zs74 ?_)|apply(zs75 ?_)|apply(zs80 ?_)|apply(zs81 ?_)|fail)
  apply Yg H
  ·exact zc0
  exact YpR
theorem YhC{n:Net}{l:List Cel}(hck:Ym n=0):Jm n l=!(JT n l l.length):=by
 simp_all [Jm,JT,List.not_any_eq_all_not]
theorem YjD(n:NetM)(l:List Cel)(hck:Ym n.net=0)(hlen:l.length<=1000)(hin:n.In B w0 H)(hr:Rd B w0 H A (l.flatMap celF))(hw:St B w0 H w):
 CX B w0 449 [n.val,.slice A l.length cap] w λv K=>v=.bool (Jm n.net l)/\K=H:=by
 refine Yc Tryz.func449 Tryz.ntmps449 rfl rfl hw ?_
 have p1:=λ{H':List HP}{w:World}(hin:n.In B w0 H') (hw:St B w0 H' w)=>Y8 n hin hw
 rw[hck]at p1
 rw[YhC hck]
 repeat'(first|apply(zs1 ?_)|apply(zs2 ?_)|(apply zg3;refine zs8 ?_)|(apply zg23;(refine zs52 ?_;intro _))|apply(zs65 ?_)|apply(zs68 ?_)|apply(zs69 ?_)|apply(zs70 ?_)|fail)
 apply Yi _ YvL
 exact za
 exact rfl
 exactλ_ hw=>(Yhr n l hck hlen hin.cons hr.cons (hw))
 rintro _ _ ⟨i,rfl,rfl⟩
 cases JT n.net l l.length<;>(
  repeat'(first|((first|apply Ya en68|apply Yb en68);exact za;exact rfl;exactλ_ hw=>(p1 hin.cons hw))|apply(zs1 ?_)|apply(zs2 ?_)|(apply zg1;refine zs4 ?_)|(apply zg3;refine zs8 ?_)|(apply zg6;refine zs11 ?_)|apply(zs13 ?_)|(apply zg7;(refine zs15 ?_ ?_<;>intro _<;>try exact zo))|(apply zg20;first|refine zs47 ?_|refine zs48 ?_)|apply(zs65 ?_)|apply(zs68 ?_)|apply(zs69 ?_)|apply(zs70 ?_)|apply(zs74 ?_)|fail)
  apply Yg H
  ·exact zk
  apply Yd;exact rfl;exact rfl;exact⟨rfl,rfl⟩)
end Go.Proofs.YtjlgijpmnfabcaaGreatDoor
