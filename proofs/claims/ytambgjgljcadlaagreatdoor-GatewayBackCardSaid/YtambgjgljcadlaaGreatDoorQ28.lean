/- Lemmas. -/
import Derived.KernelRfl
import Derived.WalkKit
import Derived.Test.YtambgjgljcadlaaGreatDoorProg
import Derived.Test.YtambgjgljcadlaaGreatDoorQ25
set_option maxRecDepth 100000
set_option maxHeartbeats 8000000
set_option linter.all false
namespace Go
variable {p:Prop}
theorem zc25(h:p:=by
 ·refine zX1 ?_<;>intros
  apply Yd;exact rfl;exact rfl
  rw[TL (by omega),TL (by omega)]at hi
  exact⟨by rw[Ti hi],rfl⟩):p:=h
theorem zc89(h:p:=by exact⟨by omega,by rw[TM,TM,ha,hb,Rl,Rl,hz];simp[he]⟩):p:=h
theorem Yuw(h:p:=by
 rw[TX,TX,ha,hb]at h1
 exact he (Tv h1)):p:=h
end Go
namespace Go.Proofs.YtambgjgljcadlaaGreatDoor
open Go.Eng
theorem en26(xs:Array Value)(w:World):(callFunc 26 xs).run Tryz.prog w=.ok (.enter 26 xs) w:=by kernel_rfl
theorem en69(xs:Array Value)(w:World):(callFunc 69 xs).run Tryz.prog w=.ok (.enter 69 xs) w:=by kernel_rfl
theorem Yts(xs:Array Value)(w:World):(callFunc 129 xs).run Tryz.prog w=.ok (.enter 129 xs) w:=by kernel_rfl
theorem Ytt(xs:Array Value)(w:World):(callFunc 130 xs).run Tryz.prog w=.ok (.enter 130 xs) w:=by kernel_rfl
theorem Ytu(xs:Array Value)(w:World):(callFunc 131 xs).run Tryz.prog w=.ok (.enter 131 xs) w:=by kernel_rfl
theorem Ytv(xs:Array Value)(w:World):(callFunc 132 xs).run Tryz.prog w=.ok (.enter 132 xs) w:=by kernel_rfl
theorem Ytw(xs:Array Value)(w:World):(callFunc 133 xs).run Tryz.prog w=.ok (.enter 133 xs) w:=by kernel_rfl
theorem ZF(xs:Array Value)(w:World):(callFunc 218 xs).run Tryz.prog w=.ok (.enter 218 xs) w:=by kernel_rfl
theorem WT(xs:Array Value)(w:World):(callFunc 219 xs).run Tryz.prog w=.ok (.enter 219 xs) w:=by kernel_rfl
theorem YtM(xs:Array Value)(w:World):(callFunc 220 xs).run Tryz.prog w=.ok (.enter 220 xs) w:=by kernel_rfl
theorem YlT(xs:Array Value)(w:World):(callFunc 221 xs).run Tryz.prog w=.ok (.enter 221 xs) w:=by kernel_rfl
end Go.Proofs.YtambgjgljcadlaaGreatDoor
namespace Go.Eng
open Go.RowKit
end Go.Eng
namespace Go.Eng
open Go.ChangeShapes Go.WideShapes Go.ChangeAt Go.RowKit Go.Deep
section
variable {H:Type}{enc:TypeId×Value->H}{P:Program}{W:World}{spare:Nat->Bool}{held:Bool}
theorem wf_i64{z:Int}(h:(Lit.int .i64 z).wf=true): -9223372036854775808<=z/\z<=9223372036854775807:=by
 simp only[Lit.wf,To,Tt]at h
 have e1:IntKind.min .i64= -9223372036854775808:=by decide
 have e2:IntKind.max .i64=9223372036854775807:=by decide
 omega
end
end Go.Eng
namespace Go.Proofs.YtambgjgljcadlaaGreatDoor
open Go.RowKit Go.Eng Go.Nw
theorem Ypm{a b:Cel}(h:celF a=celF b):a=b:=by
 obtain⟨a1,a2,a3,a4,a5⟩:=a
 simp_all [celF]
section
variable {m:Eng.Mode}{n:Shp}{B d:Nat}{w0:World}{ops:Array Oper}{Q:Exit->Act->World->Prop}{rest:List Oper}{env:Env}{H:List HP}{ty:TypeId}{pos:String}{after:Array Edge}
theorem YrF(a b:Cel){x y:Operand}(hx:evo env x=some (.agg (celF a).toArray))(hy:evo env y=some (.agg (celF b).toArray))(hn:Nat.ble (d+1) n.k=true)
 (h1:a≠b->VL Tryz.prog m n B w0 ops Q rest ((d,.bool true)::env) H) (h2:a=b->VL Tryz.prog m n B w0 ops Q rest ((d,.bool false)::env) H):
 VL Tryz.prog m n B w0 ops Q (⟨some d,.binOp .neq 117 x y 117,ty,pos,after,none⟩::rest) env H:=
 OS (xs:=celF a) (ys:=celF b) hx hy hn (by kernel_rfl) (by kernel_rfl) (λe=>h1 λh=>e (by rw[h])) (λe=>h2 (Ypm e))
end
variable {B:Nat}{w0 w:World}{H:List HP}
theorem Yjc(l m:List Cel)(hl:l.length<=1000000000000)(hm:m.length<=1000000000000){A A2:Option Addr}{cap cap2:Nat}(hr:Rd B w0 H A (l.flatMap celF))(hr2:Rd B w0 H A2 (m.flatMap celF))(hw:St B w0 H w):
 CX B w0 220 [.slice A l.length cap,.slice A2 m.length cap2] w λv K=>v=.bool (decide (l=m))/\K=H:=by
 refine Yc Tryz.func220 Tryz.ntmps220 rfl rfl hw ?_
 by_cases hll:l.length=m.length
 rotate_left
 ·exact zc11
 refine zX3 ?_<;>intros
 refine Yj (λ(i:Nat)=>[(5,.int .i64 i),(0,.slice A l.length cap),(1,.slice A2 m.length cap2)]) (λ_=>H) (λi=>i<=l.length/\l.take i=m.take i) (λi=>l.length-i) 0 ⟨Tj _,rfl⟩ ?_ (λw hw=>hw) ?_
 ·exact zc1
 rintro i ⟨hi,he⟩ K hK
 by_cases hlt:i<l.length
 ·obtain⟨x,hx⟩:∃x,l[i]? =some x:=⟨_,Ta hlt⟩
  obtain⟨y,hy⟩:∃y,m[i]? =some y:=⟨_,Ta (by omega)⟩
  repeat'(first|(apply YrF x y;(iterate 3 exact rfl);all_goals intro hxy)|refine zgd ?_|(refine zge ?_ ?_<;>intro _<;>try exact zo)|fail)
  ·apply Yd;exact rfl;exact rfl
   have hne:l≠m:=by
    grind
   simp_all
  ·apply hK (i+1)
   ·exact⟨by omega,by exact zc95⟩
   ·omega
   ·exact zc1
   exact zc19
 ·obtain rfl:i=l.length:=by omega
  refine zX1 ?_<;>intros
  apply Yd;exact rfl;exact rfl
  rw[TQ,hll,TQ]at he
  exact⟨by rw[Ti he],rfl⟩
theorem YkZ(s t:SchM)(hl:s.cells.length<=1000000000000)(hm:t.cells.length<=1000000000000)(hr:Rd B w0 H s.A (s.cells.flatMap celF))(hr2:Rd B w0 H t.A (t.cells.flatMap celF))(hw:St B w0 H w):
 CX B w0 131 [s.val,t.val] w λv K=>v=.bool (decide (s.len=t.len/\s.off=t.off/\s.cells=t.cells))/\K=H:=by
 refine Yc Tryz.func131 Tryz.ntmps131 rfl rfl hw ?_
 repeat'(first|((first|apply ZY YtM|apply ZX YtM);exact za;exact rfl;exactλ_ hw=>(Yjc s.cells t.cells hl hm hr.cons.cons hr2.cons.cons hw);all_goals(intro hB;(try simp only[Tt,T9]at hB);try exact zo))|refine zgc ?_|(refine zge ?_ ?_<;>intro _<;>try exact zo)|(refine zgh ?_;intro _)|fail)
 all_goals(
  apply Yi H
  ·exact zk
  apply Yd;exact rfl;exact rfl
  first
   |exact⟨by rw[Ti ⟨by assumption,by assumption,by assumption⟩],rfl⟩
   |exact⟨by rw[Tn λh=>absurd h.1 (by assumption)],rfl⟩
   |exact⟨by rw[Tn λh=>absurd h.2.1 (by assumption)],rfl⟩
   |exact⟨by rw[Tn λh=>absurd h.2.2 (by assumption)],rfl⟩)
open Go.RowKit Go.Eng Go.Nw Go.Rt
variable {A A2:Option Addr}{cap cap2 B:Nat}{w0 w:World}{H:List HP}
theorem JM(l m:List Int)(hlen:l.length<=1000000000000)(_hlen2:m.length<=1000000000000)(hr:Rd B w0 H A (l.flatMap numF))(hr2:Rd B w0 H A2 (m.flatMap numF))(hw:St B w0 H w):
 CX B w0 218 [.slice A l.length cap,.slice A2 m.length cap2] w λu K=>u=.bool (decide (l=m))/\K=H:=by
 refine Yc Tryz.func218 Tryz.ntmps218 rfl rfl hw ?_
 by_cases hll:l.length=m.length
 rotate_left
 ·exact zc11
 refine zX3 ?_<;>intros
 refine Yj (λ(k:Nat)=>[(5,.int .i64 k),(0,.slice A l.length cap),(1,.slice A2 m.length cap2)]) (λ_=>H) (λk=>k<=l.length/\l.take k=m.take k) (λk=>l.length-k) 0 ⟨Tj _,by simp⟩ ?_ (λw hw=>hw) ?_
 ·exact zc1
 rintro k ⟨hk,hi⟩ K hK
 by_cases hlt:k<l.length
 ·obtain⟨a,ha⟩:∃a,l[k]? =some a:=⟨_,Ta hlt⟩
  obtain⟨b,hb⟩:∃b,m[k]? =some b:=⟨_,Ta (by omega)⟩
  by_cases hab:a=b
  ·refine zX0 ?_<;>intros
   apply hK (k+1)
   ·exact Yrq
   ·omega
   ·exact zc1
   exact zc19
  ·refine zX0 ?_<;>intros
   apply Yd;exact rfl;exact rfl
   exact⟨by rw[Tn λe=>by rw[e,hb]at ha;exact hab (Tv ha).symm],rfl⟩
 exact zc25
theorem W0(l m:List RowM)(hlen:l.length<=1000000000000)(_hlen2:m.length<=1000000000000)(hl2:∀r∈l,r.xs.length<=1000000000000)(hm2:∀r∈m,r.xs.length<=1000000000000)(hr:Rd B w0 H A (l.flatMap rowF))(hr2:Rd B w0 H A2 (m.flatMap rowF))(hrl:∀r∈l,Rd B w0 H r.A (r.xs.flatMap numF))(hrm:∀r∈m,Rd B w0 H r.A (r.xs.flatMap numF))(hw:St B w0 H w):
 CX B w0 219 [.slice A l.length cap,.slice A2 m.length cap2] w λu K=>u=.bool (decide (l.map (·.xs)=m.map (·.xs)))/\K=H:=by
 refine Yc Tryz.func219 Tryz.ntmps219 rfl rfl hw ?_
 by_cases hll:l.length=m.length
 rotate_left
 ·exact zc16
 refine zX3 ?_<;>intros
 refine Yj (λ(k:Nat)=>[(5,.int .i64 k),(0,.slice A l.length cap),(1,.slice A2 m.length cap2)]) (λ_=>H) (λk=>k<=l.length/\(l.take k).map (·.xs)=(m.take k).map (·.xs)) (λk=>l.length-k) 0 ⟨Tj _,by simp⟩ ?_ (λw hw=>hw) ?_
 ·exact zc1
 rintro k ⟨hk,hi⟩ K hK
 by_cases hlt:k<l.length
 ·obtain⟨a,ha⟩:∃a,l[k]? =some a:=⟨_,Ta hlt⟩
  obtain⟨b,hb⟩:∃b,m[k]? =some b:=⟨_,Ta (by omega)⟩
  have ham:=Tf ha
  have hbm:=Tf hb
  have hss:=λ{w:World}(hw:St B w0 H w)=>JM a.xs b.xs (cap:=a.cap) (cap2:=b.cap) (hl2 a ham) (hm2 b hbm) (hrl a ham) (hrm b hbm) hw
  by_cases hab:a.xs=b.xs
  ·rw[Ti hab]at hss
   refine Yuo ?_<;>intros
   apply hK (k+1)
   ·exact zc37
   ·omega
   ·exact zc1
   exact zc19
  ·rw[Tn hab]at hss
   refine Yuo ?_<;>intros
   exact zc21
 exact zc25
variable {B:Nat}{w0 w:World}{H:List HP}
theorem Yb5(c d:ClM)(hc:c.In B w0 H)(hd:d.In B w0 H)(hw:St B w0 H w):
 CX B w0 221 [clV c,clV d] w λu K=>u=.bool (decide (c.clm=d.clm))/\K=H:=by
 refine Yc Tryz.func221 Tryz.ntmps221 rfl rfl hw ?_
 have hcl:=hc.ln
 have hdl:=hd.ln
 have p1:=λ{H':List HP}{w:World}(hc:c.In B w0 H') (hd:d.In B w0 H') (hw:St B w0 H' w)=>W0 c.rs d.rs (cap:=c.rcap) (cap2:=d.rcap) hcl.1 hdl.1 hc.rl hd.rl hc.rt hd.rt hc.rw_ hd.rw_ hw
 have p2:=λ{H':List HP}{w:World}(hc:c.In B w0 H') (hd:d.In B w0 H') (hw:St B w0 H' w)=>JM c.bs d.bs (cap:=c.bcap) (cap2:=d.bcap) (by omega) (by omega) hc.bd hd.bd hw
 have p3:=λ{H':List HP}{w:World}(hc:c.In B w0 H') (hd:d.In B w0 H') (hw:St B w0 H' w)=>JM c.ws d.ws (cap:=c.wcap) (cap2:=d.wcap) (by omega) (by omega) hc.ws hd.ws hw
 have hce:=@Ypo c d
 unfold clV
 by_cases h1:c.flow=d.flow
 rotate_left
 ·rw[Tn (λh=>h1 (hce.1 h).1)]
  repeat'(first|refine zgc ?_|(refine zge ?_ ?_<;>intro _<;>try exact zo)|(refine zgh ?_;intro _)|fail)
  apply Yi H
  ·exact zc0
  exact zc5
 by_cases h2:c.rs.map (·.xs)=d.rs.map (·.xs)
 rotate_left
 ·rw[Tn (λh=>h2 (hce.1 h).2.1)]
  rw[Tn h2]at p1
  repeat'(first|refine zgc ?_|(refine zge ?_ ?_<;>intro _<;>try exact zo)|(refine zgh ?_;intro _)|fail)
  first|apply Ya WT|apply Yb WT
  exact za
  exact rfl
  exactλ_ hw=>(p1 (hc.mono zc0) (hd.mono zc0) hw)
  repeat'(first|refine zgd ?_|fail)
  apply Yi H
  ·exact zc0
  exact zc5
 rw[Ti h2]at p1
 by_cases h3:c.bs=d.bs
 rotate_left
 ·rw[Tn (λh=>h3 (hce.1 h).2.2.1)]
  rw[Tn h3]at p2
  repeat'(first|refine zgc ?_|(refine zge ?_ ?_<;>intro _<;>try exact zo)|(refine zgh ?_;intro _)|fail)
  first|apply Ya WT|apply Yb WT
  exact za
  exact rfl
  exactλ_ hw=>(p1 (hc.mono zc0) (hd.mono zc0) hw)
  repeat'(first|refine zgd ?_|fail)
  first|apply Ya ZF|apply Yb ZF
  exact za
  exact rfl
  exactλ_ hw=>(p2 (hc.mono zc0) (hd.mono zc0) hw)
  repeat'(first|refine zgd ?_|fail)
  apply Yi H
  ·exact zc0
  exact zc5
 rw[Ti h3]at p2
 by_cases h4:c.ws=d.ws
 rotate_left
 ·rw[Tn (λh=>h4 (hce.1 h).2.2.2.1)]
  rw[Tn h4]at p3
  repeat'(first|refine zgc ?_|(refine zge ?_ ?_<;>intro _<;>try exact zo)|(refine zgh ?_;intro _)|fail)
  first|apply Ya WT|apply Yb WT
  exact za
  exact rfl
  exactλ_ hw=>(p1 (hc.mono zc0) (hd.mono zc0) hw)
  repeat'(first|refine zgd ?_|fail)
  first|apply Ya ZF|apply Yb ZF
  exact za
  exact rfl
  exactλ_ hw=>(p2 (hc.mono zc0) (hd.mono zc0) hw)
  repeat'(first|refine zgd ?_|fail)
  first|apply Ya ZF|apply Yb ZF
  exact za
  exact rfl
  exactλ_ hw=>(p3 (hc.mono zc0) (hd.mono zc0) hw)
  repeat'(first|refine zgd ?_|fail)
  apply Yi H
  ·exact zc0
  exact zc5
 rw[Ti h4]at p3
 have h5:decide (c.clm=d.clm)=decide (c.ss.map (·.xs)=d.ss.map (·.xs)):=decide_eq_decide.2 ⟨λh=>(hce.1 h).2.2.2.2,λh=>hce.2 ⟨h1,h2,h3,h4,h⟩⟩
 rw[h5]
 by_cases h6:c.ss.length=d.ss.length
 rotate_left
 ·rw[Tn (λe=>h6 (by have:=TE List.length e;rwa [TC,TC]at this))]
  repeat'(first|refine zgc ?_|(refine zge ?_ ?_<;>intro _<;>try exact zo)|(refine zgh ?_;intro _)|fail)
  first|apply Ya WT|apply Yb WT
  exact za
  exact rfl
  exactλ_ hw=>(p1 (hc.mono zc0) (hd.mono zc0) hw)
  repeat'(first|refine zgd ?_|fail)
  first|apply Ya ZF|apply Yb ZF
  exact za
  exact rfl
  exactλ_ hw=>(p2 (hc.mono zc0) (hd.mono zc0) hw)
  repeat'(first|refine zgd ?_|fail)
  first|apply Ya ZF|apply Yb ZF
  exact za
  exact rfl
  exactλ_ hw=>(p3 (hc.mono zc0) (hd.mono zc0) hw)
  repeat'(first|refine zgd ?_|(refine zge ?_ ?_<;>intro _<;>try exact zo)|fail)
  apply Yi H
  ·exact zc0
  exact zc5
 repeat'(first|refine zgc ?_|(refine zge ?_ ?_<;>intro _<;>try exact zo)|(refine zgh ?_;intro _)|fail)
 first|apply Ya WT|apply Yb WT
 exact za
 exact rfl
 exactλ_ hw=>(p1 (hc.mono zc0) (hd.mono zc0) hw)
 repeat'(first|refine zgd ?_|fail)
 first|apply Ya ZF|apply Yb ZF
 exact za
 exact rfl
 exactλ_ hw=>(p2 (hc.mono zc0) (hd.mono zc0) hw)
 repeat'(first|refine zgd ?_|fail)
 first|apply Ya ZF|apply Yb ZF
 exact za
 exact rfl
 exactλ_ hw=>(p3 (hc.mono zc0) (hd.mono zc0) hw)
 repeat'(first|refine zgd ?_|(refine zge ?_ ?_<;>intro _<;>try exact zo)|fail)
 rename_i g2 g3 _ _
 refine Yj (λk:Nat=>[(5,.int .i64 (k:Nat)),(3,.pointer (some ⟨g3,0,none⟩)),(2,.pointer (some ⟨g2,0,none⟩))]) (λ_=>clA g3 d::clA g2 c::H) (λk=>k<=c.ss.length/\(c.ss.take k).map (·.xs)=(d.ss.take k).map (·.xs)) (λk=>c.ss.length-k) 0 ⟨Tj _,by simp⟩ ?_ (λw hw=>hw) ?_
 ·exact zc1
 rintro k ⟨hk,hz⟩ K hK
 have hcs:Rd B w0 (clA g3 d::clA g2 c::H) c.sA (c.ss.flatMap rowF):=hc.st.cons.cons
 have hds:Rd B w0 (clA g3 d::clA g2 c::H) d.sA (d.ss.flatMap rowF):=hd.st.cons.cons
 by_cases hlt:k<c.ss.length
 ·obtain⟨a,ha⟩:∃a,c.ss[k]? =some a:=⟨_,Ta hlt⟩
  obtain⟨b,hb⟩:∃b,d.ss[k]? =some b:=⟨_,Ta (by omega)⟩
  have ham:=Tf ha
  have hbm:=Tf hb
  have p4:=λ{H':List HP}{w:World}(hc:c.In B w0 H') (hd:d.In B w0 H') (hw:St B w0 H' w)=>JM a.xs b.xs (cap:=a.cap) (cap2:=b.cap) (hc.sl a ham) (hd.sl b hbm) (hc.sw a ham) (hd.sw b hbm) hw
  by_cases he:a.xs=b.xs
  ·rw[Ti he]at p4
   repeat'(first|refine zgb ?_|(refine zge ?_ ?_<;>intro _<;>try exact zo)|fail)
   apply X7 [0,1,2,3,4,5,6,7,8,9,10,11] []
   kernel_rfl
   kernel_rfl
   (simp only[Yg,nthO];rfl)
   exact rfl
   repeat'(first|refine zgd ?_|fail)
   first|apply Ya ZF|apply Yb ZF
   exact za
   exact rfl
   exactλ_ hw=>(p4 (hc.mono zc0) (hd.mono zc0) hw)
   repeat'(first|(apply Yk;(repeat(first|with_reducible exact Y7|(with_reducible apply YZ;(repeat(first|with_reducible exact Yw|with_reducible apply YJ))))))|refine zgd ?_|fail)
   ·show Perm H (H++[])
    exact zc27
   repeat'(first|fail)
   apply hK (k+1)
   ·exact zc89
   ·omega
   ·exact zc1
   exact zc19
  ·rw[Tn he]at p4
   have hne:¬(c.ss.map (·.xs)=d.ss.map (·.xs)):=λe=>by
    have h1:(c.ss.map (·.xs))[k]? =(d.ss.map (·.xs))[k]? :=by rw[e]
    exact Yuw
   rw[Tn hne]
   clear hK
   repeat'(first|refine zgb ?_|(refine zge ?_ ?_<;>intro _<;>try exact zo)|fail)
   apply X7 [0,1,2,3,4,5,6,7,8,9,10,11] []
   kernel_rfl
   kernel_rfl
   (simp only[Yg,nthO];rfl)
   exact rfl
   repeat'(first|refine zgd ?_|fail)
   first|apply Ya ZF|apply Yb ZF
   exact za
   exact rfl
   exactλ_ hw=>(p4 (hc.mono zc0) (hd.mono zc0) hw)
   repeat'(first|(apply Yk;(repeat(first|with_reducible exact Y7|(with_reducible apply YZ;(repeat(first|with_reducible exact Yw|with_reducible apply YJ))))))|refine zgd ?_|fail)
   ·show Perm H (H++[])
    exact zc27
   repeat'(first|fail)
   apply Yi H
   ·exact zc0
   exact zc5
 ·rw[TL (by omega),TL (by omega)]at hz
  rw[Ti hz]
  clear hK
  repeat'(first|refine zgc ?_|(refine zge ?_ ?_<;>intro _<;>try exact zo)|fail)
  apply Yi H
  ·exact zc0
  exact zc5
theorem Yd0(c d:List ClM){A A2:Option Addr}{cap cap2:Nat}(hc:CIn B w0 H A c)(hd:CIn B w0 H A2 d)(hw:St B w0 H w):
 CX B w0 132 [.slice A c.length cap,.slice A2 d.length cap2] w λu K=>u=.bool (decide (c.map ClM.clm=d.map ClM.clm))/\K=H:=by
 refine Yc Tryz.func132 Tryz.ntmps132 rfl rfl hw ?_
 have hcl:=hc.ln
 have hdl:=hd.ln
 have hcr:=hc.rd
 have hdr:=hd.rd
 by_cases h6:c.length=d.length
 rotate_left
 ·rw[Tn (λe=>h6 (by have:=TE List.length e;grind))]
  repeat'(first|refine zgb ?_|(refine zge ?_ ?_<;>intro _<;>try exact zo)|fail)
  exact zc13
 repeat'(first|refine zgb ?_|(refine zge ?_ ?_<;>intro _<;>try exact zo)|fail)
 refine Yj (λk:Nat=>[(5,.int .i64 (k:Nat)),(0,.slice A c.length cap),(1,.slice A2 d.length cap2)]) (λ_=>H) (λk=>k<=c.length/\(c.take k).map ClM.clm=(d.take k).map ClM.clm) (λk=>c.length-k) 0 ⟨Tj _,by simp⟩ ?_ (λw hw=>hw) ?_
 ·exact zc1
 rintro k ⟨hk,hz⟩ K hK
 by_cases hlt:k<c.length
 ·obtain⟨a,ha⟩:∃a,c[k]? =some a:=⟨_,Ta hlt⟩
  obtain⟨b,hb⟩:∃b,d[k]? =some b:=⟨_,Ta (by omega)⟩
  have hax:=hc.x a (Tf ha)
  have hbx:=hd.x b (Tf hb)
  have p2:=λ{H':List HP}{w:World}(hx:a.In B w0 H') (hy:b.In B w0 H') (hw:St B w0 H' w)=>Yb5 a b hx hy hw
  by_cases he:a.clm=b.clm
  ·rw[Ti he]at p2
   repeat'(first|refine zgb ?_|(refine zge ?_ ?_<;>intro _<;>try exact zo)|fail)
   apply X7 [0,1,2,3,4,5,6,7,8,9] []
   kernel_rfl
   kernel_rfl
   (simp only[Yg,nthO];rfl)
   exact rfl
   repeat'(first|refine zgd ?_|fail)
   first|apply Ya YlT|apply Yb YlT
   exact za
   exact rfl
   exactλ_ hw=>(p2 hax hbx hw)
   repeat'(first|(apply Yk;(repeat(first|with_reducible exact Y7|(with_reducible apply YZ;(repeat(first|with_reducible exact Yw|with_reducible apply YJ))))))|refine zgd ?_|fail)
   ·show Perm H (H++[])
    exact zc27
   repeat'(first|fail)
   apply hK (k+1)
   ·exact zc89
   ·omega
   ·exact zc1
   exact zc19
  ·rw[Tn he]at p2
   have hne:¬(c.map ClM.clm=d.map ClM.clm):=λe=>by
    have h1:(c.map ClM.clm)[k]? =(d.map ClM.clm)[k]? :=by rw[e]
    exact Yuw
   rw[Tn hne]
   clear hK
   repeat'(first|refine zgb ?_|(refine zge ?_ ?_<;>intro _<;>try exact zo)|fail)
   apply X7 [0,1,2,3,4,5,6,7,8,9] []
   kernel_rfl
   kernel_rfl
   (simp only[Yg,nthO];rfl)
   exact rfl
   repeat'(first|refine zgd ?_|fail)
   first|apply Ya YlT|apply Yb YlT
   exact za
   exact rfl
   exactλ_ hw=>(p2 hax hbx hw)
   repeat'(first|(apply Yk;(repeat(first|with_reducible exact Y7|(with_reducible apply YZ;(repeat(first|with_reducible exact Yw|with_reducible apply YJ))))))|refine zgd ?_|fail)
   ·show Perm H (H++[])
    exact zc27
   repeat'(first|fail)
   exact zc5
 ·rw[TL (by omega),TL (by omega)]at hz
  rw[Ti hz]
  repeat'(first|refine zgc ?_|(refine zge ?_ ?_<;>intro _<;>try exact zo)|fail)
  exact zc5
end Go.Proofs.YtambgjgljcadlaaGreatDoor
namespace Go.Eng
open Go.RowKit
section
variable {P:Program}{B:Nat}{w0:World}{Q:Exit->Act->World->Prop}{env:Env}{H:List HP}{m:Mode}{n:Shp}{ops:Array Oper}{rest:List Oper}{d:Nat}{ty:TypeId}{pos:String}{after:Array Edge}{xt yt:TypeId}{x y:Operand}{k:IntKind}{a b:Int}
theorem Ob(T:Tab P){α:Type}{f:α->List Value}{l:List α}{t i q o k:Nat}{b:α}{x:Operand}{A:Option Addr}{vs:List Value}(hx:evo env x=some (sptr A (i*q+o)))(hr:Rd B w0 H A (l.flatMap f))(hb:l[i]? =some b)(hq:∀a,(f a).length=q)
 (ht:look T.ag t=some k) (ho:Nat.ble (o+k) q=true) (h0:Nat.blt 0 k=true) (hv:subL o k (f b)=vs) (hk:Nat.beq vs.length k=true) (hn:Nat.ble (d+1) n.k=true)
 (h:VL P m n B w0 ops Q rest ((d,.agg vs.toArray)::env) H):VL P m n B w0 ops Q (⟨some d,.load t x,ty,pos,after,none⟩::rest) env H:=by
 refine YF rfl rfl hn rfl (λa w ha hw=>?_) h
 have hk:=Nat.eq_of_beq_eq_true hk
 have hk0:0<k:=by simpa using h0
 have hok:o+k<=q:=Ri ho
 have hget:∀j v,vs[j]? =some v->(l.flatMap f)[i*q+o+j]? =some v:=λj v hj=>by
  have hlt:j<k:=by have:=(Tc.1 hj).1;rwa [hk]at this
  rw[N4,Ot hq l i (o+j) b hb (by omega)]
  rw[<-hv,subL,Sl,Tm hlt,RX]at hj
  exact hj
 obtain⟨g,u,rfl,_⟩:=hr w hw _ _ (hget 0 _ (Ta (by rw[hk];exact hk0)))
 have hl:=run_loadCells_list (P:=P) w ⟨g,u+(i*q+o),none⟩ vs (λj v hj=>by
  obtain⟨g',u',e1,hc⟩:=hr w hw _ _ (hget j v hj)
  injection e1 with e1
  injection e1 with e1 e2
  subst e1 e2
  rw[Addr.add_lit,N4];exact hc)
 rw[hk]at hl
 simp[execOp,ha.eval hx,sptr,Instr.loadAt,Instr.sureAddr,loadVar,JK (T.aggs ht),ZS (VX (T.aggs ht)),Addr.add_lit,hl]
end
end Go.Eng
namespace Go.Proofs.YtambgjgljcadlaaGreatDoor
open Go.RowKit Go.Eng Go.Nw Go.Rt
theorem Yoe{rs rs':List RowM}(h:rs.map (·.xs)=rs'.map (·.xs)):rs.length=rs'.length:=by simpa using TE List.length h
variable {B:Nat}{w0 w:World}{H:List HP}
theorem YfN(l m:List Int)(h:l=m)(hlen:l.length<=9223372036854775807){A A2:Option Addr}{cap cap2:Nat}(hr:Rd B w0 H A (l.flatMap numF))(hr2:Rd B w0 H A2 (m.flatMap numF))(hw:St B w0 H w):
 CX B w0 218 [.slice A l.length cap,.slice A2 m.length cap2] w λu K=>u=.bool true/\K=H:=by
 refine Yc Tryz.func218 Tryz.ntmps218 rfl rfl hw ?_
 subst h
 refine zX3 ?_<;>intros
 refine Yj (λ(k:Nat)=>[(5,.int .i64 k),(0,.slice A l.length cap),(1,.slice A2 l.length cap2)]) (λ_=>H) (λk=>k<=l.length) (λk=>l.length-k) 0 (Tj _) ?_ (λw hw=>hw) ?_
 ·exact zc1
 rintro k hk K hK
 by_cases hlt:k<l.length
 ·obtain⟨a,ha⟩:∃a,l[k]? =some a:=⟨_,Ta hlt⟩
  refine zX0 ?_<;>intros
  apply hK (k+1)
  ·omega
  ·omega
  ·exact zc1
  exact zc19
 ·refine zX1 ?_<;>intros
  exact zc13
theorem Yk3(n m:NetM)(h:n.net=m.net)(hin:n.In B w0 H)(hin2:m.In B w0 H)(hw:St B w0 H w):
 CX B w0 129 [n.val,m.val] w λu K=>u=.bool true/\K=H:=by
 refine Yc Tryz.func129 Tryz.ntmps129 rfl rfl hw ?_
 obtain⟨hpw,hrw,hlk,hmg,hs1,hs2,hs3,hs4⟩:=id hin
 obtain⟨hpw',hrw',hlk',hmg',hs1',hs2',hs3',hs4'⟩:=id hin2
 simp only[NetM.net,Net.mk.injEq]at h
 obtain⟨e1,e2,e3,e4,e5,e6⟩:=h
 have e7:=Yoe e2
 have e8:n.links.length=m.links.length:=by rw[e5]
 have e9:n.margin.length=m.margin.length:=by rw[e6]
 (apply Xi;apply YU;apply YB;exact rfl;exact rfl;intro g)
 apply YB;exact rfl;exact rfl;intro g2
 refine zX1 ?_<;>intros
 refine Yj (λ(k:Nat)=>[(5,.int .i64 k),(2,.pointer (some ⟨g,0,none⟩)),(3,.pointer (some ⟨g2,0,none⟩))]) (λ_=>netB g2 m::netB g n::H) (λk=>k<=n.rows.length) (λk=>n.rows.length-k) 0 (Tj _) ?_ (λw hw=>hw) ?_
 ·exact zc1
 rintro k hk K hK
 by_cases hlt:k<n.rows.length
 ·obtain⟨a,ha⟩:∃a,n.rows[k]? =some a:=⟨_,Ta hlt⟩
  obtain⟨b,hb⟩:∃b,m.rows[k]? =some b:=⟨_,Ta (by omega)⟩
  have hab:a.xs=b.xs:=by
   have h1:(n.rows.map (·.xs))[k]? =some a.xs:=by simp[ha]
   have h2:(m.rows.map (·.xs))[k]? =some b.xs:=by simp[hb]
   rw[e2,h2]at h1
   exact(Tv h1).symm
  have ham:=Tf ha
  have hbm:=Tf hb
  repeat'(first|((first|apply Ya ZF|apply Yb ZF);exact za;exact rfl;exactλ_ hw=>(YfN a.xs b.xs hab (hs2 a ham) (hrw a ham).cons.cons (hrw' b hbm).cons.cons hw))|(apply zg28;refine zs84 ?_)|refine zgd ?_|(refine zge ?_ ?_<;>intro _<;>try exact zo)|fail)
  apply hK (k+1)
  ·omega
  ·omega
  ·exact zc1
  exact zc19
 clear hK
 refine zX1 ?_<;>intros
 refine Yj (λ(k:Nat)=>[(6,.int .i64 k),(2,.pointer (some ⟨g,0,none⟩)),(3,.pointer (some ⟨g2,0,none⟩))]) (λ_=>netB g2 m::netB g n::H) (λk=>k<=n.links.length) (λk=>n.links.length-k) 0 (Tj _) ?_ (λw hw=>hw) ?_
 ·exact zc1
 rintro k hk K hK
 by_cases hlt:k<n.links.length
 ·obtain⟨a,ha⟩:∃a,n.links[k]? =some a:=⟨_,Ta hlt⟩
  have hb:m.links[k]? =some a:=by rw[<-e5];exact ha
  repeat'(first|(apply OS (xs:=lkF a) (ys:=lkF a);(iterate 3 exact rfl);kernel_rfl;kernel_rfl;(intro hne;exact absurd rfl hne);intro _)|refine zgd ?_|(refine zge ?_ ?_<;>intro _<;>try exact zo)|fail)
  apply hK (k+1)
  ·omega
  ·omega
  ·exact zc1
  exact zc19
 clear hK
 repeat'(first|((first|apply Ya ZF|apply Yb ZF);exact za;exact rfl;exactλ_ hw=>(YfN n.margin m.margin e6 hs4 hmg.cons.cons hmg'.cons.cons hw))|refine zgc ?_|(refine zge ?_ ?_<;>intro _<;>try exact zo)|fail)
 apply Yl;apply Yl;exact zc13
structure BothOk(p:Pln)(l:Lop)(s:Spl)(r:Pln)(q:Pln):Prop where
 cq:chkP q=0
 cr:chkP r=0
 nn:r.n=p.n
 fl:∀g,g∈Ys r.q↔g=JV l s\/g=JW l s\/g∈Ys p.q
 w1:wdrP q (2*l.1)=(some p,0)
 w2:wdrP r (2*l.1+1)=(some q,0)
section
variable {p:Pln}{l:Lop}
theorem YhU{r:Pln}{s:Spl}(hp:chkP p=0)(h:Og p l s=some r):∃q,BothOk p l s r q:=by
 unfold Og at h
 split at h
 ·rename_i q hq
  split at h
  ·rename_i r' hr
   obtain rfl:=Tv h
   obtain⟨a1,a2,a3,a4⟩:=Yaa hp hq
   obtain⟨b1,b2,b3,b4⟩:=Yaa a1 hr
   refine⟨q,a1,b1,b2.trans a2,λg=>?_,a4,b4⟩
   rw[b3,a3]
   constructor
   ·rintro(h|h|h)
    ·exact .inr (.inl h)
    ·exact .inl h
    ·exact .inr (.inr h)
   ·rintro(h|h|h)
    ·exact .inr (.inl h)
    ·exact .inl h
    ·exact .inr (.inr h)
  ·cases h
 ·cases h
theorem Yhe{p r:Pln}{l:Lop}{s:Spl}:∀{L:List Spl},tryG p l L=some (s,r)->s∈L/\Og p l s=some r
 |[],h=>by cases h
 |x::L,h=>by
  unfold tryG at h
  split at h
  ·rename_i q hq
   obtain⟨rfl,rfl⟩:=Prod.mk.inj (Tv h)
   exact⟨by simp,hq⟩
  ·obtain⟨h1,h2⟩:=Yhe h
   exact⟨Tz _ h1,h2⟩
theorem Yng(h:chkP p=0):p.n.nodes<=32:=(V1.1 (Ygz (UJ h).cert)).1.2
theorem YjQ{g a:Gwy}(hg:GwOk g)(h:admG g l=(some a,0)):GwOk a/\a.l.length=g.l.length+1:=by
 unfold admG at h
 rw[Td (λe=>e (XO.2 hg))]at h
 split at h
 ·cases h
 split at h
 ·cases h
 rename_i hlo
 have hlo:=TN.1 hlo
 split at h
 ·cases h
 split at h
 ·cases h
 rename_i s r htr
 obtain rfl:=Tv (TE Prod.fst h)
 obtain⟨hs,hb⟩:=Yhe htr
 obtain⟨q,hq⟩:=YhU hg.p hb
 have hk:=YgS g.l l.1
 generalize posL g.l l.1=k at*
 obtain⟨-,-,hfit,hpw⟩:=Zw.1 hlo
 have hlen:(g.l.take k).length=(g.s.take k).length:=by rw[TA,TA,hg.len]
 have hrs:XW l s=0:=Yec (Yue (hfit l (by unfold Xb;simp)) (Yng hg.p)) hs
 have hbad:badS g.l g.s=(badS (g.l.take k) (g.s.take k)||badS (g.l.drop k) (g.s.drop k)):=by
  rw[<-Vi hlen,Rk,Rk]
 have hfl:YS g.l g.s=YS (g.l.take k) (g.s.take k)++YS (g.l.drop k) (g.s.drop k):=by
  rw[<-J6 hlen,Rk,Rk]
 have hw:∀{α:Type}(L:List α) (x:α),k<=L.length->(Xb L k x).length=L.length+1:=λL x h=>by
  unfold Xb;rw[Tq,TG,TA,TZ];omega
 refine⟨⟨hq.cr,?_,?_,?_,?_⟩,hw _ _ hk⟩
 ·show(ZP r.n.nodes _).2=0
  rw[hq.nn];exact hlo
 ·show(Xb g.s k s).length=(Xb g.l k l).length
  rw[hw _ _ hk,hw _ _ (by rw[hg.len];exact hk),hg.len]
 ·show badS (g.l.take k++l::g.l.drop k) (g.s.take k++s::g.s.drop k)=false
  rw[Vi hlen]
  have:=hg.fit
  rw[hbad,Nv]at this
  simp only[badS,this.1,this.2,hrs]
  rfl
 ·refine Qc (k:=λf:Flw=>f.1) (YaV hpw) (YcP hq.cr) λf=>?_
  show f∈YS (g.l.take k++l::g.l.drop k) (g.s.take k++s::g.s.drop k)↔_
  rw[J6 hlen,hq.fl,<-hg.fl,hfl]
  simp only[YS,TJ,TI]
  constructor
  ·rintro(h|h|h|h)
   ·exact .inr (.inr (.inl h))
   ·exact .inl h
   ·exact .inr (.inl h)
   ·exact .inr (.inr (.inr h))
  ·rintro(h|h|h|h)
   ·exact .inr (.inl h)
   ·exact .inr (.inr (.inl h))
   ·exact .inl h
   ·exact .inr (.inr (.inr h))
theorem Yl8{g:GwM}(h:FewG g)(hk:chkG g.gw=0):g.p.s.len<=24:=by
 rcases h.1.2.2.2 with h1|h1
 ·exact h1
 ·have hok:=UJ (XO.1 hk).p
  have h2:g.p.s.len<=512:=(TY (Vt (X5.1 (XJ.1 hok.cert).1).whole).2.2.1).2.1
  omega
theorem YeX(g:Gwy)(l:Lop):(∃a,admG g l=(some a,0))\/∃e,admG g l=(none,e)/\e≠0:=by
 unfold admG
 split
 ·rename_i h;exact .inr ⟨_,rfl,h⟩
 split
 ·exact .inr ⟨_,rfl,by decide⟩
 split
 ·exact .inr ⟨_,rfl,by decide⟩
 split
 ·exact .inr ⟨_,rfl,by decide⟩
 split
 ·exact .inr ⟨_,rfl,by decide⟩
 ·exact .inl ⟨_,rfl⟩
end
theorem YsN{p q:Pln}(hp:chkP p=0)(hq:chkP q=0)(h1:p.n=q.n)(h2:p.q=q.q)(h3:p.s=q.s):p=q:=by
 have a:=UJ hp
 have b:=UJ hq
 have a1:=a.c
 have a2:=a.f
 have b1:=b.c
 have b2:=b.f
 obtain⟨n,r,s,c,f⟩:=p
 obtain⟨n',r',s',c',f'⟩:=q
 dsimp only at*
 subst h1 h2 h3
 rw[a1,a2,b1,b2]
theorem Yj6(s:Sch)(a b:Int):Jz (Jz s a) b=Jz (Jz s b) a:=by
 unfold Jz
 simp only[Ss,N5]
theorem Ypd{g a:Gwy}{l:Lop}(hg:GwOk g)(h:admG g l=(some a,0)):disG a l.1=(some g,0):=by
 have hga:=(YjQ hg h).1
 unfold admG at h
 rw[Td (λe=>e (XO.2 hg))]at h
 split at h
 ·cases h
 rename_i hno
 split at h
 ·cases h
 rename_i hlo
 have hlo:=TN.1 hlo
 split at h
 ·cases h
 split at h
 ·cases h
 rename_i s r htr
 obtain rfl:=Tv (TE Prod.fst h)
 obtain⟨hs,hb⟩:=Yhe htr
 obtain⟨q,hq⟩:=YhU hg.p hb
 have hk:=YgS g.l l.1
 have hml:l∈Xb g.l (posL g.l l.1) l:=by unfold Xb;simp
 have hhas:hasL (Xb g.l (posL g.l l.1) l) l.1=true:=TR.2 ⟨l,hml,Ti rfl⟩
 obtain⟨-,-,-,hpw⟩:=Zw.1 hlo
 obtain⟨q1,q2,-,-,-,hgw,-,hd,hs2,hn2,hm2⟩:=Ygq hga hhas
 dsimp only at hgw hd hs2 hn2 hm2
 have hpos:posL (Xb g.l (posL g.l l.1) l) l.1=posL g.l l.1:=by
  have h1:=Yau hpw hml
  have h2:(Xb g.l (posL g.l l.1) l)[posL g.l l.1]? =some l:=by
   unfold Xb
   rw[RB (by rw[TA];omega),TA,RU hk,Ni];rfl
  obtain⟨a1,a2⟩:=Tc.1 h1
  obtain⟨b1,b2⟩:=Tc.1 h2
  rw[Re]at hpw
  rcases SI (posL (Xb g.l (posL g.l l.1) l) l.1) (posL g.l l.1)with c|c|c
  ·have:=hpw _ _ a1 b1 c;rw[a2,b2]at this;exact absurd this (Nk _)
  ·exact c
  ·have:=hpw _ _ b1 a1 c;rw[a2,b2]at this;exact absurd this (Nk _)
 have hless:∀{α:Type}(L:List α) (x:α),posL g.l l.1<=L.length->Y4 (Xb L (posL g.l l.1) x) (posL g.l l.1)=L:=λL x h=>by
  have hl:(L.take (posL g.l l.1)).length=posL g.l l.1:=by rw[TA,RU h]
  unfold Y4 Xb
  rw[List.take_left' hl,<-SX (j:=posL g.l l.1) (i:=1),List.drop_left' hl]
  exact Rk _ _
 rw[hpos,hless _ _ hk,hless _ _ (by rw[hg.len];exact hk)]at hd hgw
 rw[hd]
 obtain⟨-,-,e1,m1⟩:=Wh hq.cr hq.w2
 obtain⟨-,-,e2,m2⟩:=Wh hq.cq hq.w1
 have hpq:q2=g.p:=by
  refine YsN hgw.p hg.p (hn2.trans hq.nn) ?_ ?_
  ·have hp1:=YcP hgw.p
   have hp2:=YcP hg.p
   unfold Ys at hp1 hp2
   rw[Nb]at hp1 hp2
   refine Qc (k:=λy:Rqs=>y.1.1) hp1 hp2 λy=>?_
   rw[hm2,m2,m1]
   constructor
   ·rintro⟨h1,h2,h3⟩;exact⟨⟨h1,h3⟩,h2⟩
   ·rintro⟨⟨h1,h3⟩,h2⟩;exact⟨h1,h2,h3⟩
  ·rw[hs2,Yj6,<-e1,<-e2]
 rw[hpq]
variable {A A2:Option Addr}{cap cap2 B:Nat}{w0 w:World}{H:List HP}
theorem Yg0(l:List Int)(hlen:l.length<=1000000000000)(hr:Rd B w0 H A (l.flatMap numF))(hr2:Rd B w0 H A2 (l.flatMap numF))(hw:St B w0 H w):
 CX B w0 133 [.slice A l.length cap,.slice A2 l.length cap2] w λu K=>u=.bool true/\K=H:=by
 refine Yc Tryz.func133 Tryz.ntmps133 rfl rfl hw ?_
 refine zX3 ?_<;>intros
 refine Yj (λ(k:Nat)=>[(5,.int .i64 k),(0,.slice A l.length cap),(1,.slice A2 l.length cap2)]) (λ_=>H) (λk=>k<=l.length) (λk=>l.length-k) 0 (Tj _) ?_ (λw hw=>hw) ?_
 ·exact zc1
 rintro k hk K hK
 by_cases hlt:k<l.length
 ·obtain⟨a,ha⟩:∃a,l[k]? =some a:=⟨_,Ta hlt⟩
  refine zX0 ?_<;>intros
  apply hK (k+1)
  ·omega
  ·omega
  ·exact zc1
  exact zc19
 ·refine zX1 ?_<;>intros
  exact zc13
theorem Yg3(q q2:List RqM)(he:q.map RqM.rq=q2.map RqM.rq)(hq:QIn B w0 H A q)(hq2:QIn B w0 H A2 q2)(hw:St B w0 H w):
 CX B w0 130 [.slice A q.length cap,.slice A2 q2.length cap2] w λu K=>u=.bool true/\K=H:=by
 refine Yc Tryz.func130 Tryz.ntmps130 rfl rfl hw ?_
 have hll:q.length=q2.length:=by simpa using TE List.length he
 have hr:=hq.rd
 have hr2:=hq2.rd
 have hln:=hq.ln
 refine zX3 ?_<;>intros
 refine Yj (λ(k:Nat)=>[(5,.int .i64 k),(0,.slice A q.length cap),(1,.slice A2 q2.length cap2)]) (λ_=>H) (λk=>k<=q.length) (λk=>q.length-k) 0 (Tj _) ?_ (λw hw=>hw) ?_
 ·exact zc1
 rintro k hk K hK
 by_cases hlt:k<q.length
 ·obtain⟨a,ha⟩:∃a,q[k]? =some a:=⟨_,Ta hlt⟩
  obtain⟨b,hb⟩:∃b,q2[k]? =some b:=⟨_,Ta (by omega)⟩
  have hab:a.rq=b.rq:=by
   have h1:(q.map RqM.rq)[k]? =some a.rq:=by simp[ha]
   have h2:(q2.map RqM.rq)[k]? =some b.rq:=by simp[hb]
   rw[he,h2]at h1
   exact(Tv h1).symm
  have hf:b.f=a.f:=(TE Prod.fst hab).symm
  have hrs:a.rows.map (·.xs)=b.rows.map (·.xs):=TE Prod.snd hab
  have hai:=hq.x a (Tf ha)
  have hbi:=hq2.x b (Tf hb)
  have p1:=λ{H':List HP}{w:World}(hai:a.In B w0 H') (hbi:b.In B w0 H') (hw:St B w0 H' w)=>W0 a.rows b.rows hai.ln hbi.ln (λr hr=>(hai.rl r hr).1) (λr hr=>(hbi.rl r hr).1) (cap:=a.cap) (cap2:=b.cap) hai.rt hbi.rt hai.rw_ hbi.rw_ hw
  rw[Ti hrs]at p1
  repeat'(first|(apply Ob T (vs:=[.int .i64 a.f.1,.int .i64 a.f.2.1,.int .i64 a.f.2.2.1,.int .i64 a.f.2.2.2.1,.int .i64 a.f.2.2.2.2.1,.int .i64 a.f.2.2.2.2.2]);exact rfl;exact hr;exact ha;exactλ_=>rfl;(iterate 6 exact rfl))|(apply Ob T (vs:=[.int .i64 b.f.1,.int .i64 b.f.2.1,.int .i64 b.f.2.2.1,.int .i64 b.f.2.2.2.1,.int .i64 b.f.2.2.2.2.1,.int .i64 b.f.2.2.2.2.2]);exact rfl;exact hr2;exact hb;exactλ_=>rfl;(iterate 6 exact rfl))|(rw[hf];apply OS (xs:=flwF a.f) (ys:=flwF a.f);(iterate 3 exact rfl);kernel_rfl;kernel_rfl;(intro hne;exact absurd rfl hne);intro _)|((first|apply Ya WT|apply Yb WT);exact za;exact rfl;exactλ_ hw=>(p1 hai hbi hw))|(apply zg28;refine zs84 ?_)|refine zgd ?_|(refine zge ?_ ?_<;>intro _<;>try exact zo)|fail)
  apply hK (k+1)
  ·omega
  ·omega
  ·exact zc1
  exact zc19
 ·refine zX1 ?_<;>intros
  exact zc5
theorem Yjg(p p2:PnM)(he:p.pln=p2.pln)(hp:p.In B w0 H)(hp2:p2.In B w0 H)(hw:St B w0 H w):
 CX B w0 69 [p.val,p2.val] w λu K=>u=.bool true/\K=H:=by
 refine Yc Tryz.func69 Tryz.ntmps69 rfl rfl hw ?_
 have hn:p.n.net=p2.n.net:=TE Pln.n he
 have hq:p.q.map RqM.rq=p2.q.map RqM.rq:=TE Pln.q he
 have hs:p.s.sch=p2.s.sch:=TE Pln.s he
 have hc:p.c.map ClM.clm=p2.c.map ClM.clm:=TE Pln.c he
 have hf:p.f=p2.f:=TE Pln.f he
 have p1:=λ{H':List HP}{w:World}(hp:p.In B w0 H') (hp2:p2.In B w0 H') (hw:St B w0 H' w)=>Yk3 p.n p2.n hn hp.n hp2.n hw
 have p2':=λ{H':List HP}{w:World}(hp:p.In B w0 H') (hp2:p2.In B w0 H') (hw:St B w0 H' w)=>Yg3 p.q p2.q hq (cap:=p.qcap) (cap2:=p2.qcap) hp.q hp2.q hw
 have p3:=λ{H':List HP}{w:World}(hp:p.In B w0 H') (hp2:p2.In B w0 H') (hw:St B w0 H' w)=>YkZ p.s p2.s hp.sl hp2.sl hp.s hp2.s hw
 have hs2:p.s.len=p2.s.len/\p.s.off=p2.s.off/\p.s.cells=p2.s.cells:=⟨TE Sch.len hs,TE Sch.off hs,TE Sch.cells hs⟩
 rw[Ti hs2]at p3
 have p4:=λ{H':List HP}{w:World}(hp:p.In B w0 H') (hp2:p2.In B w0 H') (hw:St B w0 H' w)=>Yd0 p.c p2.c (cap:=p.ccap) (cap2:=p2.ccap) hp.c hp2.c hw
 rw[Ti hc]at p4
 have p5:∀{H':List HP}{w:World},p.In B w0 H'->p2.In B w0 H'->St B w0 H' w->CX B w0 133 [.slice p.fA p.f.length p.fcap,.slice p2.fA p2.f.length p2.fcap] w λu K=>u=.bool true/\K=H':=λhp hp2 hw=>by
  have h2:=hp2.f
  rw[<-hf]at h2⊢
  exact Yg0 p.f hp.fl (cap:=p.fcap) (cap2:=p2.fcap) hp.f h2 hw
 unfold PnM.val
 unfold NetM.val at p1
 unfold SchM.val at p3
 (apply Xi;apply YU;apply YB;exact rfl;exact rfl;intro g)
 apply YB;exact rfl;exact rfl;intro g2
 repeat'(first|(apply Ye T;exact rfl;exact zm;exact rfl;exact zv;exact rfl;exact rfl)|((first|apply Ya Yts|apply Yb Yts);exact za;exact rfl;exactλ_ hw=>(p1 hp.cons.cons hp2.cons.cons hw))|((first|apply Ya Ytt|apply Yb Ytt);exact za;exact rfl;exactλ_ hw=>(p2' hp.cons.cons hp2.cons.cons hw))|((first|apply Ya Ytu|apply Yb Ytu);exact za;exact rfl;exactλ_ hw=>(p3 hp.cons.cons hp2.cons.cons hw))|((first|apply Ya Ytv|apply Yb Ytv);exact za;exact rfl;exactλ_ hw=>(p4 hp.cons.cons hp2.cons.cons hw))|((first|apply Ya Ytw|apply Yb Ytw);exact za;exact rfl;exactλ_ hw=>(p5 hp.cons.cons hp2.cons.cons hw))|refine zgc ?_|fail)
 apply Yl;apply Yl;exact zc5
def popN:Nat->Nat->Nat
 |0,_=>0
 |k+1,n=>n%2+popN k (n/2)
theorem YfG:∀{k a b:Nat},(∀i,a.testBit i=true->b.testBit i=true)->popN k a<=popN k b
 |0,_,_,_=>TK _
 |k+1,a,b,h=>by
  have h1:popN k (a/2)<=popN k (b/2):=YfG λi hi=>by
   rw[Nat.testBit_div_two]at hi⊢
   exact h _ hi
  have h2:=h 0
  rw[Nat.testBit_zero,Nat.testBit_zero,Tt,Tt]at h2
  unfold popN
  omega
def subB(x y:Int):Prop:=∃a b:Nat,x=a/\y=b/\a<65536/\b<65536/\∀i,a.testBit i=true->b.testBit i=true
theorem YjR(c:Int):∃X:Nat,∀a:Nat,a<65536->bits .andNot .i64 (a:Int) c=((a&&&X:Nat):Int):=⟨(~~~BitVec.ofInt 64 c).toNat,λa ha=>by
 have e1:(BitVec.ofInt 64 (a:Int)).toNat=a:=by rw[NP,N3];exact NA (by omega)
 have h2:a&&&(~~~BitVec.ofInt 64 c).toNat<=a:=NZ
 show IntKind.i64.wrap ((BitVec.ofInt 64 (a:Int)&&&~~~BitVec.ofInt 64 c).toNat:Int)=_
 rw[BitVec.toNat_and,e1,IntKind.wrap_i64]
 omega⟩
theorem Ygi{a X i:Nat}(h:(a&&&X).testBit i=true):a.testBit i=true/\X.testBit i=true:=by rwa [Nat.testBit_and,To]at h
theorem YqW{x y:Int}(c:Int)(h:subB x y):subB (bits .andNot .i64 x c) (bits .andNot .i64 y c)/\subB (bits .andNot .i64 x c) y:=by
 obtain⟨a,b,rfl,rfl,ha,hb,h⟩:=h
 obtain⟨X,hX⟩:=YjR c
 rw[hX a ha,hX b hb]
 have h1:a&&&X<=a:=NZ
 have h2:b&&&X<=b:=NZ
 refine⟨⟨_,_,rfl,rfl,by omega,by omega,λi hi=>?_⟩,⟨_,_,rfl,rfl,by omega,hb,λi hi=>h i (Ygi hi).1⟩⟩
 rw[Nat.testBit_and,h i (Ygi hi).1,(Ygi hi).2];rfl
def leF:List Int->List Int->Prop
 |[],[]=>True
 |x::xs,y::ys=>subB x y/\leF xs ys
 |_,_=>False
theorem Ydz:∀{xs ys:List Int}(i:Nat) (c:Int),leF xs ys->leF (xs.set i (bits .andNot .i64 (xs.getD i 0) c)) (ys.set i (bits .andNot .i64 (ys.getD i 0) c))/\leF (xs.set i (bits .andNot .i64 (xs.getD i 0) c)) ys
 |[],[],_,_,h=>⟨h,h⟩
 |x::xs,y::ys,0,c,h=>by
  obtain⟨h1,h2⟩:=h
  obtain⟨h3,h4⟩:=YqW c h1
  exact⟨⟨h3,h2⟩,h4,h2⟩
 |x::xs,y::ys,i+1,c,h=>by
  obtain⟨h1,h2⟩:=h
  obtain⟨h3,h4⟩:=Ydz i c h2
  exact⟨⟨h1,h3⟩,h1,h4⟩
 |[],_::_,_,_,h=>h.elim
 |_::_,[],_,_,h=>h.elim
theorem Ydy:∀{cs ds:List Cel}{xs ys:List Int},cs.Sublist ds->leF xs ys->leF (ds.foldl OF xs) (cs.foldl OF ys)
 |_,_,_,_,.slnil,h=>h
 |_,_,_,_,.cons c hs,h=>by rw[R7];exact Ydy hs (Ydz _ _ h).2
 |_,_,_,_,.cons_cons c hs,h=>by rw[R7,R7];exact Ydy hs (Ydz _ _ h).1
theorem Yme{x:Int}(h:0<=x/\x<65536):∀n:Nat,leF (List.replicate n x) (List.replicate n x)
 |0=>trivial
 |n+1=>⟨⟨x.toNat,x.toNat,by omega,by omega,by omega,by omega,λ_ hi=>hi⟩,Yme h n⟩
theorem YnU{s t:Sch}(hs:Xm s=true)(hl:t.len=s.len)(ho:t.off=s.off)(hc:t.cells.Sublist s.cells):leF (Zp s) (Zp t):=by
 have h1:1<=s.len/\s.len<=512/\1<=s.off/\s.off<=16:=TY (XV.1 hs).sized
 have h2:=Ymo (o:=s.off) ⟨by omega,h1.2.2.2⟩
 unfold Zp
 rw[hl,ho]
 exact Ydy hc (Yme (by omega) _)
variable {a d:Nat}
theorem Ygj{b:Nat}(ha:a<18446744073709551616)(hb:b<18446744073709551616):bits .and .u64 (a:Int) (b:Int)=((a&&&b:Nat):Int):=by
 have e1:(BitVec.ofInt 64 (a:Int)).toNat=a:=by rw[NP,N3];exact NA ha
 have e2:(BitVec.ofInt 64 (b:Int)).toNat=b:=by rw[NP,N3];exact NA hb
 have h2:a&&&b<=a:=NZ
 show IntKind.u64.wrap ((BitVec.ofInt 64 (a:Int)&&&BitVec.ofInt 64 (b:Int)).toNat:Int)=_
 rw[BitVec.toNat_and,e1,e2]
 rw[IntKind.wrap_u64]
 omega
theorem YjD{x:Nat}(h:x<18446744073709551616):IntKind.u64.wrap (x:Int)=(x:Int):=by rw[IntKind.wrap_u64];omega
def popA(m d a:Int):Int:=IntKind.u64.wrap (bits .and .u64 (a/d) m+bits .and .u64 a m)
def popB(a:Int):Int:=bits .and .u64 (IntKind.u64.wrap (a/16+a)) 1085102592571150095
def popC(d a:Int):Int:=IntKind.u64.wrap (a+a/d)
theorem Yqz(a:Int):popX a=bits .and .i64 (IntKind.i64.wrap (popC 4294967296 (popC 65536 (popC 256 (popB (popA 3689348814741910323 4 (popA 6148914691236517205 2 a))))))) 127:=rfl
def qopA(m d a:Nat):Nat:=Nat.add (Nat.land (Nat.div a d) m) (Nat.land a m)
def qopB(a:Nat):Nat:=Nat.land (Nat.add (Nat.div a 16) a) 1085102592571150095
def qopC(d a:Nat):Nat:=Nat.add a (Nat.div a d)
def popQ(a:Nat):Nat:=Nat.land (qopC 4294967296 (qopC 65536 (qopC 256 (qopB (qopA 3689348814741910323 4 (qopA 6148914691236517205 2 a)))))) 127
theorem Yce(a b:Nat):Nat.land a b<=a:=NZ
theorem Ymn{m:Nat}(hm:m<18446744073709551616)(ha:a<100000000):popA m d a=(qopA m d a:Nat)/\qopA m d a<=2*a:=by
 have h1:Nat.div a d<=a:=Nat.div_le_self a d
 have h2:=Yce (Nat.div a d) m
 have h3:=Yce a m
 have e1:bits .and .u64 ((a:Int)/(d:Int)) (m:Int)=((Nat.land (Nat.div a d) m:Nat):Int):=Ygj (a:=Nat.div a d) (by omega) hm
 have e2:bits .and .u64 (a:Int) (m:Int)=((Nat.land a m:Nat):Int):=Ygj (by omega) hm
 unfold popA qopA
 rw[e1,e2,<-Int.natCast_add,YjD (by omega)]
 exact⟨rfl,by show Nat.land (Nat.div a d) m+Nat.land a m<=_;omega⟩
theorem YsO(ha:a<100000000):popB a=(qopB a:Nat)/\qopB a<=2*a:=by
 have h1:Nat.div a 16<=a:=Nat.div_le_self a 16
 have h2:=Yce (Nat.add (Nat.div a 16) a) 1085102592571150095
 have h3:Nat.add (Nat.div a 16) a=Nat.div a 16+a:=rfl
 have e1:IntKind.u64.wrap ((a:Int)/16+(a:Int))=((Nat.add (Nat.div a 16) a:Nat):Int):=YjD (x:=Nat.div a 16+a) (by omega)
 unfold popB qopB
 rw[e1]
 exact⟨Ygj (b:=1085102592571150095) (by omega) (by decide),by omega⟩
theorem YgR(ha:a<100000000):popC d a=(qopC d a:Nat)/\qopC d a<=2*a:=by
 have h1:Nat.div a d<=a:=Nat.div_le_self a d
 have h3:Nat.add a (Nat.div a d)=a+Nat.div a d:=rfl
 unfold popC qopC
 exact⟨YjD (x:=a+Nat.div a d) (by omega),by omega⟩
theorem YsP(ha:a<65536):popX (a:Int)=(popQ a:Int):=by
 obtain⟨e1,b1⟩:=Ymn (m:=6148914691236517205) (d:=2) (a:=a) (by decide) (by omega)
 obtain⟨e2,b2⟩:=Ymn (m:=3689348814741910323) (d:=4) (a:=qopA 6148914691236517205 2 a) (by decide) (by omega)
 obtain⟨e3,b3⟩:=YsO (a:=qopA 3689348814741910323 4 (qopA 6148914691236517205 2 a)) (by omega)
 obtain⟨e4,b4⟩:=YgR (d:=256) (a:=qopB (qopA 3689348814741910323 4 (qopA 6148914691236517205 2 a))) (by omega)
 obtain⟨e5,b5⟩:=YgR (d:=65536) (a:=qopC 256 (qopB (qopA 3689348814741910323 4 (qopA 6148914691236517205 2 a)))) (by omega)
 obtain⟨e6,b6⟩:=YgR (d:=4294967296) (a:=qopC 65536 (qopC 256 (qopB (qopA 3689348814741910323 4 (qopA 6148914691236517205 2 a))))) (by omega)
 have e7:popX (a:Int)=bits .and .i64 (IntKind.i64.wrap ((qopC 4294967296 (qopC 65536 (qopC 256 (qopB (qopA 3689348814741910323 4 (qopA 6148914691236517205 2 a))))):Nat):Int)) 127:=by
  rw[Yqz]
  exact TE (λz=>bits .and .i64 (IntKind.i64.wrap z) 127) ((TE (popC 4294967296) ((TE (popC 65536) ((TE (popC 256) ((TE popB ((TE (popA 3689348814741910323 4) e1).trans e2)).trans e3)).trans e4)).trans e5)).trans e6)
 rw[e7]
 unfold popQ
 generalize qopC 4294967296 (qopC 65536 (qopC 256 (qopB (qopA 3689348814741910323 4 (qopA 6148914691236517205 2 a)))))=z at b6⊢
 have h2:=Yce z 127
 have hz:IntKind.i64.wrap (z:Int)=(z:Int):=by rw[IntKind.wrap_i64];omega
 have ez:(BitVec.ofInt 64 (z:Int)).toNat=z:=by rw[NP,N3];exact NA (by omega)
 rw[hz]
 show IntKind.i64.wrap ((BitVec.ofInt 64 (z:Int)&&&BitVec.ofInt 64 (127:Int)).toNat:Int)=_
 rw[BitVec.toNat_and,ez,show(BitVec.ofInt 64 (127:Int)).toNat=127 from rfl,IntKind.wrap_i64]
 show(((Nat.land z 127:Nat):Int)+9223372036854775808)%18446744073709551616-9223372036854775808=_
 omega
def bitS:Nat->Nat->Nat
 |0,_=>0
 |k+1,a=>Nat.add (Nat.mod a 2) (bitS k (Nat.div a 2))
theorem YlC:∀k a:Nat,bitS k a=popN k a
 |0,_=>rfl
 |k+1,a=>TE (Nat.add (Nat.mod a 2)) (YlC k (Nat.div a 2))
def allN(f:Nat->Bool):Nat->Bool
 |0=>true
 |n+1=>f n&&allN f n
theorem Ygg{f:Nat->Bool}:∀{n:Nat},allN f n=true->∀i,i<n->f i=true
 |n+1,h,i,hi=>by
  unfold allN at h
  rw[To]at h
  by_cases e:i=n
  ·rw[e];exact h.1
  ·exact Ygg h.2 i (by omega)
theorem YsQ:allN (λh=>allN (λl=>Nat.beq (popQ (Nat.add (Nat.mul h 256) l)) (bitS 16 (Nat.add (Nat.mul h 256) l))) 256) 256=true:=by kernel_rfl
theorem YqB(h:a<65536):popX (a:Int)=(popN 16 a:Int):=by
 have h1:=Ygg (Ygg YsQ (a/256) (by omega)) (a%256) (by omega)
 have h2:Nat.add (Nat.mul (a/256) 256) (a%256)=a:=Nat.div_add_mod' a 256
 rw[h2]at h1
 rw[YsP h,Nat.eq_of_beq_eq_true h1,YlC]
theorem YfS:∀{xs ys:List Int},leF xs ys->sumP xs<=sumP ys
 |[],[],_=>Ry _
 |x::xs,y::ys,h=>by
  obtain⟨⟨a,b,rfl,rfl,ha,hb,hs⟩,h2⟩:=h
  have h3:=YfS h2
  have h4:=YfG (k:=16) hs
  simp only[sumP]
  rw[YjD (by omega),YjD (by omega),YqB ha,YqB hb]
  omega
 |[],_::_,h=>h.elim
 |_::_,[],h=>h.elim
theorem Yd3(a b:GwM)(he:a.gw=b.gw){B:Nat}{w0:World}{H:List HP}{w:World}(ha:a.In B w0 H)(hb:b.In B w0 H)(hw:St B w0 H w):
 CX B w0 26 [a.val,b.val] w λu K=>u=.bool true/\K=H:=by
 refine Yc Tryz.func26 Tryz.ntmps26 rfl rfl hw ?_
 have hpl:a.p.pln=b.p.pln:=TE Gwy.p he
 have hl:a.l=b.l:=TE Gwy.l he
 have hs:a.s=b.s:=TE Gwy.s he
 have p1:=λ{H':List HP}{w:World}(ha:a.In B w0 H') (hb:b.In B w0 H') (hw:St B w0 H' w)=>Yjg a.p b.p hpl ha.p hb.p hw
 unfold PnM.val at p1
 have hop:∀w,St B w0 [many H] w->St B w0 H w:=λw hw=>hw.perm (.openT H)
 have haM:∀{H':List HP},many H∈H'->a.In B w0 H':=λhm=>ha.mono λw hw=>hw.inM hm
 have hbM:∀{H':List HP},many H∈H'->b.In B w0 H':=λhm=>hb.mono λw hw=>hw.inM hm
 have hal:=ha.ll
 have has:=ha.sl
 have hll:a.l.length=b.l.length:=by rw[hl]
 have hss:a.s.length=b.s.length:=by rw[hs]
 unfold GwM.val
 refine Xf [many H] (λw hw=>hw.perm (.closeT H)) ?_
 (apply Xi;apply YU;apply YB;exact rfl;exact rfl;intro g)
 apply YB;exact rfl;exact rfl;intro g2
 have hra:=(haM (H':=[gwyA g2 b,gwyA g a,many H]) (.tail _ (.tail _ (.head _)))).l
 have hrb:=(hbM (H':=[gwyA g2 b,gwyA g a,many H]) (.tail _ (.tail _ (.head _)))).l
 have hsa:=(haM (H':=[gwyA g2 b,gwyA g a,many H]) (.tail _ (.tail _ (.head _)))).s
 have hsb:=(hbM (H':=[gwyA g2 b,gwyA g a,many H]) (.tail _ (.tail _ (.head _)))).s
 repeat'(first|(apply Ye T;exact rfl;exact zm;exact rfl;exact zv;exact rfl;exact rfl)|((first|apply Ya en69|apply Yb en69);exact za;exact rfl;exactλ_ hw=>(p1 (haM zm) (hbM zm) hw))|refine zgd ?_|(refine zge ?_ ?_<;>intro _<;>try exact zo)|fail)
 refine Yj (λk:Nat=>[(5,.int .i64 k),(2,.pointer (some ⟨g,0,none⟩)),(3,.pointer (some ⟨g2,0,none⟩))]) (λ_=>[gwyA g2 b,gwyA g a,many H]) (λk=>k<=a.l.length) (λk=>a.l.length-k) 0 (Tj _) ?_ (λw hw=>hw) ?_
 ·exact zu
 intro k hk K hK
 by_cases hlt:k<a.l.length
 ·obtain⟨x,hx⟩:∃x,a.l[k]? =some x:=⟨_,Ta hlt⟩
  have hy:=hx
  rw[hl]at hy
  repeat'(first|(apply OS (xs:=lopF x) (ys:=lopF x);(iterate 3 exact rfl);kernel_rfl;kernel_rfl;(intro hne;exact absurd rfl hne);intro _)|refine zgd ?_|(refine zge ?_ ?_<;>intro _<;>try exact zo)|fail)
  apply hK (k+1)
  ·omega
  ·omega
  ·exact zu
  ·exactλw hw=>hw
 clear hK hk
 repeat'(first|refine zgc ?_|(refine zge ?_ ?_<;>intro _<;>try exact zo)|fail)
 clear hlt
 refine Yj (λk:Nat=>[(6,.int .i64 k),(2,.pointer (some ⟨g,0,none⟩)),(3,.pointer (some ⟨g2,0,none⟩))]) (λ_=>[gwyA g2 b,gwyA g a,many H]) (λk=>k<=a.s.length) (λk=>a.s.length-k) 0 (Tj _) ?_ (λw hw=>hw) ?_
 ·exact zu
 intro k hk K hK
 by_cases hlt:k<a.s.length
 ·obtain⟨x,hx⟩:∃x,a.s[k]? =some x:=⟨_,Ta hlt⟩
  have hy:=hx
  rw[hs]at hy
  repeat'(first|(apply OS (xs:=splF x) (ys:=splF x);(iterate 3 exact rfl);kernel_rfl;kernel_rfl;(intro hne;exact absurd rfl hne);intro _)|refine zgd ?_|(refine zge ?_ ?_<;>intro _<;>try exact zo)|fail)
  apply hK (k+1)
  ·omega
  ·omega
  ·exact zu
  ·exactλw hw=>hw
 repeat'(first|refine zgc ?_|(refine zge ?_ ?_<;>intro _<;>try exact zo)|fail)
 apply Yi H
 ·intro w hw
  have h5:St B w0 [many H] w:=by
   revert w
   exact zk
  exact hop w h5
 apply Yd;exact rfl;exact rfl;exact⟨rfl,rfl⟩
def zeroGw:GwM:=⟨⟨⟨0,none,0,[],0,0,none,0,[],none,0,[]⟩,none,0,[],⟨0,0,none,0,[]⟩,none,0,[],none,0,[]⟩,none,0,[],none,0,[]⟩
variable {B:Nat}{w0:World}{H:List HP}
theorem YmC:zeroGw.In B w0 H:=
 ⟨⟨⟨Rd.nil,λr h=>(by cases h),Rd.nil,Rd.nil,Tj _,λr h=>(by cases h),Tj _,Tj _⟩,⟨Rd.nil,λx h=>(by cases h),Tj _⟩,Rd.nil,Tj _,⟨Rd.nil,λx h=>(by cases h),Tj _⟩,Rd.nil,Tj _⟩,Rd.nil,Rd.nil,Tj _,Tj _,Tj _,Tj _⟩
theorem Ymm{p:Pln}(h:chkP p=0):Xm p.s=true/\p.f=Zp p.s:=by
 have hok:=UJ h
 have hf:=hok.f
 have hfr:=hok.free
 unfold XZ at hf hfr
 split at hfr
 ·cases hfr
 rename_i h1
 rw[Td h1]at hf
 exact⟨by simpa using h1,hf⟩
variable {g a:Gwy}
theorem YnD{id:Int}(hg:GwOk g)(ha:GwOk a)(h:disG a id=(some g,0)):sumP a.p.f<=sumP g.p.f:=by
 have hh:hasL a.l id=true:=by
  cases hh:hasL a.l id with
  |true=>rfl
  |false=>
   unfold disG at h
   rw[Td (λe=>e (XO.2 ha)),Tm hh]at h
   cases h
 obtain⟨q1,q2,-,-,-,-,-,hd,hs,-⟩:=Ygq ha hh
 rw[h]at hd
 obtain rfl:g=_:=Tv (TE Prod.fst hd)
 obtain⟨h1,h2⟩:=Ymm ha.p
 obtain⟨-,h4⟩:=Ymm hg.p
 rw[h2,h4]
 refine YfS (YnU h1 ?_ ?_ ?_)
 ·show q2.s.len=_
  rw[hs];rfl
 ·show q2.s.off=_
  rw[hs];rfl
 ·show q2.s.cells.Sublist _
  rw[hs]
  exact(SG).trans SG
theorem YrV{l:Lop}(h:admG g l=(some a,0)):chkG g=0:=TN.1 λhne=>by
 unfold admG at h
 rw[Tm hne]at h
 cases h
theorem Yvp(g:GwM)(l:Lop){w:World}(ht:TabsB B w0)(hg:g.Bg B w0 H)(hw:St B w0 H w):
 CX B w0 5 [g.val,lopV l] w λv K=>v=.bool true/\K=H:=by
 refine Yc Tryz.func5 Tryz.ntmps5 rfl rfl hw ?_
 have p0:=λ{H':List HP}{w:World}(hg:g.Bg B w0 H') (hw:St B w0 H' w)=>QF g hg hw
 have p2:=λ(h24:g.p.s.len<=24\/chkG g.gw≠0) {H':List HP}{w:World}(hg:g.In B w0 H') (hw:St B w0 H' w)=>VH g l h24 ht hg hw
 have hop:∀w,St B w0 [many H] w->St B w0 H w:=λw hw=>hw.perm (.openT H)
 have hbM:∀{H':List HP},many H∈H'->g.Bg B w0 H':=λhm=>hg.mono λw hw=>hw.inM hm
 unfold GwM.val at p0 p2
 unfold lopV at p2
 unfold GwM.val lopV
 refine Xf [many H] (λw hw=>hw.perm (.closeT H)) ?_
 iterate 8 (first|refine zga ?_|(refine zgh ?_;intro _)|fail)
 rename_i g3 g4
 refine ZV (λ_:{u:Unit//FewG g}=>[(2,.pointer (some ⟨g3,0,none⟩)),(3,.pointer (some ⟨g4,0,none⟩))]) (λ_=>[lopA g4 l,gwyA g3 g,many H]) ?_ ?_
 ·intro K hK
  repeat'(first|refine zga ?_|fail)
  first|apply Ya en21|apply Yb en21
  exact za
  exact rfl
  exactλ_ hw=>(XF ht hw)
  repeat'(first|refine zgd ?_|fail)
  apply Yf _ en22
  exact za
  exact rfl
  exactλ_ hw=>(p0 (hbM zm) (hw))
  rintro _ _ ⟨⟨b,rfl,hfew⟩,hK0⟩
  rw[hK0]
  cases b with
  |false=>
   repeat'(first|((first|apply Ya en21|apply Yb en21);exact za;exact rfl;exactλ_ hw=>(XF ht hw))|refine zgd ?_|fail)
   apply Yi H
   ·intro w hw
    have h5:St B w0 [many H] w:=by
     revert w
     exact zk
    exact hop w h5
   apply Yd;exact rfl;exact rfl;exact⟨rfl,rfl⟩
  |true=>
  have hfew:=hfew rfl
  repeat'(first|((first|apply Ya en21|apply Yb en21);exact za;exact rfl;exactλ_ hw=>(XF ht hw))|refine zgd ?_|(refine zgf ?_ ?_<;>intro _<;>try exact zo)|fail)
  all_goals first
   |(apply hK ⟨(),hfew⟩
     ·exact zu
     ·exact zk
     done)
   |(apply Yi H
     ·intro w hw
      have h5:St B w0 [many H] w:=by
       revert w
       exact zk
      exact hop w h5
     apply Yd;exact rfl;exact rfl;exact⟨rfl,rfl⟩)
 rintro⟨⟨⟩,hfew⟩
 have hgM:∀{H':List HP},many H∈H'->g.In B w0 H':=λhm=>(hbM hm).small hfew
 have h24:g.p.s.len<=24\/chkG g.gw≠0:=by
  by_cases hk:chkG g.gw=0
  ·exact .inl (Yl8 hfew hk)
  ·exact .inr hk
 have p2:=λ{H':List HP}{w:World}=>p2 h24 (H':=H') (w:=w)
 unfold UP at p2
 rcases YeX g.gw l with⟨ag,hA⟩|⟨e,hA,he⟩
 rotate_left
 ·rw[hA]at p2
  dsimp only at p2
  have p7:∀{H':List HP}{w:World},St B w0 H' w->CX B w0 26 [VS,VS] w λu K=>u=.bool true/\K=H':=λhw=>Yd3 zeroGw zeroGw rfl YmC YmC hw
  repeat'(first|refine zgb ?_|fail)
  apply Yf _ en24
  exact za
  exact rfl
  exactλ_ hw=>(p2 (hgM zm) (hw))
  rintro _ _ (⟨-,rfl,rfl⟩|⟨a,X,h,-⟩)
  rotate_left
  ·cases h
  unfold VS at p7⊢
  repeat'(first|((first|apply Ya en26|apply Yb en26);exact za;exact rfl;exactλ_ hw=>(p7 hw))|refine zgd ?_|(refine zge ?_ ?_<;>intro _<;>try exact zo)|(refine zgh ?_;intro _)|fail)
  apply Yi H
  ·intro w hw
   have h5:St B w0 [many H] w:=by
    revert w
    exact zk
   exact hop w h5
  apply Yd;exact rfl;exact rfl;exact⟨rfl,rfl⟩
 have hk:=YrV hA
 have hok:=XO.1 hk
 obtain⟨hao,-⟩:=YjQ hok hA
 have hba:=Ypd hok hA
 rw[hA]at p2
 dsimp only at p2
 repeat'(first|refine zgb ?_|fail)
 apply Yf _ en24
 exact za
 exact rfl
 exactλ_ hw=>(p2 (hgM zm) (hw))
 rintro _ _ (⟨h,-⟩|⟨a,X,ha,rfl,hai,rfl⟩)
 ·cases h
 obtain rfl:ag=a.gw:=Tv ha
 have hfl:sumP a.p.f<=sumP g.p.f:=YnD hok hao hba
 have p3:∀{H':List HP}{w:World},a.In B w0 H'->St B w0 H' w->CX B w0 25 [a.val,.int .i64 l.1] w (UP B w0 H' (some g.gw,0)):=λhai hw=>by
  have h:=Ub a l.1 ht hai hw
  rwa [hba]at h
 have p4:∀{H':List HP}{w:World},g.In B w0 H'->St B w0 H' w->CX B w0 27 [g.val] w λv K=>v=.tuple #[.int .i64 (sumP g.p.f),.int .i64 0]/\K=H':=λhgi hw=>by
  have h:=Ou g ht hgi hw
  unfold Ydj at h
  rw[Td (λe=>e hk)]at h
  exact h
 have p5:∀{H':List HP}{w:World},a.In B w0 H'->St B w0 H' w->CX B w0 27 [a.val] w λv K=>v=.tuple #[.int .i64 (sumP a.p.f),.int .i64 0]/\K=H':=λhai hw=>by
  have h:=Ou a ht hai hw
  unfold Ydj at h
  rw[Td (λe=>e (XO.2 hao))]at h
  exact h
 unfold UP at p3
 unfold GwM.val at p3 p4 p5
 dsimp only at p3
 repeat'(first|refine zgc ?_|(refine zge ?_ ?_<;>intro _<;>try exact zo)|(refine zgh ?_;intro _)|fail)
 apply Yf _ en25
 exact za
 exact rfl
 exactλ_ hw=>(p3 (hai.inX zm) (hw))
 rintro _ _ (⟨h,-⟩|⟨b,Y,hb,rfl,hbi,rfl⟩)
 ·cases h
 have hb:g.gw=b.gw:=Tv hb
 have p6:=λ{H':List HP}{w:World}(hbi:b.In B w0 H') (hgi:g.In B w0 H') (hw:St B w0 H' w)=>Yd3 b g hb.symm hbi hgi hw
 unfold GwM.val at p6
 repeat'(first|refine zgc ?_|(refine zgh ?_;intro _)|fail)
 first|apply Ya en27|apply Yb en27
 exact za
 exact rfl
 exactλ_ hw=>(p4 (hgM zm) hw)
 repeat'(first|refine zgc ?_|fail)
 first|apply Ya en27|apply Yb en27
 exact za
 exact rfl
 exactλ_ hw=>(p5 (hai.inX zm) hw)
 repeat'(first|refine zgc ?_|(refine zge ?_ ?_<;>intro _<;>try exact zo)|fail)
 first|apply Ya en26|apply Yb en26
 exact za
 exact rfl
 exactλ_ hw=>(p6 (hbi.inX zm) (hgM zm) hw)
 repeat'(first|refine zgc ?_|(refine zgf ?_ ?_<;>intro _<;>try exact zo)|fail)
 apply Yi H
 ·intro w hw
  have h5:St B w0 [many H] w:=by
   revert w
   exact zk
  exact hop w h5
 apply Yd;exact rfl;exact rfl;exact⟨rfl,rfl⟩
open Go.ChangeShapes Go.WideShapes Go.ChangeAt Go.RowKit Go.Eng Go.Nw Go.Rt
section
variable {H:Type}{enc:TypeId×Value->H}{W:World}{spare:Nat->Bool}{held:Bool}
theorem YwL{r:Reach}{b0:Nat}{v:Value}{d:DataW H}{p:List MemPlace}(hv:Value.okWide Tryz.prog W r b0 77 v)(h:DataW.Trod enc Tryz.prog W 0 spare held 77 v d p):∃f:Lop,v=lopV f/\LopG f:=by
 obtain⟨cs,rfl,_⟩:=okWide_struct Tryz.underlying77 hv
 obtain⟨fuel,hf⟩:=h
 obtain⟨n,h1,h2⟩:=Ymj fuel _ _ hf
 refine⟨n,?_,h2⟩
 have:cs=(lopF n).toArray:=by rw[<-h1];simp[Value.cells]
 rw[this];rfl
end
end Go.Proofs.YtambgjgljcadlaaGreatDoor
