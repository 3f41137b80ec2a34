/- Lemmas for the claim, part 12. -/
import Derived.Test.YtaholidehobiiaaGreatDoorQ8
import Derived.Test.YtaholidehobiiaaGreatDoorQ9
set_option maxRecDepth 100000
set_option maxHeartbeats 8000000
set_option linter.all false
namespace Go.Proofs.YtaholidehobiiaaGreatDoor
open Go.RowKit Go.Eng Go.Nw
def cmpV(a b:List Int):Int:=if Y2 a b=true then -1 else if Y2 b a=true then 1 else 0
theorem Yfh(a b:List Int)(hla:a.length<=1000000000000)(hlb:b.length<=1000000000000){A1 A2:Option Addr}{c1 c2 B:Nat}{w0:World}{H:List HP}{w:World}(hr1:Rd B w0 H A1 (a.flatMap numF))(hr2:Rd B w0 H A2 (b.flatMap numF))(hw:St B w0 H w):
 CX B w0 342 [.slice A1 a.length c1,.slice A2 b.length c2] w λv K=>v=.int .i64 (cmpV a b)/\K=H:=by
 refine Yc Tryz.func342 Tryz.ntmps342 rfl rfl hw ?_
 refine zX8 ?_
 refine Yg (λ(i:Nat)=>[(11,.int .i64 i),(10,.int .i64 a.length),(9,.slice A1 a.length c1),(0,.slice A1 a.length c1),(1,.slice A2 b.length c2)]) (λ_=>H) (λi=>i<=a.length/\i<=b.length/\Y2 a b=Y2 (a.drop i) (b.drop i)/\Y2 b a=Y2 (b.drop i) (a.drop i)) (λi=>a.length-i) 0 ⟨Tm _,Tm _,rfl,rfl⟩ ?_ (λw hw=>hw) ?_
 ·exact zc1
 rintro i ⟨hi,hib,e1,e2⟩ K hK
 by_cases hlt:i<a.length
 ·obtain⟨x,hx⟩:∃x,a[i]? =some x:=⟨_,Ta hlt⟩
  by_cases hltb:i<b.length
  ·obtain⟨y,hy⟩:∃y,b[i]? =some y:=⟨_,Ta hltb⟩
   have d1:=Yd5 hx hy
   have d2:=Yd5 hy hx
   have hcm:=λ{w:World}(hw:St B w0 H w)=>OB x y hw
   by_cases hxy:x=y
   ·rw[Tf (λh=>h hxy)]at d1
    rw[Tf (λh=>h hxy.symm)]at d2
    rw[show cmpI x y=0 by unfold cmpI;rw[Tf (by omega),Tf (by omega)]]at hcm
    repeat'(first|((first|apply Ya YbY|apply Yb YbY);exact za;exact rfl;exactλ_ hw=>(hcm hw))|refine zgc ?_|(refine zgf ?_ ?_<;>intro _<;>try exact zo)|fail)
    apply hK (i+1)
    ·exact⟨by omega,by omega,e1.trans d1,e2.trans d2⟩
    ·omega
    ·exact zc1
    exact zc17
   ·rw[Tn hxy]at d1
    rw[Tn (NU hxy)]at d2
    clear hK
    rcases Int.lt_or_gt_of_ne hxy with h|h
    ·rw[show cmpI x y= -1 by unfold cmpI;rw[Tn h]]at hcm
     have hv:cmpV a b= -1:=by unfold cmpV;rw[e1,d1,Tn (Td h)]
     rw[hv]
     refine zX24 ?_<;>intros
     exact zc4
    ·rw[show cmpI x y=1 by unfold cmpI;rw[Tf (by omega),Tn h]]at hcm
     have hv:cmpV a b=1:=by unfold cmpV;rw[e1,d1,Ti (by omega),Tf (by decide),e2,d2,Tn (Td h)]
     rw[hv]
     refine zX24 ?_<;>intros
     exact zc4
  ·obtain rfl:i=b.length:=by omega
   clear hK
   have hv:cmpV a b=1:=by
    unfold cmpV
    rw[e1,e2,SG,Rl hlt]
    rfl
   rw[hv]
   refine zX25 ?_<;>intros
   exact zc4
 ·obtain rfl:i=a.length:=by omega
  clear hK
  rw[SG]at e1 e2
  by_cases hl:a.length<b.length
  ·have hv:cmpV a b= -1:=by
    unfold cmpV
    rw[e1,Rl hl]
    rfl
   rw[hv]
   refine zX1 ?_<;>intros
   exact zc4
  ·have hv:cmpV a b=0:=by
    unfold cmpV
    rw[e1,e2,Ru (by omega)]
    rfl
   rw[hv]
   refine zX1 ?_<;>intros
   exact zc4
open Go.ChangeShapes Go.WideShapes Go.ChangeAt Go.RowKit Go.Eng Go.Nw
section
variable {H:Type}{enc:TypeId×Value->H}{W:World}{spare:Nat->Bool}{held:Bool}
abbrev I64(z:Int):Prop:=(Lit.int .i64 z).wf=true
theorem op_i:Opn enc Tryz.prog W spare held 3 numF I64:=YwE Tryz.underlying3
theorem YhJ:Opn enc Tryz.prog W spare held 24 (λs:SlM Int=>[s.val]) (SlG W numF I64):=Z7 (q:=1) Tryz.underlying24 (by kernel_rfl) (by decide) op_i
theorem Yt0:Opn enc Tryz.prog W spare held 22 (λs:SlM (SlM Int)=>[s.val]) (SlG W (λs:SlM Int=>[s.val]) (SlG W numF I64)):=Z7 (q:=1) Tryz.underlying22 (by kernel_rfl) (by decide) YhJ
theorem YtY:Opn enc Tryz.prog W spare held 140 lkF (λl=>I64 l.1/\I64 l.2.1/\I64 l.2.2):=
 U4 (JH (ts:=[3,3,3]) (by kernel_rfl) (YD op_i (YD op_i (YD op_i UM)))) (λx=>(x.1,x.2.1,x.2.2.1)) (λ_=>rfl) (λ_ h=>⟨h.1,h.2.1,h.2.2.1⟩)
theorem YrO:Opn enc Tryz.prog W spare held 23 (λs:SlM Lk=>[s.val]) (SlG W lkF λl=>I64 l.1/\I64 l.2.1/\I64 l.2.2):=Z7 (q:=3) Tryz.underlying23 (by kernel_rfl) (by decide) YtY
structure NetG(W:World)(n:NetM):Prop where
 nodes:I64 n.nodes
 pw:Old W n.pA (n.rows.flatMap rowF)
 rw_:∀r∈n.rows,Old W r.A (r.xs.flatMap numF)
 noise:I64 n.noise
 thr:I64 n.thr
 lk:Old W n.lA (n.links.flatMap lkF)
 mg:Old W n.mA (n.margin.flatMap numF)
 s1:n.rows.length<=9223372036854775807
 s2:∀r∈n.rows,r.xs.length<=9223372036854775807
 s3:n.links.length<=9223372036854775807
 s4:n.margin.length<=9223372036854775807
 w1:∀r∈n.rows,∀z∈r.xs,I64 z
 w2:∀l∈n.links,I64 l.1/\I64 l.2.1/\I64 l.2.2
 w3:∀z∈n.margin,I64 z
 c3:n.links.length<=n.lcap
 c4:n.margin.length<=n.mcap
theorem NetG.In{n:NetM}{K:List HP}(h:NetG W n):n.In W.heap.size W K:=⟨h.pw.rd,λr hr=>(h.rw_ r hr).rd,h.lk.rd,h.mg.rd,h.s1,h.s2,h.s3,h.s4⟩
def netF(n:NetM):List Value:=[.int .i64 n.nodes,.slice n.pA n.rows.length n.pcap,.int .i64 n.noise,.int .i64 n.thr,.slice n.lA n.links.length n.lcap,.slice n.mA n.margin.length n.mcap]
def YnJ(s:SlM Int):RowM:=⟨s.A,s.cap,s.xs⟩
theorem Ylq(l:List (SlM Int)):(l.map YnJ).flatMap rowF=l.flatMap λs=>[s.val]:=by rw[List.flatMap_map];rfl
theorem maxL:maxLen<=9223372036854775807:=by decide
theorem YrQ:Opn enc Tryz.prog W spare held 26 netF (NetG W):=
 U4 (JH (ts:=[3,22,3,3,23,24]) (by kernel_rfl) (YD op_i (YD Yt0 (YD op_i (YD op_i (YD YrO (YD YhJ UM)))))))
  (λx=>⟨x.1,x.2.1.A,x.2.1.cap,x.2.1.xs.map YnJ,x.2.2.1,x.2.2.2.1,x.2.2.2.2.1.A,x.2.2.2.2.1.cap,x.2.2.2.2.1.xs,x.2.2.2.2.2.1.A,x.2.2.2.2.2.1.cap,x.2.2.2.2.2.1.xs⟩)
  (λx=>by simp[netF,numF,SlM.val])
  (λx h=>by
   obtain⟨h1,h2,h3,h4,h5,h6,_⟩:=h
   have hm:=maxL
   refine⟨h1,?_,?_,h3,h4,h5.old,h6.old,?_,?_,T9 h5.len hm,T9 h6.len hm,?_,h5.good,h6.good,h5.cap,h6.cap⟩
   ·rw[Ylq];exact h2.old
   ·intro r hr
    obtain⟨s,hs,rfl⟩:=TC.1 hr
    exact(h2.good s hs).old
   ·rw[TB];exact T9 h2.len hm
   ·intro r hr
    obtain⟨s,hs,rfl⟩:=TC.1 hr
    exact T9 (h2.good s hs).len hm
   ·intro r hr
    obtain⟨s,hs,rfl⟩:=TC.1 hr
    exact(h2.good s hs).good)
end
end Go.Proofs.YtaholidehobiiaaGreatDoor
