/- Lemmas. -/
import Derived.Test.YtjlgijpmnfabcaaGreatDoorQ14
import Derived.Test.YtjlgijpmnfabcaaGreatDoorQ15
set_option maxRecDepth 100000
set_option maxHeartbeats 8000000
set_option linter.all false
namespace Go.Proofs.YtjlgijpmnfabcaaGreatDoor
open Go.RowKit Go.Eng Go.Nw Go.Rt
def YaI(id k:Int)(d:Int×Int×Int):Bool:=decide (d.1=id/\d.2.1=k)
def delT(dels:List (Int×Int×Int))(id k:Int):Option Int:=(dels.find? (YaI id k)).map (·.2.2)
structure ClM.Bg(B:Nat)(w0:World)(H:List HP)(c:ClM):Prop where
 rt:Rd B w0 H c.rA (c.rs.flatMap rowF)
 rw_:∀r∈c.rs,Rd B w0 H r.A (r.xs.flatMap numF)
 bd:Rd B w0 H c.bA (c.bs.flatMap numF)
 ws:Rd B w0 H c.wA (c.ws.flatMap numF)
 st:Rd B w0 H c.sA (c.ss.flatMap rowF)
 sw:∀r∈c.ss,Rd B w0 H r.A (r.xs.flatMap numF)
 ln:c.rs.length<=9223372036854775807/\c.bs.length<=9223372036854775807/\c.ws.length<=9223372036854775807/\c.ss.length<=9223372036854775807
 rl:∀r∈c.rs,r.xs.length<=9223372036854775807
 sl:∀r∈c.ss,r.xs.length<=9223372036854775807
structure CBg(B:Nat)(w0:World)(H:List HP)(A:Option Addr)(c:List ClM):Prop where
 rd:Rd B w0 H A (c.flatMap clF)
 x:∀x∈c,x.Bg B w0 H
 ln:c.length<=9223372036854775807
def FewX(x:ClM):Prop:=x.rs.length<=3/\x.bs.length<=8/\x.ws.length<=8/\x.ss.length<=8/\(∀r∈x.rs,r.xs.length<=12)/\∀r∈x.ss,r.xs.length<=70
def FewC(c:List ClM):Prop:=c.length<=17/\∀x∈c,FewX x
variable {B k:Nat}{w0:World}{H:List HP}{A:Option Addr}
theorem CBg.small{c:List ClM}(h:CBg B w0 H A c)(hf:FewC c):CIn B w0 H A c:=by
 refine⟨h.rd,λx hx=>?_,by have:=hf.1;omega⟩
 have h1:=h.x x hx
 obtain⟨f1,f2,f3,f4,f5,f6⟩:=hf.2 x hx
 exact⟨h1.rt,h1.rw_,h1.bd,h1.ws,h1.st,h1.sw,by omega,λr hr=>by grind,λr hr=>by grind⟩
variable {α:Type}
theorem WA{P:α->Prop}{l:List α}{x:α}(h:∀y∈l.take k,P y)(hx:l[k]? =some x)(hp:P x):∀y∈l.take (k+1),P y:=YdT
theorem Qh{P:α->Prop}{l:List α}(h:∀y∈l.take k,P y)(hk:¬k<l.length):∀y∈l,P y:=by
 grind [TX]
theorem YcB(c:List ClM){cap:Nat}{w:World}(hc:CBg B w0 H A c)(hw:St B w0 H w):
 CX B w0 34 [.slice A c.length cap] w λv K=>(∃b,v=.bool b/\(b=true->FewC c))/\K=H:=by
 refine Ya Tryz.func34 Tryz.ntmps34 rfl rfl hw ?_
 have hcl:=hc.ln
 have hcr:=hc.rd
 repeat'(first|refine zgc ?_|(refine zge ?_ ?_<;>intro _<;>try exact zo)|fail)
 any_goals(apply Yd;exact rfl;exact rfl;simp_all)
 all_goals(
  have hc17:c.length<=17:=by omega
  refine Yi (λk:Nat=>[(3,.int .i64 (k:Nat)),(0,.slice A c.length cap)]) (λ_=>H) (λk=>k<=c.length/\∀x∈c.take k,FewX x) (λk=>c.length-k) 0 ⟨Ti _,by simp⟩ ?_ (λw hw=>hw) ?_
  ·exact zu
  rintro i ⟨hi,hz⟩ K hK
  by_cases hlt:i<c.length
  rotate_left
  ·repeat'(first|refine zgc ?_|(refine zge ?_ ?_<;>intro _<;>try exact zo)|fail)
   apply Yd;exact rfl;exact rfl;exact⟨⟨_,rfl,λ_=>⟨hc17,Qh hz hlt⟩⟩,rfl⟩
  obtain⟨x,hx⟩:∃x,c[i]? =some x:=⟨_,Ta hlt⟩
  have hxi:=hc.x x (Td hx)
  have hxl:=hxi.ln
  have hxr:=hxi.rt
  have hxs:=hxi.st
  repeat'(first|refine zgd ?_|(refine zge ?_ ?_<;>intro _<;>try exact zo)|fail)
  any_goals(apply Yd;exact rfl;exact rfl;exact⟨⟨_,rfl,λh=>by cases h⟩,rfl⟩)
  have hx4:x.rs.length<=3/\x.bs.length<=8/\x.ws.length<=8/\x.ss.length<=8:=by omega
  refine Yi (λk:Nat=>[(4,.int .i64 (k:Nat)),(3,.int .i64 (i:Nat)),(0,.slice A c.length cap)]) (λ_=>H) (λk=>k<=x.rs.length/\∀r∈x.rs.take k,r.xs.length<=12) (λk=>x.rs.length-k) 0 ⟨Ti _,by simp⟩ ?_ (λw hw=>hw) ?_
  ·exact zu
  rintro k ⟨hk,hz2⟩ K2 hK2
  by_cases hlk:k<x.rs.length
  ·obtain⟨r,hr⟩:∃r,x.rs[k]? =some r:=⟨_,Ta hlk⟩
   have hrl:=hxi.rl r (Td hr)
   repeat'(first|refine zgd ?_|(refine zge ?_ ?_<;>intro _<;>try exact zo)|fail)
   any_goals(apply Yd;exact rfl;exact rfl;exact⟨⟨_,rfl,λh=>by cases h⟩,rfl⟩)
   apply hK2 (k+1)
   ·exact⟨by omega,WA hz2 hr (by omega)⟩
   ·omega
   ·exact zu
   ·exactλw hw=>hw
  clear hK2
  repeat'(first|refine zgd ?_|(refine zge ?_ ?_<;>intro _<;>try exact zo)|fail)
  refine Yi (λk:Nat=>[(5,.int .i64 (k:Nat)),(3,.int .i64 (i:Nat)),(0,.slice A c.length cap)]) (λ_=>H) (λk=>k<=x.ss.length/\∀r∈x.ss.take k,r.xs.length<=70) (λk=>x.ss.length-k) 0 ⟨Ti _,by simp⟩ ?_ (λw hw=>hw) ?_
  ·exact zu
  have hz2:=Qh hz2 hlk
  rintro k ⟨hk,hz3⟩ K2 hK2
  by_cases hlk:k<x.ss.length
  ·obtain⟨r,hr⟩:∃r,x.ss[k]? =some r:=⟨_,Ta hlk⟩
   have hrl:=hxi.sl r (Td hr)
   repeat'(first|refine zgd ?_|(refine zge ?_ ?_<;>intro _<;>try exact zo)|fail)
   any_goals(apply Yd;exact rfl;exact rfl;exact⟨⟨_,rfl,λh=>by cases h⟩,rfl⟩)
   apply hK2 (k+1)
   ·exact⟨by omega,WA hz3 hr (by omega)⟩
   ·omega
   ·exact zu
   ·exactλw hw=>hw
  clear hK2
  repeat'(first|refine zgd ?_|(refine zge ?_ ?_<;>intro _<;>try exact zo)|fail)
  apply hK (i+1)
  ·exact⟨by omega,WA hz hx ⟨hx4.1,hx4.2.1,hx4.2.2.1,hx4.2.2.2,hz2,Qh hz3 hlk⟩⟩
  ·omega
  ·exact zu
  ·exactλw hw=>hw)
open Go.ChangeShapes Go.WideShapes Go.ChangeAt Go.RowKit Go.Eng Go.Nw Go.Rt
variable {W:World}{K:List HP}
theorem ClG.bg{c:ClM}(h:ClG W c):c.Bg W.heap.size W K:=
 ⟨h.rt.rd,λr hr=>(h.rg r hr).old.rd,h.bd.old.rd,h.ws.old.rd,h.st.rd,λr hr=>(h.sg r hr).old.rd,⟨h.rl,h.bd.len,h.ws.len,h.sl⟩,λr hr=>(h.rg r hr).len,λr hr=>(h.sg r hr).len⟩
theorem Yrs{s:SlM ClM}(h:SlG W clF (ClG W) s):CBg W.heap.size W K s.A s.xs:=
 ⟨h.old.rd,λx hx=>(h.good x hx).bg,TY h.len maxL⟩
structure RqM.Bg(B:Nat)(w0:World)(H:List HP)(x:RqM):Prop where
 rt:Rd B w0 H x.A (x.rows.flatMap rowF)
 rw_:∀r∈x.rows,Rd B w0 H r.A (r.xs.flatMap numF)
 ln:x.rows.length<=9223372036854775807
 rl:∀r∈x.rows,r.xs.length<=9223372036854775807/\r.xs.length<=r.cap
structure QBg(B:Nat)(w0:World)(H:List HP)(A:Option Addr)(q:List RqM):Prop where
 rd:Rd B w0 H A (q.flatMap rqF)
 x:∀x∈q,x.Bg B w0 H
 ln:q.length<=9223372036854775807
variable {B cap:Nat}{w0 w:World}{H H':List HP}
theorem RqM.Bg.mono{x:RqM}(h:x.Bg B w0 H)(hH:∀w,St B w0 H' w->St B w0 H w):x.Bg B w0 H':=⟨h.rt.mono hH,λr hr=>(h.rw_ r hr).mono hH,h.ln,h.rl⟩
variable {A:Option Addr}{q:List RqM}
theorem QBg.mono(h:QBg B w0 H A q)(hH:∀w,St B w0 H' w->St B w0 H w):QBg B w0 H' A q:=⟨h.rd.mono hH,λx hx=>(h.x x hx).mono hH,h.ln⟩
def FewR(l:List RowM):Prop:=l.length<=3/\∀r∈l,r.xs.length<=12
def FewQ(q:List RqM)(s:SchM):Prop:=q.length<=4/\s.cells.length<=30/\∀x∈q,FewR x.rows
theorem QBg.small{s:SchM}(h:QBg B w0 H A q)(hf:FewQ q s):QIn B w0 H A q:=by
 refine⟨h.rd,λx hx=>?_,by have:=hf.1;omega⟩
 have h1:=h.x x hx
 obtain⟨f1,f2⟩:=hf.2.2 x hx
 exact⟨h1.rt,h1.rw_,by omega,λr hr=>⟨by grind,(h1.rl r hr).2⟩⟩
theorem Yvj{W:World}{s:SlM RqM}{K:List HP}(h:SlG W rqF (RqG W) s):QBg W.heap.size W K s.A s.xs:=
 ⟨h.old.rd,λx hx=>⟨(h.good x hx).old.rd,λr hr=>((h.good x hx).good r hr).old.rd,(h.good x hx).len,λr hr=>⟨((h.good x hx).good r hr).len,((h.good x hx).good r hr).cap⟩⟩,TY h.len maxL⟩
theorem YjR(n:NetM)(s:SchM)(l:List RowM)(hin:n.In B w0 H)(hr:Rd B w0 H A (l.flatMap rowF))(hll:l.length<=9223372036854775807)(_hsl:s.cells.length<=9223372036854775807)(hlr:∀r∈l,r.xs.length<=9223372036854775807)(hw:St B w0 H w):
 CX B w0 92 [n.val,s.val,.slice A l.length cap] w λv K=>(∃b,v=.bool b/\(b=true->FewR l))/\K=H:=by
 refine Ya Tryz.func92 Tryz.ntmps92 rfl rfl hw ?_
 unfold NetM.val SchM.val
 have p1:=λ{H':List HP}{w:World}(hin:n.In B w0 H') (hw:St B w0 H' w)=>YhS n hin hw
 unfold NetM.val at p1
 repeat'(first|refine zgb ?_|(refine zgh ?_;intro _)|fail)
 rename_i g3 g4
 refine Yi (λk:Nat=>[(7,.int .i64 (k:Nat)),(2,.slice A l.length cap),(4,.pointer (some ⟨g4,0,none⟩)),(3,.pointer (some ⟨g3,0,none⟩))]) (λ_=>schA g4 s::netA g3 n::H) (λk=>k<=l.length/\∀r∈l.take k,r.xs.length<=12) (λk=>l.length-k) 0 ⟨Ti _,by simp⟩ ?_ (λw hw=>hw) ?_
 ·exact zc1
 rintro k ⟨hk,hz⟩ K hK
 have hr2:Rd B w0 (schA g4 s::netA g3 n::H) A (l.flatMap rowF):=hr.cons.cons
 by_cases hlt:k<l.length
 ·obtain⟨r,hx⟩:∃r,l[k]? =some r:=⟨_,Ta hlt⟩
  have hrl:=hlr r (Td hx)
  repeat'(first|refine zgd ?_|(refine zge ?_ ?_<;>intro _<;>try exact zo)|fail)
  ·apply Yh H
   ·exact zc0
   exact zc77
  ·apply hK (k+1)
   ·exact⟨by omega,WA hz hx (by omega)⟩
   ·omega
   ·exact zc1
   exact zc21
 ·have hz:=Qh hz hlt
  clear hK
  cases hb:fewE n.net<;>(
   rw[hb]at p1
   repeat'(first|refine zgc ?_|(refine zge ?_ ?_<;>intro _<;>try exact zo)|fail)
   first|apply Yb en18|apply Yc en18
   exact za
   exact rfl
   exactλ_ hw=>(p1 (hin.mono zk) hw)
   repeat'(first|refine zgc ?_|(refine zgf ?_ ?_<;>intro _<;>try exact zo)|fail)
   all_goals(
    apply Yh H
    ·exact zk
    apply Yd;exact rfl;exact rfl
    exact⟨⟨_,rfl,λh=>by first|(exact absurd h (by decide))|(rw[Tq]at h;exact⟨by omega,hz⟩)|exact⟨by omega,hz⟩⟩,rfl⟩))
theorem YjS(n:NetM)(q:List RqM)(s:SchM)(hin:n.In B w0 H)(hq:QBg B w0 H A q)(hsl:s.cells.length<=9223372036854775807)(hw:St B w0 H w):
 CX B w0 33 [n.val,.slice A q.length cap,s.val] w λv K=>(∃b,v=.bool b/\(b=true->FewQ q s))/\K=H:=by
 refine Ya Tryz.func33 Tryz.ntmps33 rfl rfl hw ?_
 unfold NetM.val SchM.val
 have p1:=λ{H':List HP}{w:World}(hin:n.In B w0 H') (hw:St B w0 H' w)=>YhS n hin hw
 have p2:=λ{x:RqM}{H':List HP}{w:World}(hin:n.In B w0 H') (hx:x.Bg B w0 H') (hw:St B w0 H' w)=>YjR n ⟨0,0,none,0,[]⟩ x.rows (cap:=x.cap) hin hx.rt hx.ln (by simp) (λr hr=>(hx.rl r hr).1) hw
 unfold NetM.val at p1 p2
 have hql:=hq.ln
 repeat'(first|refine zgb ?_|(refine zgh ?_;intro _)|fail)
 rename_i g3 g4
 refine Yi (λk:Nat=>[(7,.int .i64 (k:Nat)),(1,.slice A q.length cap),(5,.pointer (some ⟨g4,0,none⟩)),(3,.pointer (some ⟨g3,0,none⟩))]) (λ_=>schA g4 s::netA g3 n::H) (λk=>k<=q.length/\∀x∈q.take k,FewR x.rows) (λk=>q.length-k) 0 ⟨Ti _,by simp⟩ ?_ (λw hw=>hw) ?_
 ·exact zc1
 rintro k ⟨hk,hz⟩ K hK
 have hr2:Rd B w0 (schA g4 s::netA g3 n::H) A (q.flatMap rqF):=hq.rd.cons.cons
 by_cases hlt:k<q.length
 ·obtain⟨x,hx⟩:∃x,q[k]? =some x:=⟨_,Ta hlt⟩
  have hxb:=hq.x x (Td hx)
  repeat'(first|refine zgb ?_|(refine zge ?_ ?_<;>intro _<;>try exact zo)|fail)
  apply Jc [0,1,2,3,4,5,6,7,8] []
  kernel_rfl
  kernel_rfl
  (simp only[Ye,nthO];rfl)
  exact rfl
  repeat'(first|refine zgd ?_|fail)
  apply Yg _ en92
  exact za
  exact rfl
  exactλ_ hw=>(p2 (hin.mono zc0) (hxb.mono zc0) (hw))
  rintro _ _ ⟨⟨b,rfl,hb⟩,hK0⟩
  rw[hK0]
  cases b with
  |false=>
   repeat'(first|(apply Yj;(repeat(first|with_reducible exact Xe|(with_reducible apply Y2;(repeat(first|with_reducible exact Yy|with_reducible apply YR))))))|refine zgd ?_|fail)
   ·show Perm H (H++[])
    exact zc44
   repeat'(first|fail)
   apply Yh H
   ·exact zc0
   exact zc77
  |true=>
   have hb:=hb rfl
   repeat'(first|(apply Yj;(repeat(first|with_reducible exact Xe|(with_reducible apply Y2;(repeat(first|with_reducible exact Yy|with_reducible apply YR))))))|refine zgd ?_|fail)
   ·show Perm H (H++[])
    exact zc44
   repeat'(first|fail)
   apply hK (k+1)
   ·exact⟨by omega,WA hz hx hb⟩
   ·omega
   ·exact zc1
   exact zc21
 ·have hz:=Qh hz hlt
  clear hK
  cases hb:fewE n.net<;>(
   rw[hb]at p1
   repeat'(first|refine zgc ?_|(refine zge ?_ ?_<;>intro _<;>try exact zo)|fail)
   first|apply Yb en18|apply Yc en18
   exact za
   exact rfl
   exactλ_ hw=>(p1 (hin.mono zk) hw)
   repeat'(first|refine zgc ?_|(refine zgf ?_ ?_<;>intro _<;>try exact zo)|fail)
   all_goals(
    apply Yh H
    ·exact zk
    apply Yd;exact rfl;exact rfl
    exact⟨⟨_,rfl,λh=>by first|(exact absurd h (by decide))|(rw[Tq]at h;exact⟨by omega,by omega,hz⟩)|exact⟨by omega,by omega,hz⟩⟩,rfl⟩))
section
variable {H:Type}{enc:TypeId×Value->H}{W:World}{spare:Nat->Bool}{held:Bool}
def RuG(W:World)(r:RuM):Prop:=RtG W ⟨r.A,r.cap,r.os⟩
theorem Yr6:Opn enc Tryz.prog W spare held 296 ruF (RuG W):=
 Jo (XJ (ts:=[3,3,3,3,24]) (by kernel_rfl) (Yo op_i (Yo op_i (Yo op_i (Yo op_i (Yo YbD ZS))))))
  (λx=>⟨x.1,x.2.1,x.2.2.1,x.2.2.2.1,x.2.2.2.2.1.A,x.2.2.2.2.1.cap,x.2.2.2.2.1.xs⟩) (λx=>by simp[ruF,numF,rowF]) (λx h=>by
   obtain⟨h1,h2,h3,h4,h5,_⟩:=h
   exact h5)
theorem Yp1:Opn enc Tryz.prog W spare held 63 (λs:SlM RuM=>[s.val]) (SlG W ruF (RuG W)):=XV (q:=5) Tryz.underlying63 (by kernel_rfl) (by decide) Yr6
theorem Ytu{r:Reach}{b0:Nat}{v:Value}{d:DataW H}{p:List MemPlace}(hv:Value.okWide Tryz.prog W r b0 63 v)(h:DataW.Trod enc Tryz.prog W 0 spare held 63 v d p):∃s:SlM RuM,v=s.val/\SlG W ruF (RuG W) s:=by
 obtain⟨a,len,cap,rfl⟩:=okWide_slice Tryz.underlying63 hv
 obtain⟨fuel,hf⟩:=h
 obtain⟨n,h1,h2⟩:=Yp1 fuel _ _ hf
 refine⟨n,?_,h2⟩
 injection h1
end
variable {W:World}{s:SlM RuM}
theorem YvD{K:List HP}(h:SlG W ruF (RuG W) s):XIn W.heap.size W K s.A s.xs:=
 ⟨h.old.rd,λx hx=>⟨RtG.old (h.good x hx)|>.rd,RtG.len (h.good x hx)⟩⟩
theorem Yvn(h:SlG W ruF (RuG W) s):s.xs.length<=9223372036854775807:=TY h.len maxL
end Go.Proofs.YtjlgijpmnfabcaaGreatDoor
