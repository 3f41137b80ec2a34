/- Lemmas. -/
import Derived.Test.YtjommdkgfbhbdaaGreatDoorQ14
import Derived.Test.YtjommdkgfbhbdaaGreatDoorQ15
set_option maxRecDepth 100000
set_option maxHeartbeats 8000000
set_option linter.all false
namespace Go.Proofs.YtjommdkgfbhbdaaGreatDoor
open Go.RowKit Go.Eng Go.Nw Go.Rt
structure ClM.Bg(B:Nat)(w0:World)(H:List HP)(c:ClM):Prop where
 rt:Rd B w0 H c.rA (c.rs.flatMap rowF)
 rw_:∀r∈c.rs,Rd B w0 H r.A (r.xs.flatMap numF)
 bd:Rd B w0 H c.bA (c.bs.flatMap numF)
 ws:Rd B w0 H c.wA (c.ws.flatMap numF)
 st:Rd B w0 H c.sA (c.ss.flatMap rowF)
 sw:∀r∈c.ss,Rd B w0 H r.A (r.xs.flatMap numF)
 ln:c.rs.length<=9223372036854775807/\c.bs.length<=9223372036854775807/\c.ws.length<=9223372036854775807/\c.ss.length<=9223372036854775807
 rl:∀r∈c.rs,r.xs.length<=9223372036854775807
 sl:∀r∈c.ss,r.xs.length<=9223372036854775807
structure CBg(B:Nat)(w0:World)(H:List HP)(A:Option Addr)(c:List ClM):Prop where
 rd:Rd B w0 H A (c.flatMap clF)
 x:∀x∈c,x.Bg B w0 H
 ln:c.length<=9223372036854775807
def FewX(x:ClM):Prop:=x.rs.length<=3/\x.bs.length<=8/\x.ws.length<=8/\x.ss.length<=8/\(∀r∈x.rs,r.xs.length<=12)/\∀r∈x.ss,r.xs.length<=70
def FewC(c:List ClM):Prop:=c.length<=17/\∀x∈c,FewX x
variable {B k:Nat}{w0:World}{H:List HP}{A:Option Addr}
theorem CBg.small{c:List ClM}(h:CBg B w0 H A c)(hf:FewC c):CIn B w0 H A c:=by
 refine⟨h.rd,λx hx=>?_,by have:=hf.1;omega⟩
 have h1:=h.x x hx
 obtain⟨f1,f2,f3,f4,f5,f6⟩:=hf.2 x hx
 exact⟨h1.rt,h1.rw_,h1.bd,h1.ws,h1.st,h1.sw,by omega,λr hr=>by grind,λr hr=>by grind⟩
variable {α:Type}
theorem UG{P:α->Prop}{l:List α}{x:α}(h:∀y∈l.take k,P y)(hx:l[k]? =some x)(hp:P x):∀y∈l.take (k+1),P y:=zc76
theorem QH{P:α->Prop}{l:List α}(h:∀y∈l.take k,P y)(hk:¬k<l.length):∀y∈l,P y:=by
 grind [TM]
theorem Yc4(c:List ClM){cap:Nat}{w:World}(hc:CBg B w0 H A c)(hw:St B w0 H w):
 CX B w0 61 [.slice A c.length cap] w λv K=>(∃b,v=.bool b/\(b=true->FewC c))/\K=H:=by
 refine Ya Tryz.func61 Tryz.ntmps61 rfl rfl hw ?_
 have hcl:=hc.ln
 have hcr:=hc.rd
 repeat'(first|refine zgd ?_|(refine zge ?_ ?_<;>intro _<;>try exact zo)|fail)
 any_goals(apply Yd;exact rfl;exact rfl;simp_all)
 all_goals(
  have hc17:c.length<=17:=by omega
  refine Ye (λk:Nat=>[(3,.int .i64 (k:Nat)),(0,.slice A c.length cap)]) (λ_=>H) (λk=>k<=c.length/\∀x∈c.take k,FewX x) (λk=>c.length-k) 0 ⟨Td _,by simp⟩ ?_ (λw hw=>hw) ?_
  ·exact zu
  rintro i ⟨hi,hz⟩ K hK
  by_cases hlt:i<c.length
  rotate_left
  ·repeat'(first|refine zgc ?_|(refine zge ?_ ?_<;>intro _<;>try exact zo)|fail)
   apply Yd;exact rfl;exact rfl;exact⟨⟨_,rfl,λ_=>⟨hc17,QH hz hlt⟩⟩,rfl⟩
  obtain⟨x,hx⟩:∃x,c[i]? =some x:=⟨_,Ta hlt⟩
  have hxi:=hc.x x (Tc hx)
  have hxl:=hxi.ln
  have hxr:=hxi.rt
  have hxs:=hxi.st
  repeat'(first|refine zgd ?_|(refine zge ?_ ?_<;>intro _<;>try exact zo)|fail)
  any_goals(apply Yd;exact rfl;exact rfl;exact⟨⟨_,rfl,λh=>by cases h⟩,rfl⟩)
  have hx4:x.rs.length<=3/\x.bs.length<=8/\x.ws.length<=8/\x.ss.length<=8:=by omega
  refine Ye (λk:Nat=>[(4,.int .i64 (k:Nat)),(3,.int .i64 (i:Nat)),(0,.slice A c.length cap)]) (λ_=>H) (λk=>k<=x.rs.length/\∀r∈x.rs.take k,r.xs.length<=12) (λk=>x.rs.length-k) 0 ⟨Td _,by simp⟩ ?_ (λw hw=>hw) ?_
  ·exact zu
  rintro k ⟨hk,hz2⟩ K2 hK2
  by_cases hlk:k<x.rs.length
  ·obtain⟨r,hr⟩:∃r,x.rs[k]? =some r:=⟨_,Ta hlk⟩
   have hrl:=hxi.rl r (Tc hr)
   repeat'(first|refine zgd ?_|(refine zge ?_ ?_<;>intro _<;>try exact zo)|fail)
   any_goals(apply Yd;exact rfl;exact rfl;exact⟨⟨_,rfl,λh=>by cases h⟩,rfl⟩)
   apply hK2 (k+1)
   ·exact⟨by omega,UG hz2 hr (by omega)⟩
   ·omega
   ·exact zu
   ·exactλw hw=>hw
  clear hK2
  repeat'(first|refine zgd ?_|(refine zge ?_ ?_<;>intro _<;>try exact zo)|fail)
  refine Ye (λk:Nat=>[(5,.int .i64 (k:Nat)),(3,.int .i64 (i:Nat)),(0,.slice A c.length cap)]) (λ_=>H) (λk=>k<=x.ss.length/\∀r∈x.ss.take k,r.xs.length<=70) (λk=>x.ss.length-k) 0 ⟨Td _,by simp⟩ ?_ (λw hw=>hw) ?_
  ·exact zu
  have hz2:=QH hz2 hlk
  rintro k ⟨hk,hz3⟩ K2 hK2
  by_cases hlk:k<x.ss.length
  ·obtain⟨r,hr⟩:∃r,x.ss[k]? =some r:=⟨_,Ta hlk⟩
   have hrl:=hxi.sl r (Tc hr)
   repeat'(first|refine zgd ?_|(refine zge ?_ ?_<;>intro _<;>try exact zo)|fail)
   any_goals(apply Yd;exact rfl;exact rfl;exact⟨⟨_,rfl,λh=>by cases h⟩,rfl⟩)
   apply hK2 (k+1)
   ·exact⟨by omega,UG hz3 hr (by omega)⟩
   ·omega
   ·exact zu
   ·exactλw hw=>hw
  clear hK2
  repeat'(first|refine zgd ?_|(refine zge ?_ ?_<;>intro _<;>try exact zo)|fail)
  apply hK (i+1)
  ·exact⟨by omega,UG hz hx ⟨hx4.1,hx4.2.1,hx4.2.2.1,hx4.2.2.2,hz2,QH hz3 hlk⟩⟩
  ·omega
  ·exact zu
  ·exactλw hw=>hw)
open Go.ChangeShapes Go.WideShapes Go.ChangeAt Go.RowKit Go.Eng Go.Nw Go.Rt
variable {W:World}{K:List HP}
theorem ClG.bg{c:ClM}(h:ClG W c):c.Bg W.heap.size W K:=
 ⟨h.rt.rd,λr hr=>(h.rg r hr).old.rd,h.bd.old.rd,h.ws.old.rd,h.st.rd,λr hr=>(h.sg r hr).old.rd,⟨h.rl,h.bd.len,h.ws.len,h.sl⟩,λr hr=>(h.rg r hr).len,λr hr=>(h.sg r hr).len⟩
theorem Yrx{s:SlM ClM}(h:SlG W clF (ClG W) s):CBg W.heap.size W K s.A s.xs:=
 ⟨h.old.rd,λx hx=>(h.good x hx).bg,TX h.len maxL⟩
structure RqM.Bg(B:Nat)(w0:World)(H:List HP)(x:RqM):Prop where
 rt:Rd B w0 H x.A (x.rows.flatMap rowF)
 rw_:∀r∈x.rows,Rd B w0 H r.A (r.xs.flatMap numF)
 ln:x.rows.length<=9223372036854775807
 rl:∀r∈x.rows,r.xs.length<=9223372036854775807/\r.xs.length<=r.cap
structure QBg(B:Nat)(w0:World)(H:List HP)(A:Option Addr)(q:List RqM):Prop where
 rd:Rd B w0 H A (q.flatMap rqF)
 x:∀x∈q,x.Bg B w0 H
 ln:q.length<=9223372036854775807
variable {B cap:Nat}{w0 w:World}{H H':List HP}
theorem RqM.Bg.mono{x:RqM}(h:x.Bg B w0 H)(hH:∀w,St B w0 H' w->St B w0 H w):x.Bg B w0 H':=⟨h.rt.mono hH,λr hr=>(h.rw_ r hr).mono hH,h.ln,h.rl⟩
variable {A:Option Addr}{q:List RqM}
theorem QBg.mono(h:QBg B w0 H A q)(hH:∀w,St B w0 H' w->St B w0 H w):QBg B w0 H' A q:=⟨h.rd.mono hH,λx hx=>(h.x x hx).mono hH,h.ln⟩
def FewR(l:List RowM):Prop:=l.length<=3/\∀r∈l,r.xs.length<=12
def FewQ(q:List RqM)(s:SchM):Prop:=q.length<=4/\s.cells.length<=30/\∀x∈q,FewR x.rows
theorem QBg.small{s:SchM}(h:QBg B w0 H A q)(hf:FewQ q s):QIn B w0 H A q:=by
 refine⟨h.rd,λx hx=>?_,by have:=hf.1;omega⟩
 have h1:=h.x x hx
 obtain⟨f1,f2⟩:=hf.2.2 x hx
 exact⟨h1.rt,h1.rw_,by omega,λr hr=>⟨by grind,(h1.rl r hr).2⟩⟩
theorem Yvk{W:World}{s:SlM RqM}{K:List HP}(h:SlG W rqF (RqG W) s):QBg W.heap.size W K s.A s.xs:=
 ⟨h.old.rd,λx hx=>⟨(h.good x hx).old.rd,λr hr=>((h.good x hx).good r hr).old.rd,(h.good x hx).len,λr hr=>⟨((h.good x hx).good r hr).len,((h.good x hx).good r hr).cap⟩⟩,TX h.len maxL⟩
theorem Yj9(n:NetM)(s:SchM)(l:List RowM)(hin:n.In B w0 H)(hr:Rd B w0 H A (l.flatMap rowF))(hll:l.length<=9223372036854775807)(_hsl:s.cells.length<=9223372036854775807)(hlr:∀r∈l,r.xs.length<=9223372036854775807)(hw:St B w0 H w):
 CX B w0 146 [n.val,s.val,.slice A l.length cap] w λv K=>(∃b,v=.bool b/\(b=true->FewR l))/\K=H:=by
 refine Ya Tryz.func146 Tryz.ntmps146 rfl rfl hw ?_
 unfold NetM.val SchM.val
 have p1:=λ{H':List HP}{w:World}(hin:n.In B w0 H') (hw:St B w0 H' w)=>YhV n hin hw
 unfold NetM.val at p1
 repeat'(first|refine zgb ?_|(refine zgh ?_;intro _)|fail)
 rename_i g3 g4
 refine Ye (λk:Nat=>[(7,.int .i64 (k:Nat)),(2,.slice A l.length cap),(4,.pointer (some ⟨g4,0,none⟩)),(3,.pointer (some ⟨g3,0,none⟩))]) (λ_=>schA g4 s::netA g3 n::H) (λk=>k<=l.length/\∀r∈l.take k,r.xs.length<=12) (λk=>l.length-k) 0 ⟨Td _,by simp⟩ ?_ (λw hw=>hw) ?_
 ·exact zc1
 rintro k ⟨hk,hz⟩ K hK
 have hr2:Rd B w0 (schA g4 s::netA g3 n::H) A (l.flatMap rowF):=hr.cons.cons
 by_cases hlt:k<l.length
 ·obtain⟨r,hx⟩:∃r,l[k]? =some r:=⟨_,Ta hlt⟩
  have hrl:=hlr r (Tc hx)
  repeat'(first|refine zgd ?_|(refine zge ?_ ?_<;>intro _<;>try exact zo)|fail)
  ·apply Yf H
   ·exact zc0
   exact zc86
  ·apply hK (k+1)
   ·exact⟨by omega,UG hz hx (by omega)⟩
   ·omega
   ·exact zc1
   exact zc21
 ·have hz:=QH hz hlt
  clear hK
  cases hb:fewE n.net<;>(
   rw[hb]at p1
   repeat'(first|refine zgc ?_|(refine zge ?_ ?_<;>intro _<;>try exact zo)|fail)
   apply Yb en37
   exact za
   exact rfl
   exactλ_ hw=>(p1 (hin.mono zk) hw)
   repeat'(first|refine zgd ?_|(refine zgf ?_ ?_<;>intro _<;>try exact zo)|fail)
   all_goals(
    apply Yf H
    ·exact zk
    apply Yd;exact rfl;exact rfl
    exact⟨⟨_,rfl,λh=>by first|(exact absurd h (by decide))|(rw[Tm]at h;exact⟨by omega,hz⟩)|exact⟨by omega,hz⟩⟩,rfl⟩))
theorem Yka(n:NetM)(q:List RqM)(s:SchM)(hin:n.In B w0 H)(hq:QBg B w0 H A q)(hsl:s.cells.length<=9223372036854775807)(hw:St B w0 H w):
 CX B w0 60 [n.val,.slice A q.length cap,s.val] w λv K=>(∃b,v=.bool b/\(b=true->FewQ q s))/\K=H:=by
 refine Ya Tryz.func60 Tryz.ntmps60 rfl rfl hw ?_
 unfold NetM.val SchM.val
 have p1:=λ{H':List HP}{w:World}(hin:n.In B w0 H') (hw:St B w0 H' w)=>YhV n hin hw
 have p2:=λ{x:RqM}{H':List HP}{w:World}(hin:n.In B w0 H') (hx:x.Bg B w0 H') (hw:St B w0 H' w)=>Yj9 n ⟨0,0,none,0,[]⟩ x.rows (cap:=x.cap) hin hx.rt hx.ln (by simp) (λr hr=>(hx.rl r hr).1) hw
 unfold NetM.val at p1 p2
 have hql:=hq.ln
 repeat'(first|refine zgb ?_|(refine zgh ?_;intro _)|fail)
 rename_i g3 g4
 refine Ye (λk:Nat=>[(7,.int .i64 (k:Nat)),(1,.slice A q.length cap),(5,.pointer (some ⟨g4,0,none⟩)),(3,.pointer (some ⟨g3,0,none⟩))]) (λ_=>schA g4 s::netA g3 n::H) (λk=>k<=q.length/\∀x∈q.take k,FewR x.rows) (λk=>q.length-k) 0 ⟨Td _,by simp⟩ ?_ (λw hw=>hw) ?_
 ·exact zc1
 rintro k ⟨hk,hz⟩ K hK
 have hr2:Rd B w0 (schA g4 s::netA g3 n::H) A (q.flatMap rqF):=hq.rd.cons.cons
 by_cases hlt:k<q.length
 ·obtain⟨x,hx⟩:∃x,q[k]? =some x:=⟨_,Ta hlt⟩
  have hxb:=hq.x x (Tc hx)
  repeat'(first|refine zgb ?_|(refine zge ?_ ?_<;>intro _<;>try exact zo)|fail)
  apply YV [0,1,2,3,4,5,6,7,8] []
  kernel_rfl
  kernel_rfl
  (simp only[Yc,nthO];rfl)
  exact rfl
  repeat'(first|refine zgd ?_|fail)
  apply Yg _ YvT
  exact za
  exact rfl
  exactλ_ hw=>(p2 (hin.mono zc0) (hxb.mono zc0) (hw))
  rintro _ _ ⟨⟨b,rfl,hb⟩,hK0⟩
  rw[hK0]
  cases b with
  |false=>
   repeat'(first|(apply Yh;(repeat(first|with_reducible exact YY|(with_reducible apply YN;(repeat(first|with_reducible exact Yo|with_reducible apply Yw))))))|refine zgd ?_|fail)
   ·show Perm H (H++[])
    exact zc28
   repeat'(first|fail)
   apply Yf H
   ·exact zc0
   exact zc86
  |true=>
   have hb:=hb rfl
   repeat'(first|(apply Yh;(repeat(first|with_reducible exact YY|(with_reducible apply YN;(repeat(first|with_reducible exact Yo|with_reducible apply Yw))))))|refine zgd ?_|fail)
   ·show Perm H (H++[])
    exact zc28
   repeat'(first|fail)
   apply hK (k+1)
   ·exact⟨by omega,UG hz hx hb⟩
   ·omega
   ·exact zc1
   exact zc21
 ·have hz:=QH hz hlt
  clear hK
  cases hb:fewE n.net<;>(
   rw[hb]at p1
   repeat'(first|refine zgc ?_|(refine zge ?_ ?_<;>intro _<;>try exact zo)|fail)
   apply Yb en37
   exact za
   exact rfl
   exactλ_ hw=>(p1 (hin.mono zk) hw)
   repeat'(first|refine zgd ?_|(refine zgf ?_ ?_<;>intro _<;>try exact zo)|fail)
   all_goals(
    apply Yf H
    ·exact zk
    apply Yd;exact rfl;exact rfl
    exact⟨⟨_,rfl,λh=>by first|(exact absurd h (by decide))|(rw[Tm]at h;exact⟨by omega,by omega,hz⟩)|exact⟨by omega,by omega,hz⟩⟩,rfl⟩))
open Go.RowKit Go.Eng Go.Nw
variable {B cap:Nat}{w0 w:World}{H:List HP}
theorem Ws(a lo hi:Int)(hw:St B w0 H w):
 CX B w0 159 [.int .i64 a,.int .i64 lo,.int .i64 hi] w λv K=>v=.bool (decide (lo<=a/\a<=hi))/\K=H:=by
 refine Ya Tryz.func159 Tryz.ntmps159 rfl rfl hw ?_
 exact zc27
theorem Wr(nodes:Int)(f:Flw)(hn:2<=nodes/\nodes<=32)(hw:St B w0 H w):
 CX B w0 160 [.int .i64 nodes,flwV f] w λv K=>v=.int .i64 (Xi nodes f)/\K=H:=by
 refine Ya Tryz.func160 Tryz.ntmps160 rfl rfl hw ?_
 have hi:∀x:Int,insE x nodes=false↔¬(0<=x/\x<nodes):=λx=>by grind [insE]
 have hE:Xi nodes f=if f.1<0\/255<f.1\/¬(0<=f.2.1/\f.2.1<nodes)\/¬(0<=f.2.2.1/\f.2.2.1<nodes)then 2
  else if f.2.2.2.1<1\/512<f.2.2.2.1\/f.2.2.2.2.1<0\/f.2.2.2.1<=f.2.2.2.2.1\/f.2.2.2.2.2<1\/f.2.2.2.1<f.2.2.2.2.2 then 2
  else if f.2.1=f.2.2.1 then 1 else 0:=by grind [Xi]
 rw[hE]
 repeat'(first|((apply YS YlE);exact za;exact rfl;exactλ_ hw=>(Ws _ _ _ hw);all_goals(intro hB;(try simp only[Tm,Tv]at hB);try exact zo))|refine zgd ?_|(refine zgf ?_ ?_<;>intro _<;>try exact zo)|(refine zgh ?_;intro _)|fail)
 all_goals(
  apply Yf H
  ·exact zk
  apply Yd;exact rfl;exact rfl
  refine⟨TF _ ?_,rfl⟩
  first
   |(rw[Tn (by omega)];done)
   |(rw[Tj (by omega),Tn (by omega)];done)
   |(rw[Tj (by omega),Tj (by omega),Tn (by omega)];done)
   |(rw[Tj (by omega),Tj (by omega),Tj (by omega)];done))
variable {A:Option Addr}
theorem JI(nodes:Int)(l:List Flw)(hl:l.length<=9223372036854775807)(hr:Rd B w0 H A (l.flatMap flwF))(hw:St B w0 H w):
 CX B w0 72 [.int .i64 nodes,.slice A l.length cap] w λv K=>v=.tuple #[.int .i64 (YB nodes l).1,.int .i64 (YB nodes l).2]/\K=H:=by
 refine Ya Tryz.func72 Tryz.ntmps72 rfl rfl hw ?_
 by_cases hn:nodes<2\/32<nodes
 ·have hE:YB nodes l=(-1,2):=by simp_all [YB]
  rw[hE]
  repeat'(first|((apply YS YlE);exact za;exact rfl;exactλ_ hw=>(Ws _ _ _ hw);all_goals(intro hB;(try simp only[Tm,Tv]at hB);try exact zo))|refine zgd ?_|fail)
  all_goals(exact zc55)
 by_cases h16:16<l.length
 ·have hE:YB nodes l=(-1,8):=by simp_all [YB]
  rw[hE]
  repeat'(first|((apply YS YlE);exact za;exact rfl;exactλ_ hw=>(Ws _ _ _ hw);all_goals(intro hB;(try simp only[Tm,Tv]at hB);try exact zo))|refine zgc ?_|(refine zge ?_ ?_<;>intro _<;>try exact zo)|fail)
  exact zc55
 have hE:YB nodes l=YD (YP nodes l) l.length 0:=by simp_all [YB,if_neg]
 rw[hE]
 repeat'(first|((apply YS YlE);exact za;exact rfl;exactλ_ hw=>(Ws _ _ _ hw);all_goals(intro hB;(try simp only[Tm,Tv]at hB);try exact zo))|refine zgc ?_|(refine zge ?_ ?_<;>intro _<;>try exact zo)|fail)
 refine Ye (λ(i:Nat)=>[(6,.int .i64 i),(0,.int .i64 nodes),(1,.slice A l.length cap)]) (λ_=>H) (λi=>i<=l.length/\∀k,k<i->YP nodes l k=0) (λi=>l.length-i) 0 ⟨Td _,λk hk=>absurd hk (TZ _)⟩ ?_ (λw hw=>hw) ?_
 ·exact zc1
 rintro i ⟨hi,hall⟩ K hK
 by_cases hlt:i<l.length
 ·have hget:l[i]? =some (Xa l i):=V1 hlt
  have hbad:YP nodes l i≠0->YD (YP nodes l) l.length 0=((i:Int),YP nodes l i):=λh=>Xh (λk _ hk=>hall k hk) (Td _) (by omega) h
  have hstep:YP nodes l i=0->∀k,k<i+1->YP nodes l k=0:=λh k hk=>by
   exact YqQ
  by_cases he:Xi nodes (Xa l i)≠0
  ·have hf:YP nodes l i=Xi nodes (Xa l i):=by unfold YP;exact Tn he
   rw[hbad (by rw[hf];exact he),hf]
   repeat'(first|((apply Yb Yfb);exact za;exact rfl;exactλ_ hw=>(Wr nodes (Xa l i) (by omega) hw))|refine zgd ?_|(refine zge ?_ ?_<;>intro _<;>try exact zo)|fail)
   exact zc5
  have he0:=Rw.1 he
  have hck:=λ{H':List HP}{w:World}(hw:St B w0 H' w)=>Wr nodes (Xa l i) (by omega) hw
  rw[he0]at hck
  rcases Su i with h0|h0
  ·subst h0
   have hf:YP nodes l 0=0:=by unfold YP;rw[Tj he,Tj (by omega)]
   repeat'(first|((apply Yb Yfb);exact za;exact rfl;exactλ_ hw=>(hck hw))|refine zgd ?_|(refine zge ?_ ?_<;>intro _<;>try exact zo)|fail)
   apply hK (0+1)
   ·exact Ymu
   ·omega
   ·exact zc1
   ·exact zc0
  have hget2:l[((i:Int)-1).toNat]? =some (Xa l (i-1)):=Yup
  by_cases hle:(Xa l i).1<=(Xa l (i-1)).1
  ·have hf:YP nodes l i=5:=by unfold YP;rw[Tj he,Tn ⟨h0,hle⟩]
   rw[hbad (by rw[hf];decide),hf]
   refine YtK ?_<;>intros
   exact zc5
  ·have hf:YP nodes l i=0:=YuI
   refine YtK ?_<;>intros
   apply hK (i+1)
   ·exact Ymu
   ·omega
   ·exact zc1
   ·exact zc0
 ·refine zX0 ?_<;>intros
  rw[show i=l.length by omega]at hall
  rw[Xy λk _ hk=>hall k (by omega)]
  exact zc5
theorem YoV{α:Type}{p:α->Bool}{l:List α}{i:Nat}{x:α}(h:l[i]? =some x):(l.take (i+1)).any p=((l.take i).any p||p x):=zc76
theorem Yi3(n:NetM)(l:List Flw)(s:SchM)(hlf:l.length<=9223372036854775807)(hl:s.cells.length<=1000000000000)(hin:n.In B w0 H)(hrf:Rd B w0 H A (l.flatMap flwF))(hw:St B w0 H w):
 CX B w0 333 [n.val,.slice A l.length cap,s.val] w λv K=>v=.int .i64 (XC n.net l s.sch)/\K=H:=by
 refine Ya Tryz.func333 Tryz.ntmps333 rfl rfl hw ?_
 have e5:s.sch.len=s.len:=rfl
 have hE:XC n.net l s.sch=if Yl n.net≠0 then 1 else if(YB n.nodes l).2≠0 then 1 else if Zw s.sch=false then 2
  else if(l.any λf=>decide (s.len.tmod f.2.2.2.1≠0))=true then 11 else if 512<s.cells.length then 8 else 0:=rfl
 obtain⟨ck,hck⟩:∃z,Yl n.net=z:=⟨_,rfl⟩
 have h31:=λ{H':List HP}{w:World}(hin:n.In B w0 H') (hw:St B w0 H' w)=>Vm n hin hw
 rw[hck]at h31 hE
 by_cases h1:ck≠0
 ·rw[Tn h1]at hE
  rw[hE]
  repeat'(first|((apply Yb en72);exact za;exact rfl;exactλ_ hw=>(JI n.nodes l hlf hrf.cons.cons hw))|((apply Yb UR);exact za;exact rfl;exactλ_ hw=>(h31 hin.cons.cons hw))|refine zgd ?_|(refine zge ?_ ?_<;>intro _<;>try exact zo)|(refine zgh ?_;intro _)|fail)
  all_goals(
   apply Yf H
   ·exact zc0
   exact zc3)
 rw[Tj h1]at hE
 by_cases h2:(YB n.nodes l).2≠0
 ·rw[Tn h2]at hE
  rw[hE]
  repeat'(first|((apply Yb en72);exact za;exact rfl;exactλ_ hw=>(JI n.nodes l hlf hrf.cons.cons hw))|((apply Yb UR);exact za;exact rfl;exactλ_ hw=>(h31 hin.cons.cons hw))|refine zgc ?_|(refine zge ?_ ?_<;>intro _<;>try exact zo)|(refine zgh ?_;intro _)|fail)
  all_goals(
   apply Yf H
   ·exact zc0
   exact zc3)
 rw[Tj h2]at hE
 have hper:=YaL (Rw.1 h2)
 have hsd:Zw s.sch=false↔¬(1<=s.len/\s.len<=512/\1<=s.off/\s.off<=16):=by unfold Zw;rw[Tv];rfl
 by_cases h3:1<=s.len/\s.len<=512/\1<=s.off/\s.off<=16
 rotate_left
 ·rw[Tn (hsd.2 h3)]at hE
  rw[hE]
  repeat'(first|((apply Yb en72);exact za;exact rfl;exactλ_ hw=>(JI n.nodes l hlf hrf.cons.cons hw))|((apply Yb UR);exact za;exact rfl;exactλ_ hw=>(h31 hin.cons.cons hw))|((apply YS W5);exact za;exact rfl;exactλ_ hw=>(ZU _ _ _ hw);all_goals(intro hB;(try simp only[Tm,Tv]at hB);try exact zo))|refine zgd ?_|(refine zge ?_ ?_<;>intro _<;>try exact zo)|(refine zgh ?_;intro _)|fail)
  all_goals(
   apply Yf H
   ·exact zk
   apply Yd;exact rfl;exact rfl;exact⟨rfl,rfl⟩)
 rw[Tj (λh=>hsd.1 h h3)]at hE
 rw[hE]
 repeat'(first|((apply Yb en72);exact za;exact rfl;exactλ_ hw=>(JI n.nodes l hlf hrf.cons.cons hw))|((apply Yb UR);exact za;exact rfl;exactλ_ hw=>(h31 hin.cons.cons hw))|((apply YS W5);exact za;exact rfl;exactλ_ hw=>(ZU _ _ _ hw);all_goals(intro hB;(try simp only[Tm,Tv]at hB);try exact zo))|refine zgc ?_|(refine zge ?_ ?_<;>intro _<;>try exact zo)|(refine zgh ?_;intro _)|fail)
 first|(rename_i gn gs;guard_hyp gn:Nat;guard_hyp gs:Nat)|(rename_i gn gs _;guard_hyp gn:Nat;guard_hyp gs:Nat)|(rename_i gn gs _ _;guard_hyp gn:Nat;guard_hyp gs:Nat)|(rename_i gn gs _ _ _;guard_hyp gn:Nat;guard_hyp gs:Nat)|(rename_i gn gs _ _ _ _;guard_hyp gn:Nat;guard_hyp gs:Nat)|(rename_i gn gs _ _ _ _ _;guard_hyp gn:Nat;guard_hyp gs:Nat)|(rename_i gn gs _ _ _ _ _ _;guard_hyp gn:Nat;guard_hyp gs:Nat)|(rename_i gn gs _ _ _ _ _ _ _;guard_hyp gn:Nat;guard_hyp gs:Nat)|(rename_i gn gs _ _ _ _ _ _ _ _;guard_hyp gn:Nat;guard_hyp gs:Nat)|(rename_i gn gs _ _ _ _ _ _ _ _ _;guard_hyp gn:Nat;guard_hyp gs:Nat)
 refine Ye (λ(k:Nat)=>[(9,.int .i64 k),(1,.slice A l.length cap),(3,.pointer (some ⟨gn,0,none⟩)),(5,.pointer (some ⟨gs,0,none⟩))]) (λ_=>blk gs (.cells #[.int .i64 s.len,.int .i64 s.off,.slice s.A s.cells.length s.cap] 33 (0,0))::netN gn n::H) (λk=>k<=l.length/\(l.take k).any (λf=>decide (s.len.tmod f.2.2.2.1≠0))=false) (λk=>l.length-k) 0 ⟨Td _,rfl⟩ ?_ (λw hw=>hw) ?_
 ·exact zc1
 rintro k ⟨hk,hall⟩ K hK
 unfold netN
 by_cases hlt:k<l.length
 ·have hget:l[k]? =some (Xa l k):=V1 hlt
  have hpk:=hper _ (Tc hget)
  have hst:=YoV (p:=λf:Flw=>decide (s.len.tmod f.2.2.2.1≠0)) hget
  rw[hall,Nz]at hst
  have hem:s.len.tmod (Xa l k).2.2.2.1=s.len%(Xa l k).2.2.2.1:=Rh (by omega)
  rw[hem]at hst
  by_cases hz:s.len%(Xa l k).2.2.2.1=0
  ·rw[Ti (λh=>h hz)]at hst
   refine zX50 ?_<;>intros
   apply hK (k+1)
   ·exact Ymy
   ·omega
   ·exact zc1
   ·unfold netN
    exact zc0
  ·have ha:(l.any λf=>decide (s.len.tmod f.2.2.2.1≠0))=true:=by
    rw[Rj]
    exact⟨_,Tc hget,by rw[hem];exact Tf hz⟩
   rw[ha,Tn rfl]
   refine zX50 ?_<;>intros
   apply Yf H
   ·exact zc0
   exact zc3
 rw[show k=l.length by omega,TI]at hall
 rw[hall,Tj (by decide)]
 clear hK
 by_cases h5:512<s.cells.length
 ·rw[Tn h5]
  refine zX0 ?_<;>intros
  apply Yf H
  ·exact zc0
  exact zc3
 ·rw[Tj h5]
  refine zX0 ?_<;>intros
  apply Yf H
  ·exact zc0
  exact zc3
structure RuM where
 f:Int
 u:Int
 v:Int
 k:Int
 A:Option Addr
 cap:Nat
 os:List Int
def ruF(r:RuM):List Value:=[.int .i64 r.f,.int .i64 r.u,.int .i64 r.v,.int .i64 r.k,.slice r.A r.os.length r.cap]
structure RuM.In(B:Nat)(w0:World)(H:List HP)(r:RuM):Prop where
 rd:Rd B w0 H r.A (r.os.flatMap numF)
 ln:r.os.length<=9223372036854775807
structure XIn(B:Nat)(w0:World)(H:List HP)(A:Option Addr)(xs:List RuM):Prop where
 rd:Rd B w0 H A (xs.flatMap ruF)
 x:∀r∈xs,r.In B w0 H
variable {B:Nat}{w0:World}{H K:List HP}
theorem RuM.In.mono{r:RuM}(h:r.In B w0 H)(hop:∀w,St B w0 K w->St B w0 H w):r.In B w0 K:=⟨h.rd.mono hop,h.ln⟩
theorem XIn.mono{A:Option Addr}{xs:List RuM}(h:XIn B w0 H A xs)(hop:∀w,St B w0 K w->St B w0 H w):XIn B w0 K A xs:=⟨h.rd.mono hop,λr hr=>(h.x r hr).mono hop⟩
def Yxl(es:List (Int×Int×Nat))(k:Int):Option Int:=(es.find? λe=>e.1==k).map (·.2.1)
def Yxv(es:List (KL×Int×Nat))(k:KL):Option Int:=(es.find? λe=>e.1==k).map (·.2.1)
structure SM where
 frame:Int
 g:Option (Nat×Nat×Nat)
 es:List (Int×Int×Nat)
 ce:Nat
 ts:Zm
 ct:Nat
 ak:List (KL×Int×Nat)
 ca:Nat
 done:Bool
def SM.st(x:SM):StM:=⟨x.frame,Yxl x.es,λu v=>Yxv x.ak [u,v],x.done⟩
structure VOk(N:Nat)(es:Zm)(ct:Nat):Prop where
 len:∀e∈es,e.1.length=N
 lt:∀e∈es,e.2.2<ct
 ne:es.Pairwise λa b=>a.2.2≠b.2.2
variable {N ct:Nat}
theorem VOk.nil:VOk N [] ct:=by simp_all [Go.Proofs.YtjommdkgfbhbdaaGreatDoor.VOk.mk]
theorem VOk.set{b:Nat}{l1 l2:Zm}{k:KL}{v0:Value}(h:VOk N (l1++(k,v0,b)::l2) ct)(v:Value):VOk N (l1++(k,v,b)::l2) ct:=by
 have e:∀P:KL×Value×Nat->Prop,(∀z:KL×Value×Nat,P z↔P (z.1,v,z.2.2))->(∀z∈l1++(k,v0,b)::l2,P z)->∀z∈l1++(k,v,b)::l2,P z:=λP hP hz z hm=>by
  rcases Rl.1 hm with hm|hm
  ·grind
  ·rcases RA.1 hm with rfl|hm
   ·exact(hP (k,v0,b)).1 (hz (k,v0,b) (by simp))
   ·exact hz z (Rl.2 (.inr (TO _ hm)))
 refine⟨e (λz=>z.1.length=N) (λ_=>Iff.rfl) h.len,e (λz=>z.2.2<ct) (λ_=>Iff.rfl) h.lt,?_⟩
 have hp:=h.ne
 rw[List.pairwise_append,SY]at hp⊢
 refine⟨hp.1,hp.2.1,λa ha z hz=>?_⟩
 rcases RA.1 hz with rfl|hz
 ·exact hp.2.2 a ha (k,v0,b) (by simp)
 grind
structure TOk(ts:Zm)(ct:Nat)(b:Int):Prop where
 ok:VOk 2 ts ct
 z:∀e∈ts,∃z,e.2.1=.int .i64 z/\0<=z/\z<=b
variable {b b':Int}
theorem TOk.mono{ts:Zm}(h:TOk ts ct b)(hb:b<=b'):TOk ts ct b':=⟨h.ok,λe he=>by
 obtain⟨z,h1,h2,h3⟩:=h.z e he
 grind⟩
structure SM.Ok(x:SM)(b:Int):Prop where
 g:0<=x.frame->x.g.isSome=true
 ts:TOk x.ts x.ct b
 ak:∀e∈x.ak,e.1.length=2
theorem SM.Ok.mono{x:SM}(h:x.Ok b)(hb:b<=b'):x.Ok b':=⟨h.g,h.ts.mono hb,h.ak⟩
open Go.RowKit Go.Eng Go.Nw Go.Rt Go.Sort Go.Shelf Go.Proofs
theorem YkK{α:Type}[Inhabited α]{d d':Array α}(h:PermIn 0 d.size d d'):d'.toList.Perm d.toList:=by
 obtain⟨h1,_,h3⟩:=h
 grind [Array.extract_size]
variable {B:Nat}{w0 w:World}{H:List HP}
theorem Yak(n:NetM)(v:Int)(hw:St B w0 H w):
 CX B w0 419 [n.val,.int .i64 v] w λu K=>u=.bool (insE v n.net.nodes)/\K=H:=by
 have e1:n.net.nodes=n.nodes:=rfl
 refine Ya Tryz.func419 Tryz.ntmps419 rfl rfl hw ?_
 exact zc15
theorem Uu(n:NetM)(a b:Int)(hok:Ok n.net)(hin:n.In B w0 H)(hw:St B w0 H w):
 CX B w0 392 [n.val,.int .i64 a,.int .i64 b] w λv K=>v=.int .i64 (powN n.net a b)/\K=H:=by
 refine Ya Tryz.func392 Tryz.ntmps392 rfl rfl hw ?_
 have e1:n.net.nodes=n.nodes:=rfl
 have na:=λ{H':List HP}{w:World}(hw:St B w0 H' w)=>Yak n a hw
 have nb:=λ{H':List HP}{w:World}(hw:St B w0 H' w)=>Yak n b hw
 cases ha:insE a n.net.nodes with
 |false=>
  rw[ha]at na
  rw[show powN n.net a b=0 by grind [powN]]
  repeat'(first|((apply Yb YhP);exact za;exact rfl;exactλ_ hw=>(na hw))|refine zgd ?_|(refine zgh ?_;intro _)|fail)
  apply Yf H
  ·exact zc0
  exact zc10
 |true=>
 rw[ha]at na
 cases hb:insE b n.net.nodes with
 |false=>
  rw[hb]at nb
  rw[show powN n.net a b=0 by grind [powN]]
  refine zX73 ?_<;>intros
  apply Yb YhP
  exact za
  exact rfl
  exactλ_ hw=>(na hw)
  refine zX10 ?_
  apply Yb YhP
  exact za
  exact rfl
  exactλ_ hw=>(nb hw)
  refine zX3 ?_
  apply Yf H
  ·exact zc0
  exact zc10
 |true=>
 rw[hb]at nb
 have ha2:0<=a/\a<n.net.nodes:=TT ha
 have hb2:0<=b/\b<n.net.nodes:=TT hb
 have hp0:(n.rows.length:Int)=n.net.nodes:=Yub
 obtain⟨r,hrw⟩:∃r,n.rows[a.toNat]? =some r:=⟨_,Ta (by omega)⟩
 have hrm:=Tc hrw
 have hrl:(r.xs.length:Int)=n.net.nodes:=hok.p1 r.xs (TD.2 ⟨r,hrm,rfl⟩)
 obtain⟨q,hq⟩:∃q,r.xs[b.toNat]? =some q:=⟨_,Ta (by omega)⟩
 have hpw:powN n.net a b=q:=by
  unfold powN
  rw[Tn ⟨ha,hb⟩]
  exact Yuz
 rw[hpw]
 have hpd:=hin.pw
 have hrd:=hin.rw_ r hrm
 have hs1:=hin.s1
 have hs2:=hin.s2 r hrm
 refine zX73 ?_<;>intros
 apply Yb YhP
 exact za
 exact rfl
 exactλ_ hw=>(na hw)
 refine zX10 ?_
 apply Yb YhP
 exact za
 exact rfl
 exactλ_ hw=>(nb hw)
 refine zX3 ?_
 apply Yf H
 ·exact zc0
 exact zc10
theorem YiR(n:NetM)(l:List Cel)(i:Nat)(c:Cel)(hok:Ok n.net)(hci:l[i]? =some c)(hg:YX n.net c.2.2.1 c.2.2.2.1=true)(hto:∀k x,l[k]? =some x->k≠i->Yx c x=false)(hlen:l.length<=16){A:Option Addr}{cap:Nat}(hin:n.In B w0 H)(hr:Rd B w0 H A (l.flatMap celF))(hw:St B w0 H w):
 CX B w0 335 [n.val,.slice A l.length cap,.int .i64 i] w λv K=>v=.bool (!(XQ n.net (mar n.net (Yq n.net c.2.2.1 c.2.2.2.1).toNat) (Yu n.net l i c.2.2.2.1 l.length))||!(XQ n.net (mar n.net (Yq n.net c.2.2.2.1 c.2.2.1).toNat) (Yu n.net l i c.2.2.1 l.length)))/\K=H:=by
 refine Ya Tryz.func335 Tryz.ntmps335 rfl rfl hw ?_
 have hil:i<l.length:=(Tu.1 hci).1
 obtain⟨⟨f0,f1⟩,⟨t0,t1⟩,_,k1,k2⟩:(0<=c.2.2.1/\c.2.2.1<n.net.nodes)/\(0<=c.2.2.2.1/\c.2.2.2.1<n.net.nodes)/\c.2.2.1≠c.2.2.2.1/\0<=Yq n.net c.2.2.1 c.2.2.2.1/\0<=Yq n.net c.2.2.2.1 c.2.2.1:=Xo hok hg
 have x1:=XV k1
 have x2:=XV k2
 have hml:n.margin.length=n.net.links.length:=hok.k1
 have mb1:=Qp hok x1
 have mb2:=Qp hok x2
 have hgs:=λ{H':List HP}{w:World}(hin:n.In B w0 H') (hw:St B w0 H' w)=>YaO n c.2.2.1 c.2.2.2.1 hin hok hw
 rw[hg]at hgs
 have p1:=λ{H':List HP}{w:World}(hin:n.In B w0 H') (hw:St B w0 H' w)=>V6 n c.2.2.1 c.2.2.2.1 hin hw
 have p2:=λ{H':List HP}{w:World}(hin:n.In B w0 H') (hw:St B w0 H' w)=>V6 n c.2.2.2.1 c.2.2.1 hin hw
 obtain⟨i1,hi1⟩:∃z,Yq n.net c.2.2.1 c.2.2.2.1=z:=⟨_,rfl⟩
 obtain⟨i2,hi2⟩:∃z,Yq n.net c.2.2.2.1 c.2.2.1=z:=⟨_,rfl⟩
 rw[hi1]at p1 k1 x1 mb1⊢
 rw[hi2]at p2 k2 x2 mb2⊢
 repeat'(first|((apply Yb Yc0);exact za;exact rfl;exactλ_ hw=>(hgs hin.cons.cons hw))|refine zgd ?_|(refine zgh ?_;intro _)|fail)
 first|(rename_i gn gc;guard_hyp gn:Nat;guard_hyp gc:Nat)|(rename_i gn gc _;guard_hyp gn:Nat;guard_hyp gc:Nat)|(rename_i gn gc _ _;guard_hyp gn:Nat;guard_hyp gc:Nat)|(rename_i gn gc _ _ _;guard_hyp gn:Nat;guard_hyp gc:Nat)
 have hTo:=λk=>QV hok l i c.2.2.2.1 k
 have hFr:=λk=>QV hok l i c.2.2.1 k
 refine Ye (λ(k:Nat)=>[(10,.int .i64 k),(8,.int .i64 (Yu n.net l i c.2.2.2.1 k)),(9,.int .i64 (Yu n.net l i c.2.2.1 k)),(1,.slice A l.length cap),(2,.int .i64 i),(3,.pointer (some ⟨gn,0,none⟩)),(7,.pointer (some ⟨gc,0,none⟩))]) (λ_=>blk gc (.cells (celF c).toArray 162 (0,0))::netN gn n::H) (λk=>k<=l.length) (λk=>l.length-k) 0 (Td _) ?_ (λw hw=>hw) ?_
 ·exact zc1
 rintro k hk K hK
 have b1:=hTo k
 have b2:=hFr k
 unfold netN
 by_cases hlt:k<l.length
 ·obtain⟨x,hx⟩:∃x,l[k]? =some x:=⟨_,Ta hlt⟩
  have hcl:celL l k=x:=by unfold celL;rw[Tz,hx];rfl
  have s1:∀node,Yu n.net l i node (k+1)=Yu n.net l i node k+if k=i then 0 else powN n.net x.2.2.1 node+powN n.net x.2.2.2.1 node:=λnode=>by
   rw[Yu,hcl];rfl
  have s2:=s1 c.2.2.2.1
  have s3:=s1 c.2.2.1
  by_cases hki:k=i
  ·rw[Tn hki,NH]at s2 s3
   refine zX0 ?_<;>intros
   apply hK (k+1)
   ·exact YfQ
   ·omega
   ·rw[s2,s3]
    exact zc1
   ·unfold netN
    exact zc0
  rw[Tj hki]at s2 s3
  have ht:=hto k x hx hki
  have ht2:¬(c.2.2.1=x.2.2.1\/c.2.2.1=x.2.2.2.1\/c.2.2.2.1=x.2.2.1\/c.2.2.2.1=x.2.2.2.1):=by
   unfold Yx YF toC at ht
   exact of_decide_eq_false ht
  have q1:=λ{H':List HP}{w:World}(hin:n.In B w0 H') (hw:St B w0 H' w)=>Uu n x.2.2.1 c.2.2.2.1 hok hin hw
  have q2:=λ{H':List HP}{w:World}(hin:n.In B w0 H') (hw:St B w0 H' w)=>Uu n x.2.2.2.1 c.2.2.2.1 hok hin hw
  have q3:=λ{H':List HP}{w:World}(hin:n.In B w0 H') (hw:St B w0 H' w)=>Uu n x.2.2.1 c.2.2.1 hok hin hw
  have q4:=λ{H':List HP}{w:World}(hin:n.In B w0 H') (hw:St B w0 H' w)=>Uu n x.2.2.2.1 c.2.2.1 hok hin hw
  have w1:=JH hok x.2.2.1 c.2.2.2.1
  have w2:=JH hok x.2.2.2.1 c.2.2.2.1
  have w3:=JH hok x.2.2.1 c.2.2.1
  have w4:=JH hok x.2.2.2.1 c.2.2.1
  repeat'(first|(apply zg28;first|refine zs83 ?_|refine zs84 ?_)|refine zgd ?_|(refine zgf ?_ ?_<;>intro _<;>try exact zo)|fail)
  apply Yn YlR
  exact za
  exact rfl
  exactλ_ hw=>(q1 zc33 hw)
  refine zX3 ?_
  apply Yn YlR
  exact za
  exact rfl
  exactλ_ hw=>(q2 zc33 hw)
  refine zX84 ?_
  apply Yn YlR
  exact za
  exact rfl
  exactλ_ hw=>(q3 zc33 hw)
  refine zX3 ?_
  apply Yn YlR
  exact za
  exact rfl
  exactλ_ hw=>(q4 zc33 hw)
  refine zX3 ?_
  apply hK (k+1)
  ·exact YfQ
  ·omega
  ·rw[s2,s3,<-Int.add_assoc,<-Int.add_assoc]
   exact zc1
  ·unfold netN
   exact zc0
 obtain rfl:k=l.length:=by omega
 clear hK
 have r1:=λ{H':List HP}{w:World}(hw:St B w0 H' w)=>Om n (mar n.net i1.toNat) (Yu n.net l i c.2.2.2.1 l.length) hok (by omega) (by omega) hw
 have r2:=λ{H':List HP}{w:World}(hw:St B w0 H' w)=>Om n (mar n.net i2.toNat) (Yu n.net l i c.2.2.1 l.length) hok (by omega) (by omega) hw
 obtain⟨v1,hv1⟩:∃b,XQ n.net (mar n.net i1.toNat) (Yu n.net l i c.2.2.2.1 l.length)=b:=⟨_,rfl⟩
 obtain⟨v2,hv2⟩:∃b,XQ n.net (mar n.net i2.toNat) (Yu n.net l i c.2.2.1 l.length)=b:=⟨_,rfl⟩
 rw[hv1]at r1⊢
 rw[hv2]at r2⊢
 have hm1:n.margin[i1.toNat]? =some (mar n.net i1.toNat):=zc31
 have hm2:n.margin[i2.toNat]? =some (mar n.net i2.toNat):=zc31
 have hmg:=hin.mg
 have hs4:=hin.s4
 cases v1 with
 |false=>
  repeat'(first|(apply zg28;refine zs84 ?_)|refine zgc ?_|(refine zge ?_ ?_<;>intro _<;>try exact zo)|fail)
  apply Yn Yff
  exact za
  exact rfl
  exactλ_ hw=>(p1 zc33 hw)
  refine zX3 ?_
  apply Yn YlQ
  exact za
  exact rfl
  exactλ_ hw=>(r1 hw)
  refine zX3 ?_
  apply Yf H
  ·exact zc0
  exact zc3
 |true=>
  cases v2
  all_goals(
   repeat'(first|(apply zg28;refine zs84 ?_)|refine zgc ?_|(refine zge ?_ ?_<;>intro _<;>try exact zo)|fail)
   apply Yn Yff
   exact za
   exact rfl
   exactλ_ hw=>(p1 (by repeat(first|exact hin|apply NetM.In.cons)) hw)
   repeat'(first|refine zgd ?_|fail)
   apply Yn YlQ
   exact za
   exact rfl
   exactλ_ hw=>(r1 hw)
   repeat'(first|refine zgc ?_|fail)
   apply Yn Yff
   exact za
   exact rfl
   exactλ_ hw=>(p2 (by repeat(first|exact hin|apply NetM.In.cons)) hw)
   repeat'(first|refine zgd ?_|fail)
   apply Yn YlQ
   exact za
   exact rfl
   exactλ_ hw=>(r2 hw)
   repeat'(first|refine zgd ?_|fail)
   apply Yf H
   ·exact zk
   apply Yd;exact rfl;exact rfl;exact⟨rfl,rfl⟩)
variable {n:Net}{s:Sch}{i:Nat}
theorem Yi8(hf:Fine n s)(hi:i<s.cells.length):∀k x,(Yz s i)[k]? =some x->k≠YC s i->Yx (Yj s i) x=false:=by
 intro k x hx hk
 have ha:=On hi
 have hpw:(Yz s i).Pairwise λa b=>a.1=b.1->Yx a b=false:=hf.once.sublist SO
 have hsx:x.1=(Yj s i).1:=by
  have:=(RU.1 (Tc hx)).2
  simp_all [Y9]
 obtain⟨l1,l2⟩:=Tu.1 hx
 obtain⟨l3,l4⟩:=Tu.1 ha
 rcases Nat.lt_or_gt_of_ne hk with h|h
 ·grind [Rn,Jn]
 ·have:=Rn.1 hpw (YC s i) k l3 l1 h
  simp_all
theorem YnV{l:List Cel}{c:Cel}(hci:l[i]? =some c)(hg:YX n c.2.2.1 c.2.2.2.1=true)(hto:∀k x,l[k]? =some x->k≠i->Yx c x=false):
 VA n l i=(!(XQ n (mar n (Yq n c.2.2.1 c.2.2.2.1).toNat) (Yu n l i c.2.2.2.1 l.length))||!(XQ n (mar n (Yq n c.2.2.2.1 c.2.2.1).toNat) (Yu n l i c.2.2.1 l.length))):=by
 have hcl:celL l i=c:=by grind [celL]
 have hany:((List.range l.length).any λk=>decide (k≠i)&&Yx c (celL l k))=false:=by
  rw[RE]
  intro k hk
  have hx:l[k]? =some (celL l k):=by grind [celL]
  grind
 unfold VA
 rw[hcl,hany]
 show(!(YX n c.2.2.1 c.2.2.2.1)||false||_)=_
 rw[hg]
 rfl
theorem Yke{l:List Flw}(h1:∀k,k<s.cells.length->ZJ n l s k=0)(h2:∀k,k<s.cells.length->Za s k=false):Fine n s:=
 Ygm (l:=l) (by grind [X8,YI]) (by grind [Zy,YI])
theorem YdV(n:NetM)(l:List Flw)(s:SchM)(hlf:l.length<=9223372036854775807)(hl:s.cells.length<=1000000000000){A:Option Addr}{cap B:Nat}{w0:World}{H:List HP}{w:World}(hin:n.In B w0 H)(hrf:Rd B w0 H A (l.flatMap flwF))(hr:Rd B w0 H s.A (s.cells.flatMap celF))(hw:St B w0 H w):
 CX B w0 272 [n.val,.slice A l.length cap,s.val] w λv K=>v=.tuple #[.int .i64 (schE n.net l s.sch).1,.int .i64 (schE n.net l s.sch).2]/\K=H:=by
 refine Ya Tryz.func272 Tryz.ntmps272 rfl rfl hw ?_
 have e4:s.sch.cells.length=s.cells.length:=rfl
 rw[Yse]
 have hinm:n.In B w0 [many H]:=⟨hin.pw.tail,λr hr=>(hin.rw_ r hr).tail,hin.lk.tail,hin.mg.tail,hin.s1,hin.s2,hin.s3,hin.s4⟩
 have hrm:Rd B w0 [many H] s.A (s.cells.flatMap celF):=hr.tail
 have hrfm:Rd B w0 [many H] A (l.flatMap flwF):=hrf.tail
 clear hr hrf hin
 refine Y6 [many H] (λw hw=>hw.perm (.closeT H)) ?_
 have hwl:=λ{H':List HP}{w:World}(hin:n.In B w0 H') (hrf:Rd B w0 H' A (l.flatMap flwF)) (hw:St B w0 H' w)=>Yi3 n l s hlf hl (cap:=cap) hin hrf hw
 obtain⟨wh,hwh⟩:∃z,XC n.net l s.sch=z:=⟨_,rfl⟩
 rw[hwh]at hwl
 by_cases h0:wh≠0
 ·have hS:YfG n.net l s.sch=(-1,wh):=by unfold YfG;rw[hwh];exact Tn h0
  rw[hS]
  refine YtP ?_<;>intros
  apply Yf H
  ·intro w hw
   have h5:St B w0 [many H] w:=by
    revert w
    exact zc0
   exact zc81
  exact zc5
 obtain rfl:wh=0:=Rw.1 h0
 obtain⟨hck,hfl,hsd,_,hle⟩:=Ox hwh
 have hle:s.cells.length<=512:=hle
 have hl16:=Yfj hfl
 have hok:=YO hck
 have hsz:1<=s.len/\s.len<=512/\1<=s.off/\s.off<=16:=TT hsd
 have hS:YfG n.net l s.sch=if(X8 n.net l s.sch).2≠0 then X8 n.net l s.sch else if(Zy s.sch).2≠0 then Zy s.sch else YgI n.net s.sch:=by
  unfold YfG;rw[hwh];rfl
 rw[hS]
 have hC:X8 n.net l s.sch=YD (ZJ n.net l s.sch) s.cells.length 0:=rfl
 have hF:Zy s.sch=YD (λi=>if Za s.sch i=true then 6 else 0) s.cells.length 0:=rfl
 have hR:YgI n.net s.sch=YD (λi=>if VA n.net (Yz s.sch i) (YC s.sch i)=true then 16 else 0) s.cells.length 0:=rfl
 refine YtP ?_<;>intros
 first|(rename_i gn gs;guard_hyp gn:Nat;guard_hyp gs:Nat)|(rename_i gn gs _;guard_hyp gn:Nat;guard_hyp gs:Nat)|(rename_i gn gs _ _;guard_hyp gn:Nat;guard_hyp gs:Nat)|(rename_i gn gs _ _ _;guard_hyp gn:Nat;guard_hyp gs:Nat)|(rename_i gn gs _ _ _ _;guard_hyp gn:Nat;guard_hyp gs:Nat)|(rename_i gn gs _ _ _ _ _;guard_hyp gn:Nat;guard_hyp gs:Nat)
 refine Ye (λ(k:Nat)=>[(9,.int .i64 k),(3,.pointer (some ⟨gn,0,none⟩)),(5,.pointer (some ⟨gs,0,none⟩)),(1,.slice A l.length cap)]) (λ_=>blk gs (.cells #[.int .i64 s.len,.int .i64 s.off,.slice s.A s.cells.length s.cap] 33 (0,0))::netN gn n::[many H]) (λk=>k<=s.cells.length/\∀j,j<k->ZJ n.net l s.sch j=0) (λk=>s.cells.length-k) 0 ⟨Td _,λj hj=>absurd hj (TZ _)⟩ ?_ (λw hw=>hw) ?_
 ·exact zc1
 rintro k ⟨hk,hall⟩ K hK
 unfold netN
 by_cases hlt:k<s.cells.length
 ·have hget:s.cells[k]? =some (Yj s.sch k):=YM (s:=s.sch) hlt
  have hbad:ZJ n.net l s.sch k≠0->X8 n.net l s.sch=((k:Int),ZJ n.net l s.sch k):=λh=>hC.trans (Xh (λj _ hj=>hall j hj) (Td _) (by omega) h)
  have hstep:ZJ n.net l s.sch k=0->∀j,j<k+1->ZJ n.net l s.sch j=0:=λh j hj=>by
   by_cases e:j=k
   ·rw[e];exact h
   ·exact hall j (by omega)
  obtain⟨c,hc⟩:∃c,Yj s.sch k=c:=⟨_,rfl⟩
  have hce:ZJ n.net l s.sch k=if XK s.sch c=false then 2 else if YX n.net c.2.2.1 c.2.2.2.1=false\/ZB l c.2.2.2.2<0 then 7 else if 0<k/\Xg (Yj s.sch (k-1)) c=false then 5 else 0:=by
   unfold ZJ
   rw[hc];rfl
  rw[hc]at hget
  have hpl:XK s.sch c=false↔¬((0<=c.1/\c.1<=s.len-1)/\(0<=c.2.1/\c.2.1<=s.off-1)):=by
   unfold XK insE
   rw[Sj]
   simp only[ne_eq,Tq,Tm]
   show¬((0<=c.1/\c.1<s.len)/\0<=c.2.1/\c.2.1<s.off)↔_
   omega
  by_cases hp:(0<=c.1/\c.1<=s.len-1)/\(0<=c.2.1/\c.2.1<=s.off-1)
  rotate_left
  ·rw[Tn (hpl.2 hp)]at hce
   rw[hbad (by rw[hce];decide),hce,Tn (show(2:Int)≠0 by decide)]
   clear hK
   repeat'(first|((apply YS W5);exact za;exact rfl;exactλ_ hw=>(ZU _ _ _ hw);all_goals(intro hB;(try simp only[Tm,Tv]at hB);try exact zo))|refine zgd ?_|(refine zge ?_ ?_<;>intro _<;>try exact zo)|(refine zgh ?_;intro _)|fail)
   all_goals(
    apply Yf H
    ·intro w hw
     have h5:St B w0 [many H] w:=by
      revert w
      exact zk
     exact h5.perm (.openT H)
    apply YH;(iterate 3 exact rfl);exact⟨rfl,rfl⟩)
  rw[Tj (λh=>hpl.1 h hp)]at hce
  have hgs:=λ{H':List HP}{w:World}(hin:n.In B w0 H') (hw:St B w0 H' w)=>YaO n c.2.2.1 c.2.2.2.1 hin hok hw
  have hfi:=λ{H':List HP}{w:World}(hr:Rd B w0 H' A (l.flatMap flwF)) (hw:St B w0 H' w)=>YiS l c.2.2.2.2 (by omega) (cap:=cap) hr hw
  obtain⟨gd,hgd⟩:∃b,YX n.net c.2.2.1 c.2.2.2.1=b:=⟨_,rfl⟩
  rw[hgd]at hgs hce
  cases gd with
  |false=>
   rw[Tn (.inl rfl)]at hce
   rw[hbad (by rw[hce];decide),hce,Tn (show(7:Int)≠0 by decide)]
   clear hK
   repeat'(first|((apply YS W5);exact za;exact rfl;exactλ_ hw=>(ZU _ _ _ hw);all_goals(intro hB;(try simp only[Tm,Tv]at hB);try exact zo))|((apply Yb Yc0);exact za;exact rfl;exactλ_ hw=>(hgs (by repeat(first|exact hinm|apply NetM.In.cons)) hw))|refine zgd ?_|(refine zge ?_ ?_<;>intro _<;>try exact zo)|(refine zgh ?_;intro _)|fail)
   apply Yf H
   ·intro w hw
    have h5:St B w0 [many H] w:=by
     revert w
     exact zc0
    exact zc81
   exact zc5
  |true=>
  by_cases hneg:ZB l c.2.2.2.2<0
  ·rw[Tn (.inr hneg)]at hce
   rw[hbad (by rw[hce];decide),hce,Tn (show(7:Int)≠0 by decide)]
   clear hK
   repeat'(first|((apply YS W5);exact za;exact rfl;exactλ_ hw=>(ZU _ _ _ hw);all_goals(intro hB;(try simp only[Tm,Tv]at hB);try exact zo))|((apply Yb Yc0);exact za;exact rfl;exactλ_ hw=>(hgs (by repeat(first|exact hinm|apply NetM.In.cons)) hw))|((apply Yb en71);exact za;exact rfl;exactλ_ hw=>(hfi zr hw))|refine zgd ?_|(refine zge ?_ ?_<;>intro _<;>try exact zo)|(refine zgh ?_;intro _)|fail)
   apply Yf H
   ·intro w hw
    have h5:St B w0 [many H] w:=by
     revert w
     exact zc0
    exact zc81
   exact zc5
  rw[Tj (by rintro(h|h);cases h;exact hneg h)]at hce
  rcases Su k with h0|h0
  ·subst h0
   rw[Tj (by omega)]at hce
   repeat'(first|((apply YS W5);exact za;exact rfl;exactλ_ hw=>(ZU _ _ _ hw);all_goals(intro hB;(try simp only[Tm,Tv]at hB);try exact zo))|((apply Yb Yc0);exact za;exact rfl;exactλ_ hw=>(hgs (by repeat(first|exact hinm|apply NetM.In.cons)) hw))|((apply Yb en71);exact za;exact rfl;exactλ_ hw=>(hfi zr hw))|(apply zg28;refine zs84 ?_)|refine zgd ?_|(refine zge ?_ ?_<;>intro _<;>try exact zo)|(refine zgh ?_;intro _)|fail)
   apply hK (0+1)
   ·exact Ymt
   ·omega
   ·exact zc1
   ·unfold netN
    exact zc0
  have hget2:s.cells[((k:Int)-1).toNat]? =some (Yj s.sch (k-1)):=by
   rw[show((k:Int)-1).toNat=k-1 by omega]
   exact YM (s:=s.sch) (show k-1<s.cells.length by omega)
  obtain⟨p,hpv⟩:∃p,Yj s.sch (k-1)=p:=⟨_,rfl⟩
  rw[hpv]at hce hget2
  have hls:=λ{H':List HP}{w:World}(hw:St B w0 H' w)=>YdR p c hw
  cases hlv:Xg p c with
  |true=>
   rw[hlv]at hls hce
   rw[Tj (by simp)]at hce
   repeat'(first|((apply YS W5);exact za;exact rfl;exactλ_ hw=>(ZU _ _ _ hw);all_goals(intro hB;(try simp only[Tm,Tv]at hB);try exact zo))|((apply Yb Yc0);exact za;exact rfl;exactλ_ hw=>(hgs (by repeat(first|exact hinm|apply NetM.In.cons)) hw))|((apply Yb en71);exact za;exact rfl;exactλ_ hw=>(hfi zr hw))|((apply Yn Ypl);exact za;exact rfl;exactλ_ hw=>(hls hw))|(apply zg28;refine zs84 ?_)|refine zgd ?_|(refine zge ?_ ?_<;>intro _<;>try exact zo)|(refine zgh ?_;intro _)|fail)
   apply hK (k+1)
   ·exact Ymt
   ·omega
   ·exact zc1
   ·unfold netN
    exact zc0
  |false=>
   rw[hlv]at hls hce
   rw[Tn ⟨h0,rfl⟩]at hce
   rw[hbad (by rw[hce];decide),hce,Tn (show(5:Int)≠0 by decide)]
   clear hK
   repeat'(first|((apply YS W5);exact za;exact rfl;exactλ_ hw=>(ZU _ _ _ hw);all_goals(intro hB;(try simp only[Tm,Tv]at hB);try exact zo))|((apply Yb Yc0);exact za;exact rfl;exactλ_ hw=>(hgs (by repeat(first|exact hinm|apply NetM.In.cons)) hw))|((apply Yb en71);exact za;exact rfl;exactλ_ hw=>(hfi zr hw))|((apply Yn Ypl);exact za;exact rfl;exactλ_ hw=>(hls hw))|(apply zg28;refine zs84 ?_)|refine zgd ?_|(refine zge ?_ ?_<;>intro _<;>try exact zo)|(refine zgh ?_;intro _)|fail)
   apply Yf H
   ·intro w hw
    have h5:St B w0 [many H] w:=by
     revert w
     exact zc0
    exact zc81
   exact zc5
 have hcells:∀j,j<s.cells.length->ZJ n.net l s.sch j=0:=λj hj=>hall j (by omega)
 rw[Tj (λh=>h (by rw[hC,YI];exactλj _ hj=>hcells j (by omega)))]
 clear hK
 refine zX0 ?_<;>intros
 refine Ye (λ(i:Nat)=>[(11,.int .i64 i),(3,.pointer (some ⟨gn,0,none⟩)),(5,.pointer (some ⟨gs,0,none⟩))]) (λ_=>blk gs (.cells #[.int .i64 s.len,.int .i64 s.off,.slice s.A s.cells.length s.cap] 33 (0,0))::netN gn n::[many H]) (λi=>i<=s.cells.length/\∀m,m<i->Za s.sch m=false) (λi=>s.cells.length-i) 0 ⟨Td _,λj hj=>absurd hj (TZ _)⟩ ?_ (λw hw=>hw) ?_
 ·exact zc1
 rintro i ⟨hi,htw⟩ K2 hK
 unfold netN
 by_cases hli:i<s.cells.length
 ·have hgi:s.cells[i]? =some (Yj s.sch i):=YM (s:=s.sch) hli
  obtain⟨c,hc⟩:∃c,Yj s.sch i=c:=⟨_,rfl⟩
  refine zX1 ?_<;>intros
  refine Ye (λ(j:Nat)=>[(12,.int .i64 j),(11,.int .i64 i),(3,.pointer (some ⟨gn,0,none⟩)),(5,.pointer (some ⟨gs,0,none⟩))]) (λ_=>blk gs (.cells #[.int .i64 s.len,.int .i64 s.off,.slice s.A s.cells.length s.cap] 33 (0,0))::netN gn n::[many H]) (λj=>j<=i/\∀m,m<j->(decide ((Yj s.sch m).1=c.1)&&Yx c (Yj s.sch m))=false) (λj=>i-j) 0 ⟨Td _,λj hj=>absurd hj (TZ _)⟩ ?_ (λw hw=>hw) ?_
  ·exact zc1
  rintro j ⟨hj,hnt⟩ K3 hK2
  unfold netN
  by_cases hlj:j<i
  ·have hgj:s.cells[j]? =some (Yj s.sch j):=YM (s:=s.sch) (show j<s.cells.length by omega)
   obtain⟨d,hd⟩:∃d,Yj s.sch j=d:=⟨_,rfl⟩
   rw[hc]at hgi
   rw[hd]at hgj
   have htc:Yx c d=true↔(c.2.2.1=d.2.2.1\/c.2.2.1=d.2.2.2.1\/c.2.2.2.1=d.2.2.1\/c.2.2.2.1=d.2.2.2.1):=by unfold Yx YF toC;rw[Tm]
   have hyes:d.1=c.1->Yx c d=true->Zy s.sch=((i:Int),6):=λh1 h2=>by
    have htr:Za s.sch i=true:=YfN hlj (by rw[hd,hc];exact h1) (by rw[hd,hc];exact h2)
    rw[hF,Xh (i:=i) (λm _ hm=>by simp only[htw m hm];rfl) (Td _) (by omega) (by simp only[htr];decide)]
    simp[htr]
   refine zX1 ?_<;>intros
   apply Qz (.p1 0 (.p1 1 (.p1 2 (.p1 3 (.p1 4 (.p1 5 (.p1 6 (.p1 7 (.p1 8 (.p1 9 (.d2 10 (.d1 11 (.d1 12 (.d1 13 .done))) 11 (.d1 10 (.d1 12 (.d1 13 .done)))))))))))))) [] [true,false,true]
   kernel_rfl
   kernel_rfl
   exact zy
   exact rfl
   repeat'(first|(apply Ylu;(simp only[nthO];rfl))|(apply Yls;(simp only[nthO];rfl);exact zp)|(apply Ylt;(simp only[nthO];rfl);(simp only[nthO];rfl);exact zp)|(apply QF;try exact zl)|refine zgd ?_|(refine zgf ?_ ?_<;>intro _<;>try exact zo)|(refine zgh ?_;intro _)|fail)
   all_goals first
    |(apply hK2 (j+1)
      ·refine⟨by omega,λm hm=>?_⟩
       by_cases e:m=j
       ·rw[e,hd,Sj,ne_eq,Tq,Tm,htc]
        omega
       ·exact hnt m (by omega)
      ·omega
      ·exact zu
      ·unfold netN
       exact zk
      done)
    |(have hT:=hyes (by omega) (htc.2 (by omega))
      rw[hT,Tn (show(6:Int)≠0 by decide)]
      apply Yf H
      ·intro w hw
       have h5:St B w0 [many H] w:=by
        revert w
        exact zk
       exact h5.perm (.openT H)
      apply YH;(iterate 3 exact rfl);exact⟨rfl,rfl⟩
      done)
  ·refine zX0 ?_<;>intros
   apply hK (i+1)
   ·refine⟨by omega,λm hm=>?_⟩
    by_cases e:m=i
    ·rw[e]
     unfold Za
     rw[RE]
     intro q hq
     have:=hnt q (by have:=TQ.1 hq;omega)
     rw[hc,this]
     decide
    ·exact htw m (by omega)
   ·omega
   ·exact zc1
   ·unfold netN
    exact zc0
 have htwa:∀m,m<s.cells.length->Za s.sch m=false:=λm hm=>htw m (by omega)
 have hfine:Fine n.net s.sch:=Yke (l:=l) hcells htwa
 rw[Tj (λh=>h (by rw[hF,YI];exactλj _ hj=>by simp only[htwa j (by omega)];rfl)),hR]
 clear hK
 refine zX0 ?_<;>intros
 refine Ye (λ(i:Nat)=>[(15,.int .i64 i),(3,.pointer (some ⟨gn,0,none⟩)),(5,.pointer (some ⟨gs,0,none⟩))]) (λ_=>blk gs (.cells #[.int .i64 s.len,.int .i64 s.off,.slice s.A s.cells.length s.cap] 33 (0,0))::netN gn n::[many H]) (λi=>i<=s.cells.length/\∀m,m<i->VA n.net (Yz s.sch m) (YC s.sch m)=false) (λi=>s.cells.length-i) 0 ⟨Td _,λj hj=>absurd hj (TZ _)⟩ ?_ (λw hw=>hw) ?_
 ·exact zc1
 rintro i ⟨hi,hrfa⟩ K4 hK
 unfold netN
 by_cases hli:i<s.cells.length
 ·have hgi:s.cells[i]? =some (Yj s.sch i):=YM (s:=s.sch) hli
  have hsa:=On (s:=s.sch) hli
  have hap:=Yi8 hfine (i:=i) hli
  have hsl:=YfJ hok hfine i
  have hgc:=hfine.good _ (Z0 (s:=s.sch) hli)
  obtain⟨c,hc⟩:∃c,Yj s.sch i=c:=⟨_,rfl⟩
  rw[hc]at hsa hap hgc
  have hgc:YX n.net c.2.2.1 c.2.2.2.1=true:=hgc
  have hrq:=YnV hsa hgc hap
  have hfq:=λ{A:Option Addr}{cap:Nat}{H':List HP}{w:World}(hin:n.In B w0 H') (hr:Rd B w0 H' A ((Yz s.sch i).flatMap celF)) (hw:St B w0 H' w)=>YiR n (Yz s.sch i) (YC s.sch i) c hok hsa hgc hap hsl (cap:=cap) hin hr hw
  rw[<-hrq]at hfq
  obtain⟨b,hb⟩:∃b,VA n.net (Yz s.sch i) (YC s.sch i)=b:=⟨_,rfl⟩
  rw[hb]at hfq
  refine zX1 ?_<;>intros
  apply Yg _ YwM
  exact za
  exact rfl
  exactλ_ hw=>(YiX s i hli (by omega) zr (hw))
  rintro _ _ ⟨A5,cap5,rfl,rfl⟩
  refine zX10 ?_
  apply Yb YwN
  exact za
  exact rfl
  exactλ_ hw=>(hfq zc23 (Rd.cels (cap:=cap5) (by(focus exact zc2))) hw)
  cases b with
  |true=>
   rw[Xh (i:=i) (λm _ hm=>by simp only[hrfa m hm];rfl) (Td _) (by omega) (by simp only[hb];decide)]
   simp only[hb]
   refine zX3 ?_
   apply Yf H
   ·intro w hw
    have h5:St B w0 [many H] w:=by
     revert w
     exact zc0
    exact zc81
   exact zc5
  |false=>
   refine zX10 ?_
   apply hK (i+1)
   ·refine⟨by omega,λm hm=>?_⟩
    by_cases e:m=i
    ·rw[e];exact hb
    ·exact hrfa m (by omega)
   ·omega
   ·exact zc1
   ·unfold netN
    exact zc0
 ·rw[Xy λm _ hm=>by simp only[hrfa m (by omega)];rfl]
  refine zX0 ?_<;>intros
  apply Yf H
  ·intro w hw
   have h5:St B w0 [many H] w:=by
    revert w
    exact zc0
   exact zc81
  exact zc5
open Go.RowKit Go.Eng
variable {B:Nat}{w0 w:World}{H:List HP}
theorem YeD(s:ByteArray)(hb:s.size<=64)(hw:St B w0 H w):
 CX B w0 259 [.string s] w λv K=>v=.agg (numA .u32 (Zb (XZ s) (XZ s).length))/\K=H:=by
 refine Ya Tryz.func259 Tryz.ntmps259 rfl rfl hw ?_
 refine Y6 [many H] (λw hw=>hw.perm (.closeT H)) ?_
 have hbl:=VR s
 obtain⟨bs,hbs⟩:∃l,XZ s=l:=⟨_,rfl⟩
 have hat:∀(i:Nat) (c:UInt8),s[i]? =some c->bs.getD i 0=(c.toNat:Int):=λi c hc=>by
  have h1:s.data[i]? =some c:=hc
  rw[<-S0]at h1
  rw[<-hbs]
  unfold XZ
  rw[Tz,TN,h1];rfl
 rw[hbs]at hbl⊢
 repeat'(first|refine zgb ?_|(refine zgh ?_;intro _)|fail)
 rename_i g2 g3
 refine Ye (λi:Nat=>[(4,.int .i64 (i:Nat)),(0,.string s),(3,.pointer (some ⟨g3,0,none⟩)),(2,.pointer (some ⟨g2,0,none⟩))])
  (λi=>numB g3 .u32 (Zb bs i) 280::numB g2 .u32 (List.replicate 16 0) 280::[many H]) (λi=>i<=s.size) (λi=>s.size-i) 0 (Td _) ?_ ?_ ?_
 ·exact zu
 ·intro w hw
  have h5:St B w0 (numB g3 .u32 (List.replicate 16 0) 280::numB g2 .u32 (List.replicate 16 0) 280::[many H]) w:=hw
  exact h5
 intro i hi K hK
 have hl:=Jo bs i
 by_cases hlt:i<s.size
 rotate_left
 ·clear hK
  obtain rfl:i=s.size:=by omega
  rw[hbl]
  repeat'(first|(apply XL T;exact rfl;exact zm;exact rfl;(rw[Xp];exact hl);exact rfl)|(apply YZ T;exact rfl;exact rfl;exact zd;(rw[hl];rfl);exact rfl;exact hl)|refine zgd ?_|(refine zge ?_ ?_<;>intro _<;>try exact zo)|fail)
  apply ZA T (H2:=H);exact rfl;exact rfl;exact zm;exact rfl;(rw[Xp];exact hl)
  ·intro w hw
   have h5:St B w0 [many H] w:=by
    revert w
    exact zk
   exact h5.perm (.openT H)
  exact⟨rfl,rfl⟩
 have hstep:Zb bs (i+1)=Yjn (Zb bs i) i (bs.getD i 0):=rfl
 obtain⟨l,hle⟩:∃l,Zb bs i=l:=⟨_,rfl⟩
 rw[hle]at hl hstep⊢
 repeat'(first|refine zgd ?_|(refine zge ?_ ?_<;>intro _<;>try exact zo)|fail)
 apply YA [0,1,2,3,4,5,6,7,8,9,10,11,12,13,14,15] [16] [true,true,true]
 kernel_rfl
 kernel_rfl
 exact zy
 (simp only[Yc,nthO];rfl)
 (simp only[Yc,nthO];rfl)
 repeat'(first|(apply YL T;(iterate 4 exact rfl);omega)|(apply YT T;exact rfl;exact zm;(rw[hl];omega);exact rfl;exact rfl)|(apply QC T;(iterate 4 exact rfl);omega;intro c hc;rw[<-hat _ _ hc])|(apply Jc T;(iterate 4 exact rfl))|(apply Ycr;(iterate 3 exact rfl);(exact⟨by omega,by show _<=(32:Int);omega⟩))|(apply YoH;(iterate 3 exact rfl))|(apply Y5 T;exact rfl;exact rfl;exact zd;(rw[hl];omega);exact rfl)|refine zgd ?_|fail)
 apply hK (i+1)
 ·exact hlt
 ·omega
 ·exact zu
 ·have e1:0+((i:Int)/4).toNat*1=i/4:=by omega
  have e2:(8*((i:Int)%4)).toNat=8*(i%4):=by omega
  have e3:((i:Nat):Int).toNat=i:=by omega
  rw[hstep,show bs.getD i 0=bs.getD ((i:Nat):Int).toNat 0 by rw[e3]]
  unfold Yjn
  rw[<-e1,<-e2]
  exact zk
theorem YjS(s:ByteArray)(i j:Nat):XZ (s.extract i j)=((XZ s).drop i).take (j-i):=by
 unfold XZ
 rw[ByteArray.data_extract,Array.toList_extract,List.extract_eq_take_drop,NG,NA]
theorem Yr7(h:List Int){i:Nat}(hi:i<32):(u8n (outE h i++List.replicate (32-i) 0)).set i (.int .u8 (Vf h i:Nat))=u8n (outE h (i+1)++List.replicate (32-(i+1)) 0):=by
 have hl:(outE h i).length=i:=by unfold outE;rw[To,List.length_range]
 have hs:outE h (i+1)=outE h i++[Vf h i]:=by unfold outE;rw[Rq,Rf];rfl
 have hr:List.replicate (32-i) 0=0::List.replicate (32-(i+1)) 0:=by rw[show 32-i=(32-(i+1))+1 by omega,SQ]
 unfold u8n
 rw[show Value.int .u8 (Vf h i:Nat)=(λb:Nat=>Value.int .u8 (b:Int)) (Vf h i) from rfl,<-List.map_set,SZ _ _ (by omega),hl,Nl,hr,Nj,hs,TV];rfl
theorem YkY(s:ByteArray)(hs:s.size<=1000000000)(hw:St B w0 H w):
 CX B w0 178 [.int .i64 0,.string s] w λv K=>v=.string (digS s)/\K=H:=by
 refine Ya Tryz.func178 Tryz.ntmps178 rfl rfl hw ?_
 refine Y6 [many H] (λw hw=>hw.perm (.closeT H)) ?_
 have hiv:initE.length=8:=rfl
 have hbl:=VR s
 have hex:=YjS s
 unfold digS Yei
 obtain⟨ba,hbs⟩:∃bs,XZ s=bs:=⟨_,rfl⟩
 rw[hbs]at hbl hex⊢
 have p1:=λ(i j:Nat) (hij:i<=j/\j<=s.size/\j<=i+64) {H':List HP}{w:World}(hw:St B w0 H' w)=>by
  have h0:=YeD (s.extract i j) (by rw[<-VR,hex,TU,TY];omega) hw
  rwa [hex]at h0
 have p2:=λ(h m:List Int) (hh:h.length=8) (hm:m.length=16) (t:Int) (b:Bool) {H':List HP}{w:World}(hw:St B w0 H' w)=>YaY h m hh hm t b hw
 repeat'(first|refine zga ?_|fail)
 apply Yb Ys3
 exact za
 exact rfl
 exactλ_ hw=>(Yaj hw)
 repeat'(first|(apply YZ T;exact rfl;exact rfl;exact zd;(rw[hiv];rfl);exact rfl;exact hiv)|(apply YL T;(iterate 4 exact rfl);omega)|(apply YT T;exact rfl;exact zm;(rw[hiv];omega);exact rfl;exact rfl)|(apply JR;(iterate 3 exact rfl))|(apply Jc T;(iterate 4 exact rfl))|(apply Ycr;(iterate 3 exact rfl);decide)|(apply Y5 T;exact rfl;exact rfl;exact zd;(rw[hiv];omega);exact rfl)|refine zgb ?_|(refine zgh ?_;intro _)|fail)
 rename_i g5
 rw[show initE.set (0+Int.toNat 0*1) (bits .xor .u32 (bits .xor .u32 (initE.getD (0+Int.toNat 0*1) 0) 16842784) (IntKind.u32.wrap (IntKind.u32.wrap 0*2^Int.toNat 8)))=WN from by decide]
 refine Ye (λk:Nat=>[(6,.int .i64 ((64*k:Nat):Int)),(5,.pointer (some ⟨g5,0,none⟩)),(1,.string s)]) (λk=>chB g5 (Jj ba k)::[many H]) (λk=>k=0\/64*k<ba.length) (λk=>ba.length-64*k) 0 (.inl rfl) ?_ ?_ ?_
 ·exact zu
 ·rw[show Jj ba 0=WN from rfl]
  exact zk
 intro k hk K hK
 have hl:=Wd ba k
 have hstep:Jj ba (k+1)=Jk (Jj ba k) (Zb ((ba.drop (64*k)).take 64) 64) (64*k+64:Nat) false:=rfl
 obtain⟨l,hle⟩:∃l,Jj ba k=l:=⟨_,rfl⟩
 rw[hle]at hl hstep⊢
 have e1:((64*k:Nat):Int).toNat=64*k:=by omega
 by_cases hgt:64*k+64<ba.length
 ·have e2:(((64*k:Nat):Int)+64).toNat=64*k+64:=by omega
  have e3:((64*k:Nat):Int)+64=((64*k+64:Nat):Int):=by omega
  have hlm:=Jo ((ba.drop (64*k)).take 64) 64
  have pb:=λ{H':List HP}{w:World}(hw:St B w0 H' w)=>p1 (64*k) (64*k+64) ⟨by omega,by omega,by omega⟩ hw
  rw[show 64*k+64-64*k=64 by omega,show((ba.drop (64*k)).take 64).length=64 by rw[TU,TY];omega]at pb
  obtain⟨lm,hlme⟩:∃m,Zb ((ba.drop (64*k)).take 64) 64=m:=⟨_,rfl⟩
  rw[hlme]at hlm hstep pb
  have pc:=λ{H':List HP}{w:World}(hw:St B w0 H' w)=>p2 l lm hl hlm (64*k+64:Nat) false hw
  have hcl:=VY lm hl ((64*k+64:Nat):Int) false
  obtain⟨l8,hl8⟩:∃x,Jk l lm ((64*k+64:Nat):Int) false=x:=⟨_,rfl⟩
  rw[hl8]at pc hstep hcl
  repeat'(first|refine zgd ?_|(refine zge ?_ ?_<;>intro _<;>try exact zo)|fail)
  apply YA [0,1,2,3,4,5,7,8,9,6] [10,11] [true,true]
  kernel_rfl
  kernel_rfl
  exact zy
  (simp only[Yc,nthO];rfl)
  (simp only[Yc,nthO];rfl)
  repeat'(first|(apply XL T;exact rfl;exact zm;exact rfl;(rw[Xp];exact hl);exact rfl)|(apply YmP T;(iterate 5 exact rfl);omega;rw[e1,e2])|(apply WQ T;(iterate 4 exact rfl);omega;rw[e3])|(apply X4 (λv=>v=.agg (numA .u32 lm)) Ys5;exact za;exact rfl;exactλ_ hw=>pb hw;rintro _ rfl)|(apply X4 (λv=>v=.agg (numA .u32 l8)) Ys4;exact za;exact rfl;exactλ_ hw=>pc hw;rintro _ rfl)|(apply YZ T;exact rfl;exact rfl;exact zd;(rw[Xp,hl,hcl]);exact rfl;exact hcl)|(apply Yh;try exact zl)|refine zgd ?_|fail)
  apply hK (k+1)
  ·right;omega
  ·omega
  ·exact zu
  ·rw[hstep]
   exact zk
 clear hK hstep
 obtain rfl:k=XG ba:=by unfold XG;omega
 have hlm:=Jo (ba.drop (64*XG ba)) (ba.length-64*XG ba)
 have hkb:64*XG ba<=ba.length/\ba.length<=64*XG ba+64:=by unfold XG;omega
 have pb:=λ{H':List HP}{w:World}(hw:St B w0 H' w)=>p1 (64*XG ba) s.size ⟨by omega,by omega,by omega⟩ hw
 rw[show(ba.drop (64*XG ba)).take (s.size-64*XG ba)=ba.drop (64*XG ba) from TM (by rw[TY];omega),TY]at pb
 rw[hle]
 obtain⟨lm,hlme⟩:∃m,Zb (ba.drop (64*XG ba)) (ba.length-64*XG ba)=m:=⟨_,rfl⟩
 rw[hlme]at hlm pb⊢
 have pc:=λ{H':List HP}{w:World}(hw:St B w0 H' w)=>p2 l lm hl hlm s.size true hw
 have hcl:=VY lm hl (s.size:Int) true
 obtain⟨l8,hl8⟩:∃x,Jk l lm (s.size:Int) true=x:=⟨_,rfl⟩
 rw[show((ba.length:Nat):Int)=(s.size:Int) by rw[hbl]]
 rw[hl8]at pc hcl⊢
 repeat'(first|refine zgd ?_|(refine zge ?_ ?_<;>intro _<;>try exact zo)|fail)
 apply YA [0,1,2,3,5,6,7,4] [8,9] [true,true]
 kernel_rfl
 kernel_rfl
 exact zy
 (simp only[Yc,nthO];rfl)
 (simp only[Yc,nthO];rfl)
 repeat'(first|(apply XL T;exact rfl;exact zm;exact rfl;(rw[Xp];exact hl);exact rfl)|(apply Yf4 T;(iterate 4 exact rfl);omega;rw[e1])|(apply WQ T;(iterate 4 exact rfl);omega)|(apply X4 (λv=>v=.agg (numA .u32 lm)) Ys5;exact za;exact rfl;exactλ_ hw=>pb hw;rintro _ rfl)|(apply X4 (λv=>v=.agg (numA .u32 l8)) Ys4;exact za;exact rfl;exactλ_ hw=>pc hw;rintro _ rfl)|(apply YZ T;exact rfl;exact rfl;exact zd;(rw[Xp,hl,hcl]);exact rfl;exact hcl)|(apply Ycq T;(iterate 3 exact rfl);exact zi5;(iterate 3 exact rfl);omega;intro _)|(apply Yh;try exact zl)|refine zgd ?_|fail)
 rename_i gm
 rw[show Int.toNat 32=32 from rfl]
 have hlen:∀i,i<=32->(u8n (outE l8 i++List.replicate (32-i) 0)).length=32:=λi hi=>by
  unfold u8n outE
  rw[To,Tt,To,List.length_range,TS]
  omega
 refine Ye (λi:Nat=>[(8,.int .i64 (i:Nat)),(7,.slice (some ⟨gm,0,none⟩) 32 32),(5,.pointer (some ⟨g5,0,none⟩))]) (λi=>sl 5 1 (some ⟨gm,0,none⟩) 32 32 (u8n (outE l8 i++List.replicate (32-i) 0))::chB g5 l8::[many H]) (λi=>i<=32) (λi=>32-i) 0 (Td _) ?_ ?_ ?_
 ·exact zu
 ·intro w hw
  have h5:St B w0 (sl 5 1 (some ⟨gm,0,none⟩) 32 32 (List.replicate 32 (Value.int .u8 0))::chB g5 l8::[many H]) w:=by
   revert w
   exact zk
  exact h5
 intro i hi K hK
 by_cases hlt:i<32
 rotate_left
 ·clear hK
  obtain rfl:i=32:=by omega
  rw[Nl,Na,Rr]
  repeat'(first|(apply Yow T;exact rfl;exact zm;(iterate 4 exact rfl))|refine zgc ?_|(refine zge ?_ ?_<;>intro _<;>try exact zo)|fail)
  apply Yf H
  ·intro w hw
   have h5:St B w0 [many H] w:=by
    revert w
    exact zk
   exact h5.perm (.openT H)
  apply Yd;exact rfl;exact rfl;exact⟨rfl,rfl⟩
 have hset:=Yr7 l8 hlt
 have hln:=hlen i hi
 have e5:((i:Nat):Int).toNat=i:=by omega
 have hbe:(l8.getD (0+((i:Int)/4).toNat*1) 0/2^(8*((i:Int)%4)).toNat%256).toNat=Vf l8 i:=by
  unfold Vf
  rw[show 0+((i:Int)/4).toNat*1=i/4 by omega,show(8*((i:Int)%4)).toNat=8*(i%4) by omega]
 obtain⟨X,hX⟩:∃X,u8n (outE l8 i++List.replicate (32-i) 0)=X:=⟨_,rfl⟩
 rw[hX]at hset hln⊢
 repeat'(first|(apply YL T;(iterate 4 exact rfl);omega)|(apply YT T (k:=.u32);exact rfl;exact zm;(rw[hcl];omega);exact rfl;exact rfl)|(apply Yaz;(iterate 3 exact rfl);(exact⟨by omega,by show _<=(32:Int);omega⟩))|(apply Ycm T;(iterate 4 exact rfl);rw[hbe])|(apply WT T (xs:=X);(iterate 3 exact rfl);exact zd;exact rfl;(rw[hln];omega))|refine zgd ?_|(refine zge ?_ ?_<;>intro _<;>try exact zo)|fail)
 rw[show((i:Nat):Int).toNat*1=i by omega,hset]
 apply hK (i+1)
 ·exact hlt
 ·omega
 ·exact zu
 ·exact zk
theorem YiZ(s:ByteArray)(hs:s.size<=1000000000)(hw:St B w0 H w):
 CX B w0 89 [.string s] w λv K=>v=.string (digS s)/\K=H:=by
 refine Ya Tryz.func89 Tryz.ntmps89 rfl rfl hw ?_
 repeat'(first|((apply Yb Yv3);exact za;exact rfl;exactλ_ hw=>(YkY s hs hw))|refine zga ?_|fail)
 apply Yd;exact rfl;exact rfl;exact⟨rfl,rfl⟩
end Go.Proofs.YtjommdkgfbhbdaaGreatDoor
