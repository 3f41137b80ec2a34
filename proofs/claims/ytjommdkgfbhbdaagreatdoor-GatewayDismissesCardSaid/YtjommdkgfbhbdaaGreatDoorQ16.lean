/- Lemmas. -/
import Derived.Test.YtjommdkgfbhbdaaGreatDoorQ13
import Derived.Test.YtjommdkgfbhbdaaGreatDoorQ14
set_option maxRecDepth 100000
set_option maxHeartbeats 8000000
set_option linter.all false
namespace Go.Proofs.YtjommdkgfbhbdaaGreatDoor
open Go.RowKit Go.Eng Go.Nw Go.Rt
structure ClM.Bg(B:Nat)(w0:World)(H:List HP)(c:ClM):Prop where
 rt:Rd B w0 H c.rA (c.rs.flatMap rowF)
 rw_:∀r∈c.rs,Rd B w0 H r.A (r.xs.flatMap numF)
 bd:Rd B w0 H c.bA (c.bs.flatMap numF)
 ws:Rd B w0 H c.wA (c.ws.flatMap numF)
 st:Rd B w0 H c.sA (c.ss.flatMap rowF)
 sw:∀r∈c.ss,Rd B w0 H r.A (r.xs.flatMap numF)
 ln:c.rs.length<=9223372036854775807/\c.bs.length<=9223372036854775807/\c.ws.length<=9223372036854775807/\c.ss.length<=9223372036854775807
 rl:∀r∈c.rs,r.xs.length<=9223372036854775807
 sl:∀r∈c.ss,r.xs.length<=9223372036854775807
structure CBg(B:Nat)(w0:World)(H:List HP)(A:Option Addr)(c:List ClM):Prop where
 rd:Rd B w0 H A (c.flatMap clF)
 x:∀x∈c,x.Bg B w0 H
 ln:c.length<=9223372036854775807
def FewX(x:ClM):Prop:=x.rs.length<=3/\x.bs.length<=8/\x.ws.length<=8/\x.ss.length<=8/\(∀r∈x.rs,r.xs.length<=12)/\∀r∈x.ss,r.xs.length<=70
def FewC(c:List ClM):Prop:=c.length<=17/\∀x∈c,FewX x
variable {B k:Nat}{w0:World}{H:List HP}{A:Option Addr}
theorem CBg.small{c:List ClM}(h:CBg B w0 H A c)(hf:FewC c):CIn B w0 H A c:=by
 refine⟨h.rd,λx hx=>?_,by have:=hf.1;omega⟩
 have h1:=h.x x hx
 obtain⟨f1,f2,f3,f4,f5,f6⟩:=hf.2 x hx
 exact⟨h1.rt,h1.rw_,h1.bd,h1.ws,h1.st,h1.sw,by omega,λr hr=>by grind,λr hr=>by grind⟩
variable {α:Type}
theorem Wy{P:α->Prop}{l:List α}{x:α}(h:∀y∈l.take k,P y)(hx:l[k]? =some x)(hp:P x):∀y∈l.take (k+1),P y:=zc78
theorem Qc{P:α->Prop}{l:List α}(h:∀y∈l.take k,P y)(hk:¬k<l.length):∀y∈l,P y:=by
 grind [TE]
theorem YcE(c:List ClM){cap:Nat}{w:World}(hc:CBg B w0 H A c)(hw:St B w0 H w):
 CX B w0 61 [.slice A c.length cap] w λv K=>(∃b,v=.bool b/\(b=true->FewC c))/\K=H:=by
 refine Ya Tryz.func61 Tryz.ntmps61 rfl rfl hw ?_
 have hcl:=hc.ln
 have hcr:=hc.rd
 repeat'(first|refine zgc ?_|(refine zgf ?_ ?_<;>intro _<;>try exact zo)|fail)
 any_goals(apply Yc;exact rfl;exact rfl;simp_all)
 all_goals(
  have hc17:c.length<=17:=by omega
  refine Ye (λk:Nat=>[(3,.int .i64 (k:Nat)),(0,.slice A c.length cap)]) (λ_=>H) (λk=>k<=c.length/\∀x∈c.take k,FewX x) (λk=>c.length-k) 0 ⟨Td _,by simp⟩ ?_ (λw hw=>hw) ?_
  ·exact zu
  rintro i ⟨hi,hz⟩ K hK
  by_cases hlt:i<c.length
  rotate_left
  ·repeat'(first|refine zgc ?_|(refine zge ?_ ?_<;>intro _<;>try exact zo)|fail)
   apply Yc;exact rfl;exact rfl;exact⟨⟨_,rfl,λ_=>⟨hc17,Qc hz hlt⟩⟩,rfl⟩
  obtain⟨x,hx⟩:∃x,c[i]? =some x:=⟨_,Ta hlt⟩
  have hxi:=hc.x x (Tc hx)
  have hxl:=hxi.ln
  have hxr:=hxi.rt
  have hxs:=hxi.st
  repeat'(first|refine zgd ?_|(refine zgf ?_ ?_<;>intro _<;>try exact zo)|fail)
  any_goals(apply Yc;exact rfl;exact rfl;exact⟨⟨_,rfl,λh=>by cases h⟩,rfl⟩)
  have hx4:x.rs.length<=3/\x.bs.length<=8/\x.ws.length<=8/\x.ss.length<=8:=by omega
  refine Ye (λk:Nat=>[(4,.int .i64 (k:Nat)),(3,.int .i64 (i:Nat)),(0,.slice A c.length cap)]) (λ_=>H) (λk=>k<=x.rs.length/\∀r∈x.rs.take k,r.xs.length<=12) (λk=>x.rs.length-k) 0 ⟨Td _,by simp⟩ ?_ (λw hw=>hw) ?_
  ·exact zu
  rintro k ⟨hk,hz2⟩ K2 hK2
  by_cases hlk:k<x.rs.length
  ·obtain⟨r,hr⟩:∃r,x.rs[k]? =some r:=⟨_,Ta hlk⟩
   have hrl:=hxi.rl r (Tc hr)
   repeat'(first|refine zgd ?_|(refine zgf ?_ ?_<;>intro _<;>try exact zo)|fail)
   any_goals(apply Yc;exact rfl;exact rfl;exact⟨⟨_,rfl,λh=>by cases h⟩,rfl⟩)
   apply hK2 (k+1)
   ·exact⟨by omega,Wy hz2 hr (by omega)⟩
   ·omega
   ·exact zu
   ·exactλw hw=>hw
  clear hK2
  repeat'(first|refine zgd ?_|(refine zge ?_ ?_<;>intro _<;>try exact zo)|fail)
  refine Ye (λk:Nat=>[(5,.int .i64 (k:Nat)),(3,.int .i64 (i:Nat)),(0,.slice A c.length cap)]) (λ_=>H) (λk=>k<=x.ss.length/\∀r∈x.ss.take k,r.xs.length<=70) (λk=>x.ss.length-k) 0 ⟨Td _,by simp⟩ ?_ (λw hw=>hw) ?_
  ·exact zu
  have hz2:=Qc hz2 hlk
  rintro k ⟨hk,hz3⟩ K2 hK2
  by_cases hlk:k<x.ss.length
  ·obtain⟨r,hr⟩:∃r,x.ss[k]? =some r:=⟨_,Ta hlk⟩
   have hrl:=hxi.sl r (Tc hr)
   repeat'(first|refine zgd ?_|(refine zgf ?_ ?_<;>intro _<;>try exact zo)|fail)
   any_goals(apply Yc;exact rfl;exact rfl;exact⟨⟨_,rfl,λh=>by cases h⟩,rfl⟩)
   apply hK2 (k+1)
   ·exact⟨by omega,Wy hz3 hr (by omega)⟩
   ·omega
   ·exact zu
   ·exactλw hw=>hw
  clear hK2
  repeat'(first|refine zgd ?_|(refine zge ?_ ?_<;>intro _<;>try exact zo)|fail)
  apply hK (i+1)
  ·exact⟨by omega,Wy hz hx ⟨hx4.1,hx4.2.1,hx4.2.2.1,hx4.2.2.2,hz2,Qc hz3 hlk⟩⟩
  ·omega
  ·exact zu
  ·exactλw hw=>hw)
open Go.ChangeShapes Go.WideShapes Go.ChangeAt Go.RowKit Go.Eng Go.Nw Go.Rt
variable {W:World}{K:List HP}
theorem ClG.bg{c:ClM}(h:ClG W c):c.Bg W.heap.size W K:=
 ⟨h.rt.rd,λr hr=>(h.rg r hr).old.rd,h.bd.old.rd,h.ws.old.rd,h.st.rd,λr hr=>(h.sg r hr).old.rd,⟨h.rl,h.bd.len,h.ws.len,h.sl⟩,λr hr=>(h.rg r hr).len,λr hr=>(h.sg r hr).len⟩
theorem Yru{s:SlM ClM}(h:SlG W clF (ClG W) s):CBg W.heap.size W K s.A s.xs:=
 ⟨h.old.rd,λx hx=>(h.good x hx).bg,TX h.len maxL⟩
structure RqM.Bg(B:Nat)(w0:World)(H:List HP)(x:RqM):Prop where
 rt:Rd B w0 H x.A (x.rows.flatMap rowF)
 rw_:∀r∈x.rows,Rd B w0 H r.A (r.xs.flatMap numF)
 ln:x.rows.length<=9223372036854775807
 rl:∀r∈x.rows,r.xs.length<=9223372036854775807/\r.xs.length<=r.cap
structure QBg(B:Nat)(w0:World)(H:List HP)(A:Option Addr)(q:List RqM):Prop where
 rd:Rd B w0 H A (q.flatMap rqF)
 x:∀x∈q,x.Bg B w0 H
 ln:q.length<=9223372036854775807
variable {B cap:Nat}{w0 w:World}{H H':List HP}
theorem RqM.Bg.mono{x:RqM}(h:x.Bg B w0 H)(hH:∀w,St B w0 H' w->St B w0 H w):x.Bg B w0 H':=⟨h.rt.mono hH,λr hr=>(h.rw_ r hr).mono hH,h.ln,h.rl⟩
variable {A:Option Addr}{q:List RqM}
theorem QBg.mono(h:QBg B w0 H A q)(hH:∀w,St B w0 H' w->St B w0 H w):QBg B w0 H' A q:=⟨h.rd.mono hH,λx hx=>(h.x x hx).mono hH,h.ln⟩
def FewR(l:List RowM):Prop:=l.length<=3/\∀r∈l,r.xs.length<=12
def FewQ(q:List RqM)(s:SchM):Prop:=q.length<=4/\s.cells.length<=30/\∀x∈q,FewR x.rows
theorem QBg.small{s:SchM}(h:QBg B w0 H A q)(hf:FewQ q s):QIn B w0 H A q:=by
 refine⟨h.rd,λx hx=>?_,by have:=hf.1;omega⟩
 have h1:=h.x x hx
 obtain⟨f1,f2⟩:=hf.2.2 x hx
 exact⟨h1.rt,h1.rw_,by omega,λr hr=>⟨by grind,(h1.rl r hr).2⟩⟩
theorem YvB{W:World}{s:SlM RqM}{K:List HP}(h:SlG W rqF (RqG W) s):QBg W.heap.size W K s.A s.xs:=
 ⟨h.old.rd,λx hx=>⟨(h.good x hx).old.rd,λr hr=>((h.good x hx).good r hr).old.rd,(h.good x hx).len,λr hr=>⟨((h.good x hx).good r hr).len,((h.good x hx).good r hr).cap⟩⟩,TX h.len maxL⟩
theorem YjY(n:NetM)(s:SchM)(l:List RowM)(hin:n.In B w0 H)(hr:Rd B w0 H A (l.flatMap rowF))(hll:l.length<=9223372036854775807)(_hsl:s.cells.length<=9223372036854775807)(hlr:∀r∈l,r.xs.length<=9223372036854775807)(hw:St B w0 H w):
 CX B w0 146 [n.val,s.val,.slice A l.length cap] w λv K=>(∃b,v=.bool b/\(b=true->FewR l))/\K=H:=by
 refine Ya Tryz.func146 Tryz.ntmps146 rfl rfl hw ?_
 unfold NetM.val SchM.val
 have p1:=λ{H':List HP}{w:World}(hin:n.In B w0 H') (hw:St B w0 H' w)=>YhI n hin hw
 unfold NetM.val at p1
 repeat'(first|refine zgb ?_|(refine zgh ?_;intro _)|fail)
 rename_i g3 g4
 refine Ye (λk:Nat=>[(7,.int .i64 (k:Nat)),(2,.slice A l.length cap),(4,.pointer (some ⟨g4,0,none⟩)),(3,.pointer (some ⟨g3,0,none⟩))]) (λ_=>schA g4 s::netA g3 n::H) (λk=>k<=l.length/\∀r∈l.take k,r.xs.length<=12) (λk=>l.length-k) 0 ⟨Td _,by simp⟩ ?_ (λw hw=>hw) ?_
 ·exact zc1
 rintro k ⟨hk,hz⟩ K hK
 have hr2:Rd B w0 (schA g4 s::netA g3 n::H) A (l.flatMap rowF):=hr.cons.cons
 by_cases hlt:k<l.length
 ·obtain⟨r,hx⟩:∃r,l[k]? =some r:=⟨_,Ta hlt⟩
  have hrl:=hlr r (Tc hx)
  repeat'(first|refine zgd ?_|(refine zgf ?_ ?_<;>intro _<;>try exact zo)|fail)
  ·apply Yf H
   ·exact zc0
   exact zc96
  ·apply hK (k+1)
   ·exact⟨by omega,Wy hz hx (by omega)⟩
   ·omega
   ·exact zc1
   exact zc18
 ·have hz:=Qc hz hlt
  clear hK
  cases hb:fewE n.net<;>(
   rw[hb]at p1
   repeat'(first|refine zgc ?_|(refine zge ?_ ?_<;>intro _<;>try exact zo)|fail)
   apply Yb en37
   exact za
   exact rfl
   exactλ_ hw=>(p1 (hin.mono zk) hw)
   repeat'(first|refine zgc ?_|(refine zgf ?_ ?_<;>intro _<;>try exact zo)|fail)
   all_goals(
    apply Yf H
    ·exact zk
    apply Yc;exact rfl;exact rfl
    exact⟨⟨_,rfl,λh=>by first|(exact absurd h (by decide))|(rw[Tm]at h;exact⟨by omega,hz⟩)|exact⟨by omega,hz⟩⟩,rfl⟩))
theorem YjZ(n:NetM)(q:List RqM)(s:SchM)(hin:n.In B w0 H)(hq:QBg B w0 H A q)(hsl:s.cells.length<=9223372036854775807)(hw:St B w0 H w):
 CX B w0 60 [n.val,.slice A q.length cap,s.val] w λv K=>(∃b,v=.bool b/\(b=true->FewQ q s))/\K=H:=by
 refine Ya Tryz.func60 Tryz.ntmps60 rfl rfl hw ?_
 unfold NetM.val SchM.val
 have p1:=λ{H':List HP}{w:World}(hin:n.In B w0 H') (hw:St B w0 H' w)=>YhI n hin hw
 have p2:=λ{x:RqM}{H':List HP}{w:World}(hin:n.In B w0 H') (hx:x.Bg B w0 H') (hw:St B w0 H' w)=>YjY n ⟨0,0,none,0,[]⟩ x.rows (cap:=x.cap) hin hx.rt hx.ln (by simp) (λr hr=>(hx.rl r hr).1) hw
 unfold NetM.val at p1 p2
 have hql:=hq.ln
 repeat'(first|refine zgb ?_|(refine zgh ?_;intro _)|fail)
 rename_i g3 g4
 refine Ye (λk:Nat=>[(7,.int .i64 (k:Nat)),(1,.slice A q.length cap),(5,.pointer (some ⟨g4,0,none⟩)),(3,.pointer (some ⟨g3,0,none⟩))]) (λ_=>schA g4 s::netA g3 n::H) (λk=>k<=q.length/\∀x∈q.take k,FewR x.rows) (λk=>q.length-k) 0 ⟨Td _,by simp⟩ ?_ (λw hw=>hw) ?_
 ·exact zc1
 rintro k ⟨hk,hz⟩ K hK
 have hr2:Rd B w0 (schA g4 s::netA g3 n::H) A (q.flatMap rqF):=hq.rd.cons.cons
 by_cases hlt:k<q.length
 ·obtain⟨x,hx⟩:∃x,q[k]? =some x:=⟨_,Ta hlt⟩
  have hxb:=hq.x x (Tc hx)
  repeat'(first|refine zgb ?_|(refine zge ?_ ?_<;>intro _<;>try exact zo)|fail)
  apply Y8 [0,1,2,3,4,5,6,7,8] []
  kernel_rfl
  kernel_rfl
  (simp only[Yd,nthO];rfl)
  exact rfl
  repeat'(first|refine zgd ?_|fail)
  apply Yg _ Ywk
  exact za
  exact rfl
  exactλ_ hw=>(p2 (hin.mono zc0) (hxb.mono zc0) (hw))
  rintro _ _ ⟨⟨b,rfl,hb⟩,hK0⟩
  rw[hK0]
  cases b with
  |false=>
   repeat'(first|(apply Yh;(repeat(first|with_reducible exact Y7|(with_reducible apply Y0;(repeat(first|with_reducible exact YB|with_reducible apply YR))))))|refine zgd ?_|fail)
   ·show Perm H (H++[])
    exact zc37
   repeat'(first|fail)
   apply Yf H
   ·exact zc0
   exact zc96
  |true=>
   have hb:=hb rfl
   repeat'(first|(apply Yh;(repeat(first|with_reducible exact Y7|(with_reducible apply Y0;(repeat(first|with_reducible exact YB|with_reducible apply YR))))))|refine zgd ?_|fail)
   ·show Perm H (H++[])
    exact zc37
   repeat'(first|fail)
   apply hK (k+1)
   ·exact⟨by omega,Wy hz hx hb⟩
   ·omega
   ·exact zc1
   exact zc18
 ·have hz:=Qc hz hlt
  clear hK
  cases hb:fewE n.net<;>(
   rw[hb]at p1
   repeat'(first|refine zgc ?_|(refine zge ?_ ?_<;>intro _<;>try exact zo)|fail)
   apply Yb en37
   exact za
   exact rfl
   exactλ_ hw=>(p1 (hin.mono zk) hw)
   repeat'(first|refine zgc ?_|(refine zgf ?_ ?_<;>intro _<;>try exact zo)|fail)
   all_goals(
    apply Yf H
    ·exact zk
    apply Yc;exact rfl;exact rfl
    exact⟨⟨_,rfl,λh=>by first|(exact absurd h (by decide))|(rw[Tm]at h;exact⟨by omega,by omega,hz⟩)|exact⟨by omega,by omega,hz⟩⟩,rfl⟩))
def hopC(len a:Int)(cs' cs:List Cel)(f k:Nat):List Int:=(Xd len a cs' k++hopP len cs f (k-(Xd len a cs' k).length) (a+1)).map Prod.snd
theorem Ypl(len a:Int)(cs:List Cel)(f k:Nat):hopC len a cs cs f k=(hopP len cs (f+1) k a).map Prod.snd:=rfl
theorem Ypm(len a:Int)(cs:List Cel)(f k:Nat):hopC len a [] cs f k=(hopP len cs f k (a+1)).map Prod.snd:=by simp[hopC,Xd]
variable {a:Int}{c:Cel}{cs' cs:List Cel}{f k B:Nat}
theorem Ypn{len:Int}(h:c.1=a.tmod len)(hk:k≠0):hopC len a (c::cs') cs f k=a::hopC len a cs' cs f (k-1):=by
 have h1:Xd len a (c::cs') k=(c,a)::Xd len a cs' (k-1):=by rw[Xd,To ⟨h,hk⟩]
 grind [hopC]
theorem YrI{len:Int}(h:¬(c.1=a.tmod len/\k≠0)):hopC len a (c::cs') cs f k=hopC len a cs' cs f k:=by
 unfold hopC
 rw[Xd,Tf h]
structure HpM where
 i:Nat
 A:Option Addr
 cap:Nat
 out:List Int
variable {w0 w:World}{H:List HP}
theorem Ypo(s:SchM)(f:Flw)(fr dn nd:Int)(need:Nat)(a last:Int)(hnd:nd=(need:Nat))(hn:need<=1000)(hlen:1<=s.len/\s.len<=1000000)(ha:0<=a/\a<=1000000)(hla:a<=last+1/\last<=1000000)(hsl:s.cells.length<=1000000000000)(hrs:Rd B w0 H s.A (s.cells.flatMap celF))(hw:St B w0 H w):
 CX B w0 310 [s.val,flwV f,.int .i64 fr,.int .i64 dn,.int .i64 nd,.int .i64 a,.int .i64 last] w λv K=>∃A cap,v=.tuple #[.slice A ((hopP s.len (s.cells.filter (onP f.1 fr dn)) (last+1-a).toNat need a).map Prod.snd).length cap,.bool (decide (((hopP s.len (s.cells.filter (onP f.1 fr dn)) (last+1-a).toNat need a).map Prod.snd).length=need))]/\K=nrs A cap ((hopP s.len (s.cells.filter (onP f.1 fr dn)) (last+1-a).toNat need a).map Prod.snd)::H:=by
 refine Ya Tryz.func310 Tryz.ntmps310 rfl rfl hw ?_
 subst hnd
 obtain⟨cs,hcs⟩:∃cs,s.cells.filter (onP f.1 fr dn)=cs:=⟨_,rfl⟩
 obtain⟨F,hF⟩:∃F,(last+1-a).toNat=F:=⟨_,rfl⟩
 rw[hcs,hF]
 obtain⟨L,hL⟩:∃L,(hopP s.len cs F need a).map Prod.snd=L:=⟨_,rfl⟩
 rw[hL]
 have hLn:L.length<=need:=by rw[<-hL,Tu];exact UW _ _ _ _ _
 unfold SchM.val flwV
 repeat'(first|(apply Yw T;exact rfl;exact rfl;intro g2)|refine zgb ?_|(refine zgh ?_;intro _)|fail)
 rename_i g7 g8
 refine Ye (λz:HpM=>[(17,.int .i64 (a+(z.i:Nat))),(16,.slice z.A z.out.length z.cap),(7,.pointer (some ⟨g7,0,none⟩)),(8,.pointer (some ⟨g8,0,none⟩)),(2,.int .i64 fr),(3,.int .i64 dn),(4,.int .i64 (need:Nat)),(6,.int .i64 last)]) (λz=>nrs z.A z.cap z.out::flwB g8 f::schA g7 s::H)
  (λz=>z.i<=F/\z.out.length<=need/\z.out++(hopP s.len cs (F-z.i) (need-z.out.length) (a+(z.i:Nat))).map Prod.snd=L) (λz=>F-z.i) ⟨0,some ⟨g2,0,none⟩,0,[]⟩ ⟨Td _,Td _,by simpa using hL⟩ ?_ (λw hw=>hw) ?_
 ·dsimp only
  exact zc1
 rintro⟨i,A,cap,out⟩ ⟨hi,hol,hout⟩ K hK
 dsimp only at hi hol hout⊢
 by_cases hgo:i<F/\out.length<need
 rotate_left
 ·have hoL:out=L:=by
   rw[<-hout]
   rcases S8 i F with h1|h1
   ·rw[show need-out.length=0 by omega,YcS];simp
   ·rw[show F-i=0 by omega];simp[hopP]
  subst hoL
  clear hK
  by_cases hnd:out.length=need
  ·rw[Ti hnd]
   by_cases hiF:i<F
   all_goals(
    repeat'(first|refine zgc ?_|(refine zgf ?_ ?_<;>intro _<;>try exact zo)|fail)
    apply Yf (nrs A cap out::H)
    ·exact zk
    apply YJ;(iterate 3 exact rfl)
    exact⟨A,cap,rfl,rfl⟩)
  ·rw[Tn hnd]
   have hiF:¬i<F:=λh=>hgo ⟨h,by omega⟩
   refine zX42 ?_<;>intros
   apply Yf (nrs A cap out::H)
   ·exact zc0
   exact YqG
 obtain⟨hiF,hon⟩:=hgo
 refine zX42 ?_<;>intros
 refine Ye (λy:HpM=>[(18,.int .i64 (y.i:Nat)),(17,.int .i64 (a+(i:Nat))),(16,.slice y.A y.out.length y.cap),(7,.pointer (some ⟨g7,0,none⟩)),(8,.pointer (some ⟨g8,0,none⟩)),(2,.int .i64 fr),(3,.int .i64 dn),(4,.int .i64 (need:Nat)),(6,.int .i64 last)]) (λy=>nrs y.A y.cap y.out::flwB g8 f::schA g7 s::H)
  (λy=>y.i<=s.cells.length/\y.out.length<=need/\y.out++hopC s.len (a+(i:Nat)) ((s.cells.drop y.i).filter (onP f.1 fr dn)) cs (F-(i+1)) (need-y.out.length)=L) (λy=>s.cells.length-y.i) ⟨0,A,cap,out⟩ ⟨Td _,hol,?_⟩ ?_ (λw hw=>hw) ?_
 ·show out++hopC s.len (a+(i:Nat)) ((s.cells.drop 0).filter (onP f.1 fr dn)) cs (F-(i+1)) (need-out.length)=L
  rw[List.drop_zero,hcs,Ypl,show F-(i+1)+1=F-i by omega]
  exact hout
 ·exact zc1
 clear hout hol hon
 rintro⟨j,A,cap,out⟩ ⟨hj,hol,hout⟩ K2 hK2
 dsimp only at hj hol hout⊢
 have hrs2:Rd B w0 (nrs A cap out::flwB g8 f::schA g7 s::H) s.A (s.cells.flatMap celF):=hrs.cons.cons.cons
 by_cases hlt:j<s.cells.length
 rotate_left
 ·obtain rfl:j=s.cells.length:=by omega
  rw[Ss,List.filter_nil,Ypm]at hout
  clear hK2
  refine zX1 ?_<;>intros
  apply hK ⟨i+1,A,cap,out⟩
  ·refine⟨by show i+1<=F;omega,hol,?_⟩
   show out++(hopP s.len cs (F-(i+1)) (need-out.length) (a+((i+1:Nat):Int))).map Prod.snd=L
   rw[show a+((i+1:Nat):Int)=a+(i:Nat)+1 by omega]
   exact hout
  ·exact zc73
  ·dsimp only
   exact zc1
  ·exact zc0
 obtain⟨c,hc⟩:∃c,s.cells[j]? =some c:=⟨_,Ta hlt⟩
 have hdr:s.cells.drop j=c::s.cells.drop (j+1):=by
  obtain⟨h1,h2⟩:=Tj.1 hc
  rw[<-h2,Na]
 rw[hdr]at hout
 clear hK
 have htm:(a+(i:Nat)).tmod s.len=(a+(i:Nat))%s.len:=Rb (by omega)
 by_cases hm:c.1=(a+(i:Nat))%s.len/\c.2.2.2.2=f.1/\c.2.2.1=fr/\c.2.2.2.1=dn/\out.length<need
 ·obtain⟨m1,m2,m3,m4,m5⟩:=hm
  have hon:onP f.1 fr dn c=true:=Ti ⟨m2,m3,m4⟩
  rw[List.filter_cons_of_pos hon,Ypn (by rw[htm];exact m1) (by omega)]at hout
  refine Yft ?_<;>intros
  rename_i A' cap'
  rw[JW,show out.length+1=(out++[a+(i:Nat)]).length by simp]
  apply hK2 ⟨j+1,A',cap',out++[a+(i:Nat)]⟩
  ·refine⟨by exact Yjm,by show(out++[a+(i:Nat)]).length<=need;rw[Tt];show out.length+1<=need;omega,?_⟩
   show(out++[a+(i:Nat)])++hopC _ _ _ _ _ (need-(out++[a+(i:Nat)]).length)=L
   rw[Ro,Tt,show need-(out.length+[a+(i:Nat)].length)=need-out.length-1 by show need-(out.length+1)=_;omega]
   exact hout
  ·exact zc73
  ·exact zc1
  ·exact zc0
 ·have hout2:out++hopC s.len (a+(i:Nat)) ((s.cells.drop (j+1)).filter (onP f.1 fr dn)) cs (F-(i+1)) (need-out.length)=L:=by
   cases hb:onP f.1 fr dn c with
   |false=>rw[List.filter_cons_of_neg (by rw[hb];decide)]at hout;exact hout
   |true=>
    have h2:Y6 c=f.1/\YM c=fr/\toC c=dn:=TI hb
    rw[List.filter_cons_of_pos hb,YrI (λh=>hm ⟨by rw[<-htm];exact h.1,h2.1,h2.2.1,h2.2.2,by omega⟩)]at hout
    exact hout
  repeat'(first|refine zgd ?_|(refine zge ?_ ?_<;>intro _<;>try exact zo)|(refine zgh ?_;intro _)|fail)
  all_goals(
   apply hK2 ⟨j+1,A,cap,out⟩
   ·exact⟨by show j+1<=_;omega,hol,hout2⟩
   ·dsimp only;omega
   ·exact zu
   ·exact zk)
theorem Yed(l:List Int)(a:Int)(hl:l.length<=1000000000000)(hb:∀z∈l,-1000000000<=z/\z<=1000000000)(ha:0<=a/\a<=1000000000){A:Option Addr}{cap:Nat}(hr:Rd B w0 H A (l.flatMap numF))(hw:St B w0 H w):
 CX B w0 366 [.slice A l.length cap,.int .i64 a] w λv K=>∃A2 cap2,v=.slice A2 (l.map λz=>z-a).length cap2/\K=nrs A2 cap2 (l.map λz=>z-a)::H:=by
 refine Ya Tryz.func366 Tryz.ntmps366 rfl rfl hw ?_
 repeat'(first|(apply Yw T;exact rfl;exact rfl;intro g2)|refine zgb ?_|fail)
 refine Ye (λz:FlM=>[(6,.int .i64 (z.i:Nat)),(5,.slice z.A ((l.take z.i).map λz=>z-a).length z.cap),(0,.slice A l.length cap),(1,.int .i64 a)]) (λz=>nrs z.A z.cap ((l.take z.i).map λz=>z-a)::H) (λz=>z.i<=l.length) (λz=>l.length-z.i) ⟨0,some ⟨g2,0,none⟩,0⟩ (Td _) ?_ (λw hw=>hw) ?_
 ·exact zc1
 rintro⟨i,A2,cap2⟩ hi K hK
 dsimp only at hi⊢
 have hlen:((l.take i).map λz=>z-a).length=i:=by simp_all
 by_cases hlt:i<l.length
 ·obtain⟨x,hx⟩:∃x,l[i]? =some x:=⟨_,Ta hlt⟩
  have hxb:=hb x (Tc hx)
  have hst:(l.take (i+1)).map (λz=>z-a)=(l.take i).map (λz=>z-a)++[x-a]:=zc78
  have hr':=hr.cons (X:=nrs A2 cap2 ((l.take i).map λz=>z-a))
  obtain⟨M,hM⟩:∃M,(l.take i).map (λz=>z-a)=M:=⟨_,rfl⟩
  rw[hM]at hlen hst hr'⊢
  refine Yft ?_<;>intros
  rename_i A' cap'
  rw[JW,<-hst,show M.length+1=((l.take (i+1)).map λz=>z-a).length by simp_all]
  apply hK ⟨i+1,A',cap'⟩
  ·grind
  ·grind
  ·exact zc1
  ·exact zc0
 ·obtain rfl:i=l.length:=by omega
  rw[TC]
  refine zX1 ?_<;>intros
  apply Yc;exact rfl;exact rfl
  exact⟨A2,cap2,rfl,rfl⟩
structure RuM where
 f:Int
 u:Int
 v:Int
 k:Int
 A:Option Addr
 cap:Nat
 os:List Int
def ruF(r:RuM):List Value:=[.int .i64 r.f,.int .i64 r.u,.int .i64 r.v,.int .i64 r.k,.slice r.A r.os.length r.cap]
structure RuM.In(B:Nat)(w0:World)(H:List HP)(r:RuM):Prop where
 rd:Rd B w0 H r.A (r.os.flatMap numF)
 ln:r.os.length<=9223372036854775807
structure XIn(B:Nat)(w0:World)(H:List HP)(A:Option Addr)(xs:List RuM):Prop where
 rd:Rd B w0 H A (xs.flatMap ruF)
 x:∀r∈xs,r.In B w0 H
variable {B:Nat}{w0:World}{H K:List HP}
theorem RuM.In.mono{r:RuM}(h:r.In B w0 H)(hop:∀w,St B w0 K w->St B w0 H w):r.In B w0 K:=⟨h.rd.mono hop,h.ln⟩
theorem XIn.mono{A:Option Addr}{xs:List RuM}(h:XIn B w0 H A xs)(hop:∀w,St B w0 K w->St B w0 H w):XIn B w0 K A xs:=⟨h.rd.mono hop,λr hr=>(h.x r hr).mono hop⟩
def YxW(es:List (Int×Int×Nat))(k:Int):Option Int:=(es.find? λe=>e.1==k).map (·.2.1)
def Yx6(es:List (KL×Int×Nat))(k:KL):Option Int:=(es.find? λe=>e.1==k).map (·.2.1)
structure SM where
 frame:Int
 g:Option (Nat×Nat×Nat)
 es:List (Int×Int×Nat)
 ce:Nat
 ts:YbV
 ct:Nat
 ak:List (KL×Int×Nat)
 ca:Nat
 done:Bool
def SM.st(x:SM):StM:=⟨x.frame,YxW x.es,λu v=>Yx6 x.ak [u,v],x.done⟩
structure VOk(N:Nat)(es:YbV)(ct:Nat):Prop where
 len:∀e∈es,e.1.length=N
 lt:∀e∈es,e.2.2<ct
 ne:es.Pairwise λa b=>a.2.2≠b.2.2
variable {N ct:Nat}
theorem VOk.nil:VOk N [] ct:=by simp_all [Go.Proofs.YtjommdkgfbhbdaaGreatDoor.VOk.mk]
theorem VOk.set{b:Nat}{l1 l2:YbV}{k:KL}{v0:Value}(h:VOk N (l1++(k,v0,b)::l2) ct)(v:Value):VOk N (l1++(k,v,b)::l2) ct:=by
 have e:∀P:KL×Value×Nat->Prop,(∀z:KL×Value×Nat,P z↔P (z.1,v,z.2.2))->(∀z∈l1++(k,v0,b)::l2,P z)->∀z∈l1++(k,v,b)::l2,P z:=λP hP hz z hm=>by
  rcases T9.1 hm with hm|hm
  ·grind
  ·rcases Rr.1 hm with rfl|hm
   ·exact(hP (k,v0,b)).1 (hz (k,v0,b) (by simp))
   ·exact hz z (T9.2 (.inr (TK _ hm)))
 refine⟨e (λz=>z.1.length=N) (λ_=>Iff.rfl) h.len,e (λz=>z.2.2<ct) (λ_=>Iff.rfl) h.lt,?_⟩
 have hp:=h.ne
 rw[SU,RS]at hp⊢
 refine⟨hp.1,hp.2.1,λa ha z hz=>?_⟩
 rcases Rr.1 hz with rfl|hz
 ·exact hp.2.2 a ha (k,v0,b) (by simp)
 grind
structure TOk(ts:YbV)(ct:Nat)(b:Int):Prop where
 ok:VOk 2 ts ct
 z:∀e∈ts,∃z,e.2.1=.int .i64 z/\0<=z/\z<=b
variable {b b':Int}
theorem TOk.mono{ts:YbV}(h:TOk ts ct b)(hb:b<=b'):TOk ts ct b':=⟨h.ok,λe he=>by
 obtain⟨z,h1,h2,h3⟩:=h.z e he
 grind⟩
structure SM.Ok(x:SM)(b:Int):Prop where
 g:0<=x.frame->x.g.isSome=true
 ts:TOk x.ts x.ct b
 ak:∀e∈x.ak,e.1.length=2
theorem SM.Ok.mono{x:SM}(h:x.Ok b)(hb:b<=b'):x.Ok b':=⟨h.g,h.ts.mono hb,h.ak⟩
variable {x:WayM}
theorem Yne(hok:JR x){i:Nat}(hi:i+1<x.r.length):(XN x.n.net x.r i).1=x.r.getD i 0/\(XN x.n.net x.r i).2.1=x.r.getD (i+1) 0:=
 WJ (Vi (hok.good i hi))
def relO(R:Option (List Int)):List Int:=R.getD []
variable {a:Int}
theorem YjA{h:List (Cel×Int)}(hne:h≠[]):Y2 h a=XR (h.map Prod.snd)+1:=by
 grind [Y2,XR,NB]
variable {l:List Int}
theorem Yh7(h:1<=l.length):l[((l.length:Int)-1).toNat]? =some (XR l):=by
 rw[show((l.length:Int)-1).toNat=l.length-1 by omega]
 grind [XR]
structure SlM2 where
 k:Nat
 at_:Int
 A:Option Addr
 cap:Nat
 out:List Int
variable {B:Nat}{w0 w:World}{H:List HP}
theorem YiM(x:WayM)(hok:JR x)(rel:Int)(hrel:0<=rel/\rel<=100000)(hi:x.In B w0 H)(hw:St B w0 H w):
 CX B w0 365 [x.n.val,x.s.val,flwV x.f,.slice x.A x.r.length x.cap,.int .i64 rel,.int .i64 0] w λv K=>∃A cap,v=.tuple #[.slice A (relO (Zx x.n.net x.s.sch x.f x.r rel)).length cap,.bool (Zx x.n.net x.s.sch x.f x.r rel).isSome]/\K=nrs A cap (relO (Zx x.n.net x.s.sch x.f x.r rel))::H:=by
 refine Ya Tryz.func365 Tryz.ntmps365 rfl rfl hw ?_
 have hop:∀w,St B w0 [many H] w->St B w0 H w:=λw hw=>hw.perm (.openT H)
 have hi:=hi.mono hop
 refine YX [many H] (λw hw=>hw.perm (.closeT H)) ?_
 have hper:=hok.per
 have hsl:=hok.slen
 have hrl:=hok.len
 have hr:=hi.r
 have hLl:=@JF x.n.net x.r
 obtain⟨R,hR⟩:∃R,Zx x.n.net x.s.sch x.f x.r rel=R:=⟨_,rfl⟩
 rw[hR]
 unfold Zx at hR
 obtain⟨LL,hLL⟩:∃LL,Yr x.n.net x.r=LL:=⟨_,rfl⟩
 rw[hLL]at hR hLl
 obtain⟨CC,hCC⟩:∃CC,X6 x.s.sch x.f.1=CC:=⟨_,rfl⟩
 rw[hCC,show x.s.sch.len=x.s.len from rfl]at hR
 have p1:=λ{a b:Int}(hg:YZ x.n.net a b=true) {H':List HP}{w:World}(hin:x.n.In B w0 H') (hw:St B w0 H' w)=>Ynf x.n a b hg hin hw
 have p2:=λ(fr dn nd:Int) (need:Nat) (a:Int) (hnd:nd=(need:Nat)) (hn:need<=1000) (ha:rel<=a/\a<=rel+x.f.2.2.2.1) {H':List HP}{w:World}(hrs:Rd B w0 H' x.s.A (x.s.cells.flatMap celF)) (hw:St B w0 H' w)=>Ypo x.s x.f fr dn nd need a (rel+x.f.2.2.2.1-1) hnd hn (by omega) (by omega) (by omega) hi.sl hrs hw
 unfold NetM.val SchM.val flwV
 unfold NetM.val at p1
 unfold SchM.val flwV at p2
 repeat'(first|(apply Yw T;exact rfl;exact rfl;intro gO)|refine zgb ?_|(refine zgh ?_;intro _)|fail)
 rename_i g6 g7 g8
 refine Ye (λz:SlM2=>[(16,.int .i64 ((z.k+1:Nat):Int)),(15,.int .i64 z.at_),(14,.slice z.A z.out.length z.cap),(3,.slice x.A x.r.length x.cap),(4,.int .i64 rel),(5,.int .i64 0),(6,.pointer (some ⟨g6,0,none⟩)),(7,.pointer (some ⟨g7,0,none⟩)),(8,.pointer (some ⟨g8,0,none⟩))]) (λz=>nrs z.A z.cap z.out::flwB g8 x.f::schA g7 x.s::netA g6 x.n::[many H])
  (λz=>z.k+1<=x.r.length/\z.out.length<=8*z.k/\(rel<=z.at_/\z.at_<=rel+x.f.2.2.2.1)/\(runR x.s.len CC (rel+x.f.2.2.2.1) (LL.drop z.k) z.at_).map (λy=>z.out++y)=R) (λz=>x.r.length-z.k) ⟨0,rel,some ⟨gO,0,none⟩,0,[]⟩ ⟨by show 0+1<=x.r.length;omega,Td _,by show rel<=rel/\rel<=rel+x.f.2.2.2.1;omega,?_⟩ ?_ (λw hw=>hw) ?_
 ·show(runR x.s.len CC (rel+x.f.2.2.2.1) (LL.drop 0) rel).map (λy=>[]++y)=R
  rw[List.drop_zero,hR];simp
 ·dsimp only
  exact zc1
 rintro⟨k,at_,A,cap,out⟩ ⟨hk,hol,hat,hrun⟩ K hK
 dsimp only at hk hol hat hrun⊢
 have hr2:Rd B w0 (nrs A cap out::flwB g8 x.f::schA g7 x.s::netA g6 x.n::[many H]) x.A (x.r.flatMap numF):=hr.cons.cons.cons.cons
 by_cases hlt:k+1<x.r.length
 rotate_left
 ·rw[List.drop_of_length_le (by omega)]at hrun
  have hRv:R=some out:=by rw[<-hrun];simp[runR]
  subst hRv
  clear hK
  refine zX1 ?_<;>intros
  apply Yf (nrs A cap out::H)
  ·intro w hw
   have h5:St B w0 (nrs A cap out::[many H]) w:=by
    revert w
    exact zc0
   exact zc43
  exact YqG
 have hg:=hok.good k hlt
 obtain⟨e1,e2⟩:=Yne hok hlt
 have hlk:LL[k]? =some (XN x.n.net x.r k):=by rw[<-hLL];exact UZ hlt
 have hbd:=WN hok (by rw[hLL];exact hlk)
 have hlo:QB x.n.net (x.r.getD k 0) (x.r.getD (k+1) 0)=(XN x.n.net x.r k).2.2:=rfl
 have hdr:LL.drop k=XN x.n.net x.r k::LL.drop (k+1):=by
  obtain⟨h1,h2⟩:=Tj.1 hlk
  rw[<-h2,Na]
 obtain⟨l,hl⟩:∃l,XN x.n.net x.r k=l:=⟨_,rfl⟩
 rw[hl]at e1 e2 hbd hlo hdr
 obtain⟨fr,hfr⟩:∃v,x.r.getD k 0=v:=⟨_,rfl⟩
 obtain⟨dn,hto⟩:∃v,x.r.getD (k+1) 0=v:=⟨_,rfl⟩
 rw[hfr]at hg e1 hlo
 rw[hto]at hg e2 hlo
 have hx0:x.r[(((k+1:Nat):Int)-1).toNat]? =some fr:=by
  rw[show(((k+1:Nat):Int)-1).toNat=k by omega,<-hfr,TB,Ta (by omega)];rfl
 have hx1:x.r[k+1]? =some dn:=by
  rw[<-hto,TB,Ta (by omega)];rfl
 rw[hdr]at hrun
 unfold runR at hrun
 have hCl:CC l=x.s.cells.filter (onP x.f.1 fr dn):=by rw[<-hCC,<-e1,<-e2];rfl
 have hneed:l.2.2+1+0=((Y1 l:Nat):Int):=by unfold Y1;omega
 have hn8:Y1 l<=8/\1<=Y1 l:=by unfold Y1;omega
 have p3:=λ{H':List HP}{w:World}(hin:x.n.In B w0 H') (hw:St B w0 H' w)=>p1 hg hin hw
 have p4:=λ{H':List HP}{w:World}(hrs:Rd B w0 H' x.s.A (x.s.cells.flatMap celF)) (hw:St B w0 H' w)=>p2 fr dn (l.2.2+1+0) (Y1 l) at_ hneed (by omega) hat hrs hw
 rw[hlo]at p3
 rw[<-hCl,show rel+x.f.2.2.2.1-1+1-at_=rel+x.f.2.2.2.1-at_ by omega]at p4
 obtain⟨hp,hhp⟩:∃h,hopP x.s.len (CC l) (rel+x.f.2.2.2.1-at_).toNat (Y1 l) at_=h:=⟨_,rfl⟩
 have hpl:hp.length<=Y1 l:=by rw[<-hhp];exact UW _ _ _ _ _
 have hps:∀z∈hp,at_<=z.2/\z.2<rel+x.f.2.2.2.1:=λz hz=>by
  rw[<-hhp]at hz
  have:=Qs hz
  omega
 rw[hhp]at p4 hrun
 have hab:=Yg8 hps (by omega)
 rw[Tu]at p4
 clear hhp hneed
 refine zX0 ?_<;>intros
 apply Y8 [0,1,2,3,4,5,6,7,8,9,10,11,12,13,14,15,16,17,18,19,20,23,25,26,27,28,29,30,21,22,24,31,32,33,34,35,36] []
 kernel_rfl
 kernel_rfl
 (simp only[Yd,nthO];rfl)
 exact rfl
 refine zX3 ?_
 apply Yb Yxe
 exact za
 exact rfl
 exactλ_ hw=>(p3 (hi.n.mono zc0) hw)
 refine zX17 ?_
 apply Yg _ Yxf
 exact za
 exact rfl
 exactλ_ hw=>(p4 (hi.s.mono zc0) (hw))
 rintro _ _ ⟨A2,cap2,rfl,rfl⟩
 by_cases hsh:hp.length<Y1 l
 ·rw[To hsh]at hrun
  rw[Tn (by omega)]
  have hRv:R=none:=by rw[<-hrun];rfl
  subst hRv
  clear hK
  refine zX17 ?_
  apply Yf (nrs none 0 []::H)
  ·intro w hw
   have h5:St B w0 [many H] w:=by
    revert w
    exact zc0
   exact(hop w h5).nilSlice _ _
  apply YJ;(iterate 3 exact rfl)
  exact⟨none,0,rfl,rfl⟩
 rw[Tf hsh]at hrun
 rw[Ti (by omega)]
 have hne:hp≠[]:=λe=>by rw[e]at hsh;exact hsh (by show 0<_;omega)
 have hla:=YjA (a:=at_) hne
 have hml:1<=(hp.map Prod.snd).length:=by rw[Tu];omega
 have hlg:=Yh7 hml
 have hhl:hp.length=Y1 l:=by omega
 have hrun2:(runR x.s.len CC (rel+x.f.2.2.2.1) (LL.drop (k+1)) (Y2 hp at_)).map (λy=>(out++hp.map Prod.snd)++y)=R:=by
  rw[<-hrun,Option.map_map]
  congr 1
  funext y
  simp
 rw[hla]at hab hrun2
 obtain⟨M,hM⟩:∃M,hp.map Prod.snd=M:=⟨_,rfl⟩
 have hMl:M.length=Y1 l:=by rw[<-hM,Tu,hhl]
 rw[hM]at hab hrun2 hml hlg⊢
 rw[show hp.length=M.length by omega]
 refine zX17 ?_
 repeat'(first|(apply YI T (f:=numF) (l2:=M) (e:=3) (size:=1) (xs:=out.flatMap numF);(iterate 3 exact rfl);exact Rd.sl zm;exact(λ_=>rfl);exact(λ_=>rfl);exact rfl;(intro _ _;exact zd);omega;intro A' cap')|refine zgd ?_|fail)
 rename_i A' cap'
 apply hK ⟨k+1,XR M+1,A',cap',out++M⟩
 ·refine⟨by show k+1+1<=_;omega,by show(out++M).length<=8*(k+1);rw[Tt];omega,by show rel<=XR M+1/\XR M+1<=rel+x.f.2.2.2.1;omega,hrun2⟩
 ·exact zc73
 ·dsimp only
  rw[Tt]
  exact zc1
 ·have e9:sl 3 1 A' (out.length+M.length) cap' (out.flatMap numF++M.flatMap numF)=nrs A' cap' (out++M):=by
   unfold nrs
   rw[Tt,Rj]
  dsimp only
  rw[<-e9]
  exact zc0
theorem YnB(hok:JR x)(_ha:0<=a/\a<=100000)(h:Zx x.n.net x.s.sch x.f x.r a=some l):(1<=l.length/\l.length<=72)/\(a<=XR l/\XR l<a+x.f.2.2.2.1)/\∀z∈l,a<=z/\z<a+x.f.2.2.2.1:=by
 have h1:=YdD hok h
 have hrl:=hok.len
 rw[Oo]at h
 split at h
 ·cases h
 obtain rfl:=Tz h
 have h2:(runW x a).length<=XF (Yr x.n.net x.r):=QP _ _ _ _ _
 have h3:=QC hok (Yr x.n.net x.r).length
 rw[TC,JF]at h3
 rw[Tu]at h1⊢
 refine⟨by omega,h1.2,λz hz=>?_⟩
 obtain⟨y,hy,rfl⟩:=TG.1 hz
 exact YbL (by omega) hy
theorem YkG(x:WayM)(hok:JR x)(hi:x.In B w0 H)(hw:St B w0 H w):
 CX B w0 309 [x.n.val,x.s.val,flwV x.f,.slice x.A x.r.length x.cap,.int .i64 0] w λv K=>∃A cap,v=.tuple #[.int .i64 (ZT x).1,.int .i64 (ZT x).2.1,.slice A (ZT x).2.2.1.length cap,.bool (ZT x).2.2.2]/\K=nrs A cap (ZT x).2.2.1::H:=by
 refine Ya Tryz.func309 Tryz.ntmps309 rfl rfl hw ?_
 have hop:∀w,St B w0 [many H] w->St B w0 H w:=λw hw=>hw.perm (.openT H)
 have hi:=hi.mono hop
 refine YX [many H] (λw hw=>hw.perm (.closeT H)) ?_
 have hper:=hok.per
 have hph:=hok.ph
 have hsl:=hok.slen
 obtain⟨R,hR⟩:∃R,ZS x.n.net x.s.sch x.f x.r=R:=⟨_,rfl⟩
 have hO:ZT x=UM R:=by unfold ZT;rw[hR]
 rw[hO]
 unfold ZS at hR
 rw[show x.s.sch.len=x.s.len from rfl]at hR
 have hsb:=λ{a:Int}{l:List Int}(ha:0<=a/\a<=100000) (h:Zx x.n.net x.s.sch x.f x.r a=some l)=>YnB hok ha h
 have hrl:=λ(a:Int) (ha:0<=a/\a<=100000) {H':List HP}{w:World}(hi:x.In B w0 H') (hw:St B w0 H' w)=>YiM x hok a ha hi hw
 obtain⟨S,hS⟩:∃S,Zx x.n.net x.s.sch x.f x.r=S:=⟨_,rfl⟩
 rw[hS]at hR hrl hsb
 have p3:=λ(l:List Int) (a:Int) (hl:l.length<=72) (hb:∀z∈l,-1000000000<=z/\z<=1000000000) (ha:0<=a/\a<=1000000000) {A:Option Addr}{cap:Nat}{H':List HP}{w:World}(hr:Rd B w0 H' A (l.flatMap numF)) (hw:St B w0 H' w)=>Yed l a (by omega) hb ha (cap:=cap) hr hw
 unfold NetM.val SchM.val flwV
 unfold NetM.val SchM.val flwV at hrl
 repeat'(first|(apply Yw T;exact rfl;exact rfl;intro gO)|refine zgb ?_|(refine zgh ?_;intro _)|fail)
 rename_i g5 g6 g7
 refine Ye (λz:BdM=>[(17,.int .i64 z.rel),(16,.slice z.A z.b.2.2.length z.cap),(15,.int .i64 z.b.2.1),(14,.int .i64 z.b.1),(3,.slice x.A x.r.length x.cap),(4,.int .i64 0),(5,.pointer (some ⟨g5,0,none⟩)),(6,.pointer (some ⟨g6,0,none⟩)),(7,.pointer (some ⟨g7,0,none⟩))]) (λz=>nrs z.A z.cap z.b.2.2::flwB g7 x.f::schA g6 x.s::netA g5 x.n::[many H])
  (λz=>Ji S x.s.len x.f.2.2.2.1 z.k z.rel z.b=R/\x.s.len-z.rel<=z.k/\0<=z.rel/\z.rel<=2000/\0<=z.b.1/\z.b.1<=2000) (λz=>z.k) ⟨x.s.len.toNat,x.f.2.2.2.2.1,(0,0,[]),some ⟨gO,0,none⟩,0⟩ ⟨hR,by exact YuP,hph.1,by show x.f.2.2.2.2.1<=2000;omega,RP _,by show(0:Int)<=2000;decide⟩ ?_ (λw hw=>hw) ?_
 ·exact zc1
 rintro⟨k,rel,⟨b1,b2,bl⟩,A,cap⟩ ⟨hb,hk,h0,h1,hb0,hb1⟩ K hK
 dsimp only at hb hk h0 h1 hb0 hb1⊢
 by_cases hge:x.s.len<=rel
 ·have hRe:R=some (b1,b2,bl):=by
   rw[<-hb]
   cases k with
   |zero=>rfl
   |succ k=>unfold Ji;rw[To hge]
  rw[hRe]
  clear hK
  refine zX1 ?_<;>intros
  apply Yf (nrs A cap bl::H)
  ·intro w hw
   have h5:St B w0 (nrs A cap bl::[many H]) w:=by
    revert w
    exact zc0
   exact zc43
  exact Yuq
 obtain⟨k,rfl⟩:∃k',k=k'+1:=⟨k-1,by omega⟩
 unfold Ji at hb
 rw[Tf hge]at hb
 have hrr:=λ{H':List HP}{w:World}(hi:x.In B w0 H') (hw:St B w0 H' w)=>hrl rel (by omega) hi hw
 cases hSr:S rel with
 |none=>
  rw[hSr]at hb hrr
  dsimp only[relO,Option.getD_none,Option.isSome_none]at hb hrr
  rw[<-hb]
  clear hK
  refine zX0 ?_<;>intros
  apply Yg _ Yo5
  exact za
  exact rfl
  exactλ_ hw=>(hrr (hi.mono zc0) (hw))
  rintro _ _ ⟨A2,cap2,rfl,rfl⟩
  refine zX3 ?_
  apply Yf (nrs none 0 []::H)
  ·intro w hw
   have h5:St B w0 [many H] w:=by
    revert w
    exact zc0
   exact(hop w h5).nilSlice _ _
  exact zc45
 |some l=>
  rw[hSr]at hb hrr
  dsimp only[relO,Option.getD_some,Option.isSome_some]at hb hrr
  obtain⟨hl1,hl2,hl3⟩:=hsb (a:=rel) (l:=l) (by omega) hSr
  have hlg:=Yh7 hl1.1
  have p4:=λ{A:Option Addr}{cap:Nat}{H':List HP}{w:World}(hr:Rd B w0 H' A (l.flatMap numF)) (hw:St B w0 H' w)=>p3 l rel hl1.2 (λz hz=>by have:=hl3 z hz;omega) (by omega) (cap:=cap) hr hw
  obtain⟨m,hm⟩:∃m,XR l-rel+1=m:=⟨_,rfl⟩
  rw[hm]at hb
  by_cases hgt:b1<m
  ·rw[To hgt]at hb
   refine zX0 ?_<;>intros
   apply Yg _ Yo5
   exact za
   exact rfl
   exactλ_ hw=>(hrr (hi.mono zc0) (hw))
   rintro _ _ ⟨A2,cap2,rfl,rfl⟩
   refine zX25 ?_<;>intros
   apply Y8 [0,1,2,3,4,5,6,7,8,9,10,11,12,13,14,15] []
   kernel_rfl
   kernel_rfl
   (simp only[Yd,nthO];rfl)
   exact rfl
   refine zX3 ?_
   apply Yg _ Yxw
   exact za
   exact rfl
   exactλ_ hw=>(p4 (Rd.sl (by(focus exact zc2))) (hw))
   rintro _ _ ⟨A3,cap3,rfl,rfl⟩
   refine zX17 ?_
   rw[hm]
   apply hK ⟨k,rel+x.f.2.2.2.1,(m,rel,l.map λz=>z-rel),A3,cap3⟩
   ·exact⟨hb,by exact YuT,by show 0<=rel+x.f.2.2.2.1;omega,by show rel+x.f.2.2.2.1<=2000;omega,by show 0<=m;omega,by show m<=2000;omega⟩
   ·exact zc73
   ·exact zc1
   ·exact zc0
  ·rw[Tf hgt]at hb
   refine zX0 ?_<;>intros
   apply Yg _ Yo5
   exact za
   exact rfl
   exactλ_ hw=>(hrr (hi.mono zc0) (hw))
   rintro _ _ ⟨A2,cap2,rfl,rfl⟩
   refine zX25 ?_<;>intros
   apply hK ⟨k,rel+x.f.2.2.2.1,(b1,b2,bl),A,cap⟩
   ·exact zc91
   ·exact zc73
   ·exact zc1
   ·exact zc0
variable {B:Nat}{w0 w:World}{H:List HP}
theorem Yeh(x:WayM)(hi:x.In B w0 H)(hw:St B w0 H w):
 CX B w0 308 [x.n.val,x.s.val,flwV x.f,.slice x.A x.r.length x.cap] w λv K=>v=.int .i64 (wayE x.n.net x.s.sch x.f x.r)/\K=H:=by
 refine Ya Tryz.func308 Tryz.ntmps308 rfl rfl hw ?_
 have hn:=hi.n
 have hs:=hi.s
 have hr:=hi.r
 have p1:=λ{H':List HP}{w:World}(hin:x.n.In B w0 H') (hw:St B w0 H' w)=>JX x.n hin hw
 have p2:=λ{H':List HP}{w:World}(hr:Rd B w0 H' x.s.A (x.s.cells.flatMap celF)) (hw:St B w0 H' w)=>U7 x.s hr hi.sl hw
 have p3:=λ(hn:2<=x.n.nodes/\x.n.nodes<=32) {H':List HP}{w:World}(hw:St B w0 H' w)=>U6 x.n.nodes x.f hn hw
 have p4:=λ{H':List HP}{w:World}(hin:x.n.In B w0 H') (hr:Rd B w0 H' x.A (x.r.flatMap numF)) (hw:St B w0 H' w)=>YaZ x.n x.f.2.1 x.f.2.2.1 x.r (cap:=x.cap) hin hr hi.rl hw
 have hok:Yo x.n.net=0->2<=x.n.nodes/\x.n.nodes<=32:=λh=>⟨(YP h).n0,(YP h).n1⟩
 have e1:x.n.net.nodes=x.n.nodes:=rfl
 have e2:x.s.sch.len=x.s.len:=rfl
 unfold wayE
 rw[e1,e2]
 obtain⟨c,hc⟩:∃c,Yo x.n.net=c:=⟨_,rfl⟩
 obtain⟨fm,hfm⟩:∃e,Xh x.s.sch=e:=⟨_,rfl⟩
 obtain⟨k,hk⟩:∃k,Xw x.n.net x.f.2.1 x.f.2.2.1 x.r=k:=⟨_,rfl⟩
 rw[hc]at p1 hok⊢
 rw[hfm]at p2⊢
 rw[hk]at p4⊢
 unfold NetM.val SchM.val flwV
 unfold NetM.val at p1 p4
 unfold SchM.val at p2
 unfold flwV at p3
 by_cases h1:c=0
 rotate_left
 ·rw[To (.inl h1)]
  refine zX72 ?_<;>intros
  apply Yb Wk
  exact za
  exact rfl
  exactλ_ hw=>(p1 (hn.mono zc0) hw)
  refine zX1 ?_<;>intros
  apply Yf H
  ·exact zc0
  exact zc9
 subst h1
 cases fm with
 |false=>
  rw[To (.inr (.inl rfl))]
  refine zX72 ?_<;>intros
  apply Yb Wk
  exact za
  exact rfl
  exactλ_ hw=>(p1 (hn.mono zc0) hw)
  refine zX1 ?_<;>intros
  apply Yb YeG
  exact za
  exact rfl
  exactλ_ hw=>(p2 (hs.mono zc0) hw)
  refine zX3 ?_
  apply Yf H
  ·exact zc0
  exact zc3
 |true=>
 have p5:=λ{H':List HP}{w:World}(hw:St B w0 H' w)=>p3 (hok rfl) hw
 obtain⟨fe,hfe⟩:∃e,Xl x.n.nodes x.f=e:=⟨_,rfl⟩
 have hper:Xl x.n.nodes x.f=0->1<=x.f.2.2.2.1:=λh=>by
  unfold Xl at h
  split at h
  ·cases h
  split at h
  ·cases h
  omega
 rw[hfe]at p5 hper⊢
 by_cases h3:fe=0
 rotate_left
 ·rw[To (.inr (.inr h3))]
  refine zX72 ?_<;>intros
  apply Yb Wk
  exact za
  exact rfl
  exactλ_ hw=>(p1 (hn.mono zc0) hw)
  refine zX1 ?_<;>intros
  apply Yb YeG
  exact za
  exact rfl
  exactλ_ hw=>(p2 (hs.mono zc0) hw)
  refine zX3 ?_
  apply Yb Yhv
  exact za
  exact rfl
  exactλ_ hw=>(p5 hw)
  refine zX1 ?_<;>intros
  apply Yf H
  ·exact zc0
  exact zc3
 subst h3
 have hper:=hper rfl
 rw[Tf (by rintro(h|h|h);exact h rfl;cases h;exact h rfl)]
 have hsz:1<=x.s.len/\x.s.len<=512:=by
  have:=TI (Xm.1 hfm).sized
  exact⟨this.1,this.2.1⟩
 rw[Rb (show 0<=x.s.len by omega)]
 by_cases h4:x.s.len%x.f.2.2.2.1=0
 rotate_left
 ·rw[To h4]
  refine zX72 ?_<;>intros
  apply Yb Wk
  exact za
  exact rfl
  exactλ_ hw=>(p1 (hn.mono zc0) hw)
  refine zX1 ?_<;>intros
  apply Yb YeG
  exact za
  exact rfl
  exactλ_ hw=>(p2 (hs.mono zc0) hw)
  refine zX3 ?_
  apply Yb Yhv
  exact za
  exact rfl
  exactλ_ hw=>(p5 hw)
  refine zX50 ?_<;>intros
  apply Yf H
  ·exact zc0
  exact zc3
 rw[Tf (λe=>e h4)]
 refine zX72 ?_<;>intros
 apply Yb Wk
 exact za
 exact rfl
 exactλ_ hw=>(p1 (hn.mono zc0) hw)
 refine zX1 ?_<;>intros
 apply Yb YeG
 exact za
 exact rfl
 exactλ_ hw=>(p2 (hs.mono zc0) hw)
 refine zX3 ?_
 apply Yb Yhv
 exact za
 exact rfl
 exactλ_ hw=>(p5 hw)
 refine zX50 ?_<;>intros
 apply Yb YoX
 exact za
 exact rfl
 exactλ_ hw=>(p4 (hn.mono zc0) (hr.mono zc0) hw)
 refine zX2 ?_
 apply Yf H
 ·exact zc0
 exact zc3
theorem Yel(x:WayM)(hi:x.In B w0 H)(hw:St B w0 H w):
 CX B w0 229 [x.n.val,x.s.val,flwV x.f,.slice x.A x.r.length x.cap] w λv K=>∃A cap,v=.tuple #[.int .i64 (YY x.n.net x.s.sch x.f x.r).1.1,.int .i64 (YY x.n.net x.s.sch x.f x.r).1.2.1,.slice A (YY x.n.net x.s.sch x.f x.r).1.2.2.length cap,.int .i64 (YY x.n.net x.s.sch x.f x.r).2]/\K=nrs A cap (YY x.n.net x.s.sch x.f x.r).1.2.2::H:=by
 refine Ya Tryz.func229 Tryz.ntmps229 rfl rfl hw ?_
 have p1:=λ{H':List HP}{w:World}(hi:x.In B w0 H') (hw:St B w0 H' w)=>Yeh x hi hw
 obtain⟨R,hR⟩:∃R,YY x.n.net x.s.sch x.f x.r=R:=⟨_,rfl⟩
 rw[hR]
 unfold YY at hR
 obtain⟨e,he⟩:∃e,wayE x.n.net x.s.sch x.f x.r=e:=⟨_,rfl⟩
 rw[he]at p1 hR
 have p3:=λ(hok:JR x) {H':List HP}{w:World}(hi:x.In B w0 H') (hw:St B w0 H' w)=>YkG x hok hi hw
 unfold NetM.val SchM.val flwV
 unfold NetM.val SchM.val flwV at p1 p3
 by_cases h0:e=0
 rotate_left
 ·rw[To h0]at hR
  subst hR
  refine zX72 ?_<;>intros
  apply Yb Yo1
  exact za
  exact rfl
  exactλ_ hw=>(p1 (hi.mono zc0) hw)
  refine zX0 ?_<;>intros
  apply Yf (nrs none 0 []::H)
  ·intro w hw
   have h5:St B w0 H w:=by
    revert w
    exact zc0
   exact YdU
  apply Ybt;(iterate 5 exact rfl)
  grind
 subst h0
 rw[Tf (λh=>h rfl)]at hR
 have hok:=YbO he
 have p2:=λ{H':List HP}{w:World}(hi:x.In B w0 H') (hw:St B w0 H' w)=>p3 hok hi hw
 unfold ZT at p2
 cases hb:ZS x.n.net x.s.sch x.f x.r with
 |none=>
  rw[hb]at hR p2
  dsimp only[UM]at hR p2
  subst hR
  refine zX72 ?_<;>intros
  apply Yb Yo1
  exact za
  exact rfl
  exactλ_ hw=>(p1 (hi.mono zc0) hw)
  refine zX0 ?_<;>intros
  apply Yg _ Yti
  exact za
  exact rfl
  exactλ_ hw=>(p2 (hi.mono zc0) (hw))
  rintro _ _ ⟨A2,cap2,rfl,rfl⟩
  refine zX3 ?_
  apply Yf (nrs none 0 []::H)
  ·intro w hw
   have h5:St B w0 H w:=by
    revert w
    exact zc0
   exact YdU
  exact zc45
 |some b=>
  rw[hb]at hR p2
  dsimp only[UM]at hR p2
  subst hR
  refine zX72 ?_<;>intros
  apply Yb Yo1
  exact za
  exact rfl
  exactλ_ hw=>(p1 (hi.mono zc0) hw)
  refine zX0 ?_<;>intros
  apply Yg _ Yti
  exact za
  exact rfl
  exactλ_ hw=>(p2 (hi.mono zc0) (hw))
  rintro _ _ ⟨A2,cap2,rfl,rfl⟩
  refine zX3 ?_
  apply Yf (nrs A2 cap2 b.2.2::H)
  ·exact zc0
  exact Yup
theorem OI(n:NetM)(q:List RqM){A:Option Addr}{cap B:Nat}{w0:World}{H:List HP}{w:World}(hin:n.In B w0 H)(hq:QIn B w0 H A q)(hw:St B w0 H w):
 CX B w0 93 [n.val,.slice A q.length cap] w λv K=>v=.tuple #[.int .i64 (rqsE n.net (q.map RqM.rq)).1,.int .i64 (rqsE n.net (q.map RqM.rq)).2]/\K=H:=by
 refine Ya Tryz.func93 Tryz.ntmps93 rfl rfl hw ?_
 have hql:=hq.ln
 have hqr:=hq.rd
 have p1:=λ{H':List HP}{w:World}(hin:n.In B w0 H') (hw:St B w0 H' w)=>JX n hin hw
 have p2:=λ{H':List HP}{w:World}(hq:QIn B w0 H' A q) (hw:St B w0 H' w)=>VW q (cap:=cap) hql hq.rd hw
 have p3:=λ{A2:Option Addr}{cap2:Nat}{H':List HP}{w:World}(hr:Rd B w0 H' A2 ((RqM.fl q).flatMap flwF)) (hw:St B w0 H' w)=>Ve n.nodes (RqM.fl q) Yl3 (cap:=cap2) hr hw
 have p5:=λ(x:RqM) (r:RowM) (hr:r∈x.rows) {H':List HP}{w:World}(hin:n.In B w0 H') (hx:x.In B w0 H') (hw:St B w0 H' w)=>YaZ n x.f.2.1 x.f.2.2.1 r.xs (cap:=r.cap) hin (hx.rw_ r hr) (hx.rl r hr).1 hw
 have p6:=λ(x:RqM) (r s:RowM) (hr:r∈x.rows) (hs:s∈x.rows) {H':List HP}{w:World}(hx:x.In B w0 H') (hw:St B w0 H' w)=>ZI r.xs s.xs (cap:=r.cap) (cap2:=s.cap) (hx.rl r hr).1 (hx.rl s hs).1 (hx.rw_ r hr) (hx.rw_ s hs) hw
 unfold rqsE
 rw[<-YeP,Tu]
 rw[show n.net.nodes=n.nodes from rfl]
 obtain⟨c,hc⟩:∃c,Yo n.net=c:=⟨_,rfl⟩
 obtain⟨⟨fi,fe⟩,hf⟩:∃f,Yt n.nodes (RqM.fl q)=f:=⟨_,rfl⟩
 obtain⟨F,hF⟩:∃F,(λi=>rtsE n.net (rqAt (q.map RqM.rq) i))=F:=⟨_,rfl⟩
 rw[hc]at p1⊢
 rw[hf]at p3⊢
 rw[hF]
 dsimp only at p3⊢
 have hFv:∀{k:Nat}{x:RqM},q[k]? =some x->F k=rtsE n.net x.rq:=λh=>by rw[<-hF];show rtsE _ _=_;rw[QN h]
 unfold NetM.val
 unfold NetM.val at p1 p5
 by_cases h0:c=0
 rotate_left
 ·rw[To h0]
  repeat'(first|((apply Yb Wk);exact za;exact rfl;exactλ_ hw=>(p1 hin.cons hw))|apply(zs2 ?_)|(apply zg3;refine zs8 ?_)|(apply zg8;(refine zs16 ?_ ?_<;>intro _<;>try exact zo))|(apply zg23;(refine zs52 ?_;intro _))|apply(zs65 ?_)|apply(zs68 ?_)|apply(zs69 ?_)|apply(zs70 ?_)|(apply zg27;refine zs71 ?_)|apply(zs74 ?_)|apply(zs77 ?_)|fail)
  apply Yf H
  ·exact zc0
  exact zc4
 subst h0
 rw[Tf (λe=>e rfl)]
 by_cases h1:fe=0
 rotate_left
 ·rw[To h1]
  refine YtX ?_<;>intros
  apply YC [0,1,2,3,4,5,6,7,8,9] [] [true]
  kernel_rfl
  kernel_rfl
  exact zy
  (simp only[Yd,nthO];rfl)
  exact rfl
  repeat'(first|apply(zs1 ?_)|(apply zg2;refine zs6 ?_)|(apply zg3;refine zs7 ?_)|apply(zs87 ?_)|fail)
  apply Yg _ en70
  exact za
  exact rfl
  exactλ_ hw=>(p2 (hq.mono zc0) (hw))
  rintro _ _ ⟨A2,cap2,rfl,rfl⟩
  repeat'(first|apply(zs65 ?_)|apply(zs87 ?_)|(apply Yh;try exact zl)|fail)
  apply Yb en72
  exact za
  exact rfl
  exactλ_ hw=>(p3 (Rd.sl (by(focus exact zc2))) hw)
  repeat'(first|apply(zs1 ?_)|apply(zs2 ?_)|apply(zs13 ?_)|(apply zg8;(refine zs16 ?_ ?_<;>intro _<;>try exact zo))|apply(zs65 ?_)|(apply Jg;exact zp)|apply(zs68 ?_)|apply(zs69 ?_)|apply(zs70 ?_)|(apply zg27;refine zs71 ?_)|apply(zs74 ?_)|apply(zs77 ?_)|(apply Yh;try exact zl)|apply(zs93 ?_)|apply(zs94 ?_)|fail)
  apply Yf H
  ·exact zc0
  exact zc4
 subst h1
 rw[Tf (λe=>e rfl)]
 refine YtX ?_<;>intros
 first|(rename_i gn;guard_hyp gn:Nat)|(rename_i gn _;guard_hyp gn:Nat)|(rename_i gn _ _;guard_hyp gn:Nat)
 apply YC [0,1,2,3,4,5,6,7,8,9] [] [true]
 kernel_rfl
 kernel_rfl
 exact zy
 (simp only[Yd,nthO];rfl)
 exact rfl
 repeat'(first|apply(zs1 ?_)|(apply zg2;refine zs6 ?_)|(apply zg3;refine zs7 ?_)|apply(zs87 ?_)|fail)
 apply Yg _ en70
 exact za
 exact rfl
 exactλ_ hw=>(p2 (hq.mono zc0) (hw))
 rintro _ _ ⟨A2,cap2,rfl,rfl⟩
 repeat'(first|apply(zs65 ?_)|apply(zs87 ?_)|(apply Yh;try exact zl)|fail)
 apply Yb en72
 exact za
 exact rfl
 exactλ_ hw=>(p3 (Rd.sl (by(focus exact zc2))) hw)
 repeat'(first|apply(zs1 ?_)|apply(zs2 ?_)|apply(zs13 ?_)|(apply zg8;(refine zs16 ?_ ?_<;>intro _<;>try exact zo))|apply(zs65 ?_)|(apply Jg;exact zp)|apply(zs68 ?_)|apply(zs69 ?_)|apply(zs70 ?_)|(apply zg27;refine zs72 ?_)|apply(zs73 ?_)|apply(zs76 ?_)|(apply Yh;try exact zl)|apply(zs93 ?_)|apply(zs94 ?_)|fail)
 refine Ye (λk:Nat=>[(8,.int .i64 (k:Nat)),(1,.slice A q.length cap),(2,.pointer (some ⟨gn,0,none⟩))]) (λ_=>netA gn n::H) (λk=>k<=q.length/\∀j,0<=j->j<k->F j=0) (λk=>q.length-k) 0 ⟨Td _,λj _ h=>absurd h (Re _)⟩ ?_ ?_ ?_
 ·exact zc1
 ·exact zc0
 rintro k ⟨hk,hz⟩ K hK
 have hqr':Rd B w0 (netA gn n::H) A (q.flatMap rqF):=hqr.cons
 by_cases hlt:k<q.length
 rotate_left
 ·obtain rfl:k=q.length:=by omega
  have hfe:=Xn (f:=F) (r:=q.length) (i0:=0) λj h1 h2=>hz j h1 (by omega)
  rw[hfe]
  clear hK
  repeat'(first|apply(zs1 ?_)|apply(zs2 ?_)|(apply zg4;refine zs9 ?_)|(apply(zs17 ?_ ?_)<;>intro _<;>try exact zo)|apply(zs65 ?_)|apply(zs68 ?_)|apply(zs69 ?_)|apply(zs70 ?_)|(apply zg27;refine zs72 ?_)|apply(zs74 ?_)|apply(zs75 ?_)|apply(zs80 ?_)|apply(zs81 ?_)|fail)
  apply Yf H
  ·exact zc0
  exact zc4
 obtain⟨x,hx⟩:∃x,q[k]? =some x:=⟨_,Ta hlt⟩
 have hxm:=Tc hx
 have hFk:=hFv hx
 have hxi:=hq.x x hxm
 have hlx:=hxi.ln
 have hln:x.rq.2.length=x.rows.length:=by unfold RqM.rq;rw[Tu]
 have e1:x.rq.1=x.f:=rfl
 have hbad:F k≠0->Yz F q.length 0=((k:Int),F k):=λh=>Xe (f:=F) (r:=q.length) (i0:=0) (i:=k) (λj h1 h2=>hz j h1 h2) (Td _) (by omega) h
 have hgo:F k=0->k+1<=q.length/\∀j,0<=j->j<k+1->F j=0:=λh=>⟨by omega,λj h1 h2=>by
  rcases RJ.1 h2 with h3|rfl
  ·exact hz j h1 h3
  ·exact h⟩
 unfold rtsE at hFk
 rw[hln,e1]at hFk
 by_cases h0:x.rows.length=0
 ·rw[To h0]at hFk
  rw[hbad (by rw[hFk];decide),hFk]
  clear hK
  repeat'(first|apply(zs1 ?_)|apply(zs2 ?_)|(apply zg2;refine zs58 ?_)|(apply zg3;refine zs59 ?_)|(apply zg4;refine zs9 ?_)|(apply zg5;refine zs57 ?_)|(apply zg7;(refine zs15 ?_ ?_<;>intro _<;>try exact zo))|(apply(zs17 ?_ ?_)<;>intro _<;>try exact zo)|apply(zs65 ?_)|apply(zs68 ?_)|apply(zs69 ?_)|apply(zs70 ?_)|(apply zg27;refine zs71 ?_)|apply(zs73 ?_)|apply(zs74 ?_)|apply(zs76 ?_)|apply(zs77 ?_)|apply(zs78 ?_)|fail)
  apply Yf H
  ·exact zc0
  exact zc4
 rw[Tf h0]at hFk
 by_cases h2:2<x.rows.length
 ·rw[To h2]at hFk
  rw[hbad (by rw[hFk];decide),hFk]
  clear hK
  repeat'(first|apply(zs1 ?_)|apply(zs2 ?_)|(apply zg2;refine zs58 ?_)|(apply zg3;refine zs59 ?_)|(apply zg4;refine zs9 ?_)|(apply zg5;refine zs57 ?_)|(apply zg7;(refine zs15 ?_ ?_<;>intro _<;>try exact zo))|(apply(zs17 ?_ ?_)<;>intro _<;>try exact zo)|(apply(zs19 ?_ ?_)<;>intro _<;>try exact zo)|apply(zs65 ?_)|apply(zs68 ?_)|apply(zs69 ?_)|apply(zs70 ?_)|(apply zg27;first|refine zs71 ?_|refine zs72 ?_)|apply(zs73 ?_)|apply(zs74 ?_)|apply(zs76 ?_)|apply(zs77 ?_)|apply(zs78 ?_)|fail)
  apply Yf H
  ·exact zc0
  exact zc4
 rw[Tf h2]at hFk
 obtain⟨G,hG⟩:∃F,(λk=>Xw n.net x.f.2.1 x.f.2.2.1 (rtAt x.rq.2 k))=F:=⟨_,rfl⟩
 rw[hG]at hFk
 have hGv:∀{k:Nat}{r:RowM},x.rows[k]? =some r->G k=Xw n.net x.f.2.1 x.f.2.2.1 r.xs:=λh=>by rw[<-hG];show Xw _ _ _ _=_;rw[Uy h]
 repeat'(first|apply(zs1 ?_)|apply(zs2 ?_)|(apply zg2;refine zs58 ?_)|(apply zg3;refine zs59 ?_)|(apply zg4;refine zs9 ?_)|(apply zg5;refine zs57 ?_)|(apply zg7;(refine zs15 ?_ ?_<;>intro _<;>try exact zo))|(apply(zs17 ?_ ?_)<;>intro _<;>try exact zo)|(apply(zs19 ?_ ?_)<;>intro _<;>try exact zo)|apply(zs65 ?_)|apply(zs68 ?_)|apply(zs69 ?_)|apply(zs70 ?_)|(apply zg27;first|refine zs71 ?_|refine zs72 ?_)|apply(zs73 ?_)|apply(zs76 ?_)|fail)
 refine Ye (λj:Nat=>[(10,.int .i64 (j:Nat)),(9,.slice x.A x.rows.length x.cap),(8,.int .i64 (k:Nat)),(1,.slice A q.length cap),(2,.pointer (some ⟨gn,0,none⟩))]) (λ_=>netA gn n::H) (λj=>j<=x.rows.length/\∀i,0<=i->i<j->G i=0) (λj=>x.rows.length-j) 0 ⟨Td _,λj _ h=>absurd h (Re _)⟩ ?_ (λw hw=>hw) ?_
 ·exact zc1
 rintro j ⟨hj,hzz⟩ K2 hK2
 have hrt:Rd B w0 (netA gn n::H) x.A (x.rows.flatMap rowF):=hxi.rt.cons
 by_cases hjl:j<x.rows.length
 ·obtain⟨r,hr⟩:∃r,x.rows[j]? =some r:=⟨_,Ta hjl⟩
  have hrm:=Tc hr
  have hGj:=hGv hr
  have p7:=λ{H':List HP}{w:World}(hin:n.In B w0 H') (hx:x.In B w0 H') (hw:St B w0 H' w)=>p5 x r hrm hin hx hw
  rw[<-hGj]at p7
  clear hK
  by_cases hGz:G j=0
  ·rw[hGz]at p7
   refine YtY ?_<;>intros
   apply Y8 [0,1,2,3,4,5,6,7,8,9,10,11,12,13,14,15,16,17,18] []
   kernel_rfl
   kernel_rfl
   (simp only[Yd,nthO];rfl)
   exact rfl
   refine YtZ ?_
   apply Yb YoX
   exact za
   exact rfl
   exactλ_ hw=>(p7 (hin.mono zc0) (hxi.mono zc0) hw)
   repeat'(first|apply(zs1 ?_)|apply(zs2 ?_)|(apply zg8;(refine zs16 ?_ ?_<;>intro _<;>try exact zo))|(apply zg13;refine zs30 ?_)|apply(zs65 ?_)|(apply Jg;exact zp)|apply(zs68 ?_)|apply(zs69 ?_)|apply(zs70 ?_)|(apply zg27;refine zs72 ?_)|apply(zs76 ?_)|apply(zs79 ?_)|(apply Yh;try exact zl)|apply(zs93 ?_)|apply(zs94 ?_)|fail)
   all_goals(try exact JI _)
   refine zX6 ?_
   apply hK2 (j+1)
   ·exact⟨by omega,λi h1 h2=>by
     rcases RJ.1 h2 with h|rfl
     ·exact hzz i h1 h
     ·exact hGz⟩
   ·omega
   ·exact zc1
   ·exact zc0
  ·have hfe:=Xe (f:=G) (r:=x.rows.length) (i0:=0) (i:=j) (λi h1 h2=>hzz i h1 h2) (Td _) (by omega) hGz
   rw[hfe,To hGz]at hFk
   rw[hbad (by rw[hFk];exact hGz),hFk]
   clear hK2
   refine YtY ?_<;>intros
   apply Y8 [0,1,2,3,4,5,6,7,8,9,10,11,12,13,14,15,16,17,18] []
   kernel_rfl
   kernel_rfl
   (simp only[Yd,nthO];rfl)
   exact rfl
   refine YtZ ?_
   apply Yb YoX
   exact za
   exact rfl
   exactλ_ hw=>(p7 (hin.mono zc0) (hxi.mono zc0) hw)
   repeat'(first|apply(zs1 ?_)|apply(zs2 ?_)|(apply zg8;(refine zs16 ?_ ?_<;>intro _<;>try exact zo))|apply(zs65 ?_)|(apply Jg;exact zp)|apply(zs68 ?_)|apply(zs69 ?_)|apply(zs70 ?_)|(apply zg27;refine zs71 ?_)|apply(zs74 ?_)|apply(zs77 ?_)|apply(zs78 ?_)|(apply Yh;try exact zl)|apply(zs93 ?_)|apply(zs94 ?_)|fail)
   all_goals(try exact JI _)
   refine zX6 ?_
   apply Yf H
   ·exact zc0
   exact zc4
 obtain rfl:j=x.rows.length:=by omega
 have hfe:=Xn (f:=G) (r:=x.rows.length) (i0:=0) λi h1 h2=>hzz i h1 (by omega)
 rw[hfe,Tf (λe=>e rfl)]at hFk
 clear hK2
 by_cases h3:x.rows.length=2
 rotate_left
 ·rw[Tf (λe=>h3 e.1)]at hFk
  refine YqB ?_<;>intros
  apply Y8 [0,1,2,3,4,5,6,7,8,9,10,11] []
  kernel_rfl
  kernel_rfl
  (simp only[Yd,nthO];rfl)
  exact rfl
  repeat'(first|apply(zs1 ?_)|apply(zs2 ?_)|(apply zg1;refine zs3 ?_)|(apply zg4;refine zs9 ?_)|(apply zg6;refine zs12 ?_)|(apply zg7;(refine zs15 ?_ ?_<;>intro _<;>try exact zo))|(apply zg13;refine zs30 ?_)|apply(zs65 ?_)|(apply Jg;exact zp)|apply(zs68 ?_)|apply(zs70 ?_)|(apply zg27;refine zs72 ?_)|apply(zs76 ?_)|apply(zs79 ?_)|apply(zs93 ?_)|apply(zs94 ?_)|fail)
  all_goals(try exact JI _)
  refine zX6 ?_
  apply hK (k+1)
  ·exact hgo hFk
  ·omega
  ·exact zc1
  ·exact zc0
 obtain⟨r0,hr0⟩:∃r,x.rows[0]? =some r:=⟨_,Ta (by omega)⟩
 obtain⟨r1,hr1⟩:∃r,x.rows[1]? =some r:=⟨_,Ta (by omega)⟩
 rw[Uy hr0,Uy hr1]at hFk
 have p7:=λ{H':List HP}{w:World}(hx:x.In B w0 H') (hw:St B w0 H' w)=>p6 x r0 r1 (Tc hr0) (Tc hr1) hx hw
 by_cases heq:r0.xs=r1.xs
 ·rw[To ⟨h3,heq⟩]at hFk
  rw[Ti heq]at p7
  rw[hbad (by rw[hFk];decide),hFk]
  clear hK
  refine YqB ?_<;>intros
  apply Y8 [0,1,2,3,4,5,6,7,8,9,10,11] []
  kernel_rfl
  kernel_rfl
  (simp only[Yd,nthO];rfl)
  exact rfl
  refine Yt0 ?_<;>intros
  apply Yb VI
  exact za
  exact rfl
  exactλ_ hw=>(p7 (hxi.mono zc0) hw)
  repeat'(first|apply(zs1 ?_)|apply(zs2 ?_)|(apply zg6;refine zs11 ?_)|apply(zs65 ?_)|(apply Jg;exact zp)|apply(zs68 ?_)|apply(zs69 ?_)|apply(zs70 ?_)|(apply zg27;refine zs71 ?_)|apply(zs74 ?_)|apply(zs77 ?_)|apply(zs78 ?_)|(apply Yh;try exact zl)|apply(zs93 ?_)|apply(zs94 ?_)|fail)
  all_goals(try exact JI _)
  refine zX6 ?_
  apply Yf H
  ·exact zc0
  exact zc4
 ·rw[Tf (λe=>heq e.2)]at hFk
  rw[Tn heq]at p7
  refine YqB ?_<;>intros
  apply Y8 [0,1,2,3,4,5,6,7,8,9,10,11] []
  kernel_rfl
  kernel_rfl
  (simp only[Yd,nthO];rfl)
  exact rfl
  refine Yt0 ?_<;>intros
  apply Yb VI
  exact za
  exact rfl
  exactλ_ hw=>(p7 (hxi.mono zc0) hw)
  repeat'(first|apply(zs1 ?_)|apply(zs2 ?_)|(apply zg6;refine zs11 ?_)|(apply zg13;refine zs30 ?_)|apply(zs65 ?_)|(apply Jg;exact zp)|apply(zs68 ?_)|apply(zs70 ?_)|(apply zg27;refine zs72 ?_)|apply(zs76 ?_)|apply(zs79 ?_)|(apply Yh;try exact zl)|apply(zs93 ?_)|apply(zs94 ?_)|fail)
  all_goals(try exact JI _)
  refine zX6 ?_
  apply hK (k+1)
  ·exact hgo hFk
  ·omega
  ·exact zc1
  ·exact zc0
theorem YiG(n:NetM)(s:SchM)(x:RqM){B:Nat}{w0:World}{H:List HP}{w:World}(hin:n.In B w0 H)(hrs:Rd B w0 H s.A (s.cells.flatMap celF))(hsl:s.cells.length<=1000000000000)(hx:x.In B w0 H)(hr9:x.rows.length<=9)(hw:St B w0 H w):
 CX B w0 188 [n.val,rqV x,s.val] w λv K=>∃c:ClM,v=.tuple #[clV c,.bool (!(ZE n.net s.sch x.rq))]/\(ZE n.net s.sch x.rq=false->c.clm=clmE n.net s.sch x.rq/\c.lens)/\K=clQ c::H:=by
 refine Ya Tryz.func188 Tryz.ntmps188 rfl rfl hw ?_
 have e1:x.rq.1=x.f:=rfl
 have hop:∀w,St B w0 [many H] w->St B w0 H w:=λw hw=>hw.perm (.openT H)
 have hin:=hin.mono hop
 have hrs:=hrs.mono hop
 have hx:=hx.mono hop
 refine YX [many H] (λw hw=>hw.perm (.closeT H)) ?_
 have p1:=λ{H':List HP}{w:World}(r:RowM) (hr:r∈x.rows) (hin:n.In B w0 H') (hrs:Rd B w0 H' s.A (s.cells.flatMap celF)) (hx:x.In B w0 H') (hw:St B w0 H' w)=>Yel ⟨n,s,x.f,r.A,r.cap,r.xs⟩ ⟨hin,hrs,hx.rw_ r hr,hsl,(hx.rl r hr).1,(hx.rl r hr).2⟩ hw
 dsimp only at p1
 unfold NetM.val SchM.val rqV
 unfold NetM.val SchM.val at p1
 refine zX26 ?_<;>intros
 rename_i g3 g4 g5 g6 g8
 have hln:x.rq.2=x.rows.map (·.xs):=rfl
 obtain⟨P,hP⟩:∃P,badR n.net s.sch x.f=P:=⟨_,rfl⟩
 have hla:ZE n.net s.sch x.rq=(x.rows.map (·.xs)).any P:=by unfold ZE;rw[hln,e1,hP]
 rw[hla]
 refine Ye (λz:CkM=>[(9,.int .i64 (z.i:Nat)),(8,.pointer (some ⟨g8,0,none⟩)),(6,.pointer (some ⟨g6,0,none⟩)),(5,.pointer (some ⟨g5,0,none⟩)),(4,.pointer (some ⟨g4,0,none⟩)),(3,.pointer (some ⟨g3,0,none⟩))]) (λz=>clA g8 z.c::clQ z.c::clA g6 (nilC 0)::schA g5 s::rqA g4 x::netA g3 n::[many H])
  (λz=>z.i<=x.rows.length/\z.c.clm=Ycf n.net s.sch x.rq ((x.rows.take z.i).map (·.xs))/\z.c.lens/\((x.rows.take z.i).map (·.xs)).any P=false) (λz=>x.rows.length-z.i) ⟨0,nilC x.f.1⟩ ⟨Td _,rfl,⟨by unfold nilC;simp,by unfold nilC;simp,by unfold nilC;simp⟩,by simp⟩ ?_ ?_ ?_
 ·exact zc1
 ·intro w hw
  have h1:=QD x.f.1 hw
  have h2:St B w0 (clQ (nilC x.f.1)::clA g8 (nilC x.f.1)::clA g6 (nilC 0)::schA g5 s::rqA g4 x::netA g3 n::[many H]) w:=h1
  clear hw h1
  revert w
  exact zc0
 rintro⟨i,c⟩ ⟨hi,hcm,hlen,hno⟩ K hK
 dsimp only at hi hcm hlen hno⊢
 have hrt:Rd B w0 (clA g8 c::clQ c::clA g6 (nilC 0)::schA g5 s::rqA g4 x::netA g3 n::[many H]) x.A (x.rows.flatMap rowF):=hx.rt.cons.cons.cons.cons.cons.cons
 by_cases hlt:i<x.rows.length
 rotate_left
 ·obtain rfl:i=x.rows.length:=by omega
  rw[TC]at hcm hno
  rw[hno]
  clear hK
  refine zX1 ?_<;>intros
  apply Yn T (H2:=clQ c::H);(iterate 3 exact rfl);(focus exact zc2);exact rfl;exact rfl
  ·intro w hw
   have h5:St B w0 (clQ c::[many H]) w:=by
    revert w
    exact zc0
   exact zc43
  exact⟨c,rfl,λ_=>⟨hcm,hlen⟩,rfl⟩
 obtain⟨r,hr⟩:∃r,x.rows[i]? =some r:=⟨_,Ta hlt⟩
 have hrm:=Tc hr
 have hri:=hx.rw_ r hrm
 have p2:=λ{H':List HP}{w:World}(hin:n.In B w0 H') (hrs:Rd B w0 H' s.A (s.cells.flatMap celF)) (hx:x.In B w0 H') (hw:St B w0 H' w)=>p1 r hrm hin hrs hx hw
 try dsimp only at p2
 obtain⟨⟨⟨m,wst,sx⟩,e⟩,hRt⟩:∃z,YY n.net s.sch x.f r.xs=z:=⟨_,rfl⟩
 rw[hRt]at p2
 try dsimp only at p2
 unfold flwV at p2
 refine zX0 ?_<;>intros
 apply Y8 [0,1,2,3,4,5,6,7,8,9,10,11,12,13,14,15,16,17,18] []
 kernel_rfl
 kernel_rfl
 (simp only[Yd,nthO];rfl)
 exact rfl
 refine Z0 ?_
 apply Yg _ YwO
 exact za
 exact rfl
 exactλ_ hw=>(p2 (hin.mono zc0) (hrs.mono zc0) (hx.mono zc0) (hw))
 rintro _ _ ⟨A2,cap2,rfl,rfl⟩
 have hPr:P r.xs=decide (e≠0\/x.f.2.2.2.2.2<m):=by rw[<-hP];unfold badR;rw[hRt]
 by_cases hbad:e≠0\/x.f.2.2.2.2.2<m
 ·rw[Ti hbad]at hPr
  have hany:(x.rows.map (·.xs)).any P=true:=TM.2 ⟨r.xs,RD hrm,hPr⟩
  rw[hany]
  clear hK
  by_cases he0:e=0
  all_goals(
   repeat'(first|(apply Yh;try exact zl)|refine zgd ?_|(refine zgf ?_ ?_<;>intro _<;>try exact zo)|fail)
   all_goals(try exact JI _)
   repeat'(first|fail)
   apply Yn T (H2:=clQ (nilC 0)::H);(iterate 3 exact rfl);exact zm;exact rfl;exact rfl
   ·intro w hw
    have h5:St B w0 [many H] w:=by
     revert w
     exact zk
    exact QD 0 (h5.perm (.openT H))
   exact⟨nilC 0,rfl,(λh=>by cases h),rfl⟩)
 rw[Tn hbad]at hPr
 have he0:e=0:=SC λh=>hbad (.inl h)
 have hml:m<=x.f.2.2.2.2.2:=by omega
 subst he0
 obtain⟨hri9,hsx9⟩:r.xs.length<=9/\sx.length<=72:=zc57
 have hinv:∀(A1:Option Addr) (c1:Nat) (r8:RowM) (_:r8.xs=r.xs) (A3:Option Addr) (c3:Nat) (A4:Option Addr) (c4:Nat) (A5:Option Addr) (c5:Nat),(i+1<=x.rows.length/\(ClM.mk c.flow A1 c1 (c.rs++[r8]) A3 c3 (c.bs++[m]) A4 c4 (c.ws++[wst]) A5 c5 (c.ss++[⟨A2,cap2,sx⟩])).clm=Ycf n.net s.sch x.rq ((x.rows.take (i+1)).map (·.xs))/\(ClM.mk c.flow A1 c1 (c.rs++[r8]) A3 c3 (c.bs++[m]) A4 c4 (c.ws++[wst]) A5 c5 (c.ss++[⟨A2,cap2,sx⟩])).lens/\((x.rows.take (i+1)).map (·.xs)).any P=false):=zc13
 repeat'(first|(apply Yh;try exact zl)|refine zgd ?_|(refine zgf ?_ ?_<;>intro _<;>try exact zo)|fail)
 all_goals(try exact JI _)
 refine zX6 ?_
 refine YX (nrs A2 cap2 sx::clA g8 c::sl 127 1 c.rA c.rs.length c.rcap (c.rs.flatMap rowF)::many (c.rs.map rowQ)::nrs c.bA c.bcap c.bs::nrs c.wA c.wcap c.ws::sl 24 1 c.sA c.ss.length c.scap (c.ss.flatMap rowF)::many (c.ss.map rowQ)::clA g6 (nilC 0)::schA g5 s::rqA g4 x::netA g3 n::[many H]) (λw hw=>?_) ?_
 ·have h5:St B w0 (nrs A2 cap2 sx::clA g8 c::clQ c::clA g6 (nilC 0)::schA g5 s::rqA g4 x::netA g3 n::[many H]) w:=by
   revert w
   exact zc0
  exact h5.perm (.cons _ (.cons _ (.open_ (clP c) _)))
 have hl1:=hlen.1
 have hr4:Rd B w0 [rqA g4 x,many H] x.A (x.rows.flatMap rowF):=hx.rt.cons
 refine Z1 (λz:M8 r.xs=>[(9,.int .i64 (i:Nat)),(8,.pointer (some ⟨g8,0,none⟩)),(6,.pointer (some ⟨g6,0,none⟩)),(5,.pointer (some ⟨g5,0,none⟩)),(4,.pointer (some ⟨g4,0,none⟩)),(3,.pointer (some ⟨g3,0,none⟩)),(12,.slice A2 sx.length cap2),(11,.int .i64 wst),(10,.int .i64 m)])
  (λz=>nrs A2 cap2 sx::blk g8 (.cells #[.int .i64 c.flow,.slice z.A1 (c.rs++[z.r]).length z.c1,.slice c.bA c.bs.length c.bcap,.slice c.wA c.ws.length c.wcap,.slice c.sA c.ss.length c.scap] 189 (0,0))::sl 127 1 z.A1 (c.rs++[z.r]).length z.c1 ((c.rs++[z.r]).flatMap rowF)::many ((c.rs++[z.r]).map rowQ)::nrs c.bA c.bcap c.bs::nrs c.wA c.wcap c.ws::sl 24 1 c.sA c.ss.length c.scap (c.ss.flatMap rowF)::many (c.ss.map rowQ)::clA g6 (nilC 0)::schA g5 s::rqA g4 x::netA g3 n::[many H]) ?_ ?_
 ·intro K8 hK8
  apply YC [0,1,3,4,5,6,7,2,8,9,10,11] [12] [false,true,false,false,false,false,false,false,false,false,true,false,true]
  kernel_rfl
  kernel_rfl
  exact zy
  (simp only[Yd,nthO];rfl)
  (simp only[Yd,nthO];rfl)
  have hr5:Rd B w0 [clA g8 c,rqA g4 x,many H] x.A (x.rows.flatMap rowF):=hr4.cons
  repeat'(first|(apply Yw T;exact rfl;exact rfl;intro g9)|(apply YI T (f:=numF) (l2:=r.xs) (e:=3) (size:=1) (xs:=[]);(iterate 3 exact rfl);exact hri.mono zk;exact(λ_=>rfl);exact(λ_=>rfl);exact rfl;(intro _ _;exact zd);omega;intro A8 cap8)|(apply Yh;try exact zl)|refine zgd ?_|(refine zgh ?_;intro _)|(refine zgi ?_;intro _ _)|fail)
  all_goals(
   rename_i A1 c1
   refine hK8 ⟨A1,c1,⟨A8,cap8,r.xs⟩,rfl,none,0⟩ _ _ (by(exact zc1)) ?_
   intro w hw
   rw[show 0+r.xs.length=r.xs.length from Rl _,TF]at hw
   have q1:sl 127 1 A1 (c.rs.length+1) c1 (c.rs.flatMap rowF++#[Value.slice A8 r.xs.length cap8].toList)=sl 127 1 A1 (c.rs++[(⟨A8,cap8,r.xs⟩:RowM)]).length c1 ((c.rs++[(⟨A8,cap8,r.xs⟩:RowM)]).flatMap rowF):=QM _ _ _ _ ⟨A8,cap8,r.xs⟩
   rw[q1,show c.rs.length+1=(c.rs++[(⟨A8,cap8,r.xs⟩:RowM)]).length by simp]at hw
   have h5:St B w0 (nrs A2 cap2 sx::blk g8 (.cells #[.int .i64 c.flow,.slice A1 (c.rs++[(⟨A8,cap8,r.xs⟩:RowM)]).length c1,.slice c.bA c.bs.length c.bcap,.slice c.wA c.ws.length c.wcap,.slice c.sA c.ss.length c.scap] 189 (0,0))::sl 127 1 A1 (c.rs++[(⟨A8,cap8,r.xs⟩:RowM)]).length c1 ((c.rs++[(⟨A8,cap8,r.xs⟩:RowM)]).flatMap rowF)::sl 3 1 A8 r.xs.length cap8 (r.xs.flatMap numF)::many (c.rs.map rowQ)::nrs c.bA c.bcap c.bs::nrs c.wA c.wcap c.ws::sl 24 1 c.sA c.ss.length c.scap (c.ss.flatMap rowF)::many (c.ss.map rowQ)::clA g6 (nilC 0)::schA g5 s::rqA g4 x::netA g3 n::[many H]) w:=by
    clear q1
    revert w
    exact zc0
   exact h5.perm (.cons _ (.cons _ (.cons _ (Vj rowQ c.rs ⟨A8,cap8,r.xs⟩ _)))))
 rintro⟨A1,c1,r8,hr8,_,_⟩
 dsimp only
 refine zX6 ?_
 apply V6 (.n1 0 (.n1 1 (.n1 2 (.n1 5 (.n1 6 (.n1 7 (.n1 10 (.n1 11 (.n1 12 (.n3 3 (.n3 4 (.n1 15 (.n2 8 (.n2 9 (.n1 13 (.n1 14 .done)) 13 (.n1 9 (.n1 14 .done))) 13 (.n1 8 (.n1 9 (.n1 14 .done))))) 8 (.n2 4 (.n1 15 (.n2 9 (.n1 13 (.n1 14 .done)) 13 (.n1 9 (.n1 14 .done)))) 13 (.n1 4 (.n1 15 (.n1 9 (.n1 14 .done))))) 13 (.n2 4 (.n1 15 (.n1 8 (.n1 9 (.n1 14 .done)))) 8 (.n1 4 (.n1 15 (.n1 9 (.n1 14 .done)))))) 8 (.n2 3 (.n2 4 (.n1 15 (.n2 9 (.n1 13 (.n1 14 .done)) 13 (.n1 9 (.n1 14 .done)))) 13 (.n1 4 (.n1 15 (.n1 9 (.n1 14 .done))))) 13 (.n1 3 (.n1 4 (.n1 15 (.n1 9 (.n1 14 .done)))))) 13 (.n2 3 (.n2 4 (.n1 15 (.n1 8 (.n1 9 (.n1 14 .done)))) 8 (.n1 4 (.n1 15 (.n1 9 (.n1 14 .done))))) 8 (.n1 3 (.n1 4 (.n1 15 (.n1 9 (.n1 14 .done)))))))))))))))) [16,17,18,19,20] [false,true]
 kernel_rfl
 kernel_rfl
 exact zy
 (simp only[Yd,nthO];rfl)
 repeat'(first|(apply Yop;(simp only[nthO];rfl);(simp only[nthO];rfl);(simp only[nthO];rfl))|(apply Yex;(simp only[nthO];rfl);(simp only[nthO];rfl))|(apply Yew;(simp only[nthO];rfl))|(apply V7;try exact zl)|(apply Yh;try exact zl)|refine zgd ?_|(refine zgh ?_;intro _)|(refine zgi ?_;intro _ _)|fail)
 all_goals(
  first
   |(rename_i A3 c3 g A4 c4 g2 A5 c5;guard_hyp A3:Option Addr;guard_hyp g:Nat;guard_hyp A4:Option Addr;guard_hyp A5:Option Addr)
   |(rename_i A3 c3 g g2 A4 c4 A5 c5;guard_hyp A3:Option Addr;guard_hyp g:Nat;guard_hyp A4:Option Addr;guard_hyp A5:Option Addr)
   |(rename_i A3 c3 g A4 c4 A5 c5;guard_hyp A3:Option Addr;guard_hyp A4:Option Addr;guard_hyp A5:Option Addr)
   |(rename_i A3 c3 A4 c4 g A5 c5;guard_hyp A3:Option Addr;guard_hyp A4:Option Addr;guard_hyp A5:Option Addr)
   |(rename_i A3 c3 A4 c4 A5 c5;guard_hyp A3:Option Addr;guard_hyp A4:Option Addr;guard_hyp A5:Option Addr)
  refine hK ⟨i+1,⟨c.flow,A1,c1,c.rs++[r8],A3,c3,c.bs++[m],A4,c4,c.ws++[wst],A5,c5,c.ss++[⟨A2,cap2,sx⟩]⟩⟩ ?_ ?_ _ _ zu ?_
  ·exact hinv A1 c1 r8 hr8 A3 c3 A4 c4 A5 c5
  ·dsimp only;omega
  intro w hw
  have q1:sl 24 1 A5 (c.ss.length+1) c5 (c.ss.flatMap rowF++#[Value.slice A2 sx.length cap2].toList)=sl 24 1 A5 (c.ss++[(⟨A2,cap2,sx⟩:RowM)]).length c5 ((c.ss++[(⟨A2,cap2,sx⟩:RowM)]).flatMap rowF):=QM _ _ _ _ ⟨A2,cap2,sx⟩
  rw[q1,JW,JW,show c.ss.length+1=(c.ss++[(⟨A2,cap2,sx⟩:RowM)]).length by simp,show c.ws.length+1=(c.ws++[wst]).length by simp,show c.bs.length+1=(c.bs++[m]).length by simp]at hw
  have h5:St B w0 (blk g8 (.cells #[.int .i64 c.flow,.slice A1 (c.rs++[r8]).length c1,.slice A3 (c.bs++[m]).length c3,.slice A4 (c.ws++[wst]).length c4,.slice A5 (c.ss++[(⟨A2,cap2,sx⟩:RowM)]).length c5] 189 (0,0))::sl 127 1 A1 (c.rs++[r8]).length c1 ((c.rs++[r8]).flatMap rowF)::many ((c.rs++[r8]).map rowQ)::nrs A3 c3 (c.bs++[m])::nrs A4 c4 (c.ws++[wst])::sl 24 1 A5 (c.ss++[(⟨A2,cap2,sx⟩:RowM)]).length c5 ((c.ss++[(⟨A2,cap2,sx⟩:RowM)]).flatMap rowF)::nrs A2 cap2 sx::many (c.ss.map rowQ)::clA g6 (nilC 0)::schA g5 s::rqA g4 x::netA g3 n::[many H]) w:=by
   clear q1
   revert w
   exact zk
  have h6:=h5.perm (.cons _ (.cons _ (.cons _ (.cons _ (.cons _ (.cons _ (Vj rowQ c.ss ⟨A2,cap2,sx⟩ _)))))))
  exact h6.perm (.cons _ (.close [_,_,_,_,_,_] _)))
variable {A:Option Addr}{cap B:Nat}{w0 w:World}{H:List HP}
theorem YiR(n:NetM)(l:List Flw)(s:SchM)(hlf:l.length<=9223372036854775807)(hl:s.cells.length<=1000000000000)(hin:n.In B w0 H)(hrf:Rd B w0 H A (l.flatMap flwF))(hr:Rd B w0 H s.A (s.cells.flatMap celF))(hw:St B w0 H w):
 CX B w0 187 [n.val,.slice A l.length cap,s.val] w λv K=>v=.bool (decide ((schE n.net l s.sch).2=0))/\K=H:=by
 refine Ya Tryz.func187 Tryz.ntmps187 rfl rfl hw ?_
 have p1:=λ{H':List HP}{w:World}(hin:n.In B w0 H') (hrf:Rd B w0 H' A (l.flatMap flwF)) (hr:Rd B w0 H' s.A (s.cells.flatMap celF)) (hw:St B w0 H' w)=>Ydt n l s hlf hl (cap:=cap) hin hrf hr hw
 obtain⟨⟨ri,re⟩,hR⟩:∃R,schE n.net l s.sch=R:=⟨_,rfl⟩
 rw[hR]at p1⊢
 dsimp only at p1⊢
 unfold NetM.val SchM.val
 unfold NetM.val SchM.val at p1
 refine zX72 ?_<;>intros
 apply Yb YwZ
 exact za
 exact rfl
 exactλ_ hw=>(p1 (hin.mono zc0) (hrf.mono zc0) (hr.mono zc0) hw)
 repeat'(first|(apply Yq8;(iterate 3 exact rfl))|refine zgc ?_|fail)
 apply Yf H
 ·exact zc0
 exact zc9
theorem Yds(n:NetM)(q:List RqM)(s:SchM)(hin:n.In B w0 H)(hq:QIn B w0 H A q)(hrs:Rd B w0 H s.A (s.cells.flatMap celF))(hsl:s.cells.length<=1000000000000)(hw:St B w0 H w):
 CX B w0 94 [n.val,.slice A q.length cap,s.val] w (OutC H (YD n.net (q.map RqM.rq) s.sch)):=by
 refine Ya Tryz.func94 Tryz.ntmps94 rfl rfl hw ?_
 have hop:∀w,St B w0 [many H] w->St B w0 H w:=λw hw=>hw.perm (.openT H)
 have hin:=hin.mono hop
 have hrs:=hrs.mono hop
 have hq:=hq.mono hop
 refine YX [many H] (λw hw=>hw.perm (.closeT H)) ?_
 have hql:=hq.ln
 have hqr:=hq.rd
 have p1:=λ{H':List HP}{w:World}(hin:n.In B w0 H') (hq:QIn B w0 H' A q) (hw:St B w0 H' w)=>OI n q (cap:=cap) hin hq hw
 have p2:=λ{H':List HP}{w:World}(hq:QIn B w0 H' A q) (hw:St B w0 H' w)=>VW q (cap:=cap) hql hq.rd hw
 have p3:=λ{A2:Option Addr}{cap2:Nat}{H':List HP}{w:World}(hin:n.In B w0 H') (hf:Rd B w0 H' A2 ((RqM.fl q).flatMap flwF)) (hrs:Rd B w0 H' s.A (s.cells.flatMap celF)) (hw:St B w0 H' w)=>YiR n (RqM.fl q) s Yl3 hsl (cap:=cap2) hin hf hrs hw
 have p4:=λ{H':List HP}{w:World}(x:RqM) (h9:x.rows.length<=9) (hin:n.In B w0 H') (hrs:Rd B w0 H' s.A (s.cells.flatMap celF)) (hx:x.In B w0 H') (hw:St B w0 H' w)=>YiG n s x hin hrs hsl hx h9 hw
 obtain⟨R,hR⟩:∃R,YD n.net (q.map RqM.rq) s.sch=R:=⟨_,rfl⟩
 rw[hR]
 unfold YD at hR
 rw[Tu]at hR
 have hrq:(rqsE n.net (q.map RqM.rq)).2=0->∀x∈q,x.rows.length<=9:=λh x hx=>by
  exact zc41
 obtain⟨⟨ri,re⟩,hr⟩:∃r,rqsE n.net (q.map RqM.rq)=r:=⟨_,rfl⟩
 obtain⟨⟨ci,ce⟩,hc⟩:∃r,schE n.net (YG (q.map RqM.rq)) s.sch=r:=⟨_,rfl⟩
 obtain⟨F,hF⟩:∃F:Nat->Int,(λi=>if ZE n.net s.sch (rqAt (q.map RqM.rq) i)=true then 15 else 0)=F:=⟨_,rfl⟩
 rw[hr]at p1 hR hrq
 rw[YeP]at p3
 rw[hc]at p3 hR
 rw[hF]at hR
 have hFv:∀{k:Nat}{x:RqM},q[k]? =some x->F k=if ZE n.net s.sch x.rq=true then 15 else 0:=λh=>by exact YuI
 rw[<-YeP]at p3
 dsimp only at p1 p3 hR hrq
 unfold NetM.val SchM.val
 unfold NetM.val at p1
 unfold NetM.val SchM.val at p3 p4
 unfold rqV clV at p4
 have hno:∀w,St B w0 [many H] w->St B w0 (clsP none 0 []::many (([]:List ClM).map clQ)::H) w:=λw hw=>Ydd (hw.perm (.openT H))
 by_cases h0:re=0
 rotate_left
 ·rw[To h0]at hR
  subst hR
  refine zX72 ?_<;>intros
  apply Yb en93
  exact za
  exact rfl
  exactλ_ hw=>(p1 (hin.mono zc0) (hq.mono zc0) hw)
  refine zX1 ?_<;>intros
  apply Yf (clsP none 0 []::many (([]:List ClM).map clQ)::H)
  ·intro w hw
   refine hno w ?_
   revert w
   exact zc0
  exact zc54
 subst h0
 rw[Tf (λe=>e rfl)]at hR
 have hrq:=hrq rfl
 by_cases h1:ce=0
 rotate_left
 ·rw[To h1]at hR
  subst hR
  rw[Tn h1]at p3
  refine zX72 ?_<;>intros
  apply Yb en93
  exact za
  exact rfl
  exactλ_ hw=>(p1 (hin.mono zc0) (hq.mono zc0) hw)
  refine zX1 ?_<;>intros
  apply YC [0,1,3,2,4,5] [] [true,true]
  kernel_rfl
  kernel_rfl
  exact zy
  (simp only[Yd,nthO];rfl)
  exact rfl
  refine zX3 ?_
  apply Yg _ en70
  exact za
  exact rfl
  exactλ_ hw=>(p2 (hq.mono zc0) (hw))
  rintro _ _ ⟨A2,cap2,rfl,rfl⟩
  refine zX17 ?_
  apply Yb YsS
  exact za
  exact rfl
  exactλ_ hw=>(p3 (hin.mono zc0) (Rd.sl (by(focus exact zc2))) (hrs.mono zc0) hw)
  refine zX17 ?_
  apply Yf (clsP none 0 []::many (([]:List ClM).map clQ)::H)
  ·intro w hw
   refine hno w ?_
   revert w
   exact zc0
  exact zc54
 subst h1
 rw[Tf (λe=>e rfl)]at hR
 rw[Ti rfl]at p3
 refine zX72 ?_<;>intros
 rename_i g3 g5
 apply Yb en93
 exact za
 exact rfl
 exactλ_ hw=>(p1 (hin.mono zc0) (hq.mono zc0) hw)
 refine zX1 ?_<;>intros
 apply YC [0,1,3,2,4,5] [] [true,true]
 kernel_rfl
 kernel_rfl
 exact zy
 (simp only[Yd,nthO];rfl)
 exact rfl
 refine zX3 ?_
 apply Yg _ en70
 exact za
 exact rfl
 exactλ_ hw=>(p2 (hq.mono zc0) (hw))
 rintro _ _ ⟨A2,cap2,rfl,rfl⟩
 refine zX17 ?_
 apply Yb YsS
 exact za
 exact rfl
 exactλ_ hw=>(p3 (hin.mono zc0) (Rd.sl (by(focus exact zc2))) (hrs.mono zc0) hw)
 repeat'(first|(apply Yw T;exact rfl;exact rfl;intro gO)|(apply Yh;try exact zl)|refine zgd ?_|fail)
 refine Ye (λz:MkM=>[(12,.int .i64 (z.i:Nat)),(11,.slice z.A z.C.length z.cap),(1,.slice A q.length cap),(5,.pointer (some ⟨g5,0,none⟩)),(3,.pointer (some ⟨g3,0,none⟩))]) (λz=>clsP z.A z.cap z.C::many (z.C.map clQ)::schA g5 s::netA g3 n::[many H])
  (λz=>z.i<=q.length/\z.C.map ClM.clm=(q.take z.i).map (λx=>clmE n.net s.sch x.rq)/\(∀c∈z.C,c.lens)/\∀j,0<=j->j<z.i->F j=0) (λz=>q.length-z.i) ⟨0,some ⟨gO,0,none⟩,0,[]⟩ ⟨Td _,rfl,(λc hc=>by cases hc),λj _ h=>absurd h (Re _)⟩ ?_ ?_ ?_
 ·exact zc1
 ·intro w hw
  have h5:St B w0 (sl 189 5 (some ⟨gO,0,none⟩) 0 0 []::schA g5 s::netA g3 n::[many H]) w:=by
   revert w
   exact zc0
  exact h5.perm (.cons _ (.noMany _))
 rintro⟨i,A3,cap3,C⟩ ⟨hi,hC,hCl,hz⟩ K hK
 dsimp only at hi hC hCl hz⊢
 have hCn:C.length<=q.length:=Yun
 by_cases hlt:i<q.length
 rotate_left
 ·obtain rfl:i=q.length:=by omega
  have hfe:=Xn (f:=F) (r:=q.length) (i0:=0) λj h1 h2=>hz j h1 (by omega)
  rw[hfe,Tf (λe=>e rfl)]at hR
  subst hR
  rw[TC]at hC
  clear hK
  refine zX1 ?_<;>intros
  apply Yf (clsP A3 cap3 C::many (C.map clQ)::H)
  ·intro w hw
   have h5:St B w0 (clsP A3 cap3 C::many (C.map clQ)::[many H]) w:=by
    revert w
    exact zc0
   exact YqX
  exact Yug
 obtain⟨x,hx⟩:∃x,q[i]? =some x:=⟨_,Ta hlt⟩
 have hxm:=Tc hx
 have hFx:=hFv hx
 have p5:=λ{H':List HP}{w:World}(hin:n.In B w0 H') (hrs:Rd B w0 H' s.A (s.cells.flatMap celF)) (hxi:x.In B w0 H') (hw:St B w0 H' w)=>p4 x (hrq x hxm) hin hrs hxi hw
 have hxi:=hq.x x hxm
 have hqr2:Rd B w0 [schA g5 s,netA g3 n,many H] A (q.flatMap rqF):=hqr.cons.cons
 cases hlb:ZE n.net s.sch x.rq with
 |true=>
  rw[hlb,To rfl]at hFx
  rw[hlb]at p5
  have hfe:=Xe (f:=F) (r:=q.length) (i0:=0) (i:=i) (λj h1 h2=>hz j h1 h2) (Td _) (by omega) (by rw[hFx];decide)
  rw[hfe,hFx]at hR
  rw[To (show(15:Int)≠0 from by decide)]at hR
  subst hR
  clear hK
  refine zX0 ?_<;>intros
  apply J7 (.n1 0 (.n1 1 (.n1 2 (.n1 3 (.n1 4 (.n1 5 (.n2 6 (.n1 7 (.n1 8 (.n1 9 (.n1 10 (.n1 11 (.n1 12 .done)))))) 10 (.n1 6 (.n1 7 (.n1 8 (.n1 9 (.n1 11 (.n1 12 .done))))))))))))) [] [false,false,true,true,true]
  kernel_rfl
  kernel_rfl
  exact zy
  exact rfl
  repeat'(first|((apply Yg _ YsT);exact za;exact rfl;exactλ_ hw=>p5 (hin.mono zk) (hrs.mono zk) (hxi.mono zk) hw;rintro _ _ ⟨c,rfl,_,rfl⟩)|(apply Yh;try exact zl)|apply(zs91 ?_ ?_)|(apply Xo;try exact zl)|refine zgd ?_|(refine zgh ?_;intro _)|fail)
  all_goals(
   apply Yf (clsP none 0 []::many (([]:List ClM).map clQ)::H)
   ·intro w hw
    refine hno w ?_
    revert w
    exact zk
   apply Jh;(iterate 4 exact rfl)
   exact YlF rfl rfl)
 |false=>
  rw[hlb,Tf (by decide)]at hFx
  rw[hlb]at p5
  refine zX0 ?_<;>intros
  apply J7 (.n1 0 (.n1 1 (.n1 2 (.n1 3 (.n1 4 (.n1 5 (.n2 6 (.n1 7 (.n1 8 (.n1 9 (.n1 10 (.n1 11 (.n1 12 .done)))))) 10 (.n1 6 (.n1 7 (.n1 8 (.n1 9 (.n1 11 (.n1 12 .done))))))))))))) [] [false,false,true,true,true]
  kernel_rfl
  kernel_rfl
  exact zy
  exact rfl
  repeat'(first|((apply Yg _ YsT);exact za;exact rfl;exactλ_ hw=>p5 (hin.mono zk) (hrs.mono zk) (hxi.mono zk) hw;rintro _ _ ⟨c,rfl,hcc,rfl⟩)|(apply Yh;try exact zl)|apply(zs91 ?_ ?_)|(apply Xo;try exact zl)|refine zgd ?_|(refine zgh ?_;intro _)|(refine zgi ?_;intro _ _)|fail)
  all_goals(
   obtain⟨hcm,hcl⟩:=hcc rfl
   rename_i A4 cap4
   rw[Yhm,show C.length+1=(C++[c]).length by simp]
   apply hK ⟨i+1,A4,cap4,C++[c]⟩
   ·refine⟨by show i+1<=_;omega,?_,λy hy=>?_,λj h1 h2=>?_⟩
    ·show(C++[c]).map ClM.clm=_
     rw[TD,hx,Rx,TY,TY,hC]
     simp[hcm]
    ·rcases T9.1 hy with h|h
     ·exact hCl y h
     ·rw[Ry.1 h];exact hcl
    ·rcases RJ.1 h2 with h|rfl
     ·exact hz j h1 h
     ·exact hFx
   ·dsimp only;omega
   ·exact zu
   ·intro w hw
    have h5:St B w0 (clsP A4 cap4 (C++[c])::clQ c::many (C.map clQ)::schA g5 s::netA g3 n::[many H]) w:=by
     revert w
     exact zk
    exact h5.perm (.cons _ (Yc8 clQ C c _)))
end Go.Proofs.YtjommdkgfbhbdaaGreatDoor
