/- Lemmas for the claim, part 34. -/
import Derived.Test.YtaholidehobiiaaGreatDoorProg
import Derived.KernelRfl
import Derived.Test.YtaholidehobiiaaGreatDoorQ31
import Derived.Test.YtaholidehobiiaaGreatDoorQ35
set_option maxRecDepth 100000
set_option maxHeartbeats 8000000
set_option linter.all false
namespace Go.Eng
open Go.RowKit
section
variable {P:Program}{m:Mode}{n:Shp}{B:Nat}{w0:World}{ops:Array Oper}{Q:Exit->Act->World->Prop}{rest:List Oper}{env:Env}{H:List HP}{d:Nat}{ty:TypeId}{pos:String}{after:Array Edge}
def YhA(P:Program)(t:TypeId):Bool:=match P.underlying t with|some .bool=>true|_=>false
theorem Ykq{w:World}{t:TypeId}(a b:Bool)(h:YhA P t=true):(Op.equal t (.bool a) (.bool b)).run P w=.ok (a==b) w:=by
 have hu:P.underlying t=some .bool:=by
  unfold YhA at h
  split at h
  ·assumption
  ·cases h
 show(Op.equalIn (9999+1) t (.bool a) (.bool b)).run P w=_
 exact run_equalIn_bool' w 9999 t a b hu
theorem YsY{xt yt:TypeId}{x y:Operand}{a b:Bool}(hx:evo env x=some (.bool a))(hy:evo env y=some (.bool b))(hn:Nat.ble (d+1) n.k=true)(ht:YhA P xt=true)(h:VL P m n B w0 ops Q rest ((d,.bool (!(a==b)))::env) H):
 VL P m n B w0 ops Q (⟨some d,.binOp .neq xt x y yt,ty,pos,after,none⟩::rest) env H:=
 Xc hx hy hn (λ_=>rfl) (λw=>by simp only[binOp,Sem.run_bind,Ykq a b ht,Result.andThen_ok,Sem.run_pure]) h
end
end Go.Eng
namespace Go.Proofs.YtaholidehobiiaaGreatDoor
open Go.Eng
theorem en18(xs:Array Value)(w:World):(callFunc 18 xs).run Tryz.prog w=.ok (.enter 18 xs) w:=by kernel_rfl
theorem en23(xs:Array Value)(w:World):(callFunc 23 xs).run Tryz.prog w=.ok (.enter 23 xs) w:=by kernel_rfl
theorem en24(xs:Array Value)(w:World):(callFunc 24 xs).run Tryz.prog w=.ok (.enter 24 xs) w:=by kernel_rfl
theorem en26(xs:Array Value)(w:World):(callFunc 26 xs).run Tryz.prog w=.ok (.enter 26 xs) w:=by kernel_rfl
theorem en27(xs:Array Value)(w:World):(callFunc 27 xs).run Tryz.prog w=.ok (.enter 27 xs) w:=by kernel_rfl
theorem en33(xs:Array Value)(w:World):(callFunc 33 xs).run Tryz.prog w=.ok (.enter 33 xs) w:=by kernel_rfl
theorem en34(xs:Array Value)(w:World):(callFunc 34 xs).run Tryz.prog w=.ok (.enter 34 xs) w:=by kernel_rfl
theorem en44(xs:Array Value)(w:World):(callFunc 44 xs).run Tryz.prog w=.ok (.enter 44 xs) w:=by kernel_rfl
theorem en78(xs:Array Value)(w:World):(callFunc 78 xs).run Tryz.prog w=.ok (.enter 78 xs) w:=by kernel_rfl
theorem en79(xs:Array Value)(w:World):(callFunc 79 xs).run Tryz.prog w=.ok (.enter 79 xs) w:=by kernel_rfl
theorem en93(xs:Array Value)(w:World):(callFunc 93 xs).run Tryz.prog w=.ok (.enter 93 xs) w:=by kernel_rfl
theorem en94(xs:Array Value)(w:World):(callFunc 94 xs).run Tryz.prog w=.ok (.enter 94 xs) w:=by kernel_rfl
theorem en95(xs:Array Value)(w:World):(callFunc 95 xs).run Tryz.prog w=.ok (.enter 95 xs) w:=by kernel_rfl
theorem en96(xs:Array Value)(w:World):(callFunc 96 xs).run Tryz.prog w=.ok (.enter 96 xs) w:=by kernel_rfl
theorem en97(xs:Array Value)(w:World):(callFunc 97 xs).run Tryz.prog w=.ok (.enter 97 xs) w:=by kernel_rfl
theorem en98(xs:Array Value)(w:World):(callFunc 98 xs).run Tryz.prog w=.ok (.enter 98 xs) w:=by kernel_rfl
theorem Yut(xs:Array Value)(w:World):(callFunc 114 xs).run Tryz.prog w=.ok (.enter 114 xs) w:=by kernel_rfl
theorem Ym0(xs:Array Value)(w:World):(callFunc 132 xs).run Tryz.prog w=.ok (.enter 132 xs) w:=by kernel_rfl
theorem Yuy(xs:Array Value)(w:World):(callFunc 174 xs).run Tryz.prog w=.ok (.enter 174 xs) w:=by kernel_rfl
theorem Yxi(xs:Array Value)(w:World):(callFunc 194 xs).run Tryz.prog w=.ok (.enter 194 xs) w:=by kernel_rfl
end Go.Proofs.YtaholidehobiiaaGreatDoor
namespace Go.Eng
open Go.RowKit Go.Proofs Go.Proofs.YtaholidehobiiaaGreatDoor
section
variable {m:Mode}{n:Shp}{B:Nat}{w0:World}{ops:Array Oper}{Q:Exit->Act->World->Prop}{rest:List Oper}{env:Env}{H:List HP}{d:Nat}{ty:TypeId}{pos:String}{after:Array Edge}{xt yt:TypeId}{x y:Operand}{k:IntKind}{a b:Int}{s t:ByteArray}
theorem zs63{xt yt:TypeId}{x y:Operand}{a b:Bool}(h:VL Tryz.prog m n B w0 ops Q rest ((d,.bool (!(a==b)))::env) H)(hx:evo env x=some (.bool a):=by exact rfl)(hy:evo env y=some (.bool b):=by exact rfl)(hn:Nat.ble (d+1) n.k=true:=by exact rfl)(ht:YhA Tryz.prog xt=true:=by kernel_rfl):VL Tryz.prog m n B w0 ops Q (⟨some d,.binOp .neq xt x y yt,ty,pos,after,none⟩::rest) env H:=YsY hx hy hn ht h
end
open Go.RowKit
end Go.Eng
namespace Go.Proofs.YtaholidehobiiaaGreatDoor
open Go.RowKit Go.Eng Go.Nw
variable {A:Option Addr}{cap B:Nat}{w0 w:World}{H:List HP}
theorem Yly(l:List Cel)(c:Cel)(hlen:l.length<=1000000000000)(hr:Rd B w0 H A (l.flatMap celF))(hw:St B w0 H w):
 CX B w0 114 [.slice A l.length cap,celV c] w λu K=>u=.int .i64 (Ym (λx=>decide (c=x)) l 0)/\K=H:=by
 refine Yc Tryz.func114 Tryz.ntmps114 rfl rfl hw ?_
 (apply YY;apply Yx;apply Yr;exact rfl;exact rfl;intro g)
 refine zX8 ?_
 refine Yg (λ(k:Nat)=>[(8,.int .i64 k),(7,.int .i64 l.length),(0,.slice A l.length cap),(3,.pointer (some ⟨g,0,none⟩))]) (λ_=>blk g (.cells (celF c).toArray 64 (0,0))::H) (λk=>k<=l.length/\Ym (λx=>decide (c=x)) l 0=Ym (λx=>decide (c=x)) (l.drop k) k) (λk=>l.length-k) 0 ⟨Tm _,by simp⟩ ?_ (λw hw=>hw) ?_
 ·exact zc1
 rintro k ⟨hk,hi⟩ K hK
 have hr:=hr.cons (X:=blk g (.cells (celF c).toArray 64 (0,0)))
 by_cases hlt:k<l.length
 ·obtain⟨a,ha⟩:∃a,l[k]? =some a:=⟨_,Ta hlt⟩
  rw[Z3 _ l ha]at hi
  repeat'(first|(apply YmB c a;(iterate 3 exact rfl);all_goals intro hca)|refine zgd ?_|(refine zge ?_ ?_<;>intro _<;>try exact zo)|fail)
  ·rw[Tn (Td hca)]at hi
   apply Yj
   exact zc34
  ·rw[Tf (by simp_all)]at hi
   apply hK (k+1)
   ·grind
   ·omega
   ·exact zc1
   exact zc17
 ·refine zX1 ?_<;>intros
  apply Yj
  exact zc27
theorem Yfi(l:List Cel)(c:Cel)(hlen:l.length<=1000000000000)(hr:Rd B w0 H A (l.flatMap celF))(hw:St B w0 H w):
 CX B w0 34 [.slice A l.length cap,celV c] w λu K=>u=.bool (decide (c∈l))/\K=H:=by
 refine Yc Tryz.func34 Tryz.ntmps34 rfl rfl hw ?_
 have hia:=JT (λx=>decide (c=x)) l 0 (by omega)
 (apply YY;apply Yx;apply Yr;exact rfl;exact rfl;intro g)
 have hr:=hr.cons (X:=blk g (.cells (celF c).toArray 64 (0,0)))
 repeat'(first|((first|apply Ya Yut|apply Yb Yut);exact za;exact rfl;exactλ_ hw=>(Yly l c hlen hr hw))|(refine zs8 ?_)|(apply(zs20 ?_ ?_)<;>intro _<;>try(omega))|refine zga ?_|fail)
 all_goals(apply Yj;apply Yd;exact rfl;exact rfl)
 all_goals grind
theorem Ykn(l m:List Cel)(hl:l.length<=1000000000000)(hm:m.length<=1000000000000){A2:Option Addr}{cap2:Nat}(hr:Rd B w0 H A (l.flatMap celF))(hr2:Rd B w0 H A2 (m.flatMap celF))(hw:St B w0 H w):
 CX B w0 174 [.slice A l.length cap,.slice A2 m.length cap2] w λv K=>v=.bool (decide (l=m))/\K=H:=by
 refine Yc Tryz.func174 Tryz.ntmps174 rfl rfl hw ?_
 by_cases hll:l.length=m.length
 rotate_left
 ·exact zc12
 refine zX3 ?_<;>intros
 refine Yg (λ(i:Nat)=>[(5,.int .i64 i),(0,.slice A l.length cap),(1,.slice A2 m.length cap2)]) (λ_=>H) (λi=>i<=l.length/\l.take i=m.take i) (λi=>l.length-i) 0 ⟨Tm _,rfl⟩ ?_ (λw hw=>hw) ?_
 ·exact zc1
 rintro i ⟨hi,he⟩ K hK
 by_cases hlt:i<l.length
 ·obtain⟨x,hx⟩:∃x,l[i]? =some x:=⟨_,Ta hlt⟩
  obtain⟨y,hy⟩:∃y,m[i]? =some y:=⟨_,Ta (by omega)⟩
  repeat'(first|(apply YmC x y;(iterate 3 exact rfl);all_goals intro hxy)|refine zgd ?_|(refine zge ?_ ?_<;>intro _<;>try exact zo)|fail)
  ·apply Yd;exact rfl;exact rfl
   have hne:l≠m:=by
    grind
   simp_all
  ·apply hK (i+1)
   ·exact⟨by omega,by exact zc90⟩
   ·omega
   ·exact zc1
   exact zc17
 ·obtain rfl:i=l.length:=by omega
  refine zX1 ?_<;>intros
  apply Yd;exact rfl;exact rfl
  rw[TV,hll,TV]at he
  exact⟨by rw[Td he],rfl⟩
theorem Ymd(s t:SchM)(hl:s.cells.length<=1000000000000)(hm:t.cells.length<=1000000000000)(hr:Rd B w0 H s.A (s.cells.flatMap celF))(hr2:Rd B w0 H t.A (t.cells.flatMap celF))(hw:St B w0 H w):
 CX B w0 78 [s.val,t.val] w λv K=>v=.bool (decide (s.len=t.len/\s.off=t.off/\s.cells=t.cells))/\K=H:=by
 refine Yc Tryz.func78 Tryz.ntmps78 rfl rfl hw ?_
 repeat'(first|((first|apply Y9 Yuy|apply Y8 Yuy);exact za;exact rfl;exactλ_ hw=>(Ykn s.cells t.cells hl hm hr.cons.cons hr2.cons.cons hw);all_goals(intro hB;(try simp only[Tt,TP]at hB);try exact zo))|refine zgd ?_|(refine zge ?_ ?_<;>intro _<;>try exact zo)|(refine zgh ?_;intro _)|fail)
 all_goals(
  apply Yi H
  ·exact zk
  apply Yd;exact rfl;exact rfl
  first
   |exact⟨by rw[Td ⟨by assumption,by assumption,by assumption⟩],rfl⟩
   |exact⟨by rw[Ti λh=>absurd h.1 (by assumption)],rfl⟩
   |exact⟨by rw[Ti λh=>absurd h.2.1 (by assumption)],rfl⟩
   |exact⟨by rw[Ti λh=>absurd h.2.2 (by assumption)],rfl⟩)
end Go.Proofs.YtaholidehobiiaaGreatDoor
namespace Go.Eng
open Go.ChangeShapes Go.WideShapes Go.ChangeAt Go.RowKit Go.Deep
section
variable {H:Type}{enc:TypeId×Value->H}{P:Program}{W:World}{spare:Nat->Bool}{held:Bool}
theorem wf_i64{z:Int}(h:(Lit.int .i64 z).wf=true): -9223372036854775808<=z/\z<=9223372036854775807:=by
 simp only[Lit.wf,Tq,Tt]at h
 have e1:IntKind.min .i64= -9223372036854775808:=by decide
 have e2:IntKind.max .i64=9223372036854775807:=by decide
 omega
end
end Go.Eng
namespace Go.Proofs.YtaholidehobiiaaGreatDoor
open Go.ChangeShapes Go.WideShapes Go.ChangeAt Go.RowKit Go.Eng Go.Nw
open Go.ChangeMaps (open_string)
section
variable {H:Type}{enc:TypeId×Value->H}{W:World}{spare:Nat->Bool}{held:Bool}
abbrev CelG(c:Cel):Prop:=I64 c.1/\I64 c.2.1/\I64 c.2.2.1/\I64 c.2.2.2.1/\I64 c.2.2.2.2
theorem YtW:Opn enc Tryz.prog W spare held 64 celF CelG:=
 U4 (JH (ts:=[3,3,3,3,3]) (by kernel_rfl) (YD op_i (YD op_i (YD op_i (YD op_i (YD op_i UM)))))) (λx=>(x.1,x.2.1,x.2.2.1,x.2.2.2.1,x.2.2.2.2.1)) (λ_=>rfl) (λ_ h=>⟨h.1,h.2.1,h.2.2.1,h.2.2.2.1,h.2.2.2.2.1⟩)
theorem YrL:Opn enc Tryz.prog W spare held 35 (λs:SlM Cel=>[s.val]) (SlG W celF CelG):=Z7 (q:=5) Tryz.underlying35 (by kernel_rfl) (by decide) YtW
structure SchG(W:World)(s:SchM):Prop where
 len:I64 s.len
 off:I64 s.off
 old:Old W s.A (s.cells.flatMap celF)
 few:s.cells.length<=9223372036854775807
 good:∀c∈s.cells,CelG c
 cap:s.cells.length<=s.cap
def schF(s:SchM):List Value:=[.int .i64 s.len,.int .i64 s.off,.slice s.A s.cells.length s.cap]
theorem YwF:Opn enc Tryz.prog W spare held 37 schF (SchG W):=
 U4 (JH (ts:=[3,3,35]) (by kernel_rfl) (YD op_i (YD op_i (YD YrL UM))))
  (λx=>⟨x.1,x.2.1,x.2.2.1.A,x.2.2.1.cap,x.2.2.1.xs⟩) (λx=>by simp[schF,numF,SlM.val])
  (λx h=>by
   obtain⟨h1,h2,h3,_⟩:=h
   exact⟨h1,h2,h3.old,T9 h3.len maxL,h3.good,h3.cap⟩)
end
open Go.RowKit Go.Eng Go.Nw Go.Rt
variable {B:Nat}{w0 w:World}{H:List HP}
theorem YcD(c d:ClM)(hc:c.In B w0 H)(hd:d.In B w0 H)(hw:St B w0 H w):
 CX B w0 132 [clV c,clV d] w λu K=>u=.bool (decide (c.clm=d.clm))/\K=H:=by
 refine Yc Tryz.func132 Tryz.ntmps132 rfl rfl hw ?_
 have hcl:=hc.ln
 have hdl:=hd.ln
 have p1:=λ{H':List HP}{w:World}(hc:c.In B w0 H') (hd:d.In B w0 H') (hw:St B w0 H' w)=>Ol c.rs d.rs (cap:=c.rcap) (cap2:=d.rcap) hcl.1 hdl.1 hc.rl hd.rl hc.rt hd.rt hc.rw_ hd.rw_ hw
 have p2:=λ{H':List HP}{w:World}(hc:c.In B w0 H') (hd:d.In B w0 H') (hw:St B w0 H' w)=>J0 c.bs d.bs (cap:=c.bcap) (cap2:=d.bcap) (by omega) (by omega) hc.bd hd.bd hw
 have p3:=λ{H':List HP}{w:World}(hc:c.In B w0 H') (hd:d.In B w0 H') (hw:St B w0 H' w)=>J0 c.ws d.ws (cap:=c.wcap) (cap2:=d.wcap) (by omega) (by omega) hc.ws hd.ws hw
 have hce:=@YqM c d
 unfold clV
 by_cases h1:c.flow=d.flow
 rotate_left
 ·rw[Ti (λh=>h1 (hce.1 h).1)]
  repeat'(first|refine zgd ?_|(refine zge ?_ ?_<;>intro _<;>try exact zo)|(refine zgh ?_;intro _)|fail)
  apply Yi H
  ·exact zc0
  exact zc4
 by_cases h2:c.rs.map (·.xs)=d.rs.map (·.xs)
 rotate_left
 ·rw[Ti (λh=>h2 (hce.1 h).2.1)]
  rw[Ti h2]at p1
  repeat'(first|refine zgc ?_|(refine zge ?_ ?_<;>intro _<;>try exact zo)|(refine zgh ?_;intro _)|fail)
  first|apply Ya en65|apply Yb en65
  exact za
  exact rfl
  exactλ_ hw=>(p1 (hc.mono zc0) (hd.mono zc0) hw)
  repeat'(first|refine zgd ?_|fail)
  apply Yi H
  ·exact zc0
  exact zc4
 rw[Td h2]at p1
 by_cases h3:c.bs=d.bs
 rotate_left
 ·rw[Ti (λh=>h3 (hce.1 h).2.2.1)]
  rw[Ti h3]at p2
  repeat'(first|refine zgc ?_|(refine zge ?_ ?_<;>intro _<;>try exact zo)|(refine zgh ?_;intro _)|fail)
  first|apply Ya en65|apply Yb en65
  exact za
  exact rfl
  exactλ_ hw=>(p1 (hc.mono zc0) (hd.mono zc0) hw)
  repeat'(first|refine zgd ?_|fail)
  first|apply Ya en89|apply Yb en89
  exact za
  exact rfl
  exactλ_ hw=>(p2 (hc.mono zc0) (hd.mono zc0) hw)
  repeat'(first|refine zgd ?_|fail)
  apply Yi H
  ·exact zc0
  exact zc4
 rw[Td h3]at p2
 by_cases h4:c.ws=d.ws
 rotate_left
 ·rw[Ti (λh=>h4 (hce.1 h).2.2.2.1)]
  rw[Ti h4]at p3
  repeat'(first|refine zgc ?_|(refine zge ?_ ?_<;>intro _<;>try exact zo)|(refine zgh ?_;intro _)|fail)
  first|apply Ya en65|apply Yb en65
  exact za
  exact rfl
  exactλ_ hw=>(p1 (hc.mono zc0) (hd.mono zc0) hw)
  repeat'(first|refine zgd ?_|fail)
  first|apply Ya en89|apply Yb en89
  exact za
  exact rfl
  exactλ_ hw=>(p2 (hc.mono zc0) (hd.mono zc0) hw)
  repeat'(first|refine zgd ?_|fail)
  first|apply Ya en89|apply Yb en89
  exact za
  exact rfl
  exactλ_ hw=>(p3 (hc.mono zc0) (hd.mono zc0) hw)
  repeat'(first|refine zgd ?_|fail)
  apply Yi H
  ·exact zc0
  exact zc4
 rw[Td h4]at p3
 have h5:decide (c.clm=d.clm)=decide (c.ss.map (·.xs)=d.ss.map (·.xs)):=decide_eq_decide.2 ⟨λh=>(hce.1 h).2.2.2.2,λh=>hce.2 ⟨h1,h2,h3,h4,h⟩⟩
 rw[h5]
 by_cases h6:c.ss.length=d.ss.length
 rotate_left
 ·rw[Ti (λe=>h6 (by have:=TE List.length e;rwa [TB,TB]at this))]
  repeat'(first|refine zgc ?_|(refine zge ?_ ?_<;>intro _<;>try exact zo)|(refine zgh ?_;intro _)|fail)
  first|apply Ya en65|apply Yb en65
  exact za
  exact rfl
  exactλ_ hw=>(p1 (hc.mono zc0) (hd.mono zc0) hw)
  repeat'(first|refine zgd ?_|fail)
  first|apply Ya en89|apply Yb en89
  exact za
  exact rfl
  exactλ_ hw=>(p2 (hc.mono zc0) (hd.mono zc0) hw)
  repeat'(first|refine zgd ?_|fail)
  first|apply Ya en89|apply Yb en89
  exact za
  exact rfl
  exactλ_ hw=>(p3 (hc.mono zc0) (hd.mono zc0) hw)
  repeat'(first|refine zgd ?_|(refine zge ?_ ?_<;>intro _<;>try exact zo)|fail)
  apply Yi H
  ·exact zc0
  exact zc4
 repeat'(first|refine zgc ?_|(refine zge ?_ ?_<;>intro _<;>try exact zo)|(refine zgh ?_;intro _)|fail)
 first|apply Ya en65|apply Yb en65
 exact za
 exact rfl
 exactλ_ hw=>(p1 (hc.mono zc0) (hd.mono zc0) hw)
 repeat'(first|refine zgd ?_|fail)
 first|apply Ya en89|apply Yb en89
 exact za
 exact rfl
 exactλ_ hw=>(p2 (hc.mono zc0) (hd.mono zc0) hw)
 repeat'(first|refine zgd ?_|fail)
 first|apply Ya en89|apply Yb en89
 exact za
 exact rfl
 exactλ_ hw=>(p3 (hc.mono zc0) (hd.mono zc0) hw)
 repeat'(first|refine zgd ?_|(refine zge ?_ ?_<;>intro _<;>try exact zo)|fail)
 rename_i g2 g3 _ _
 refine Yg (λk:Nat=>[(5,.int .i64 (k:Nat)),(3,.pointer (some ⟨g3,0,none⟩)),(2,.pointer (some ⟨g2,0,none⟩))]) (λ_=>clA g3 d::clA g2 c::H) (λk=>k<=c.ss.length/\(c.ss.take k).map (·.xs)=(d.ss.take k).map (·.xs)) (λk=>c.ss.length-k) 0 ⟨Tm _,by simp⟩ ?_ (λw hw=>hw) ?_
 ·exact zc1
 rintro k ⟨hk,hz⟩ K hK
 have hcs:Rd B w0 (clA g3 d::clA g2 c::H) c.sA (c.ss.flatMap rowF):=hc.st.cons.cons
 have hds:Rd B w0 (clA g3 d::clA g2 c::H) d.sA (d.ss.flatMap rowF):=hd.st.cons.cons
 by_cases hlt:k<c.ss.length
 ·obtain⟨a,ha⟩:∃a,c.ss[k]? =some a:=⟨_,Ta hlt⟩
  obtain⟨b,hb⟩:∃b,d.ss[k]? =some b:=⟨_,Ta (by omega)⟩
  have ham:=Tc ha
  have hbm:=Tc hb
  have p4:=λ{H':List HP}{w:World}(hc:c.In B w0 H') (hd:d.In B w0 H') (hw:St B w0 H' w)=>J0 a.xs b.xs (cap:=a.cap) (cap2:=b.cap) (hc.sl a ham) (hd.sl b hbm) (hc.sw a ham) (hd.sw b hbm) hw
  by_cases he:a.xs=b.xs
  ·rw[Td he]at p4
   repeat'(first|refine zgb ?_|(refine zge ?_ ?_<;>intro _<;>try exact zo)|fail)
   apply XA [0,1,2,3,4,5,6,7,8,9,10,11] []
   kernel_rfl
   kernel_rfl
   (simp only[Yh,nthO];rfl)
   exact rfl
   repeat'(first|refine zgd ?_|fail)
   first|apply Ya en89|apply Yb en89
   exact za
   exact rfl
   exactλ_ hw=>(p4 (hc.mono zc0) (hd.mono zc0) hw)
   repeat'(first|(apply Yl;(repeat(first|with_reducible exact YW|(with_reducible apply YL;(repeat(first|with_reducible exact Ys|with_reducible apply YA))))))|refine zgd ?_|fail)
   ·show Perm H (H++[])
    exact zc29
   repeat'(first|fail)
   apply hK (k+1)
   ·exact zc95
   ·omega
   ·exact zc1
   exact zc17
  ·rw[Ti he]at p4
   have hne:¬(c.ss.map (·.xs)=d.ss.map (·.xs)):=λe=>by
    have h1:(c.ss.map (·.xs))[k]? =(d.ss.map (·.xs))[k]? :=by rw[e]
    exact YvI
   rw[Ti hne]
   clear hK
   repeat'(first|refine zgb ?_|(refine zge ?_ ?_<;>intro _<;>try exact zo)|fail)
   apply XA [0,1,2,3,4,5,6,7,8,9,10,11] []
   kernel_rfl
   kernel_rfl
   (simp only[Yh,nthO];rfl)
   exact rfl
   repeat'(first|refine zgd ?_|fail)
   first|apply Ya en89|apply Yb en89
   exact za
   exact rfl
   exactλ_ hw=>(p4 (hc.mono zc0) (hd.mono zc0) hw)
   repeat'(first|(apply Yl;(repeat(first|with_reducible exact YW|(with_reducible apply YL;(repeat(first|with_reducible exact Ys|with_reducible apply YA))))))|refine zgd ?_|fail)
   ·show Perm H (H++[])
    exact zc29
   repeat'(first|fail)
   apply Yi H
   ·exact zc0
   exact zc4
 ·rw[T0 (by omega),T0 (by omega)]at hz
  rw[Td hz]
  clear hK
  repeat'(first|refine zgc ?_|(refine zge ?_ ?_<;>intro _<;>try exact zo)|fail)
  apply Yi H
  ·exact zc0
  exact zc4
theorem Yew(c d:List ClM){A A2:Option Addr}{cap cap2:Nat}(hc:CIn B w0 H A c)(hd:CIn B w0 H A2 d)(hw:St B w0 H w):
 CX B w0 44 [.slice A c.length cap,.slice A2 d.length cap2] w λu K=>u=.bool (decide (c.map ClM.clm=d.map ClM.clm))/\K=H:=by
 refine Yc Tryz.func44 Tryz.ntmps44 rfl rfl hw ?_
 have hcl:=hc.ln
 have hdl:=hd.ln
 have hcr:=hc.rd
 have hdr:=hd.rd
 by_cases h6:c.length=d.length
 rotate_left
 ·rw[Ti (λe=>h6 (by have:=TE List.length e;grind))]
  repeat'(first|refine zgb ?_|(refine zge ?_ ?_<;>intro _<;>try exact zo)|fail)
  exact zc11
 repeat'(first|refine zgb ?_|(refine zge ?_ ?_<;>intro _<;>try exact zo)|fail)
 refine Yg (λk:Nat=>[(5,.int .i64 (k:Nat)),(0,.slice A c.length cap),(1,.slice A2 d.length cap2)]) (λ_=>H) (λk=>k<=c.length/\(c.take k).map ClM.clm=(d.take k).map ClM.clm) (λk=>c.length-k) 0 ⟨Tm _,by simp⟩ ?_ (λw hw=>hw) ?_
 ·exact zc1
 rintro k ⟨hk,hz⟩ K hK
 by_cases hlt:k<c.length
 ·obtain⟨a,ha⟩:∃a,c[k]? =some a:=⟨_,Ta hlt⟩
  obtain⟨b,hb⟩:∃b,d[k]? =some b:=⟨_,Ta (by omega)⟩
  have hax:=hc.x a (Tc ha)
  have hbx:=hd.x b (Tc hb)
  have p2:=λ{H':List HP}{w:World}(hx:a.In B w0 H') (hy:b.In B w0 H') (hw:St B w0 H' w)=>YcD a b hx hy hw
  by_cases he:a.clm=b.clm
  ·rw[Td he]at p2
   repeat'(first|refine zgb ?_|(refine zge ?_ ?_<;>intro _<;>try exact zo)|fail)
   apply XA [0,1,2,3,4,5,6,7,8,9] []
   kernel_rfl
   kernel_rfl
   (simp only[Yh,nthO];rfl)
   exact rfl
   repeat'(first|refine zgd ?_|fail)
   first|apply Ya Ym0|apply Yb Ym0
   exact za
   exact rfl
   exactλ_ hw=>(p2 hax hbx hw)
   repeat'(first|(apply Yl;(repeat(first|with_reducible exact YW|(with_reducible apply YL;(repeat(first|with_reducible exact Ys|with_reducible apply YA))))))|refine zgd ?_|fail)
   ·show Perm H (H++[])
    exact zc29
   repeat'(first|fail)
   apply hK (k+1)
   ·exact zc95
   ·omega
   ·exact zc1
   exact zc17
  ·rw[Ti he]at p2
   have hne:¬(c.map ClM.clm=d.map ClM.clm):=λe=>by
    have h1:(c.map ClM.clm)[k]? =(d.map ClM.clm)[k]? :=by rw[e]
    exact YvI
   rw[Ti hne]
   clear hK
   repeat'(first|refine zgb ?_|(refine zge ?_ ?_<;>intro _<;>try exact zo)|fail)
   apply XA [0,1,2,3,4,5,6,7,8,9] []
   kernel_rfl
   kernel_rfl
   (simp only[Yh,nthO];rfl)
   exact rfl
   repeat'(first|refine zgd ?_|fail)
   first|apply Ya Ym0|apply Yb Ym0
   exact za
   exact rfl
   exactλ_ hw=>(p2 hax hbx hw)
   repeat'(first|(apply Yl;(repeat(first|with_reducible exact YW|(with_reducible apply YL;(repeat(first|with_reducible exact Ys|with_reducible apply YA))))))|refine zgd ?_|fail)
   ·show Perm H (H++[])
    exact zc29
   repeat'(first|fail)
   exact zc4
 ·rw[T0 (by omega),T0 (by omega)]at hz
  rw[Td hz]
  repeat'(first|refine zgc ?_|(refine zge ?_ ?_<;>intro _<;>try exact zo)|fail)
  exact zc4
theorem YqL{n:Net}{q:List Rqs}{s:Sch}(h:(YN n q s).2.2=0):chkE n q s (YN n q s).1=(-1,0):=by
 unfold chkE
 rw[Tf (λe=>e h),Tf (λe=>e rfl)]
 exact Zm λk _ _=>Tn rfl
theorem YqE{x:List (Cel×Int)}{a:Int}(h:∀z∈x,a<=z.2):a<=Y4 x a:=by
 unfold Y4
 grind
theorem YiS{S:Int->Option (List Int)}{len per:Int}(hp:1<=per){r:Int×Int×List Int}:∀{fuel:Nat}{rel:Int}{b:Int×Int×List Int},Wg S len per fuel rel b=some r->
 b.1<=r.1/\∀i:Nat,i<fuel->rel+i*per<len->∃l,S (rel+i*per)=some l/\JE l-(rel+i*per)+1<=r.1
 |0,rel,b,h=>by
  obtain rfl:=Tv (show some b=some r from h)
  simp_all
 |fuel+1,rel,b,h=>by
  rw[Wg]at h
  split at h
  ·rename_i hle
   obtain rfl:=Tv h
   refine⟨R7 _,λi _ hi=>?_⟩
   have:0<=(i:Int)*per:=Int.mul_nonneg (by omega) (by omega)
   omega
  ·cases hS:S rel with
   |none=>simp_all
   |some l=>
    rw[hS]at h
    obtain⟨h1,h2⟩:=YiS hp h
    have h3:b.1<=r.1/\JE l-rel+1<=r.1:=by
     grind
    refine⟨h3.1,λi hi hlt=>?_⟩
    cases i with
    |zero=>simp_all
    |succ i=>
     grind
theorem YbJ{len a:Int}{keep:Cel->Bool}:∀{cs:List Cel}{k:Nat},(∀p∈Xm len a cs k,keep p.1=true)->(Xm len a cs k).length<=slC len (cs.filter keep) a
 |[],k,_=>Tm _
 |c::cs,k,h=>by
  unfold Xm at h⊢
  rw[SH]
  by_cases hc:c.1=a.tmod len/\k≠0
  ·rw[Tn hc]at h⊢
   have h1:=h (c,a) Tz
   have h2:=YbJ (len:=len) (a:=a) (keep:=keep) (cs:=cs) (k:=k-1) λp hp=>h p (TA _ hp)
   rw[Tn h1,YeG,Tn hc.1,TM]
   omega
  ·rw[Tf hc]at h⊢
   have h2:=YbJ (len:=len) (a:=a) (keep:=keep) (cs:=cs) (k:=k) h
   split
   ·rw[YeG];omega
   ·exact h2
theorem Yjy{len:Int}{cs:List Cel}{keep:Cel->Bool}:∀{f k:Nat}{a:Int},(∀p∈hopP len cs f k a,keep p.1=true)->(hopP len cs f k a).length<=cntS len (cs.filter keep) (Y4 (hopP len cs f k a) a-a).toNat a
 |0,k,a,_=>Tm _
 |f+1,k,a,h=>by
  rw[hopP]at h⊢
  have h1:=YbJ (keep:=keep) (λp hp=>h p (RN _ hp))
  have h2:=Yjy (f:=f) (keep:=keep) (λp hp=>h p (TU _ hp))
  rw[To,VX]
  have hsl:∀z∈Xm len a cs k,z.2=a:=λz hz=>WD hz
  generalize hr:hopP len cs f (k-(Xm len a cs k).length) (a+1)=r at h2
  generalize hg:Xm len a cs k=g at h1 hsl
  have hlo:∀z∈r,a+1<=z.2:=λz hz=>by rw[<-hr]at hz;exact(YcL hz).1
  cases hrl:r.getLast? with
  |some z=>
   have hz:=hlo z (NJ hrl)
   have e1:∀b,Y4 r b=z.2+1:=λb=>by unfold Y4;rw[hrl]
   rw[e1]at h2⊢
   rw[show(z.2+1-a).toNat=(z.2+1-(a+1)).toNat+1 by omega,cntS]
   omega
  |none=>
   obtain rfl:=Na.1 hrl
   rw[show Y4 [] (Y4 g a)=Y4 g a from rfl]
   cases hgl:g.getLast? with
   |some z=>
    have hz:=hsl z (NJ hgl)
    have e1:Y4 g a=a+1:=by unfold Y4;rw[hgl];simp only[];omega
    rw[e1,show(a+1-a).toNat=0+1 by omega,cntS]
    simp only[Ry]
    omega
   |none=>
    obtain rfl:=Na.1 hgl
    exact Tm _
theorem Ykr{len:Int}{C:Lk->List Cel}{endd:Int}{keep:Cel->Bool}:∀{ls:List Lk}{a:Int},(runP len C endd ls a).length=XD ls->(∀p∈runP len C endd ls a,keep p.1=true)->WayT len (λl=>(C l).filter keep) ls a (Y4 (runP len C endd ls a) a)
 |[],a,_,_=>R7 _
 |l::ls,a,h,hk=>by
  have h0:XD (l::ls)=Y7 l+XD ls:=by unfold XD;rw[Rh,NK]
  have h1:=YaE len (C l) (endd-a).toNat (Y7 l) a
  unfold runP at h hk⊢
  by_cases hs:(hopP len (C l) (endd-a).toNat (Y7 l) a).length<Y7 l
  ·rw[Tn hs]at h
   omega
  rw[Tf hs]at h hk⊢
  have h2:=Ya0 len C endd ls (Y4 (hopP len (C l) (endd-a).toNat (Y7 l) a) a)
  rw[To]at h
  rw[VX]
  refine⟨Y4 (hopP len (C l) (endd-a).toNat (Y7 l) a) a,YqE λz hz=>(YcL hz).1,?_,Ykr (by omega) λp hp=>hk p (TU _ hp)⟩
  have:=Yjy (f:=(endd-a).toNat) (keep:=keep) λp hp=>hk p (RN _ hp)
  exact T9 (by omega) this
end Go.Proofs.YtaholidehobiiaaGreatDoor
namespace Go.Eng
open Go.RowKit
end Go.Eng
namespace Go.Proofs.YtaholidehobiiaaGreatDoor
open Go.RowKit Go.Eng Go.Nw Go.Rt
theorem Yki(q:List RqM){A:Option Addr}{cap B:Nat}{w0:World}{H:List HP}{w:World}(hl:q.length<=1000000000000)(hr:Rd B w0 H A (q.flatMap rqF))(hw:St B w0 H w):
 CX B w0 23 [.slice A q.length cap] w λv K=>∃A2 cap2,v=.slice A2 (RqM.fl q).length cap2/\K=flws A2 cap2 (RqM.fl q)::H:=by
 refine Yc Tryz.func23 Tryz.ntmps23 rfl rfl hw ?_
 repeat'(first|(apply Y1 T;exact rfl;exact rfl;intro g2)|apply(zs2 ?_)|apply(zs65 ?_)|apply(zs68 ?_)|apply(zs69 ?_)|apply(zs70 ?_)|apply(zs73 ?_)|fail)
 refine Yg (λz:FlM=>[(4,.int .i64 (z.i:Nat)),(3,.slice z.A (RqM.fl (q.take z.i)).length z.cap),(0,.slice A q.length cap)]) (λz=>flws z.A z.cap (RqM.fl (q.take z.i))::H) (λz=>z.i<=q.length) (λz=>q.length-z.i) ⟨0,some ⟨g2,0,none⟩,0⟩ (Tm _) ?_ (λw hw=>hw) ?_
 ·exact zc1
 rintro⟨i,A2,cap2⟩ hi K hK
 dsimp only at hi⊢
 have hlen:(RqM.fl (q.take i)).length=i:=YsH
 have hr':=hr.cons (X:=flws A2 cap2 (RqM.fl (q.take i)))
 by_cases hlt:i<q.length
 ·obtain⟨x,hx⟩:∃x,q[i]? =some x:=⟨_,Ta hlt⟩
  have hst:RqM.fl (q.take (i+1))=RqM.fl (q.take i)++[x.f]:=zc91
  repeat'(first|(apply Ud T (vs:=[.int .i64 x.f.1,.int .i64 x.f.2.1,.int .i64 x.f.2.2.1,.int .i64 x.f.2.2.2.1,.int .i64 x.f.2.2.2.2.1,.int .i64 x.f.2.2.2.2.2]);exact rfl;exact hr';exact hx;exactλ_=>rfl;(iterate 6 exact rfl))|apply(zs1 ?_)|apply(zs2 ?_)|(apply zg2;refine zs58 ?_)|(apply zg4;refine zs9 ?_)|(apply zg5;refine zs57 ?_)|(apply(zs17 ?_ ?_)<;>intro _<;>try exact zo)|(apply zg13;refine zs30 ?_)|(apply zg21;(refine zs49 ?_;intro _ _))|(apply zg26;(refine zs56 ?_;intro _))|apply(zs65 ?_)|apply(zs68 ?_)|apply(zs69 ?_)|apply(zs70 ?_)|(apply zg27;refine zs71 ?_)|apply(zs73 ?_)|apply(zs76 ?_)|apply(zs79 ?_)|fail)
  rename_i A' cap'
  rw[Qi,<-hst,show(RqM.fl (q.take i)).length+1=(RqM.fl (q.take (i+1))).length from by rw[hst];simp]
  apply hK ⟨i+1,A',cap'⟩
  ·show i+1<=_
   omega
  ·exact zc39
  ·exact zc1
  ·exact zc0
 ·obtain rfl:i=q.length:=by omega
  rw[TV]
  repeat'(first|apply(zs1 ?_)|apply(zs2 ?_)|(apply zg4;refine zs9 ?_)|(apply(zs17 ?_ ?_)<;>intro _<;>try exact zo)|apply(zs65 ?_)|apply(zs68 ?_)|apply(zs69 ?_)|apply(zs70 ?_)|(apply zg27;refine zs72 ?_)|apply(zs74 ?_)|apply(zs75 ?_)|apply(zs80 ?_)|apply(zs81 ?_)|fail)
  exact zc97
theorem Yad{len a:Int}:∀{cs:List Cel}{k:Nat}{p:Cel×Int},p∈Xm len a cs k->p.1∈cs
 |[],k,p,h=>by cases h
 |c::cs,k,p,h=>by
  unfold Xm at h
  split at h
  ·rcases TL.1 h with rfl|h
   ·simp_all
   ·exact TA _ (Yad h)
  ·exact TA _ (Yad h)
theorem Qj{len:Int}{cs:List Cel}:∀{f k:Nat}{a:Int}{p:Cel×Int},p∈hopP len cs f k a->p.1∈cs
 |0,k,a,p,h=>by cases h
 |f+1,k,a,p,h=>by
  rcases TI.1 h with h|h
  ·exact Yad h
  ·exact Qj h
theorem YgH{s:Sch}{id len endd:Int}:∀{ls:List Lk}{a:Int}{p:Cel×Int},p∈runP len (Xq s id) endd ls a->p.1∈s.cells
 |[],a,p,h=>by cases h
 |l::ls,a,p,h=>by
  unfold runP at h
  split at h
  ·exact(Re.1 (Qj h)).1
  ·rcases TI.1 h with h|h
   ·exact(Re.1 (Qj h)).1
   ·exact YgH h
theorem Ymm{l m:List Cel}(hnd:m.Nodup)(h:l.Sublist m):l=m.filter λc=>decide (c∈l):=by
 induction h with
 |slnil=>rfl
 |@cons l m a h ih=>
  grind
 |@cons_cons l m a h ih=>
  have h3:m.filter (λc=>decide (c∈a::l))=m.filter (λc=>decide (c∈l)):=by grind [SJ]
  grind
variable {n:Net}{s:Sch}
theorem Yl9{f:Flw}{r:List Int}(h:(Xl n s f r).2=0){i:Nat}(hi:f.2.2.2.2.1+i*f.2.2.2.1<s.len):
 (runP s.len (Xq s f.1) (f.2.2.2.2.1+i*f.2.2.2.1+f.2.2.2.1) (Yp n r) (f.2.2.2.2.1+i*f.2.2.2.1)).length=XD (Yp n r)/\
 Y4 (runP s.len (Xq s f.1) (f.2.2.2.2.1+i*f.2.2.2.1+f.2.2.2.1) (Yp n r) (f.2.2.2.2.1+i*f.2.2.2.1)) (f.2.2.2.2.1+i*f.2.2.2.1)<=f.2.2.2.2.1+i*f.2.2.2.1+(Xl n s f r).1.1:=by
 obtain⟨hw,b,hb,he⟩:=OY h
 obtain⟨-,-,hf,-,hck⟩:=Ye0 hw
 obtain⟨-,hp,h0,-,hd⟩:=XK hf
 obtain⟨-,hloss,hne,-,-⟩:=OJ hck
 have hii:(i:Int)<=i*f.2.2.2.1:=by
  have:=SA hp.1 (show(0:Int)<=i by omega)
  rw[Int.mul_one]at this
  exact this
 obtain⟨-,h2⟩:=YiS hp.1 (show Wg (Vk n s f r) s.len f.2.2.2.1 s.len.toNat f.2.2.2.2.1 (0,0,[])=some b from hb)
 obtain⟨l,h3,h4⟩:=h2 i (by omega) hi
 unfold Vk at h3
 rw[YcT]at h3
 split at h3
 ·cases h3
 rename_i hfull
 obtain rfl:=Tv h3
 have hrl:=Ya0 s.len (Xq s f.1) (f.2.2.2.2.1+i*f.2.2.2.1+f.2.2.2.1) (Yp n r) (f.2.2.2.2.1+i*f.2.2.2.1)
 have hn:1<=XD (Yp n r):=by
  cases hl:Yp n r with
  |nil=>exact absurd hl hne
  |cons x xs=>
   have:=hloss x (by rw[hl];simp)
   unfold XD
   rw[Rh,NK]
   unfold Y7
   omega
 have hla:=Yd4 (x:=runP s.len (Xq s f.1) (f.2.2.2.2.1+i*f.2.2.2.1+f.2.2.2.1) (Yp n r) (f.2.2.2.2.1+i*f.2.2.2.1)) (a:=f.2.2.2.2.1+i*f.2.2.2.1) (λe=>by rw[e]at hfull;simp only[Ry]at hfull;omega)
 rw[he]
 refine⟨by omega,?_⟩
 show _<=_+b.1
 omega
theorem YjM{q q':List Rqs}{t:Sch}(hc:(YN n q s).2.2=0)(hq:∀x∈q',x∈q)(hfl:(Yu n.nodes (Y0 q')).2=0)(hlen:t.len=s.len)(hoff:t.off=s.off)(hsub:t.cells.Sublist s.cells)(hcf:∀c∈t.cells,∃x∈q',x.1.1=Xf c)
 (hu:∀x∈q',∀c∈s.cells,Oo n s x c=true->c∈t.cells):(YN n q' t).2.2=0:=by
 obtain⟨h1,h2⟩:=XC.1 hc
 have hsem:=ZV.1 (XT.1 h1)
 have hsem2:=hsem.sub hlen hoff hsub
 have hsem3:Sem n (Y0 q') t:=by
  refine⟨hsem2.ck,hfl,λf hf=>?_,hsem2.frm,λc hcm=>⟨(hsem2.good c hcm).1,?_⟩,hsem2.once,hsem2.clear⟩
  ·obtain⟨y,hy,rfl⟩:=TC.1 hf
   exact hsem2.per _ (TC.2 ⟨y,hq y hy,rfl⟩)
  ·obtain⟨x,hx,e⟩:=hcf c hcm
   exact ZF.2 ⟨x.1,TC.2 ⟨x,hx,rfl⟩,e⟩
 have hft:=ZA.2 hsem2.frm
 have hnd:=Ybz hsem.frm.ord
 refine XC.2 ⟨XT.2 (ZV.2 hsem3),λx hx=>?_⟩
 have hw:=h2 x (hq x hx)
 unfold O7 at hw⊢
 rw[Tq]at hw⊢
 refine⟨hw.1,?_⟩
 have hlate:=hw.2
 simp only[RS]at hlate
 unfold JG
 rw[RS,RD]
 intro r hr
 obtain⟨k1,k2⟩:=YhB hlate hr
 obtain⟨hway,-⟩:=OY k1
 obtain⟨a1,a2,a3,a4,a5⟩:=Ye0 hway
 have hwayt:wayE n t x.1 r=0:=by
  unfold wayE
  rw[hft,Tf (by rintro(h|h|h);exact h a1;cases h;exact h a3),Tf (λe=>e (by rw[hlen];exact a4))]
  exact a5
 have:=Yet hwayt λi hi=>by
  rw[hlen]at hi
  obtain⟨e1,e2⟩:=Yl9 k1 hi
  refine⟨_,Int.le_trans e2 (by omega),?_⟩
  have hkeep:=Ykr (keep:=λc=>decide (c∈t.cells)) e1 λp hp=>Td (by
   have hps:p.1∈s.cells:=YgH hp
   refine hu x hx p.1 hps ?_
   refine T8.2 ⟨r,hr,?_⟩
   have hii:(i:Int)<=i*x.1.2.2.2.1:=by
    have hp1:=(XK a3).2.1.1
    have:=SA hp1 (show(0:Int)<=i by omega)
    rw[Int.mul_one]at this
    exact this
   have h0:=(XK a3).2.2.1.1
   refine T8.2 ⟨i,TQ.2 (by omega),?_⟩
   rw[Td hi,RO]
   exact T8.2 ⟨p,hp,Td rfl⟩)
  rw[hlen]
  refine hkeep.mono λl a=>?_
  have hte:∀p:Cel->Bool,t.cells.filter p=(s.cells.filter λc=>decide (c∈t.cells)).filter p:=λp=>TE (List.filter p) (Ymm hnd hsub)
  unfold slC Xq
  rw[hte,SN,SN,SN,SN]
  refine Nat.le_of_eq (TE List.length (SJ λc _=>?_))
  cases(decide (c∈t.cells))<;>simp
 unfold badR
 rw[Tt]
 omega
variable {n:Net}{s:Sch}
theorem YpZ{x:Rqs}{c:Cel}(h:Oo n s x c=true):Xf c=x.1.1:=by
 obtain⟨r,-,h⟩:=T8.1 h
 obtain⟨i,-,h⟩:=T8.1 h
 rw[Tq]at h
 obtain⟨p,hp,e⟩:=T8.1 h.2
 obtain rfl:=Rj e
 have:∀{ls:List Lk}{endd a:Int}{p:Cel×Int},p∈runP s.len (Xq s x.1.1) endd ls a->Xf p.1=x.1.1:=by
  intro ls
  induction ls with
  |nil=>intro endd a p h;cases h
  |cons l ls ih=>
   intro endd a p h
   have hop:∀{f k:Nat}{a:Int},p∈hopP s.len (Xq s x.1.1 l) f k a->Xf p.1=x.1.1:=λh=>(Rj (Re.1 (Qj h)).2).1
   unfold runP at h
   split at h
   ·exact hop h
   ·rcases TI.1 h with h|h
    ·exact hop h
    ·exact ih h
 exact this hp
theorem Yjd{q q':List Rqs}{id:Int}(h:(YN n q s).2.2=0)(hq:∀x,x∈q'↔x∈q/\x.1.1≠id)(hfl:(Yu n.nodes (Y0 q')).2=0):(YN n q' (OE s id)).2.2=0:=by
 obtain⟨h1,-⟩:=XC.1 h
 have hsem:=ZV.1 (XT.1 h1)
 refine YjM h (λx hx=>((hq x).1 hx).1) hfl rfl rfl S8 (λc hc=>?_) λx hx c hc hu=>Re.2 ⟨hc,?_⟩
 ·obtain⟨hc1,hc2⟩:=Re.1 hc
  obtain⟨f,hf,e⟩:=ZF.1 (hsem.good c hc1).2
  obtain⟨x,hx,rfl⟩:=TC.1 hf
  exact⟨x,(hq x).2 ⟨hx,λe2=>(Rj hc2) (e.symm.trans e2)⟩,e⟩
 ·rw[Tt,YpZ hu]
  exact((hq x).1 hx).2
def ext1(p:Pln)(x:Rqs)(s:Sch×Int):Option Pln×Int:=if s.2≠0 then(none,18)else finE p.n (insQ p.q x) s.1 0
noncomputable def extP(p:Pln)(f:Flw):Option Pln×Int:=
 if chkP p≠0 then(none,1)else if hasQ p.q f.1=true then(none,6)
 else if(Yu p.n.nodes (Y0 (insQ p.q (f,[])))).2≠0 then(none,1)else if p.s.len.tmod f.2.2.2.1≠0 then(none,11)
 else if(Zd p.n [f]).2.2≠0 then(none,(Zd p.n [f]).2.2)
 else if(XQ p.n p.q p.s (reqE p.n f).1).2=0 then finE p.n (insQ p.q (reqE p.n f).1) (XQ p.n p.q p.s (reqE p.n f).1).1 0
 else if(Zo p.n f).2≠0 then(none,18)else ext1 p (Zo p.n f).1 (XQ p.n p.q p.s (Zo p.n f).1)
theorem PlnOk.chk{p:Pln}(h:PlnOk p):chkP p=0:=by
 have hrq:(rqsE p.n p.q).2=0:=Rn.1 λh1=>by
  have:=h.cert
  unfold YN at this;rw[Tn h1]at this;exact h1 this
 unfold chkP
 rw[Tf (λe=>e (Ut hrq).1),Tf (by rw[h.cert];omega),Tf (λe=>e h.cert),Tf,Tf]
 ·rintro(h1|h1)
  ·exact h1 h.free
  ·exact h1 h.f.symm
 ·rw[h.c,YqL h.cert];exactλe=>e rfl
variable {A:Option Addr}{cap B k gv:Nat}{w0 w:World}{H:List HP}
theorem Yj8(q:List RqM)(hl:q.length<=1000000000000)(hr:Rd B w0 H A (q.flatMap rqF))(hw:St B w0 H w):
 CX B w0 98 [.slice A q.length cap] w λv K=>∃A2 cap2,v=.slice A2 (RqM.fl q).length cap2/\K=flws A2 cap2 (RqM.fl q)::H:=by
 refine Yc Tryz.func98 Tryz.ntmps98 rfl rfl hw ?_
 refine zX8 ?_
 refine Jy 53 6 ?_
 refine Yg (λz:FlM=>[(8,.int .i64 (z.i:Nat)),(7,.int .i64 q.length),(6,.slice A q.length cap),(3,.slice z.A (RqM.fl (q.take z.i)).length z.cap)]) (λz=>flws z.A z.cap (RqM.fl (q.take z.i))::H) (λz=>z.i<=q.length) (λz=>q.length-z.i) ⟨0,none,0⟩ (Tm _) ?_ (λw hw=>hw) ?_
 ·exact zc1
 rintro⟨i,A2,cap2⟩ hi K hK
 dsimp only at hi⊢
 have hlen:(RqM.fl (q.take i)).length=i:=YsH
 have hr':=hr.cons (X:=flws A2 cap2 (RqM.fl (q.take i)))
 by_cases hlt:i<q.length
 ·obtain⟨x,hx⟩:∃x,q[i]? =some x:=⟨_,Ta hlt⟩
  have hst:RqM.fl (q.take (i+1))=RqM.fl (q.take i)++[x.f]:=zc91
  repeat'(first|(apply Yk T;exact rfl;exact zm;exact rfl;exact zv;exact rfl;exact rfl)|refine zgd ?_|(refine zge ?_ ?_<;>intro _<;>try exact zo)|(refine zgh ?_;intro _)|(refine zgi ?_;intro _ _)|fail)
  rename_i A' cap'
  rw[Qi,<-hst,show(RqM.fl (q.take i)).length+1=(RqM.fl (q.take (i+1))).length from by rw[hst];simp]
  apply hK ⟨i+1,A',cap'⟩
  ·show i+1<=_
   omega
  ·exact zc39
  ·exact zc1
  ·exact zc0
 ·obtain rfl:i=q.length:=by omega
  rw[TV]
  refine zX1 ?_<;>intros
  exact zc97
theorem YfL(a:RqM)(f:Flw)(hw:St B w0 H w):
 CX B w0 96 [rqV a,flwV f] w λv K=>v=.int .i64 (cmpI a.f.1 f.1)/\K=H:=by
 refine Yc Tryz.func96 Tryz.ntmps96 rfl rfl hw ?_
 refine Yvm ?_<;>intros
 apply Yi H
 ·exact zc20
 exact zc24
theorem Yh5(l:List RqM)(c:Flw)(ho:Ymx l)(hlen:l.length<=1000000000)(hr:Rd B w0 H A (l.flatMap rqF))(hw:St B w0 H w):
 CX B w0 95 [.slice A l.length cap,flwV c,.func (.func 96) #[] #[]] w λv K=>
  v=.tuple #[.int .i64 (posQ (l.map RqM.rq) c.1:Nat),.bool (hasQ (l.map RqM.rq) c.1)]/\K=H:=by
 refine Yc Tryz.func95 Tryz.ntmps95 rfl rfl hw ?_
 (apply YY;apply Yx;apply Yr;exact rfl;exact rfl;intro g)
 refine zX8 ?_
 have hr:=hr.cons (X:=blk g (.cells (flwF c).toArray 53 (0,0)))
 refine Yaj (λ(lo hi:Nat)=>[(9,.int .i64 lo),(10,.int .i64 hi),(8,.int .i64 l.length),(0,.slice A l.length cap),(2,.func (.func 96) #[] #[]),(4,.pointer (some ⟨g,0,none⟩))]) (λ_ _=>blk g (.cells (flwF c).toArray 53 (0,0))::H)
  (λlo hi=>lo<=hi/\hi<=l.length/\(∀i x,i<lo->l[i]? =some x->x.f.1<c.1)/\(∀i x,hi<=i->l[i]? =some x->¬x.f.1<c.1)) (λlo hi=>hi-lo) 0 l.length ⟨by omega,by omega,λj x hj=>by omega,λj x h1 h2=>by simp_all⟩ ?_ (λw hw=>hw) ?_
 ·exact zc1
 rintro lo hi ⟨h1,h2,h3,h4⟩ K hK
 by_cases hlt:lo<hi
 ·obtain⟨b,hb⟩:∃b,l[(((lo:Int)+hi)/2).toNat]? =some b:=⟨_,Ta (by omega)⟩
  have hm:(((lo:Int)+hi)/2).toNat=(lo+hi)/2:=by omega
  have hb2:l[(lo+hi)/2]? =some b:=by grind
  repeat'(first|((first|apply Y3 (cs:=[])|apply Xo (cs:=[]));exact rfl;exact en96;exact za;exact rfl;exactλ_ hw=>(YfL b c hw))|(apply zg28;refine zs84 ?_)|refine zgd ?_|(refine zge ?_ ?_<;>intro _<;>try exact zo)|fail)
  ·rename_i hc
   rw[YcK]at hc
   apply hK ((lo+hi)/2+1) hi
   ·exact zc52
   ·omega
   ·exact zc1
   exact zc17
  ·rename_i hc
   have hc:¬b.f.1<c.1:=λh=>by have:=YcK.2 h;omega
   apply hK lo ((lo+hi)/2)
   ·exact zc48
   ·omega
   ·exact zc1
   exact zc17
 ·obtain rfl:lo=hi:=by omega
  have hpe:posQ (l.map RqM.rq) c.1=lo:=YeP (by rw[TB];exact h2) (λi x hi hx=>by
   rw[TR]at hx
   cases hl:l[i]? with
   |none=>rw[hl]at hx;cases hx
   |some y=>rw[hl]at hx;cases hx;exact h3 i y hi hl) λx hx=>by
   rw[TR]at hx
   cases hl:l[lo]? with
   |none=>rw[hl]at hx;cases hx
   |some y=>exact Yv2
  rw[hpe]
  have hfd:hasQ (l.map RqM.rq) c.1=true↔∃b,l[lo]? =some b/\b.f.1=c.1:=by
   unfold hasQ
   rw[T8]
   constructor
   ·rintro⟨x,hx,he⟩
    obtain⟨b,hb,rfl⟩:=TC.1 hx
    have he:b.f.1=c.1:=Rj he
    obtain⟨j,hj⟩:=TS.1 hb
    rcases Nr j lo with h|rfl|h
    ·have:=h3 j b h hj;omega
    ·exact⟨b,hj,he⟩
    ·obtain⟨d,hd⟩:∃d,l[lo]? =some d:=⟨_,Ta (by have:=(Tj.1 hj).1;omega)⟩
     have:=ho lo j d b h hd hj
     have:=h4 lo d (TJ _) hd
     omega
   ·rintro⟨b,hb,he⟩
    exact⟨b.rq,Sr (Tc hb),Td he⟩
  by_cases hl:lo<l.length
  ·obtain⟨b,hb⟩:∃b,l[lo]? =some b:=⟨_,Ta hl⟩
   repeat'(first|((first|apply Y3 (cs:=[])|apply Xo (cs:=[]));exact rfl;exact en96;exact za;exact rfl;exactλ_ hw=>(YfL b c hw))|(apply zg28;refine zs84 ?_)|refine zgd ?_|(refine zge ?_ ?_<;>intro _<;>try exact zo)|fail)
   ·rename_i h
    apply Yj;apply YM;(iterate 3 exact rfl)
    exact⟨by rw[hfd.2 ⟨b,hb,cmpI_zero.1 h⟩],rfl⟩
   ·rename_i h
    apply Yj;apply YM;(iterate 3 exact rfl)
    have hf0:hasQ (l.map RqM.rq) c.1=false:=NG.2 λe=>by
     obtain⟨b',hb',he⟩:=hfd.1 e
     rw[hb]at hb'
     obtain rfl:=Tv hb'
     exact h (cmpI_zero.2 he)
    exact⟨by rw[hf0],rfl⟩
  ·refine zX19 ?_<;>intros
   apply Yj;apply YM;(iterate 3 exact rfl)
   have hf0:hasQ (l.map RqM.rq) c.1=false:=NG.2 λe=>by
    obtain⟨b',hb',he⟩:=hfd.1 e
    exact hl (Tj.1 hb').1
   exact⟨by rw[hf0],rfl⟩
section
variable {m:Eng.Mode}{n:Shp}{B d:Nat}{w0:World}{ops:Array Oper}{Q:Exit->Act->World->Prop}{rest:List Oper}{env:Env}{H:List HP}{ty:TypeId}{pos:String}{after:Array Edge}{x y lo:Operand}
variable {gv k cap:Nat}
theorem Yg8{g o la ca lb cb:Nat}{tt:TypeId}{cs:Array Value}{xs:List Value}{tys:Array TypeId}(hx:evo env x=some (.slice (some ⟨gv,0,none⟩) la ca))(hy:evo env y=some (.slice (subA (some ⟨g,0,none⟩) o cap 6) lb cb))(hm1:Eng.blk gv (.cells cs tt (0,0))∈H)(hm2:sl 53 6 (some ⟨g,0,none⟩) k cap xs∈H)
 (hne:∀w,St B w0 H w->gv≠g) (hc:0<cap/\cap≠o) (hn:Nat.ble (d+1) n.k=true) (h:VL Tryz.prog none n B w0 ops Q rest ((d,.bool false)::env) H):
 VL Tryz.prog none n B w0 ops Q (⟨some d,.call ⟨.value (.func 195),#[x,y],tys⟩,ty,pos,after,none⟩::rest) env H:=by
 have hsub:subA (some ⟨g,0,none⟩) o cap 6=some ⟨g,o*6,none⟩:=by
  simp_all [subA,Go.Addr.add_lit]
 rw[hsub]at hy
 refine XO (λu K'=>u=.bool false/\K'=H) rfl rfl hn (λa w ha hw=>⟨.bool false,H,w,?_,hw,rfl,rfl⟩) zc70
 have hb:=(hw.blk hm1).1
 rcases Ji (hw.sl hm2)with⟨h0,_⟩|⟨g',cur,e0,g1,_,_,g4,_⟩
 ·cases h0
 injection e0 with e0
 injection e0 with e0
 subst e0
 obtain⟨bb,htl⟩:∃bb,Eng.look T.sl 27=some (53,6,bb):=⟨_,rfl⟩
 obtain⟨_,inf,_,hi,_,_,hsi,_⟩:=YJ (T.slic htl)
 have hr:=run_callFunc_extern (P:=Tryz.prog) Tryz.func195 (by kernel_rfl) (by kernel_rfl) (by kernel_rfl) (e:=Extern.SlicesOverlaps.overlaps #[27,27] #[4]) (by kernel_rfl) #[.slice (some ⟨gv,0,none⟩) la ca,.slice (some ⟨g,o*6,none⟩) lb cb] w
 have hov:=Lib.run_overlaps_apart (P:=Tryz.prog) w 27 4 53 Tryz.underlying27 6 (λw=>by simp_all) ⟨gv,0,none⟩ ⟨g,o*6,none⟩ la ca lb cb (hne w hw) tt 53 cs.size cur.size (by simp[World.shape?,hb]) (by simp[World.shape?,g1]) (by rw[g4];omega) YgU YgU
 have he:a.eval (.func 195)=.func (.func 195) #[] #[]:=rfl
 exact zc57
end
theorem Ytx(l:List Flw)(c:Flw)(i:Nat)(hk:k=1):(l.take i).take i++[c].take k++(l.take i).drop (i+k)=l.take i++[c]:=by
 grind [Ru]
theorem Ytz(l:List Flw)(c:Flw)(i:Nat)(hi:i<=l.length)(hk:k=l.length-i):(l.take i++[c]).take (i+1)++(l.drop i).take k++(l.take i++[c]).drop (i+1+k)=l.take i++c::l.drop i:=YsP
theorem YtB(l:List Flw)(i:Nat)(hi:i<=l.length)(hk:k=l.length-i):l.take (i+1)++(l.drop i).take k++l.drop (i+1+k)=l.take (i+1)++l.drop i:=YsI
theorem YtD(l:List Flw)(c:Flw)(i:Nat)(hi:i<l.length)(hk:k=1):(l.take (i+1)++l.drop i).take i++[c].take k++(l.take (i+1)++l.drop i).drop (i+k)=l.take i++c::l.drop i:=by
 grind
theorem Ygj(l:List Flw)(c:Flw)(i:Nat)(hi:i<=l.length):(l.take i++c::l.drop i).length=l.length+1:=by
 grind
theorem Yhz(l:List Flw)(i:Nat)(c:Flw)(hi:i<=l.length)(hlen:l.length<=1000)(hw:St B w0 (flws A cap l::blk gv (.cells #[.int .i64 c.1,.int .i64 c.2.1,.int .i64 c.2.2.1,.int .i64 c.2.2.2.1,.int .i64 c.2.2.2.2.1,.int .i64 c.2.2.2.2.2] 53 (0,0))::H) w):
 CX B w0 97 [.slice A l.length cap,.int .i64 i,.slice (some ⟨gv,0,none⟩) 1 1] w λv K=>∃A' cap',v=.slice A' (l.take i++c::l.drop i).length cap'/\K=flws A' cap' (l.take i++c::l.drop i)::H:=by
 refine Yc Tryz.func97 Tryz.ntmps97 rfl rfl hw ?_
 refine Qb (k:=l.length) (cap:=cap) (by(focus exact zc2)) λhcap=>?_
 have hli:=Ygj l c i hi
 have hrv:∀{L:List HP},blk gv (.cells #[.int .i64 c.1,.int .i64 c.2.1,.int .i64 c.2.2.1,.int .i64 c.2.2.2.1,.int .i64 c.2.2.2.2.1,.int .i64 c.2.2.2.2.2] 53 (0,0))∈L->Rd B w0 L (some ⟨gv,0,none⟩) (([c]:List Flw).flatMap flwF):=λh=>by
  have h1:=Rd.blk (B:=B) (w0:=w0) (cs:=(flwF c).toArray) h
  rw[show([c]:List Flw).flatMap flwF=(flwF c).toArray.toList by simp]
  exact h1
 have hq6:∀c:Flw,(flwF c).length=6:=λ_=>rfl
 have ho6:∀c:Flw,Ju (flwF c)=true:=λ_=>rfl
 refine zX4 ?_
 apply Yy T i (l.length-i);(iterate 5 exact rfl);exact hi;exact rfl
 by_cases hin:i=l.length
 ·have e1:l.take i++c::l.drop i=l++[c]:=YsL
  rw[e1]
  refine YsC ?_<;>intros
  rename_i A' cap'
  apply Yi (flws A' cap' (l++[c])::H)
  ·intro w hw
   rw[<-Qi]
   revert w
   exact zc0
  exact zc60
 have hlt:i<l.length:=by omega
 have hrs:∀{L:List HP}{g:Nat},sl 53 6 (some ⟨g,0,none⟩) l.length cap (l.flatMap flwF)∈L->Rd B w0 L (subA (some ⟨g,0,none⟩) i cap 6) ((l.drop i).flatMap flwF):=λh=>by
  have h1:=Rd.sub (B:=B) (w0:=w0) (q:=6) (o:=i) (k:=l.length-i) (cap:=cap) hq6 (Rd.sl h) hcap
  exact zc78
 apply YcF (k:=l.length) (by(focus exact zc2)) (by omega)
 rintro g rfl
 have hA:∃g',(some ⟨g,0,none⟩:Option Addr)=some ⟨g',0,none⟩:=⟨g,rfl⟩
 repeat'(first|(apply Yg3 T;(iterate 3 exact rfl))|refine zgc ?_|(refine zgf ?_ ?_<;>intro _<;>try exact zo)|fail)
 ·apply Jb T (n':=i);(iterate 4 exact rfl);omega;omega;exact hA
  refine zX2 ?_
  rw[show(l.length:Int)+((1:Nat):Int)-(i:Int)=((l.length+1-i:Nat):Int) by omega]
  apply Ot T (e:=53) (size:=6) (k:=l.length) (xs:=l.flatMap flwF);exact rfl;exact rfl;(focus exact zc2);exact rfl;kernel_rfl;exact rfl;kernel_rfl;omega;intro g2 c2 hc2
  rw[show i+(l.length+1-i)=l.length+1 by omega]at hc2⊢
  have e2:sl 53 6 (some ⟨g2,0,none⟩) i c2 ((l.flatMap flwF).take (i*6))=sl 53 6 (some ⟨g2,0,none⟩) (l.take i).length c2 ((l.take i).flatMap flwF):=by
   rw[XG hq6,TT,SO hi]
  rw[e2]
  have hA2:∃g',(some ⟨g2,0,none⟩:Option Addr)=some ⟨g',0,none⟩:=⟨g2,rfl⟩
  have htl:(l.take i).length=i:=YgT
  refine zX4 ?_
  apply Yy T i (l.length+1-i);(iterate 5 exact rfl);omega;exact rfl
  refine zX4 ?_
  apply Zz T (l.take i) [c] (l.take i++[c]) (f:=flwF) (o:=i) (cap:=c2);exact rfl;exact rfl;exact hrv (by(focus exact zc2));exact hq6;exact ho6;exact rfl;exact rfl;exact hA2;(simp only[TO];omega);exact Ytx l c i (by omega);exact zd
  refine zX4 ?_
  apply YX [0,1,2,3,4,5,6,7] [8] [true,true,true]
  kernel_rfl
  kernel_rfl
  exact zy
  (simp only[Yh,nthO];rfl)
  (simp only[Yh,nthO];rfl)
  refine zX11 ?_
  apply Yy T (i+1) (l.length+1-(i+1));(iterate 4 exact rfl);omega;omega;exact rfl
  refine zX4 ?_
  apply Yy T i (l.length-i);(iterate 5 exact rfl);omega;exact rfl
  refine zX2 ?_
  apply Zz T (l.take i++[c]) (l.drop i) (l.take i++c::l.drop i) (f:=flwF) (o:=i+1) (cap:=c2);exact rfl;exact rfl;exact hrs (by(focus exact zc2));exact hq6;exact ho6;exact rfl;exact rfl;exact hA2;(simp only[To,TT,TO,Rq];omega);exact Ytz l c i hi (by omega);exact zd
  refine zX2 ?_
  apply Yi (flws (some ⟨g2,0,none⟩) c2 (l.take i++c::l.drop i)::H)
  ·exact zc0
  exact zc89
 ·apply Jb T (n':=l.length+1);(iterate 4 exact rfl);omega;omega;exact hA
  refine zX11 ?_
  apply Yy T (i+1) (l.length+1-(i+1));(iterate 4 exact rfl);omega;omega;exact rfl
  apply Yg8 (gv:=gv) (g:=g) (o:=i+1) (cap:=cap) (k:=l.length) (xs:=l.flatMap flwF);exact rfl;exact rfl;(focus exact zc2);(focus exact zc2);exactλw hw=>Ybd (hw.perm (.swap _ _ _));omega;exact rfl
  refine zX2 ?_
  apply YX [0,1,2,3,4,5,6,7] [8] [true,true]
  kernel_rfl
  kernel_rfl
  exact zy
  (simp only[Yh,nthO];rfl)
  (simp only[Yh,nthO];rfl)
  refine zX11 ?_
  apply Yy T (i+1) (l.length+1-(i+1));(iterate 4 exact rfl);omega;omega;exact rfl
  refine zX4 ?_
  apply Yy T i (l.length+1-i);(iterate 5 exact rfl);omega;exact rfl
  refine zX2 ?_
  apply Zz T l (l.drop i) (l.take (i+1)++l.drop i) (f:=flwF) (o:=i+1) (cap:=cap);exact rfl;exact rfl;exact hrs (by(focus exact zc2));exact hq6;exact ho6;exact rfl;exact rfl;exact hA;(simp only[Rq];omega);exact YtB l i hi (by omega);exact zd
  refine zX2 ?_
  apply Yy T i (l.length+1-i);(iterate 5 exact rfl);omega;exact rfl
  refine zX4 ?_
  apply Zz T (l.take (i+1)++l.drop i) [c] (l.take i++c::l.drop i) (f:=flwF) (o:=i) (cap:=cap);exact rfl;exact rfl;exact hrv (by(focus exact zc2));exact hq6;exact ho6;exact rfl;exact rfl;exact hA;(simp only[To,TT,TO,Rq];omega);exact YtD l c i hlt (by omega);exact zd
  refine zX8 ?_
  apply Yi (flws (some ⟨g,0,none⟩) cap (l.take i++c::l.drop i)::H)
  ·exact zc0
  exact zc86
variable {l:List Flw}
theorem Qh{nodes:Int}:(Yu nodes l).2=0↔(2<=nodes/\nodes<=32)/\l.length<=16/\(∀f∈l,Xx nodes f=0)/\l.Pairwise λa b=>a.1<b.1:=by
 constructor
 ·intro h
  refine⟨?_,?_,λf hf=>Vf h hf,?_⟩
  ·unfold Yu at h
   split at h
   ·cases h
   ·omega
  ·unfold Yu at h
   split at h
   ·cases h
   split at h
   ·cases h
   ·omega
  ·rw[Rm]
   intro i j hi hj hij
   have:=Ygf h hij hj
   unfold Xj at this
   rwa [Tu,Tu,Ta hi,Ta hj]at this
 ·rintro⟨h1,h2,h3,h4⟩
  unfold Yu
  rw[Tf (by omega),Tf (by omega)]
  refine YK.2 λk _ hk=>?_
  rw[RH]at hk
  rw[Rm]at h4
  have hat:∀{i:Nat}(hi:i<l.length),Xj l i=l[i]:=λhi=>by unfold Xj;rw[Tu,Ta hi];rfl
  unfold YT
  rw[hat hk,Tf (λe=>e (h3 _ (List.getElem_mem hk)))]
  rcases Nj k with rfl|hk0
  ·rw[Tf (by omega)]
  ·rw[hat (i:=k-1) (by omega),Tf]
   have:=h4 (k-1) k (by omega) hk (by omega)
   omega
theorem Yo0{nodes:Int}{m:List Flw}(h:(Yu nodes l).2=0)(hs:m.Sublist l):(Yu nodes m).2=0:=by
 obtain⟨h1,h2,h3,h4⟩:=Qh.1 h
 exact Qh.2 ⟨h1,T9 hs.length_le h2,λf hf=>h3 f (hs.subset hf),h4.sublist hs⟩
variable {p:Pln}
theorem Yla(h:chkP p=0):PlnOk p:=by
 unfold chkP at h
 split at h
 ·cases h
 split at h
 ·cases h
 split at h
 ·cases h
 split at h
 ·cases h
 split at h
 ·cases h
 rename_i h3 h4 h5
 have h3:=Rn.1 h3
 have h4:=Rn.1 h4
 refine⟨h3,?_,Rn.1 λe=>h5 (.inl e),(Rn.1 λe=>h5 (.inr e)).symm⟩
 unfold chkE at h4
 rw[Tf (λe=>e h3)]at h4
 by_cases hl:p.c.length=(YN p.n p.q p.s).1.length
 rotate_left
 ·rw[Tn hl]at h4;cases h4
 rw[Tf (λe=>e hl)]at h4
 refine List.ext_getElem hl λi h6 h7=>?_
 have:=YK.1 h4 i (Tm _) (by omega)
 by_cases e:Uh p.c i=Uh (YN p.n p.q p.s).1 i
 ·unfold Uh at e
  rwa [Tu,Tu,Ta h6,Ta h7]at e
 ·rw[Tf e]at this;cases this
variable {n:Net}{q:List Rqs}{s:Sch}
theorem YfN(h:(YN n q s).2.2=0):XH s=true:=ZA.2 (ZV.1 (XT.1 (XC.1 h).1)).frm
theorem Yjk(h:(YN n q s).2.2=0):finE n q s 0=(some ⟨n,q,s,(YN n q s).1,(ZQ s).1⟩,0)/\PlnOk ⟨n,q,s,(YN n q s).1,(ZQ s).1⟩:=by
 have hf:(ZQ s).2=0:=by unfold ZQ;rw[YfN h,Tf (by decide)]
 refine⟨?_,⟨h,rfl,hf,rfl⟩⟩
 unfold finE
 have:Ybn n q s 0=0:=by unfold Ybn XM;rw[Tf (λe=>e rfl),Tn h,hf]
 rw[this,Tf (λe=>e rfl)]
theorem Yrm(h:(YN n q s).2.2=0):(Yu n.nodes (Y0 q)).2=0:=(Uy (XT.1 (XC.1 h).1).whole).2.1
theorem Ylw{α:Type}{p:α->Bool}:∀{l:List α}{k:Int}{i:Nat}{a:α},l[i]? =some a->p a=true->(∀j b,j<i->l[j]? =some b->p b=false)->Ym p l k=k+i
 |[],_,_,_,h,_,_=>by simp at h
 |b::l,k,0,a,h,hp,_=>by
  obtain rfl:b=a:=by simpa using h
  rw[Ym,Tn hp];simp
 |b::l,k,i+1,a,h,hp,hn=>by
  have hb:=hn 0 b (by omega) (by simp)
  rw[Ym,Tf (by rw[hb];simp),Ylw (i:=i) (a:=a) (by simpa using h) hp λj c hj hc=>hn (j+1) c (by omega) (by simpa using hc)]
  omega
theorem YgS(h:chkP p=0)(id:Int):((∀x∈p.q,x.1.1≠id)/\wdrP p id=(none,7))\/
 ∃(i:Nat) (x:Rqs) (q:Pln),p.q[i]? =some x/\x.1.1=id/\wdrP p id=(some q,0)/\PlnOk q/\q=⟨p.n,delQ p.q i,OE p.s id,(YN p.n (delQ p.q i) (OE p.s id)).1,(ZQ (OE p.s id)).1⟩/\idQ p.q id=i:=by
 have hok:=Yla h
 unfold wdrP
 rw[Tf (λe=>e h)]
 by_cases hany:p.q.any (λx=>decide (x.1.1=id))=true
 ·right
  obtain⟨x,hx,he⟩:=T8.1 hany
  have he:=Rj he
  obtain⟨i,hi⟩:=TS.1 hx
  have hil:=(Tj.1 hi).1
  have hpw:=(Qh.1 (Yrm hok.cert)).2.2.2
  unfold Y0 at hpw
  rw[NV,Rm]at hpw
  have hne:∀(j:Nat) (y:Rqs),p.q[j]? =some y->j≠i->y.1.1≠id:=λj y hj hji e=>by
   obtain⟨hjl,rfl⟩:=Tj.1 hj
   obtain⟨_,rfl⟩:=Tj.1 hi
   rcases NP hji with h1|h1
   ·have:=hpw j i hjl hil h1;omega
   ·have:=hpw i j hil hjl h1;omega
  have hid:idQ p.q id=i:=by
   unfold idQ
   rw[Ylw hi (Td he) λj b hj hb=>Ti (hne j b hb (by omega))]
   omega
  have hsub:(delQ p.q i).Sublist p.q:=by
   unfold delQ
   have h1:(p.q.take i++p.q.drop (i+1)).Sublist (p.q.take i++p.q.drop i):=List.Sublist.append (List.Sublist.refl _) (by
    rw[<-Np (j:=i) (i:=1)]
    exact List.drop_sublist 1 _)
   rwa [RP]at h1
  have hmem:∀y,y∈delQ p.q i↔y∈p.q/\y.1.1≠id:=λy=>by
   constructor
   ·intro hy
    refine⟨hsub.subset hy,?_⟩
    unfold delQ at hy
    rcases TI.1 hy with h1|h1
    ·obtain⟨j,hj⟩:=TS.1 h1
     rw[SE]at hj
     split at hj
     ·exact hne j y hj (by omega)
     ·cases hj
    ·obtain⟨j,hj⟩:=TS.1 h1
     rw[RI]at hj
     exact hne _ y hj (by omega)
   ·rintro⟨hy,hyi⟩
    obtain⟨j,hj⟩:=TS.1 hy
    have hji:j≠i:=λe=>by
     subst e;rw[hi]at hj;rw[<-Tv hj]at hyi;exact hyi he
    unfold delQ
    rcases NP hji with h1|h1
    ·exact RN _ (Tc (i:=j) (by rw[SE,Tn h1,hj]))
    ·exact TU _ (Tc (i:=j-(i+1)) (by rw[RI,show i+1+(j-(i+1))=j by omega,hj]))
  have hce:(YN p.n (delQ p.q i) (OE p.s id)).2.2=0:=Yjd hok.cert hmem (Yo0 (Yrm hok.cert) (hsub.map _))
  obtain⟨h1,h2⟩:=Yjk hce
  refine⟨i,x,_,hi,he,?_,h2,rfl,hid⟩
  rw[hid,Tf (by omega)]
  unfold QB
  rw[YfN hok.cert,Tf (by decide),RU]
  exact h1
 ·left
  refine⟨λx hx e=>hany (T8.2 ⟨x,hx,Td e⟩),?_⟩
  rw[Tn]
  exact Int.not_le.1 λh0=>hany ((JT (λx:Rqs=>decide (x.1.1=id)) p.q 0 (by omega)).1 h0)
theorem Yek(id:Int):∀q:List Rqs,posQ q id<=q.length/\∀y∈q.take (posQ q id),y.1.1<id
 |[]=>⟨TJ _,λy hy=>by simp at hy⟩
 |x::q=>by
  have ih:=Yek id q
  unfold posQ at ih⊢
  by_cases h:x.1.1<id
  ·rw[List.takeWhile_cons_of_pos (by simpa using h),TM,TM,List.take_succ_cons]
   refine⟨by omega,λy hy=>?_⟩
   rcases TL.1 hy with rfl|h1
   ·exact h
   ·exact ih.2 y h1
  ·rw[List.takeWhile_cons_of_neg (by simpa using h)]
   exact⟨by simp,λy hy=>by simp at hy⟩
variable {f:Flw}
theorem Ykk(h:(Zd n [f]).2.2=0):(reqE n f).2=0:=by
 unfold Zd at h
 split at h
 ·cases h
 split at h
 ·rename_i h1;exact absurd h h1
 split at h
 ·rename_i h1;exact absurd h h1
 ·rename_i h1
  exact YK.1 (Rn.1 h1) 0 (TJ _) (by simp)
theorem Ynu{x:Rqs}(hp:chkP p=0)(hx:x.1=f)(ha:(XQ p.n p.q p.s x).2=0):∃q,finE p.n (insQ p.q x) (XQ p.n p.q p.s x).1 0=(some q,0)/\PlnOk q/\q.q.length=p.q.length+1/\wdrP q f.1=(some p,0):=by
 have hok:=Yla hp
 obtain⟨h1,h2,h3,h4⟩:=YfE ha
 obtain⟨h5,h6⟩:=Yjk h1
 refine⟨_,h5,h6,?_,?_⟩
 ·show(insQ p.q x).length=_
  unfold insQ
  rw[To,TM,Nat.add_succ,<-To,RP]
 subst hx
 have hps:=Yek x.1.1 p.q
 have hat:(insQ p.q x)[posQ p.q x.1.1]? =some x:=by
  unfold insQ
  rw[RG (by rw[TT];omega),TT,SO hps.1,NH]
  rfl
 have hdel:delQ (insQ p.q x) (posQ p.q x.1.1)=p.q:=by
  have hl:(p.q.take (posQ p.q x.1.1)).length=posQ p.q x.1.1:=by rw[TT,SO hps.1]
  unfold delQ insQ
  rw[List.take_left' hl,<-Np (j:=posQ p.q x.1.1) (i:=1),List.drop_left' hl]
  exact RP _ _
 have hcells:OE (XQ p.n p.q p.s x).1 x.1.1=p.s:=by
  have hsem:=ZV.1 (XT.1 (XC.1 hok.cert).1)
  unfold OE
  rw[h2.len,h2.off,h2.oth _ λc hc=>Ti λe=>e hc,List.filter_eq_self.2]
  intro c hc
  obtain⟨g,hg,e⟩:=ZF.1 (hsem.good c hc).2
  obtain⟨y,hy,rfl⟩:=TC.1 hg
  exact Td λe2=>h3 y hy (e.trans e2)
 rcases YgS h6.chk x.1.1 with⟨h7,-⟩|⟨i,y,q,h7,h8,h9,-,rfl,h11⟩
 ·exact absurd rfl (h7 x (Tc hat))
 ·dsimp only at h7 h9 h11
  have hi:i=posQ p.q x.1.1:=by
   have:idQ (insQ p.q x) x.1.1=posQ p.q x.1.1:=by
    unfold idQ
    rw[Ylw (p:=λy:Rqs=>decide (y.1.1=x.1.1)) hat (Td rfl) λj b hj hb=>Ti ?_]
    ·omega
    ·unfold insQ at hb
     rw[RY (by rw[TT];omega)]at hb
     have:=hps.2 b (Tc hb)
     omega
   rw[this]at h11
   omega
  rw[h9,hi,hdel,hcells]
  rw[<-hok.c,<-hok.f]
theorem Yre(hp:chkP p=0):((extP p f).1=none/\(extP p f).2≠0)\/∃q,extP p f=(some q,0)/\PlnOk q/\q.q.length=p.q.length+1/\wdrP q f.1=(some p,0):=by
 unfold extP
 rw[Tf (λe=>e hp)]
 split
 ·exact .inl ⟨rfl,by decide⟩
 split
 ·exact .inl ⟨rfl,by decide⟩
 split
 ·exact .inl ⟨rfl,by decide⟩
 split
 ·rename_i h;exact .inl ⟨rfl,h⟩
 rename_i h
 have hr:=Ykk (Rn.1 h)
 split
 ·rename_i ha
  exact .inr (Ynu hp (Yeo hr) ha)
 split
 ·exact .inl ⟨rfl,by decide⟩
 rename_i hs
 unfold ext1
 split
 ·exact .inl ⟨rfl,by decide⟩
 rename_i ha
 exact .inr (Ynu hp (YbI (Rn.1 hs)) (Rn.1 ha))
end Go.Proofs.YtaholidehobiiaaGreatDoor
