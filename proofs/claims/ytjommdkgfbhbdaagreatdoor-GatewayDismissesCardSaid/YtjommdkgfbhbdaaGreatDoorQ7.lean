/- Lemmas. -/
import Derived.Test.YtjommdkgfbhbdaaGreatDoorQ4
import Derived.Test.YtjommdkgfbhbdaaGreatDoorQ5
set_option maxRecDepth 100000
set_option maxHeartbeats 8000000
set_option linter.all false
namespace Go.Proofs.YtjommdkgfbhbdaaGreatDoor
open Go.ChangeShapes Go.WideShapes Go.ChangeAt Go.RowKit Go.Eng Go.Nw
section
variable {H:Type}{enc:TypeId×Value->H}{W:World}{spare:Nat->Bool}{held:Bool}
abbrev I64(z:Int):Prop:=(Lit.int .i64 z).wf=true
theorem op_i:Opn enc Tryz.prog W spare held 3 numF I64:=Yvu Tryz.underlying3
theorem Yga:Opn enc Tryz.prog W spare held 24 (λs:SlM Int=>[s.val]) (SlG W numF I64):=Zs (q:=1) Tryz.underlying24 (by kernel_rfl) (by decide) op_i
theorem Yr9:Opn enc Tryz.prog W spare held 22 (λs:SlM (SlM Int)=>[s.val]) (SlG W (λs:SlM Int=>[s.val]) (SlG W numF I64)):=Zs (q:=1) Tryz.underlying22 (by kernel_rfl) (by decide) Yga
theorem Yr6:Opn enc Tryz.prog W spare held 164 lkF (λl=>I64 l.1/\I64 l.2.1/\I64 l.2.2):=
 JH (Ze (ts:=[3,3,3]) (by kernel_rfl) (Ys op_i (Ys op_i (Ys op_i Jm)))) (λx=>(x.1,x.2.1,x.2.2.1)) (λ_=>rfl) (λ_ h=>⟨h.1,h.2.1,h.2.2.1⟩)
theorem YpR:Opn enc Tryz.prog W spare held 23 (λs:SlM Lk=>[s.val]) (SlG W lkF λl=>I64 l.1/\I64 l.2.1/\I64 l.2.2):=Zs (q:=3) Tryz.underlying23 (by kernel_rfl) (by decide) Yr6
structure NetG(W:World)(n:NetM):Prop where
 nodes:I64 n.nodes
 pw:Old W n.pA (n.rows.flatMap rowF)
 rw_:∀r∈n.rows,Old W r.A (r.xs.flatMap numF)
 noise:I64 n.noise
 thr:I64 n.thr
 lk:Old W n.lA (n.links.flatMap lkF)
 mg:Old W n.mA (n.margin.flatMap numF)
 s1:n.rows.length<=9223372036854775807
 s2:∀r∈n.rows,r.xs.length<=9223372036854775807
 s3:n.links.length<=9223372036854775807
 s4:n.margin.length<=9223372036854775807
 w1:∀r∈n.rows,∀z∈r.xs,I64 z
 w2:∀l∈n.links,I64 l.1/\I64 l.2.1/\I64 l.2.2
 w3:∀z∈n.margin,I64 z
 c3:n.links.length<=n.lcap
 c4:n.margin.length<=n.mcap
theorem NetG.In{n:NetM}{K:List HP}(h:NetG W n):n.In W.heap.size W K:=⟨h.pw.rd,λr hr=>(h.rw_ r hr).rd,h.lk.rd,h.mg.rd,h.s1,h.s2,h.s3,h.s4⟩
def netF(n:NetM):List Value:=[.int .i64 n.nodes,.slice n.pA n.rows.length n.pcap,.int .i64 n.noise,.int .i64 n.thr,.slice n.lA n.links.length n.lcap,.slice n.mA n.margin.length n.mcap]
def YlL(s:SlM Int):RowM:=⟨s.A,s.cap,s.xs⟩
theorem Yj7(l:List (SlM Int)):(l.map YlL).flatMap rowF=l.flatMap λs=>[s.val]:=by rw[List.flatMap_map];rfl
theorem maxL:maxLen<=9223372036854775807:=by decide
theorem Yvv:Opn enc Tryz.prog W spare held 26 netF (NetG W):=
 JH (Ze (ts:=[3,22,3,3,23,24]) (by kernel_rfl) (Ys op_i (Ys Yr9 (Ys op_i (Ys op_i (Ys YpR (Ys Yga Jm)))))))
  (λx=>⟨x.1,x.2.1.A,x.2.1.cap,x.2.1.xs.map YlL,x.2.2.1,x.2.2.2.1,x.2.2.2.2.1.A,x.2.2.2.2.1.cap,x.2.2.2.2.1.xs,x.2.2.2.2.2.1.A,x.2.2.2.2.2.1.cap,x.2.2.2.2.2.1.xs⟩)
  (λx=>by simp[netF,numF,SlM.val])
  (λx h=>by
   obtain⟨h1,h2,h3,h4,h5,h6,_⟩:=h
   have hm:=maxL
   refine⟨h1,?_,?_,h3,h4,h5.old,h6.old,?_,?_,TX h5.len hm,TX h6.len hm,?_,h5.good,h6.good,h5.cap,h6.cap⟩
   ·rw[Yj7];exact h2.old
   ·intro r hr
    obtain⟨s,hs,rfl⟩:=TG.1 hr
    exact(h2.good s hs).old
   ·grind [Go.Eng.SlG.len]
   ·intro r hr
    obtain⟨s,hs,rfl⟩:=TG.1 hr
    exact TX (h2.good s hs).len hm
   ·intro r hr
    obtain⟨s,hs,rfl⟩:=TG.1 hr
    exact(h2.good s hs).good)
end
end Go.Proofs.YtjommdkgfbhbdaaGreatDoor
