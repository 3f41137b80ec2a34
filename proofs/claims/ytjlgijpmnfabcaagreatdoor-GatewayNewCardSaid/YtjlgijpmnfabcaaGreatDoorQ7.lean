/- Lemmas. -/
import Derived.Test.YtjlgijpmnfabcaaGreatDoorQ4
import Derived.Test.YtjlgijpmnfabcaaGreatDoorQ5
set_option maxRecDepth 100000
set_option maxHeartbeats 8000000
set_option linter.all false
namespace Go.Proofs.YtjlgijpmnfabcaaGreatDoor
open Go.ChangeShapes Go.WideShapes Go.ChangeAt Go.RowKit Go.Eng Go.Nw
section
variable {H:Type}{enc:TypeId×Value->H}{W:World}{spare:Nat->Bool}{held:Bool}
abbrev I64(z:Int):Prop:=(Lit.int .i64 z).wf=true
theorem op_i:Opn enc Tryz.prog W spare held 3 numF I64:=Yud Tryz.underlying3
theorem Yf7:Opn enc Tryz.prog W spare held 24 (λs:SlM Int=>[s.val]) (SlG W numF I64):=Zn (q:=1) Tryz.underlying24 (by kernel_rfl) (by decide) op_i
theorem Yrc:Opn enc Tryz.prog W spare held 22 (λs:SlM (SlM Int)=>[s.val]) (SlG W (λs:SlM Int=>[s.val]) (SlG W numF I64)):=Zn (q:=1) Tryz.underlying22 (by kernel_rfl) (by decide) Yf7
theorem Yq9:Opn enc Tryz.prog W spare held 145 lkF (λl=>I64 l.1/\I64 l.2.1/\I64 l.2.2):=
 JL (Zd (ts:=[3,3,3]) (by kernel_rfl) (Yt op_i (Yt op_i (Yt op_i Jl)))) (λx=>(x.1,x.2.1,x.2.2.1)) (λ_=>rfl) (λ_ h=>⟨h.1,h.2.1,h.2.2.1⟩)
theorem Yo7:Opn enc Tryz.prog W spare held 23 (λs:SlM Lk=>[s.val]) (SlG W lkF λl=>I64 l.1/\I64 l.2.1/\I64 l.2.2):=Zn (q:=3) Tryz.underlying23 (by kernel_rfl) (by decide) Yq9
structure NetG(W:World)(n:NetM):Prop where
 nodes:I64 n.nodes
 pw:Old W n.pA (n.rows.flatMap rowF)
 rw_:∀r∈n.rows,Old W r.A (r.xs.flatMap numF)
 noise:I64 n.noise
 thr:I64 n.thr
 lk:Old W n.lA (n.links.flatMap lkF)
 mg:Old W n.mA (n.margin.flatMap numF)
 s1:n.rows.length<=9223372036854775807
 s2:∀r∈n.rows,r.xs.length<=9223372036854775807
 s3:n.links.length<=9223372036854775807
 s4:n.margin.length<=9223372036854775807
 w1:∀r∈n.rows,∀z∈r.xs,I64 z
 w2:∀l∈n.links,I64 l.1/\I64 l.2.1/\I64 l.2.2
 w3:∀z∈n.margin,I64 z
 c3:n.links.length<=n.lcap
 c4:n.margin.length<=n.mcap
theorem NetG.In{n:NetM}{K:List HP}(h:NetG W n):n.In W.heap.size W K:=⟨h.pw.rd,λr hr=>(h.rw_ r hr).rd,h.lk.rd,h.mg.rd,h.s1,h.s2,h.s3,h.s4⟩
def netF(n:NetM):List Value:=[.int .i64 n.nodes,.slice n.pA n.rows.length n.pcap,.int .i64 n.noise,.int .i64 n.thr,.slice n.lA n.links.length n.lcap,.slice n.mA n.margin.length n.mcap]
def Ylu(s:SlM Int):RowM:=⟨s.A,s.cap,s.xs⟩
theorem YjB(l:List (SlM Int)):(l.map Ylu).flatMap rowF=l.flatMap λs=>[s.val]:=by rw[List.flatMap_map];rfl
theorem maxL:maxLen<=9223372036854775807:=by decide
theorem Yo9:Opn enc Tryz.prog W spare held 26 netF (NetG W):=
 JL (Zd (ts:=[3,22,3,3,23,24]) (by kernel_rfl) (Yt op_i (Yt Yrc (Yt op_i (Yt op_i (Yt Yo7 (Yt Yf7 Jl)))))))
  (λx=>⟨x.1,x.2.1.A,x.2.1.cap,x.2.1.xs.map Ylu,x.2.2.1,x.2.2.2.1,x.2.2.2.2.1.A,x.2.2.2.2.1.cap,x.2.2.2.2.1.xs,x.2.2.2.2.2.1.A,x.2.2.2.2.2.1.cap,x.2.2.2.2.2.1.xs⟩)
  (λx=>by simp[netF,numF,SlM.val])
  (λx h=>by
   obtain⟨h1,h2,h3,h4,h5,h6,_⟩:=h
   have hm:=maxL
   refine⟨h1,?_,?_,h3,h4,h5.old,h6.old,?_,?_,T0 h5.len hm,T0 h6.len hm,?_,h5.good,h6.good,h5.cap,h6.cap⟩
   ·rw[YjB];exact h2.old
   ·intro r hr
    obtain⟨s,hs,rfl⟩:=TI.1 hr
    exact(h2.good s hs).old
   ·grind [Go.Eng.SlG.len]
   ·intro r hr
    obtain⟨s,hs,rfl⟩:=TI.1 hr
    exact T0 (h2.good s hs).len hm
   ·intro r hr
    obtain⟨s,hs,rfl⟩:=TI.1 hr
    exact(h2.good s hs).good)
theorem YvV{r:Reach}{b0:Nat}{v:Value}{d:DataW H}{p:List MemPlace}(hv:Value.okWide Tryz.prog W r b0 26 v)(h:DataW.Trod enc Tryz.prog W 0 spare held 26 v d p):∃n:NetM,v=n.val/\NetG W n:=by
 obtain⟨cs,rfl,_⟩:=okWide_struct Tryz.underlying26 hv
 obtain⟨fuel,hf⟩:=h
 obtain⟨n,h1,h2⟩:=Yo9 fuel _ _ hf
 refine⟨n,?_,h2⟩
 have:cs=(netF n).toArray:=by grind [Go.Value.cells]
 rw[this];rfl
end
end Go.Proofs.YtjlgijpmnfabcaaGreatDoor
