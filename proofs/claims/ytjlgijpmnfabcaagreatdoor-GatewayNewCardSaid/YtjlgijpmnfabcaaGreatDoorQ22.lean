/- Lemmas. -/
import Derived.Test.YtjlgijpmnfabcaaGreatDoorQ21
set_option maxRecDepth 100000
set_option maxHeartbeats 8000000
set_option linter.all false
namespace Go.Proofs.YtjlgijpmnfabcaaGreatDoor
open Go.ChangeShapes Go.WideShapes Go.ChangeAt Go.RowKit Go.Eng Go.Nw Go.Rt
def gwF(g:GwM):List Value:=plnF g.p++[.slice g.lA g.l.length g.lcap,.slice g.sA g.s.length g.scap]
section
variable {H:Type}{enc:TypeId×Value->H}{W:World}{spare:Nat->Bool}{held:Bool}
abbrev LopG(l:Lop):Prop:=I64 l.1/\I64 l.2.1/\I64 l.2.2.1/\I64 l.2.2.2.1/\I64 l.2.2.2.2.1/\I64 l.2.2.2.2.2.1/\I64 l.2.2.2.2.2.2
structure GwG(W:World)(g:GwM):Prop where
 p:PlnG W g.p
 l:SlG W lopF LopG ⟨g.lA,g.lcap,g.l⟩
 s:SlG W splF (λs:Spl=>I64 s.1/\I64 s.2) ⟨g.sA,g.scap,g.s⟩
theorem Yra:Opn enc Tryz.prog W spare held 79 lopF LopG:=
 JL (Zd (ts:=[3,3,3,3,3,3,3]) (by kernel_rfl) (Yt op_i (Yt op_i (Yt op_i (Yt op_i (Yt op_i (Yt op_i (Yt op_i Jl)))))))) (λx=>(x.1,x.2.1,x.2.2.1,x.2.2.2.1,x.2.2.2.2.1,x.2.2.2.2.2.1,x.2.2.2.2.2.2.1)) (λ_=>rfl) (λ_ h=>⟨h.1,h.2.1,h.2.2.1,h.2.2.2.1,h.2.2.2.2.1,h.2.2.2.2.2.1,h.2.2.2.2.2.2.1⟩)
theorem Ypb:Opn enc Tryz.prog W spare held 81 splF (λs:Spl=>I64 s.1/\I64 s.2):=
 JL (Zd (ts:=[3,3]) (by kernel_rfl) (Yt op_i (Yt op_i Jl))) (λx=>(x.1,x.2.1)) (λ_=>rfl) (λ_ h=>⟨h.1,h.2.1⟩)
theorem YjW:Opn enc Tryz.prog W spare held 54 gwF (GwG W):=
 JL (Zd (ts:=[35,51,52]) (by kernel_rfl) (Yt Yrb (Yt (Zn (q:=7) Tryz.underlying51 (by kernel_rfl) (by decide) Yra) (Yt (Zn (q:=2) Tryz.underlying52 (by kernel_rfl) (by decide) Ypb) Jl))))
  (λx=>⟨x.1,x.2.1.A,x.2.1.cap,x.2.1.xs,x.2.2.1.A,x.2.2.1.cap,x.2.2.1.xs⟩) (λx=>by simp[gwF,SlM.val]) (λx h=>⟨h.1,h.2.1,h.2.2.1⟩)
theorem YvU{r:Reach}{b0:Nat}{v:Value}{d:DataW H}{p:List MemPlace}(hv:Value.okWide Tryz.prog W r b0 54 v)(h:DataW.Trod enc Tryz.prog W 0 spare held 54 v d p):∃n:GwM,v=n.val/\GwG W n:=by
 obtain⟨cs,rfl,_⟩:=okWide_struct Tryz.underlying54 hv
 obtain⟨fuel,hf⟩:=h
 obtain⟨n,h1,h2⟩:=YjW fuel _ _ hf
 refine⟨n,?_,h2⟩
 have:cs=(gwF n).toArray:=by rw[<-h1];simp[Value.cells]
 rw[this];rfl
theorem GwG.bg{g:GwM}{K:List HP}(h:GwG W g):g.Bg W.heap.size W K:=
 ⟨h.p.bg,h.l.old.rd,h.s.old.rd,T0 h.l.len maxL,T0 h.s.len maxL,h.l.cap,h.s.cap⟩
end
end Go.Proofs.YtjlgijpmnfabcaaGreatDoor
