/- Lemmas. -/
import Derived.Test.YtjlgijpmnfabcaaGreatDoorQ6
import Derived.Test.YtjlgijpmnfabcaaGreatDoorQ7
set_option maxRecDepth 100000
set_option maxHeartbeats 8000000
set_option linter.all false
namespace Go.Proofs.YtjlgijpmnfabcaaGreatDoor
open Go.ChangeShapes Go.WideShapes Go.ChangeAt Go.RowKit Go.Eng Go.Nw
open Go.ChangeMaps (open_string)
def flwF(f:Flw):List Value:=[.int .i64 f.1,.int .i64 f.2.1,.int .i64 f.2.2.1,.int .i64 f.2.2.2.1,.int .i64 f.2.2.2.2.1,.int .i64 f.2.2.2.2.2]
section
variable {H:Type}{enc:TypeId×Value->H}{W:World}{spare:Nat->Bool}{held:Bool}
abbrev CelG(c:Cel):Prop:=I64 c.1/\I64 c.2.1/\I64 c.2.2.1/\I64 c.2.2.2.1/\I64 c.2.2.2.2
abbrev FlwG(f:Flw):Prop:=I64 f.1/\I64 f.2.1/\I64 f.2.2.1/\I64 f.2.2.2.1/\I64 f.2.2.2.2.1/\I64 f.2.2.2.2.2
theorem YrZ:Opn enc Tryz.prog W spare held 48 celF CelG:=
 Jo (XJ (ts:=[3,3,3,3,3]) (by kernel_rfl) (Yo op_i (Yo op_i (Yo op_i (Yo op_i (Yo op_i ZS)))))) (λx=>(x.1,x.2.1,x.2.2.1,x.2.2.2.1,x.2.2.2.2.1)) (λ_=>rfl) (λ_ h=>⟨h.1,h.2.1,h.2.2.1,h.2.2.2.1,h.2.2.2.2.1⟩)
theorem YpW:Opn enc Tryz.prog W spare held 28 (λs:SlM Cel=>[s.val]) (SlG W celF CelG):=XV (q:=5) Tryz.underlying28 (by kernel_rfl) (by decide) YrZ
theorem Yr0:Opn enc Tryz.prog W spare held 66 flwF FlwG:=
 Jo (XJ (ts:=[3,3,3,3,3,3]) (by kernel_rfl) (Yo op_i (Yo op_i (Yo op_i (Yo op_i (Yo op_i (Yo op_i ZS))))))) (λx=>(x.1,x.2.1,x.2.2.1,x.2.2.2.1,x.2.2.2.2.1,x.2.2.2.2.2.1)) (λ_=>rfl) (λ_ h=>⟨h.1,h.2.1,h.2.2.1,h.2.2.2.1,h.2.2.2.2.1,h.2.2.2.2.2.1⟩)
structure SchG(W:World)(s:SchM):Prop where
 len:I64 s.len
 off:I64 s.off
 old:Old W s.A (s.cells.flatMap celF)
 few:s.cells.length<=9223372036854775807
 good:∀c∈s.cells,CelG c
 cap:s.cells.length<=s.cap
def schF(s:SchM):List Value:=[.int .i64 s.len,.int .i64 s.off,.slice s.A s.cells.length s.cap]
theorem Yvf:Opn enc Tryz.prog W spare held 30 schF (SchG W):=
 Jo (XJ (ts:=[3,3,28]) (by kernel_rfl) (Yo op_i (Yo op_i (Yo YpW ZS))))
  (λx=>⟨x.1,x.2.1,x.2.2.1.A,x.2.2.1.cap,x.2.2.1.xs⟩) (λx=>by simp[schF,numF,SlM.val])
  (λx h=>by
   obtain⟨h1,h2,h3,_⟩:=h
   exact⟨h1,h2,h3.old,TY h3.len maxL,h3.good,h3.cap⟩)
end
end Go.Proofs.YtjlgijpmnfabcaaGreatDoor
