/- Lemmas for the claim, part 32. -/
import Derived.Test.YtaholidehobiiaaGreatDoorQ29
set_option maxRecDepth 100000
set_option maxHeartbeats 8000000
set_option linter.all false
namespace Go.Proofs.YtaholidehobiiaaGreatDoor
open Go.RowKit Go.Eng Go.Nw Go.Rt
structure PnM.Bg(B:Nat)(w0:World)(H:List HP)(p:PnM):Prop where
 n:p.n.In B w0 H
 q:QBg B w0 H p.qA p.q
 s:Rd B w0 H p.s.A (p.s.cells.flatMap celF)
 sl:p.s.cells.length<=9223372036854775807
 c:CBg B w0 H p.cA p.c
 f:Rd B w0 H p.fA (p.f.flatMap numF)
 fl:p.f.length<=9223372036854775807
variable {B:Nat}{w0:World}{H H':List HP}
theorem ClM.Bg.mono5{c:ClM}(h:c.Bg B w0 H)(hH:∀w,St B w0 H' w->St B w0 H w):c.Bg B w0 H':=⟨h.rt.mono hH,λr hr=>(h.rw_ r hr).mono hH,h.bd.mono hH,h.ws.mono hH,h.st.mono hH,λr hr=>(h.sw r hr).mono hH,h.ln,h.rl,h.sl⟩
theorem CBg.mono5{A:Option Addr}{c:List ClM}(h:CBg B w0 H A c)(hH:∀w,St B w0 H' w->St B w0 H w):CBg B w0 H' A c:=⟨h.rd.mono hH,λx hx=>(h.x x hx).mono5 hH,h.ln⟩
end Go.Proofs.YtaholidehobiiaaGreatDoor
