/- Lemmas for the claim, part 37. -/
import Derived.Test.YtaholidehobiiaaGreatDoorQ36
set_option maxRecDepth 100000
set_option maxHeartbeats 8000000
set_option linter.all false
namespace Go.Proofs.YtaholidehobiiaaGreatDoor
open Go.ChangeShapes Go.WideShapes Go.ChangeAt Go.RowKit Go.Eng Go.Nw Go.Rt
def plnF(p:PnM):List Value:=[.int .i64 p.n.nodes,.slice p.n.pA p.n.rows.length p.n.pcap,.int .i64 p.n.noise,.int .i64 p.n.thr,.slice p.n.lA p.n.links.length p.n.lcap,.slice p.n.mA p.n.margin.length p.n.mcap,.slice p.qA p.q.length p.qcap,.int .i64 p.s.len,.int .i64 p.s.off,.slice p.s.A p.s.cells.length p.s.cap,.slice p.cA p.c.length p.ccap,.slice p.fA p.f.length p.fcap]
section
variable {H:Type}{enc:TypeId×Value->H}{W:World}{spare:Nat->Bool}{held:Bool}
structure PlnG(W:World)(p:PnM):Prop where
 n:NetG W p.n
 q:SlG W rqF (RqG W) ⟨p.qA,p.qcap,p.q⟩
 s:SchG W p.s
 c:SlG W clF (ClG W) ⟨p.cA,p.ccap,p.c⟩
 f:SlG W numF I64 ⟨p.fA,p.fcap,p.f⟩
theorem YtX:Opn enc Tryz.prog W spare held 40 (λs:SlM Int=>[s.val]) (SlG W numF I64):=Z7 (q:=1) Tryz.underlying40 (by kernel_rfl) (by decide) op_i
theorem YtZ:Opn enc Tryz.prog W spare held 42 plnF (PlnG W):=
 U4 (JH (ts:=[26,30,37,39,40]) (by kernel_rfl) (YD YrQ (YD Yj2 (YD YwF (YD Ypr (YD YtX UM))))))
  (λx=>⟨x.1,x.2.1.A,x.2.1.cap,x.2.1.xs,x.2.2.1,x.2.2.2.1.A,x.2.2.2.1.cap,x.2.2.2.1.xs,x.2.2.2.2.1.A,x.2.2.2.2.1.cap,x.2.2.2.2.1.xs⟩) (λx=>by simp[plnF,netF,schF,SlM.val])
  (λx h=>by
   obtain⟨h1,h2,h3,h4,h5,_⟩:=h
   exact⟨h1,h2,h3,h4,h5⟩)
variable {r:Reach}{b0:Nat}{v:Value}{d:DataW H}{p:List MemPlace}
theorem Yx0(hv:Value.okWide Tryz.prog W r b0 42 v)(h:DataW.Trod enc Tryz.prog W 0 spare held 42 v d p):∃n:PnM,v=n.val/\PlnG W n:=by
 obtain⟨cs,rfl,_⟩:=okWide_struct Tryz.underlying42 hv
 obtain⟨fuel,hf⟩:=h
 obtain⟨n,h1,h2⟩:=YtZ fuel _ _ hf
 refine⟨n,?_,h2⟩
 have:cs=(plnF n).toArray:=by rw[<-h1];simp[Value.cells]
 rw[this];rfl
theorem YxY(hv:Value.okWide Tryz.prog W r b0 53 v)(h:DataW.Trod enc Tryz.prog W 0 spare held 53 v d p):∃f:Flw,v=flwV f/\FlwG f:=by
 obtain⟨cs,rfl,_⟩:=okWide_struct Tryz.underlying53 hv
 obtain⟨fuel,hf⟩:=h
 obtain⟨n,h1,h2⟩:=YhI fuel _ _ hf
 refine⟨n,?_,h2⟩
 have:cs=(flwF n).toArray:=by rw[<-h1];simp[Value.cells]
 rw[this];rfl
theorem PlnG.bg{p:PnM}{K:List HP}(h:PlnG W p):p.Bg W.heap.size W K:=
 ⟨h.n.In,YwJ h.q,h.s.old.rd,h.s.few,Ytl h.c,h.f.old.rd,T9 h.f.len maxL⟩
end
end Go.Proofs.YtaholidehobiiaaGreatDoor
