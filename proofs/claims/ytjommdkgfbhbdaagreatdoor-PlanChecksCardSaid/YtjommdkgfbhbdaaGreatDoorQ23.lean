/- Lemmas. -/
import Derived.Test.YtjommdkgfbhbdaaGreatDoorQ20
set_option maxRecDepth 100000
set_option maxHeartbeats 8000000
set_option linter.all false
namespace Go.Proofs.YtjommdkgfbhbdaaGreatDoor
open Go.RowKit Go.Eng Go.Nw Go.Rt
structure PnM.Bg(B:Nat)(w0:World)(H:List HP)(p:PnM):Prop where
 n:p.n.In B w0 H
 q:QBg B w0 H p.qA p.q
 s:Rd B w0 H p.s.A (p.s.cells.flatMap celF)
 sl:p.s.cells.length<=9223372036854775807
 c:CBg B w0 H p.cA p.c
 f:Rd B w0 H p.fA (p.f.flatMap numF)
 fl:p.f.length<=9223372036854775807
def FewP(p:PnM):Prop:=FewQ p.q p.s/\FewC p.c/\p.f.length<=600/\(p.s.len<=24\/512<p.s.len)
variable {B:Nat}{w0:World}{H H':List HP}
theorem PnM.Bg.small{p:PnM}(h:p.Bg B w0 H)(hf:FewP p):p.In B w0 H:=
 ⟨h.n,h.q.small hf.1,h.s,by have:=hf.1.2.1;omega,h.c.small hf.2.1,h.f,by have:=hf.2.2.1;omega⟩
theorem ClM.Bg.mono5{c:ClM}(h:c.Bg B w0 H)(hH:∀w,St B w0 H' w->St B w0 H w):c.Bg B w0 H':=⟨h.rt.mono hH,λr hr=>(h.rw_ r hr).mono hH,h.bd.mono hH,h.ws.mono hH,h.st.mono hH,λr hr=>(h.sw r hr).mono hH,h.ln,h.rl,h.sl⟩
theorem CBg.mono5{A:Option Addr}{c:List ClM}(h:CBg B w0 H A c)(hH:∀w,St B w0 H' w->St B w0 H w):CBg B w0 H' A c:=⟨h.rd.mono hH,λx hx=>(h.x x hx).mono5 hH,h.ln⟩
theorem Ykb(p:PnM){w:World}(hp:p.Bg B w0 H)(hw:St B w0 H w):
 CX B w0 13 [p.val] w λv K=>(∃b,v=.bool b/\(b=true->FewP p))/\K=H:=by
 refine Ya Tryz.func13 Tryz.ntmps13 rfl rfl hw ?_
 have p1:=λ{H':List HP}{w:World}(hin:p.n.In B w0 H') (hq:QBg B w0 H' p.qA p.q) (hw:St B w0 H' w)=>Yka p.n p.q p.s (cap:=p.qcap) hin hq hp.sl hw
 have p2:=λ{H':List HP}{w:World}(hc:CBg B w0 H' p.cA p.c) (hw:St B w0 H' w)=>Yc4 p.c (cap:=p.ccap) hc hw
 have hfl:=hp.fl
 have hs1:=hp.n.s1
 unfold PnM.val
 unfold NetM.val SchM.val at p1
 (apply Xc;apply YW;apply YR;exact rfl;exact rfl;intro g)
 repeat'(first|refine Yr T ?_|refine zgd ?_|(refine zgf ?_ ?_<;>intro _<;>try exact zo)|fail)
 rotate_left
 ·apply Yi;exact zc10
 apply Yg _ en60
 exact za
 exact rfl
 exactλ_ hw=>(p1 (hp.n.mono zc0) (hp.q.mono zc0) (hw))
 rintro _ _ ⟨⟨b,rfl,hb⟩,hK⟩
 rw[hK]
 cases b with
 |false=>
  refine Ue ?_
  apply Yi;exact zc10
 |true=>
 refine Yjs ?_
 apply Yg _ en61
 exact za
 exact rfl
 exactλ_ hw=>(p2 (hp.c.mono5 zc0) (hw))
 rintro _ _ ⟨⟨b2,rfl,hb2⟩,hK2⟩
 rw[hK2]
 cases b2 with
 |false=>
  refine Ue ?_
  apply Yi;exact zc86
 |true=>
 repeat'(first|refine Yr T ?_|refine zgd ?_|(refine zgf ?_ ?_<;>intro _<;>try exact zo)|fail)
 all_goals(
  apply Yi
  apply Yd;exact rfl;exact rfl
  exact⟨⟨_,rfl,λh=>by first|(exact absurd h (by decide))|exact⟨hb rfl,hb2 rfl,by omega,by omega⟩⟩,rfl⟩)
open Go.ChangeShapes Go.WideShapes Go.ChangeAt Go.RowKit Go.Eng Go.Nw Go.Rt
def plnF(p:PnM):List Value:=[.int .i64 p.n.nodes,.slice p.n.pA p.n.rows.length p.n.pcap,.int .i64 p.n.noise,.int .i64 p.n.thr,.slice p.n.lA p.n.links.length p.n.lcap,.slice p.n.mA p.n.margin.length p.n.mcap,.slice p.qA p.q.length p.qcap,.int .i64 p.s.len,.int .i64 p.s.off,.slice p.s.A p.s.cells.length p.s.cap,.slice p.cA p.c.length p.ccap,.slice p.fA p.f.length p.fcap]
section
variable {H:Type}{enc:TypeId×Value->H}{W:World}{spare:Nat->Bool}{held:Bool}
structure PlnG(W:World)(p:PnM):Prop where
 n:NetG W p.n
 q:SlG W rqF (RqG W) ⟨p.qA,p.qcap,p.q⟩
 s:SchG W p.s
 c:SlG W clF (ClG W) ⟨p.cA,p.ccap,p.c⟩
 f:SlG W numF I64 ⟨p.fA,p.fcap,p.f⟩
theorem Yr1:Opn enc Tryz.prog W spare held 36 (λs:SlM Int=>[s.val]) (SlG W numF I64):=Ja (q:=1) Tryz.underlying36 (by kernel_rfl) (by decide) op_i
theorem Yr3:Opn enc Tryz.prog W spare held 38 plnF (PlnG W):=
 Uy (Jy (ts:=[26,30,33,35,36]) (by kernel_rfl) (YE Yvf (YE YiD (YE Yvg (YE YnN (YE Yr1 Um))))))
  (λx=>⟨x.1,x.2.1.A,x.2.1.cap,x.2.1.xs,x.2.2.1,x.2.2.2.1.A,x.2.2.2.1.cap,x.2.2.2.1.xs,x.2.2.2.2.1.A,x.2.2.2.2.1.cap,x.2.2.2.2.1.xs⟩) (λx=>by simp[plnF,netF,schF,SlM.val])
  (λx h=>by
   obtain⟨h1,h2,h3,h4,h5,_⟩:=h
   exact⟨h1,h2,h3,h4,h5⟩)
theorem Yxp{r:Reach}{b0:Nat}{v:Value}{d:DataW H}{p:List MemPlace}(hv:Value.okWide Tryz.prog W r b0 38 v)(h:DataW.Trod enc Tryz.prog W 0 spare held 38 v d p):∃n:PnM,v=n.val/\PlnG W n:=by
 obtain⟨cs,rfl,_⟩:=okWide_struct Tryz.underlying38 hv
 obtain⟨fuel,hf⟩:=h
 obtain⟨n,h1,h2⟩:=Yr3 fuel _ _ hf
 refine⟨n,?_,h2⟩
 have:cs=(plnF n).toArray:=by rw[<-h1];simp[Value.cells]
 rw[this];rfl
theorem PlnG.bg{p:PnM}{K:List HP}(h:PlnG W p):p.Bg W.heap.size W K:=
 ⟨h.n.In,Yvk h.q,h.s.old.rd,h.s.few,Yrx h.c,h.f.old.rd,TX h.f.len maxL⟩
end
end Go.Proofs.YtjommdkgfbhbdaaGreatDoor
