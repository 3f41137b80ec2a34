/- Lemmas for the claim, part 33. -/
import Derived.Test.YtaholidehobiiaaGreatDoorQ31
import Derived.Test.YtaholidehobiiaaGreatDoorQ32
set_option maxRecDepth 100000
set_option maxHeartbeats 8000000
set_option linter.all false
namespace Go.Proofs.YtaholidehobiiaaGreatDoor
open Go.RowKit Go.Eng Go.Nw Go.Rt
theorem Ya1(q q2:List RqM)(he:q.map RqM.rq=q2.map RqM.rq){A A2:Option Addr}{cap cap2 B:Nat}{w0:World}{H:List HP}{w:World}(hq:QIn B w0 H A q)(hq2:QIn B w0 H A2 q2)(hw:St B w0 H w):
 CX B w0 15 [.slice A q.length cap,.slice A2 q2.length cap2] w λu K=>u=.bool true/\K=H:=by
 refine Yc Tryz.func15 Tryz.ntmps15 rfl rfl hw ?_
 have hll:q.length=q2.length:=by simpa using TE List.length he
 have hr:=hq.rd
 have hr2:=hq2.rd
 have hln:=hq.ln
 refine zX3 ?_<;>intros
 refine Yg (λ(k:Nat)=>[(5,.int .i64 k),(0,.slice A q.length cap),(1,.slice A2 q2.length cap2)]) (λ_=>H) (λk=>k<=q.length) (λk=>q.length-k) 0 (Tm _) ?_ (λw hw=>hw) ?_
 ·exact zc1
 rintro k hk K hK
 by_cases hlt:k<q.length
 ·obtain⟨a,ha⟩:∃a,q[k]? =some a:=⟨_,Ta hlt⟩
  obtain⟨b,hb⟩:∃b,q2[k]? =some b:=⟨_,Ta (by omega)⟩
  have hab:a.rq=b.rq:=by
   have h1:(q.map RqM.rq)[k]? =some a.rq:=by simp[ha]
   have h2:(q2.map RqM.rq)[k]? =some b.rq:=by simp[hb]
   rw[he,h2]at h1
   exact(Tv h1).symm
  have hf:b.f=a.f:=(TE Prod.fst hab).symm
  have hrs:a.rows.map (·.xs)=b.rows.map (·.xs):=TE Prod.snd hab
  have hai:=hq.x a (Tc ha)
  have hbi:=hq2.x b (Tc hb)
  have p1:=λ{H':List HP}{w:World}(hai:a.In B w0 H') (hbi:b.In B w0 H') (hw:St B w0 H' w)=>Ol a.rows b.rows hai.ln hbi.ln (λr hr=>(hai.rl r hr).1) (λr hr=>(hbi.rl r hr).1) (cap:=a.cap) (cap2:=b.cap) hai.rt hbi.rt hai.rw_ hbi.rw_ hw
  rw[Td hrs]at p1
  repeat'(first|(apply Ud T (vs:=[.int .i64 a.f.1,.int .i64 a.f.2.1,.int .i64 a.f.2.2.1,.int .i64 a.f.2.2.2.1,.int .i64 a.f.2.2.2.2.1,.int .i64 a.f.2.2.2.2.2]);exact rfl;exact hr;exact ha;exactλ_=>rfl;(iterate 6 exact rfl))|(apply Ud T (vs:=[.int .i64 b.f.1,.int .i64 b.f.2.1,.int .i64 b.f.2.2.1,.int .i64 b.f.2.2.2.1,.int .i64 b.f.2.2.2.2.1,.int .i64 b.f.2.2.2.2.2]);exact rfl;exact hr2;exact hb;exactλ_=>rfl;(iterate 6 exact rfl))|(rw[hf];apply Yg0 (xs:=flwF a.f) (ys:=flwF a.f);(iterate 3 exact rfl);kernel_rfl;kernel_rfl;(intro hne;exact absurd rfl hne);intro _)|((first|apply Ya en65|apply Yb en65);exact za;exact rfl;exactλ_ hw=>(p1 hai hbi hw))|(apply zg28;refine zs84 ?_)|refine zgd ?_|(refine zge ?_ ?_<;>intro _<;>try exact zo)|fail)
  apply hK (k+1)
  ·omega
  ·omega
  ·exact zc1
  exact zc17
 ·refine zX1 ?_<;>intros
  exact zc4
theorem PnM.Bg.mono{B:Nat}{w0:World}{H H':List HP}{p:PnM}(h:p.Bg B w0 H)(hH:∀w,St B w0 H' w->St B w0 H w):p.Bg B w0 H':=⟨h.n.mono hH,h.q.mono hH,h.s.mono hH,h.sl,h.c.mono5 hH,h.f.mono hH,h.fl⟩
end Go.Proofs.YtaholidehobiiaaGreatDoor
