/- Lemmas. -/
import Derived.Test.YtambgjgljcadlaaGreatDoorQ13
set_option maxRecDepth 100000
set_option maxHeartbeats 8000000
set_option linter.all false
namespace Go.Proofs.YtambgjgljcadlaaGreatDoor
open Go.ChangeShapes Go.WideShapes Go.ChangeAt Go.RowKit Go.Eng Go.Nw Go.Rt
section
variable {H:Type}{enc:TypeId×Value->H}{W:World}{spare:Nat->Bool}{held:Bool}
structure RtG(W:World)(r:RowM):Prop where
 old:Old W r.A (r.xs.flatMap numF)
 len:r.xs.length<=9223372036854775807
 cap:r.xs.length<=r.cap
 good:∀z∈r.xs,I64 z
theorem Yqu:Opn enc Tryz.prog W spare held 64 rowF (RtG W):=
 J9 (Zq (q:=1) Tryz.underlying64 (by kernel_rfl) (by decide) op_i) Ymp (λ_=>rfl) (λ_ h=>⟨h.old,Rh h.len maxL,h.cap,h.good⟩)
theorem YgL:Opn enc Tryz.prog W spare held 24 rowF (RtG W):=
 J9 YgK Ymp (λ_=>rfl) (λ_ h=>⟨h.old,Rh h.len maxL,h.cap,h.good⟩)
theorem Yfz:Opn enc Tryz.prog W spare held 54 (λs:SlM RowM=>[s.val]) (SlG W rowF (RtG W)):=Zq (q:=1) Tryz.underlying54 (by kernel_rfl) (by decide) Yqu
theorem Yqt:Opn enc Tryz.prog W spare held 22 (λs:SlM RowM=>[s.val]) (SlG W rowF (RtG W)):=Zq (q:=1) Tryz.underlying22 (by kernel_rfl) (by decide) YgL
structure RqG(W:World)(x:RqM):Prop where
 f:FlwG x.f
 old:Old W x.A (x.rows.flatMap rowF)
 len:x.rows.length<=9223372036854775807
 cap:x.rows.length<=x.cap
 good:∀r∈x.rows,RtG W r
theorem YkL:Opn enc Tryz.prog W spare held 56 rqF (RqG W):=
 J9 (Ze (ts:=[53,54]) (by kernel_rfl) (Yu YsF (Yu Yfz JB)))
  (λx=>⟨x.1,x.2.1.A,x.2.1.cap,x.2.1.xs⟩) (λx=>by simp[rqF,flwF,SlM.val]) (λx h=>by
   obtain⟨h1,h2,_⟩:=h
   exact⟨h1,h2.old,Rh h2.len maxL,h2.cap,h2.good⟩)
theorem YiX:Opn enc Tryz.prog W spare held 27 (λs:SlM RqM=>[s.val]) (SlG W rqF (RqG W)):=Zq (q:=7) Tryz.underlying27 (by kernel_rfl) (by decide) YkL
structure ClG(W:World)(c:ClM):Prop where
 f:I64 c.flow
 rt:Old W c.rA (c.rs.flatMap rowF)
 rg:∀r∈c.rs,RtG W r
 bd:RtG W ⟨c.bA,c.bcap,c.bs⟩
 ws:RtG W ⟨c.wA,c.wcap,c.ws⟩
 st:Old W c.sA (c.ss.flatMap rowF)
 sg:∀r∈c.ss,RtG W r
 rl:c.rs.length<=9223372036854775807
 sl:c.ss.length<=9223372036854775807
 rc:c.rs.length<=c.rcap
 sc:c.ss.length<=c.scap
theorem Yqr:Opn enc Tryz.prog W spare held 191 clF (ClG W):=
 J9 (Ze (ts:=[3,54,24,24,22]) (by kernel_rfl) (Yu op_i (Yu Yfz (Yu YgL (Yu YgL (Yu Yqt JB))))))
  (λx=>⟨x.1,x.2.1.A,x.2.1.cap,x.2.1.xs,x.2.2.1.A,x.2.2.1.cap,x.2.2.1.xs,x.2.2.2.1.A,x.2.2.2.1.cap,x.2.2.2.1.xs,x.2.2.2.2.1.A,x.2.2.2.2.1.cap,x.2.2.2.2.1.xs⟩) (λx=>by simp[clF,numF,rowF,SlM.val]) (λx h=>by
   obtain⟨h1,h2,h3,h4,h5,_⟩:=h
   exact⟨h1,h2.old,h2.good,h3,h4,h5.old,h5.good,Rh h2.len maxL,Rh h5.len maxL,h2.cap,h5.cap⟩)
theorem Yn3:Opn enc Tryz.prog W spare held 32 (λs:SlM ClM=>[s.val]) (SlG W clF (ClG W)):=Zq (q:=5) Tryz.underlying32 (by kernel_rfl) (by decide) Yqr
end
end Go.Proofs.YtambgjgljcadlaaGreatDoor
