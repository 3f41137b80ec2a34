/- Lemmas. -/
import Derived.Test.YtjlgijpmnfabcaaGreatDoorQ12
set_option maxRecDepth 100000
set_option maxHeartbeats 8000000
set_option linter.all false
namespace Go.Proofs.YtjlgijpmnfabcaaGreatDoor
open Go.ChangeShapes Go.WideShapes Go.ChangeAt Go.RowKit Go.Eng Go.Nw Go.Rt
section
variable {H:Type}{enc:TypeId×Value->H}{W:World}{spare:Nat->Bool}{held:Bool}
structure RtG(W:World)(r:RowM):Prop where
 old:Old W r.A (r.xs.flatMap numF)
 len:r.xs.length<=9223372036854775807
 cap:r.xs.length<=r.cap
 good:∀z∈r.xs,I64 z
theorem YpQ:Opn enc Tryz.prog W spare held 104 rowF (RtG W):=
 Uk (ZG (q:=1) Tryz.underlying104 (by kernel_rfl) (by decide) op_i) YlM (λ_=>rfl) (λ_ h=>⟨h.old,TY h.len maxL,h.cap,h.good⟩)
theorem Yga:Opn enc Tryz.prog W spare held 24 rowF (RtG W):=
 Uk Yf9 YlM (λ_=>rfl) (λ_ h=>⟨h.old,TY h.len maxL,h.cap,h.good⟩)
theorem Ye0:Opn enc Tryz.prog W spare held 67 (λs:SlM RowM=>[s.val]) (SlG W rowF (RtG W)):=ZG (q:=1) Tryz.underlying67 (by kernel_rfl) (by decide) YpQ
theorem YpP:Opn enc Tryz.prog W spare held 22 (λs:SlM RowM=>[s.val]) (SlG W rowF (RtG W)):=ZG (q:=1) Tryz.underlying22 (by kernel_rfl) (by decide) Yga
structure RqG(W:World)(x:RqM):Prop where
 f:FlwG x.f
 old:Old W x.A (x.rows.flatMap rowF)
 len:x.rows.length<=9223372036854775807
 cap:x.rows.length<=x.cap
 good:∀r∈x.rows,RtG W r
theorem Yj0:Opn enc Tryz.prog W spare held 69 rqF (RqG W):=
 Uk (Z6 (ts:=[66,67]) (by kernel_rfl) (Yw YrG (Yw Ye0 V5)))
  (λx=>⟨x.1,x.2.1.A,x.2.1.cap,x.2.1.xs⟩) (λx=>by simp[rqF,flwF,SlM.val]) (λx h=>by
   obtain⟨h1,h2,_⟩:=h
   exact⟨h1,h2.old,TY h2.len maxL,h2.cap,h2.good⟩)
theorem Yid:Opn enc Tryz.prog W spare held 27 (λs:SlM RqM=>[s.val]) (SlG W rqF (RqG W)):=ZG (q:=7) Tryz.underlying27 (by kernel_rfl) (by decide) Yj0
structure ClG(W:World)(c:ClM):Prop where
 f:I64 c.flow
 rt:Old W c.rA (c.rs.flatMap rowF)
 rg:∀r∈c.rs,RtG W r
 bd:RtG W ⟨c.bA,c.bcap,c.bs⟩
 ws:RtG W ⟨c.wA,c.wcap,c.ws⟩
 st:Old W c.sA (c.ss.flatMap rowF)
 sg:∀r∈c.ss,RtG W r
 rl:c.rs.length<=9223372036854775807
 sl:c.ss.length<=9223372036854775807
 rc:c.rs.length<=c.rcap
 sc:c.ss.length<=c.scap
theorem YpN:Opn enc Tryz.prog W spare held 116 clF (ClG W):=
 Uk (Z6 (ts:=[3,67,24,24,22]) (by kernel_rfl) (Yw op_i (Yw Ye0 (Yw Yga (Yw Yga (Yw YpP V5))))))
  (λx=>⟨x.1,x.2.1.A,x.2.1.cap,x.2.1.xs,x.2.2.1.A,x.2.2.1.cap,x.2.2.1.xs,x.2.2.2.1.A,x.2.2.2.1.cap,x.2.2.2.1.xs,x.2.2.2.2.1.A,x.2.2.2.2.1.cap,x.2.2.2.2.1.xs⟩) (λx=>by simp[clF,numF,rowF,SlM.val]) (λx h=>by
   obtain⟨h1,h2,h3,h4,h5,_⟩:=h
   exact⟨h1,h2.old,h2.good,h3,h4,h5.old,h5.good,TY h2.len maxL,TY h5.len maxL,h2.cap,h5.cap⟩)
theorem Ynp:Opn enc Tryz.prog W spare held 32 (λs:SlM ClM=>[s.val]) (SlG W clF (ClG W)):=ZG (q:=5) Tryz.underlying32 (by kernel_rfl) (by decide) YpN
end
end Go.Proofs.YtjlgijpmnfabcaaGreatDoor
