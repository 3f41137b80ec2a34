/- An engine for walks, part 15: functions with labels. -/
import Derived.Test.YtfobgjhjigkigaaE14
import Derived.Scope
namespace Go.Eng
open Go.RowKit
section
variable {P : Program} {n B : Nat} {w0 : World} {Q : Exit → Act → World → Prop} {env : Env} {H : List HP}
theorem VC_scope {c : Code} (h : VC P n B w0 c (Exit.noGoto Q) env H) : VC P n B w0 (.scope c) Q env H := ⟨fun a w ha hw => wp_scope_straight (h.run a w ha hw)⟩
theorem VQ_scope_ret (h : VQ n B w0 Q .ret env H) : VQ n B w0 (Exit.noGoto Q) .ret env H := ⟨fun a w ha hw => h.run a w ha hw⟩
theorem VQ_scope_normal (h : VQ n B w0 Q .normal env H) : VQ n B w0 (Exit.noGoto Q) .normal env H := ⟨fun a w ha hw => h.run a w ha hw⟩
end
end Go.Eng
