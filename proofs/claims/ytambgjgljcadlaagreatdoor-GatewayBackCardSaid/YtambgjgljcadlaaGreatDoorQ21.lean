/- Lemmas. -/
import Derived.Test.YtambgjgljcadlaaGreatDoorQ4
import Derived.Test.YtambgjgljcadlaaGreatDoorQ18
import Derived.Test.YtambgjgljcadlaaGreatDoorQ19
set_option maxRecDepth 100000
set_option maxHeartbeats 8000000
set_option linter.all false
namespace Go.Proofs.YtambgjgljcadlaaGreatDoor
open Go.RowKit Go.Eng Go.Nw Go.Rt
structure CSet(es:Ycs)(p:Cel->Bool):Prop where
 len:∀e∈es,e.1.length=5
 val:∀e∈es,e.2.1=.bool true
 mem:∀c,vget es (nums c)=if p c=true then some (.bool true)else none
theorem CSet.nil:CSet [] λ_=>false:=⟨(λe h=>by cases h),(λe h=>by cases h),λc=>rfl⟩
end Go.Proofs.YtambgjgljcadlaaGreatDoor
