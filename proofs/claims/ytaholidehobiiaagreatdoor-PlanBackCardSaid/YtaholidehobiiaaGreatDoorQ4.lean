/- Lemmas for the claim, part 4. -/
import Derived.Shelf.SlGeneric
import Derived.Shelf.SlSortCmp.WholeK
import Derived.Ground.SlsfProg
import Derived.Test.YtaholidehobiiaaGreatDoorProg
import Derived.Test.YtaholidehobiiaaGreatDoorQ1
set_option maxRecDepth 100000
set_option maxHeartbeats 8000000
set_option linter.all false
namespace Go.Proofs
open Go.Shelf
def Tryz.sortCels_ren:Go.Shelf.Ren:=⟨λ|6=>160|15=>234|14=>251|28=>308|29=>309|20=>328|21=>329|22=>330|23=>331|24=>332|25=>333|26=>334|27=>335|46=>388|47=>372|48=>373|49=>389|50=>390|57=>417|n=>n,λ|22=>35|24=>64|25=>209|3=>3|39=>231|0=>0|53=>242|55=>244|4=>4|46=>324|45=>323|50=>90|5=>5|9=>9|66=>387|70=>391|76=>428|77=>429|n=>n,λ|n=>n⟩
theorem Tryz.sortCels:Go.Proofs.SlLaysF0.n6 Tryz.prog Tryz.sortCels_ren:={
 mixed:=by kernel_rfl
 f6:=⟨Tryz.f160.name,by decide,Tryz.func160.trans (TE some (by kernel_rfl))⟩
 f14:=⟨Tryz.f251.name,by decide,Tryz.func251.trans (TE some (by kernel_rfl))⟩
 f15:=Tryz.func234.trans (TE some (by kernel_rfl))
 f20:=⟨Tryz.f328.name,by decide,Tryz.func328.trans (TE some (by kernel_rfl))⟩
 f21:=⟨Tryz.f329.name,by decide,Tryz.func329.trans (TE some (by kernel_rfl))⟩
 f22:=⟨Tryz.f330.name,by decide,Tryz.func330.trans (TE some (by kernel_rfl))⟩
 f23:=⟨Tryz.f331.name,by decide,Tryz.func331.trans (TE some (by kernel_rfl))⟩
 f24:=⟨Tryz.f332.name,by decide,Tryz.func332.trans (TE some (by kernel_rfl))⟩
 f25:=⟨Tryz.f333.name,by decide,Tryz.func333.trans (TE some (by kernel_rfl))⟩
 f26:=⟨Tryz.f334.name,by decide,Tryz.func334.trans (TE some (by kernel_rfl))⟩
 f27:=⟨Tryz.f335.name,by decide,Tryz.func335.trans (TE some (by kernel_rfl))⟩
 f28:=Tryz.func308.trans (TE some (by kernel_rfl))
 f29:=Tryz.func309.trans (TE some (by kernel_rfl))
 f46:=⟨Tryz.f388.name,by decide,Tryz.func388.trans (TE some (by kernel_rfl))⟩
 f47:=Tryz.func372.trans (TE some (by kernel_rfl))
 f48:=Tryz.func373.trans (TE some (by kernel_rfl))
 f49:=⟨Tryz.f389.name,by decide,Tryz.func389.trans (TE some (by kernel_rfl))⟩
 f50:=⟨Tryz.f390.name,by decide,Tryz.func390.trans (TE some (by kernel_rfl))⟩
 f57:=⟨Tryz.f417.name,by decide,Tryz.func417.trans (TE some (by kernel_rfl))⟩
 t0:=Tryz.underlying0
 a0:=Tryz.isAgg0
 z0:=Tryz.sizeOf0
 v0:=Tryz.zeroValue0
 t3:=Tryz.underlying3
 a3:=Tryz.isAgg3
 z3:=Tryz.sizeOf3
 v3:=Tryz.zeroValue3
 t4:=Tryz.underlying4
 a4:=Tryz.isAgg4
 z4:=Tryz.sizeOf4
 v4:=Tryz.zeroValue4
 t5:=Tryz.underlying5
 a5:=Tryz.isAgg5
 z5:=Tryz.sizeOf5
 v5:=Tryz.zeroValue5
 t9:=Tryz.underlying9
 a9:=Tryz.isAgg9
 z9:=Tryz.sizeOf9
 v9:=Tryz.zeroValue9
 t22:=Tryz.underlying35
 a22:=Tryz.isAgg35
 z22:=Tryz.sizeOf35
 v22:=Tryz.zeroValue35
 t25:=Tryz.underlying209
 a25:=Tryz.isAgg209
 z25:=Tryz.sizeOf209
 v25:=Tryz.zeroValue209
 t39:=Tryz.underlying231
 a39:=Tryz.isAgg231
 z39:=Tryz.sizeOf231
 v39:=Tryz.zeroValue231
 t45:=Tryz.underlying323
 a45:=Tryz.isAgg323
 z45:=Tryz.sizeOf323
 v45:=Tryz.zeroValue323
 t46:=Tryz.underlying324
 a46:=Tryz.isAgg324
 z46:=Tryz.sizeOf324
 v46:=Tryz.zeroValue324
 t50:=Tryz.underlying90
 a50:=Tryz.isAgg90
 z50:=Tryz.sizeOf90
 v50:=Tryz.zeroValue90
 t53:=Tryz.underlying242
 a53:=Tryz.isAgg242
 z53:=Tryz.sizeOf242
 v53:=Tryz.zeroValue242
 t55:=Tryz.underlying244
 a55:=Tryz.isAgg244
 z55:=Tryz.sizeOf244
 v55:=Tryz.zeroValue244
 t66:=Tryz.underlying387
 a66:=Tryz.isAgg387
 z66:=Tryz.sizeOf387
 v66:=Tryz.zeroValue387
 t70:=Tryz.underlying391
 a70:=Tryz.isAgg391
 z70:=Tryz.sizeOf391
 v70:=Tryz.zeroValue391
 t76:=Tryz.underlying428
 a76:=Tryz.isAgg428
 z76:=Tryz.sizeOf428
 v76:=Tryz.zeroValue428
 t77:=Tryz.underlying429
 a77:=Tryz.isAgg429
 z77:=Tryz.sizeOf429
 v77:=Tryz.zeroValue429}
end Go.Proofs
