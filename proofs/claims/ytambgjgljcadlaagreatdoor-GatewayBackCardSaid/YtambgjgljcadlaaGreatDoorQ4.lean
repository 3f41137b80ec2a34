/- Lemmas. -/
import Derived.Shelf.SlGeneric
import Derived.Shelf.SlSortCmp.WholeK
import Derived.Ground.SlsfProg
import Derived.Test.YtambgjgljcadlaaGreatDoorProg
import Derived.Test.YtambgjgljcadlaaGreatDoorQ1
set_option maxRecDepth 100000
set_option maxHeartbeats 8000000
set_option linter.all false
namespace Go.Proofs
open Go.Shelf
def Tryz.sortCels_ren:Go.Shelf.Ren:=⟨λ|6=>146|15=>113|14=>227|28=>202|29=>203|20=>277|21=>278|22=>279|23=>280|24=>281|25=>282|26=>283|27=>284|46=>313|47=>260|48=>261|49=>314|50=>315|57=>338|n=>n,λ|22=>28|24=>117|25=>246|3=>3|39=>153|0=>0|53=>232|55=>234|4=>4|46=>291|45=>290|50=>61|5=>5|9=>9|66=>340|70=>344|76=>379|77=>380|n=>n,λ|n=>n⟩
theorem Tryz.sortCels:Go.Proofs.SlLaysF0.n6 Tryz.prog Tryz.sortCels_ren:={
 mixed:=by kernel_rfl
 f6:=⟨Tryz.f146.name,by decide,Tryz.func146.trans (TE some (by kernel_rfl))⟩
 f14:=⟨Tryz.f227.name,by decide,Tryz.func227.trans (TE some (by kernel_rfl))⟩
 f15:=Tryz.func113.trans (TE some (by kernel_rfl))
 f20:=⟨Tryz.f277.name,by decide,Tryz.func277.trans (TE some (by kernel_rfl))⟩
 f21:=⟨Tryz.f278.name,by decide,Tryz.func278.trans (TE some (by kernel_rfl))⟩
 f22:=⟨Tryz.f279.name,by decide,Tryz.func279.trans (TE some (by kernel_rfl))⟩
 f23:=⟨Tryz.f280.name,by decide,Tryz.func280.trans (TE some (by kernel_rfl))⟩
 f24:=⟨Tryz.f281.name,by decide,Tryz.func281.trans (TE some (by kernel_rfl))⟩
 f25:=⟨Tryz.f282.name,by decide,Tryz.func282.trans (TE some (by kernel_rfl))⟩
 f26:=⟨Tryz.f283.name,by decide,Tryz.func283.trans (TE some (by kernel_rfl))⟩
 f27:=⟨Tryz.f284.name,by decide,Tryz.func284.trans (TE some (by kernel_rfl))⟩
 f28:=Tryz.func202.trans (TE some (by kernel_rfl))
 f29:=Tryz.func203.trans (TE some (by kernel_rfl))
 f46:=⟨Tryz.f313.name,by decide,Tryz.func313.trans (TE some (by kernel_rfl))⟩
 f47:=Tryz.func260.trans (TE some (by kernel_rfl))
 f48:=Tryz.func261.trans (TE some (by kernel_rfl))
 f49:=⟨Tryz.f314.name,by decide,Tryz.func314.trans (TE some (by kernel_rfl))⟩
 f50:=⟨Tryz.f315.name,by decide,Tryz.func315.trans (TE some (by kernel_rfl))⟩
 f57:=⟨Tryz.f338.name,by decide,Tryz.func338.trans (TE some (by kernel_rfl))⟩
 t0:=Tryz.underlying0
 a0:=Tryz.isAgg0
 z0:=Tryz.sizeOf0
 v0:=Tryz.zeroValue0
 t3:=Tryz.underlying3
 a3:=Tryz.isAgg3
 z3:=Tryz.sizeOf3
 v3:=Tryz.zeroValue3
 t4:=Tryz.underlying4
 a4:=Tryz.isAgg4
 z4:=Tryz.sizeOf4
 v4:=Tryz.zeroValue4
 t5:=Tryz.underlying5
 a5:=Tryz.isAgg5
 z5:=Tryz.sizeOf5
 v5:=Tryz.zeroValue5
 t9:=Tryz.underlying9
 a9:=Tryz.isAgg9
 z9:=Tryz.sizeOf9
 v9:=Tryz.zeroValue9
 t22:=Tryz.underlying28
 a22:=Tryz.isAgg28
 z22:=Tryz.sizeOf28
 v22:=Tryz.zeroValue28
 t25:=Tryz.underlying246
 a25:=Tryz.isAgg246
 z25:=Tryz.sizeOf246
 v25:=Tryz.zeroValue246
 t39:=Tryz.underlying153
 a39:=Tryz.isAgg153
 z39:=Tryz.sizeOf153
 v39:=Tryz.zeroValue153
 t45:=Tryz.underlying290
 a45:=Tryz.isAgg290
 z45:=Tryz.sizeOf290
 v45:=Tryz.zeroValue290
 t46:=Tryz.underlying291
 a46:=Tryz.isAgg291
 z46:=Tryz.sizeOf291
 v46:=Tryz.zeroValue291
 t50:=Tryz.underlying61
 a50:=Tryz.isAgg61
 z50:=Tryz.sizeOf61
 v50:=Tryz.zeroValue61
 t53:=Tryz.underlying232
 a53:=Tryz.isAgg232
 z53:=Tryz.sizeOf232
 v53:=Tryz.zeroValue232
 t55:=Tryz.underlying234
 a55:=Tryz.isAgg234
 z55:=Tryz.sizeOf234
 v55:=Tryz.zeroValue234
 t66:=Tryz.underlying340
 a66:=Tryz.isAgg340
 z66:=Tryz.sizeOf340
 v66:=Tryz.zeroValue340
 t70:=Tryz.underlying344
 a70:=Tryz.isAgg344
 z70:=Tryz.sizeOf344
 v70:=Tryz.zeroValue344
 t76:=Tryz.underlying379
 a76:=Tryz.isAgg379
 z76:=Tryz.sizeOf379
 v76:=Tryz.zeroValue379
 t77:=Tryz.underlying380
 a77:=Tryz.isAgg380
 z77:=Tryz.sizeOf380
 v77:=Tryz.zeroValue380}
end Go.Proofs
