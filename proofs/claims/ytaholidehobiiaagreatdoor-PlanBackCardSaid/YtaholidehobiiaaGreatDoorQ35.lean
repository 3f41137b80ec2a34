/- Lemmas for the claim, part 35. -/
import Derived.KernelRfl
import Derived.WalkKit
import Derived.Test.YtaholidehobiiaaGreatDoorQ1
set_option maxRecDepth 100000
set_option maxHeartbeats 8000000
set_option linter.all false
namespace Go
variable {p:Prop}
theorem zc15(h:p:=by
 cases b<;>(
  (apply YY;apply Yx;apply Yr;exact rfl;exact rfl;intro g)
  repeat'(first|(apply Yk T;exact rfl;exact zm;exact rfl;exact zv;exact rfl;exact rfl)|((first|apply Ya en34|apply Yb en34);exact za;exact rfl;exactλ_ hw=>(p1 hs.cons hw))|(apply zg8;first|(refine zs16 ?_ ?_<;>intro _<;>try exact zo)|refine zs63 ?_)|(apply zg28;refine zs84 ?_)|refine zgd ?_|fail)
  all_goals(apply Yj;apply Yd;exact rfl;exact rfl;first|exact⟨rfl,rfl⟩|contradiction))):p:=h
theorem zc62(h:p:=by apply Yd;exact rfl;exact rfl;exact⟨⟨_,rfl,λh=>by cases h⟩,rfl⟩):p:=h
theorem zc95(h:p:=by exact⟨by omega,by rw[TN,TN,ha,hb,Rb,Rb,hz];simp[he]⟩):p:=h
theorem YvI(h:p:=by
 rw[TR,TR,ha,hb]at h1
 exact he (Tv h1)):p:=h
theorem Yv5(h:p:=by
 have h:=Je q ht hqin hw
 rwa [hqok.chk]at h):p:=h
end Go
