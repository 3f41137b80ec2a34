/- Lemmas. -/
import Derived.Test.YtambgjgljcadlaaGreatDoorRows
import Derived.Lib.LaidU8
import Derived.LaidMore
import Derived.Deep.DeepLaidRun
import Derived.Stop.Joined
import Derived.Test.YtambgjgljcadlaaGreatDoorQ9
set_option maxRecDepth 100000
set_option maxHeartbeats 8000000
set_option linter.all false
namespace Go.Proofs.YtambgjgljcadlaaGreatDoor
open Go.RowKit Go.Eng Go.Nw
abbrev Itm:=Int×Int
def itF(x:Itm):List Value:=[.int .i64 x.1,.int .i64 x.2]
def qpcs(g:Nat)(A:Option Addr)(cap:Nat)(q:List Itm)(H:List HP):List HP:=blk g (.cells #[.slice A q.length cap] 413 (0,0))::sl 411 2 A q.length cap (q.flatMap itF)::H
def qIf(g:Nat):Value:=.iface 409 (.pointer (some ⟨g,0,none⟩))
theorem Yqc(g:Nat)(w:World):(method (Tryz.prog.types.size+Made.depth) 409 (.pointer (some ⟨g,0,none⟩)) "Pop").run Tryz.prog w=.ok (384,.pointer (some ⟨g,0,none⟩)) w:=by kernel_rfl
theorem YnX(g:Nat)(w:World):(method (Tryz.prog.types.size+Made.depth) 409 (.pointer (some ⟨g,0,none⟩)) "Push").run Tryz.prog w=.ok (385,.pointer (some ⟨g,0,none⟩)) w:=by kernel_rfl
theorem Yqb:Tryz.prog.types.size+Made.depth=(Tryz.prog.types.size+Made.depth-1)+1:=by kernel_rfl
variable {g B cap:Nat}{v:Value}{w0 w:World}{H:List HP}
theorem YiO(hb:blk g (.cells #[v] 413 (0,0))∈H)(w:World)(hw:St B w0 H w):(method (Tryz.prog.types.size+Made.depth) 409 (.pointer (some ⟨g,0,none⟩)) "Len").run Tryz.prog w=.ok (329,v) w:=by
 rw[Yqb,Ya9 (f:=329) (elem:=413) (by kernel_rfl)]
 exact zc35
theorem XR(hb:blk g (.cells #[v] 413 (0,0))∈H)(w:World)(hw:St B w0 H w):(method (Tryz.prog.types.size+Made.depth) 409 (.pointer (some ⟨g,0,none⟩)) "Less").run Tryz.prog w=.ok (383,v) w:=by
 rw[Yqb,Ya9 (f:=383) (elem:=413) (by kernel_rfl)]
 exact zc35
theorem Wa(hb:blk g (.cells #[v] 413 (0,0))∈H)(w:World)(hw:St B w0 H w):(method (Tryz.prog.types.size+Made.depth) 409 (.pointer (some ⟨g,0,none⟩)) "Swap").run Tryz.prog w=.ok (386,v) w:=by
 rw[Yqb,Ya9 (f:=386) (elem:=413) (by kernel_rfl)]
 exact zc35
variable {A:Option Addr}
theorem O9(k:Nat)(hw:St B w0 H w):
 CX B w0 329 [.slice A k cap] w λv K=>v=.int .i64 k/\K=H:=by
 refine Yc Tryz.func329 Tryz.ntmps329 rfl rfl hw ?_
 repeat'(first|(refine zs9 ?_)|refine zga ?_|fail)
 exact zc24
theorem Uh(q:List Itm)(i j:Nat)(x y:Itm)(hx:q[i]? =some x)(hy:q[j]? =some y)(hr:Rd B w0 H A (q.flatMap itF))(hw:St B w0 H w):
 CX B w0 383 [.slice A q.length cap,.int .i64 i,.int .i64 j] w λv K=>v=.bool (decide (x.2<y.2))/\K=H:=by
 refine Yc Tryz.func383 Tryz.ntmps383 rfl rfl hw ?_
 have hi:=(Tc.1 hx).1
 have hj:=(Tc.1 hy).1
 by_cases hlt:x.2<y.2
 ·refine zX0 ?_<;>intros
  exact zc24
 ·refine zX0 ?_<;>intros
  exact zc24
theorem Ui(q:List Itm)(i j:Nat)(x y:Itm)(hx:q[i]? =some x)(hy:q[j]? =some y)(hw:St B w0 (sl 411 2 A q.length cap (q.flatMap itF)::H) w):
 CX B w0 386 [.slice A q.length cap,.int .i64 i,.int .i64 j] w λv K=>v=.tuple #[]/\K=sl 411 2 A q.length cap (((q.set i y).set j x).flatMap itF)::H:=by
 refine Yc Tryz.func386 Tryz.ntmps386 rfl rfl hw ?_
 have hi:=(Tc.1 hx).1
 have hj:=(Tc.1 hy).1
 have hl1:(q.set i y).length=q.length:=Rj
 repeat'(first|fail)
 apply UR [2,3,0,1,4,5,6,7,8,9,10,11,12] [2,3,13,14,15] [13,14,15] [true]
 kernel_rfl
 kernel_rfl
 exact zy
 (simp only[Yg,nthO];rfl)
 (simp only[Yg,nthO];rfl)
 repeat'(first|(apply Jb T (f:=itF) (l:=q) (i:=i) (a:=y);(iterate 3 exact rfl);exact zd;exactλ_=>rfl;(iterate 3 exact rfl);omega)|(apply Jb T (f:=itF) (l:=q.set i y) (i:=j) (a:=x);(iterate 3 exact rfl);exact zd;exactλ_=>rfl;(iterate 3 exact rfl);omega)|refine zgd ?_|fail)
 exact zc99
def itV(x:Itm):Value:=.agg #[.int .i64 x.1,.int .i64 x.2]
variable {A:Option Addr}{cap B:Nat}{w0 w:World}{H:List HP}
theorem YqE(q:List Itm)(x:Itm)(hw:St B w0 (sl 411 2 A (q.length+1) cap ((q++[x]).flatMap itF)::H) w):St B w0 (sl 411 2 A q.length cap (q.flatMap itF)::H) w:=by
 have e:((q++[x]).flatMap itF).take (q.length*2)=q.flatMap itF:=by
  rw[<-XQ (q:=2) (λ_=>rfl),List.take_left' rfl]
 refine hw.shrink (e:=411) (size:=2) (k:=q.length+1) (k':=q.length) (cap:=cap) (A:=A) (xs:=(q++[x]).flatMap itF) (Nat.le_succ _) ?_
 rw[e]
 exact Upd.here _
theorem Yoc(g:Nat)(q:List Itm)(x:Itm)(hl:q.length<=100000000000)(hw:St B w0 (qpcs g A cap (q++[x]) H) w):
 CX B w0 384 [.pointer (some ⟨g,0,none⟩)] w λv K=>v=.iface 411 (itV x)/\K=qpcs g A cap q H:=by
 refine Yc Tryz.func384 Tryz.ntmps384 rfl rfl hw ?_
 have hlen:(q++[x]).length=q.length+1:=by simp
 have hxl:(q++[x])[((((q++[x]).length:Nat):Int)-1).toNat]? =some x:=by
  simp_all
 unfold qpcs
 refine zX4 ?_
 apply YK [0,1,2,3,4,5,6,7,8,9,10] [11] [true,true]
 kernel_rfl
 kernel_rfl
 exact zy
 (simp only[Yg,nthO];rfl)
 (simp only[Yg,nthO];rfl)
 repeat'(first|(apply Yk;try exact zl)|refine zgd ?_|(refine zgh ?_;intro _)|fail)
 rename_i g3
 apply YK [0,1,2,3,4,5,6,7,8,9,10] [11] [true,true]
 kernel_rfl
 kernel_rfl
 exact zy
 (simp only[Yg,nthO];rfl)
 (simp only[Yg,nthO];rfl)
 repeat'(first|(apply Ybl T (e:=411) (size:=2);exact rfl;exact rfl;exact zm;exact rfl;exact rfl;omega)|(apply Wm;exact rfl;kernel_rfl;exact rfl)|refine zgd ?_|fail)
 apply Yi (qpcs g A cap q H)
 ·intro w hw
  rw[show((((q++[x]).length:Nat):Int)-1).toNat=q.length by omega,hlen]at hw
  have h5:St B w0 (sl 411 2 A (q.length+1) cap ((q++[x]).flatMap itF)::blk g (.cells #[.slice A q.length cap] 413 (0,0))::H) w:=by
   revert w
   exact zc0
  exact(YqE q x h5).perm (.swap _ _ _)
 apply Yd;exact rfl;exact rfl
 exact YaI
theorem YkR(g:Nat)(q:List Itm)(x:Itm)(hl:q.length<=100000000000)(hw:St B w0 (qpcs g A cap q H) w):
 CX B w0 385 [.pointer (some ⟨g,0,none⟩),.iface 411 (itV x)] w λv K=>∃A' cap',v=.tuple #[]/\K=qpcs g A' cap' (q++[x]) H:=by
 refine Yc Tryz.func385 Tryz.ntmps385 rfl rfl hw ?_
 unfold qpcs itV
 repeat'(first|(apply Ybk;exact rfl;kernel_rfl;exact rfl)|refine zgc ?_|(refine zgh ?_;intro _)|fail)
 rename_i g3
 apply YK [0,1,2,3,4,5,6,7] [8] [true,true,false]
 kernel_rfl
 kernel_rfl
 exact zy
 (simp only[Yg,nthO];rfl)
 (simp only[Yg,nthO];rfl)
 repeat'(first|(apply Yk;try exact zl)|refine zgd ?_|(refine zgh ?_;intro _)|(refine zgi ?_;intro _ _)|fail)
 rename_i A3 cap3
 apply Yi (qpcs g A3 cap3 (q++[x]) H)
 ·unfold qpcs
  rw[Tq,TV,show(q++[x]).flatMap itF=q.flatMap itF++#[Value.int .i64 x.1,.int .i64 x.2].toList by simp[itF]]
  exact zc0
 apply VG;exact rfl
 exact⟨A3,cap3,rfl,rfl⟩
theorem We{q:List Itm}{i j:Nat}{x y:Itm}(hx:q[i]? =some x)(hy:q[j]? =some y):((q.set i y).set j x).Perm q:=by
 obtain⟨hi,rfl⟩:=Tc.1 hx
 obtain⟨hj,rfl⟩:=Tc.1 hy
 exact List.set_set_perm hi hj
theorem Yly{q q':List Itm}(h:q'.Perm q):q'.length=q.length:=h.length_eq
theorem Ynp(g:Nat)(q:List Itm)(i0 n:Nat)(hn:n<=q.length)(hl:q.length<=100000000000)(hi0:i0<=100000000000){A:Option Addr}{cap B:Nat}{w0:World}{H:List HP}{w:World}(hw:St B w0 (qpcs g A cap q H) w):
 CX B w0 351 [qIf g,.int .i64 i0,.int .i64 n] w λv K=>∃b q',v=.bool b/\q'.Perm q/\K=qpcs g A cap q' H:=by
 refine Yc Tryz.func351 Tryz.ntmps351 rfl rfl hw ?_
 unfold qIf
 refine zX7 ?_
 refine Yj (λ(z:Nat×List Itm)=>[(7,.int .i64 z.1),(0,qIf g),(1,.int .i64 i0),(2,.int .i64 n)]) (λz=>qpcs g A cap z.2 H) (λz=>z.1<=100000000000/\z.2.Perm q) (λz=>n-z.1) (i0,q) ⟨hi0,.refl _⟩ ?_ (λw hw=>hw) ?_
 ·exact zc1
 rintro⟨i,q1⟩ ⟨hi,hp⟩ K hK
 simp only at hi hp⊢
 have hql:=Yly hp
 unfold qIf qpcs
 by_cases h1:2*i+1<n
 rotate_left
 ·have h1':¬2*(i:Int)+1<n:=by omega
  repeat'(first|refine zgd ?_|(refine zgf ?_ ?_<;>intro _<;>try exact zo)|fail)
  all_goals(
   apply Yd;exact rfl;exact rfl
   exact⟨_,q1,rfl,hp,rfl⟩)
 have hin:i<n:=by omega
 obtain⟨xi,hxi⟩:∃x,q1[i]? =some x:=⟨_,Ta (by omega)⟩
 obtain⟨x1,hx1⟩:∃x,q1[2*i+1]? =some x:=⟨_,Ta (by omega)⟩
 have e1:(2*(i:Int)+1)=((2*i+1:Nat):Int):=by omega
 have e2:((2*i+1:Nat):Int)+1=((2*i+2:Nat):Int):=by omega
 by_cases h2:2*i+2<n
 ·obtain⟨x2,hx2⟩:∃x,q1[2*i+2]? =some x:=⟨_,Ta (by omega)⟩
  obtain⟨b2,hb2⟩:∃b,decide (x2.2<x1.2)=b:=⟨_,rfl⟩
  have h21:=λ{w:World}(hr:Rd B w0 (qpcs g A cap q1 H) A (q1.flatMap itF)) (hw:St B w0 (qpcs g A cap q1 H) w)=>Uh q1 (2*i+2) (2*i+1) x2 x1 hx2 hx1 (cap:=cap) hr hw
  rw[hb2]at h21
  unfold qpcs at h21
  refine zX22 ?_<;>intros
  rw[e1,e2]
  cases b2 with
  |false=>
   obtain⟨b,hb⟩:∃b,decide (x1.2<xi.2)=b:=⟨_,rfl⟩
   have hless:=λ{w:World}(hr:Rd B w0 (qpcs g A cap q1 H) A (q1.flatMap itF)) (hw:St B w0 (qpcs g A cap q1 H) w)=>Uh q1 (2*i+1) i x1 xi hx1 hxi (cap:=cap) hr hw
   rw[hb]at hless
   have hswap:=λ{H:List HP}{w:World}(hw:St B w0 (sl 411 2 A q1.length cap (q1.flatMap itF)::H) w)=>Ui q1 i (2*i+1) xi x1 hxi hx1 hw
   unfold qpcs at hless
   cases b with
   |false=>
    apply Xj (f:=383);exact rfl;exact XR (by(focus exact zc2));exact WX;exact za;exact rfl;exactλ_ hw=>h21 (.sl (by(focus exact zc2))) hw
    refine zX9 ?_
    apply Xj (f:=383);exact rfl;exact XR (by(focus exact zc2));exact WX;exact za;exact rfl;exactλ_ hw=>hless (.sl (by(focus exact zc2))) hw
    exact zc17
   |true=>
    apply Xj (f:=383);exact rfl;exact XR (by(focus exact zc2));exact WX;exact za;exact rfl;exactλ_ hw=>h21 (.sl (by(focus exact zc2))) hw
    refine zX9 ?_
    apply Xj (f:=383);exact rfl;exact XR (by(focus exact zc2));exact WX;exact za;exact rfl;exactλ_ hw=>hless (.sl (by(focus exact zc2))) hw
    refine zX2 ?_
    apply ZE (sl 411 2 A q1.length cap (q1.flatMap itF)::blk g (.cells #[.slice A q1.length cap] 413 (0,0))::H)
    ·exact zc0
    apply Jl (f:=386);exact rfl;exact Wa (by(focus exact zc2));exact Yib;exact za;exact rfl;exactλ_ hw=>hswap hw
    rintro _ _ ⟨rfl,rfl⟩
    refine zX9 ?_
    apply hK (2*i+1,(q1.set i x1).set (2*i+1) xi)
    ·exact⟨by exact zc29,(We hxi hx1).trans hp⟩
    ·exact zc29
    ·exact zc1
    ·dsimp only
     unfold qpcs
     rw[Rj,Rj]
     exact zc0
  |true=>
   obtain⟨b,hb⟩:∃b,decide (x2.2<xi.2)=b:=⟨_,rfl⟩
   have hless:=λ{w:World}(hr:Rd B w0 (qpcs g A cap q1 H) A (q1.flatMap itF)) (hw:St B w0 (qpcs g A cap q1 H) w)=>Uh q1 (2*i+2) i x2 xi hx2 hxi (cap:=cap) hr hw
   rw[hb]at hless
   have hswap:=λ{H:List HP}{w:World}(hw:St B w0 (sl 411 2 A q1.length cap (q1.flatMap itF)::H) w)=>Ui q1 i (2*i+2) xi x2 hxi hx2 hw
   unfold qpcs at hless
   cases b with
   |false=>
    apply Xj (f:=383);exact rfl;exact XR (by(focus exact zc2));exact WX;exact za;exact rfl;exactλ_ hw=>h21 (.sl (by(focus exact zc2))) hw
    refine zX9 ?_
    apply Xj (f:=383);exact rfl;exact XR (by(focus exact zc2));exact WX;exact za;exact rfl;exactλ_ hw=>hless (.sl (by(focus exact zc2))) hw
    exact zc17
   |true=>
    apply Xj (f:=383);exact rfl;exact XR (by(focus exact zc2));exact WX;exact za;exact rfl;exactλ_ hw=>h21 (.sl (by(focus exact zc2))) hw
    refine zX9 ?_
    apply Xj (f:=383);exact rfl;exact XR (by(focus exact zc2));exact WX;exact za;exact rfl;exactλ_ hw=>hless (.sl (by(focus exact zc2))) hw
    refine zX2 ?_
    apply ZE (sl 411 2 A q1.length cap (q1.flatMap itF)::blk g (.cells #[.slice A q1.length cap] 413 (0,0))::H)
    ·exact zc0
    apply Jl (f:=386);exact rfl;exact Wa (by(focus exact zc2));exact Yib;exact za;exact rfl;exactλ_ hw=>hswap hw
    rintro _ _ ⟨rfl,rfl⟩
    refine zX9 ?_
    apply hK (2*i+2,(q1.set i x2).set (2*i+2) xi)
    ·exact⟨by exact zc29,(We hxi hx2).trans hp⟩
    ·exact zc29
    ·exact zc1
    ·dsimp only
     unfold qpcs
     rw[Rj,Rj]
     exact zc0
 ·have h2':¬2*(i:Int)+1+1<n:=by omega
  refine zX22 ?_<;>intros
  rw[e1]
  obtain⟨b,hb⟩:∃b,decide (x1.2<xi.2)=b:=⟨_,rfl⟩
  have hless:=λ{w:World}(hr:Rd B w0 (qpcs g A cap q1 H) A (q1.flatMap itF)) (hw:St B w0 (qpcs g A cap q1 H) w)=>Uh q1 (2*i+1) i x1 xi hx1 hxi (cap:=cap) hr hw
  rw[hb]at hless
  have hswap:=λ{H:List HP}{w:World}(hw:St B w0 (sl 411 2 A q1.length cap (q1.flatMap itF)::H) w)=>Ui q1 i (2*i+1) xi x1 hxi hx1 hw
  unfold qpcs at hless
  cases b with
  |false=>
   repeat'(first|fail)
   apply Xj (f:=383);exact rfl;exact XR (by(focus exact zc2));exact WX;exact za;exact rfl;exactλ_ hw=>hless (.sl (by(focus exact zc2))) hw
   exact zc17
  |true=>
   repeat'(first|fail)
   apply Xj (f:=383);exact rfl;exact XR (by(focus exact zc2));exact WX;exact za;exact rfl;exactλ_ hw=>hless (.sl (by(focus exact zc2))) hw
   refine zX2 ?_
   apply ZE (sl 411 2 A q1.length cap (q1.flatMap itF)::blk g (.cells #[.slice A q1.length cap] 413 (0,0))::H)
   ·exact zc0
   apply Jl (f:=386);exact rfl;exact Wa (by(focus exact zc2));exact Yib;exact za;exact rfl;exactλ_ hw=>hswap hw
   rintro _ _ ⟨rfl,rfl⟩
   refine zX9 ?_
   apply hK (2*i+1,(q1.set i x1).set (2*i+1) xi)
   ·exact⟨by exact zc29,(We hxi hx1).trans hp⟩
   ·exact zc29
   ·exact zc1
   ·dsimp only
    unfold qpcs
    rw[Rj,Rj]
    exact zc0
variable {g B cap:Nat}{w0 w:World}{H:List HP}
theorem YnW(w:World)(_:St B w0 H w):(method (Tryz.prog.types.size+Made.depth) 409 (.pointer (some ⟨g,0,none⟩)) "Pop").run Tryz.prog w=.ok (384,.pointer (some ⟨g,0,none⟩)) w:=Yqc g w
theorem YkD(w:World)(_:St B w0 H w):(method (Tryz.prog.types.size+Made.depth) 409 (.pointer (some ⟨g,0,none⟩)) "Push").run Tryz.prog w=.ok (385,.pointer (some ⟨g,0,none⟩)) w:=YnX g w
variable {A:Option Addr}
theorem Ys2(g:Nat)(q:List Itm)(j0:Nat)(hj0:j0<q.length)(hl:q.length<=100000000000)(hw:St B w0 (qpcs g A cap q H) w):
 CX B w0 352 [qIf g,.int .i64 j0] w λv K=>∃q',v=.tuple #[]/\q'.Perm q/\K=qpcs g A cap q' H:=by
 refine Yc Tryz.func352 Tryz.ntmps352 rfl rfl hw ?_
 unfold qIf
 refine zX7 ?_
 refine Yj (λ(z:Nat×List Itm)=>[(1,.int .i64 z.1),(0,qIf g)]) (λz=>qpcs g A cap z.2 H) (λz=>z.1<q.length/\z.2.Perm q) (λz=>z.1) (j0,q) ⟨hj0,.refl _⟩ ?_ (λw hw=>hw) ?_
 ·exact zc1
 rintro⟨j,q1⟩ ⟨hj,hp⟩ K hK
 simp only at hj hp⊢
 have hql:=Yly hp
 unfold qIf qpcs
 by_cases h1:j=0
 ·subst h1
  repeat'(first|(apply YhC;(iterate 3 exact rfl);decide;rw[show IntKind.i64.wrap ((((0:Nat):Int)-1).tdiv 2)=0 by decide])|refine zgd ?_|(refine zge ?_ ?_<;>intro _<;>try exact zo)|fail)
  apply VG;exact rfl
  exact⟨q1,rfl,hp,rfl⟩
 have hjj:1<=j:=by omega
 obtain⟨xj,hxj⟩:∃x,q1[j]? =some x:=⟨_,Ta (by omega)⟩
 obtain⟨i,hi⟩:∃i,(j-1)/2=i:=⟨_,rfl⟩
 have hij:i<j:=by omega
 obtain⟨xi,hxi⟩:∃x,q1[i]? =some x:=⟨_,Ta (by omega)⟩
 have e1:((j:Int)-1)/2=(i:Int):=by omega
 obtain⟨b,hb⟩:∃b,decide (xj.2<xi.2)=b:=⟨_,rfl⟩
 have hless:=λ{w:World}(hr:Rd B w0 (qpcs g A cap q1 H) A (q1.flatMap itF)) (hw:St B w0 (qpcs g A cap q1 H) w)=>Uh q1 j i xj xi hxj hxi (cap:=cap) hr hw
 rw[hb]at hless
 unfold qpcs at hless
 have hswap:=λ{H:List HP}{w:World}(hw:St B w0 (sl 411 2 A q1.length cap (q1.flatMap itF)::H) w)=>Ui q1 i j xi xj hxi hxj hw
 cases b with
 |false=>
  refine zX0 ?_<;>intros
  rw[e1]
  apply Xj (f:=383)
  exact rfl
  exact XR (by(focus exact zc2))
  exact WX
  exact za
  exact rfl
  exactλ_ hw=>(hless (.sl (by(focus exact zc2))) hw)
  refine zX2 ?_
  apply VG;exact rfl
  exact⟨q1,rfl,hp,rfl⟩
 |true=>
  refine zX0 ?_<;>intros
  rw[e1]
  apply Xj (f:=383)
  exact rfl
  exact XR (by(focus exact zc2))
  exact WX
  exact za
  exact rfl
  exactλ_ hw=>(hless (.sl (by(focus exact zc2))) hw)
  refine zX2 ?_
  apply ZE (sl 411 2 A q1.length cap (q1.flatMap itF)::blk g (.cells #[.slice A q1.length cap] 413 (0,0))::H)
  ·exact zc0
  apply Jl (f:=386) _
  exact rfl
  exact Wa (by(focus exact zc2))
  exact Yib
  exact za
  exact rfl
  exactλ_ hw=>(hswap hw)
  rintro _ _ ⟨rfl,rfl⟩
  refine zX9 ?_
  apply hK (i,(q1.set i xj).set j xi)
  ·exact⟨by exact zc29,(We hxi hxj).trans hp⟩
  ·exact zc29
  ·exact zc1
  ·dsimp only
   unfold qpcs
   rw[Rj,Rj]
   exact zc0
theorem Ykp(g:Nat)(q:List Itm)(x:Itm)(hl:q.length<=99999999999)(hw:St B w0 (qpcs g A cap q H) w):
 CX B w0 331 [qIf g,.iface 411 (itV x)] w λv K=>∃A' cap' q',v=.tuple #[]/\q'.Perm (x::q)/\K=qpcs g A' cap' q' H:=by
 refine Yc Tryz.func331 Tryz.ntmps331 rfl rfl hw ?_
 refine zX4 ?_
 apply Jl (f:=385) _
 exact rfl
 exact YkD
 exact YwH
 exact za
 exact rfl
 exactλ_ hw=>(YkR g q x (by omega) hw)
 rintro _ _ ⟨A2,cap2,rfl,rfl⟩
 unfold qpcs
 refine zX4 ?_
 have hlen:(q++[x]).length=q.length+1:=by simp
 apply Xj (f:=329)
 exact rfl
 exact YiO (by(focus exact zc2))
 exact Yfi
 exact za
 exact rfl
 exactλ_ hw=>(O9 _ hw)
 repeat'(first|(refine zs31 ?_)|fail)
 rw[show(((q++[x]).length:Nat):Int)-1=((q.length:Nat):Int) by omega]
 apply ZE (qpcs g A2 cap2 (q++[x]) H)
 ·unfold qpcs
  exact zc66
 apply Yf _ YwD
 exact za
 exact rfl
 exactλ_ hw=>(Ys2 g (q++[x]) q.length (by omega) (by omega) (hw))
 rintro _ _ ⟨q',rfl,hp,rfl⟩
 refine zX4 ?_
 apply VG;exact rfl
 exact⟨A2,cap2,q',rfl,hp.trans NL,rfl⟩
theorem YnE(g:Nat)(q:List Itm)(h0:q≠[])(hl:q.length<=100000000000)(hw:St B w0 (qpcs g A cap q H) w):
 CX B w0 330 [qIf g] w λv K=>∃x q',v=.iface 411 (itV x)/\(x::q').Perm q/\K=qpcs g A cap q' H:=by
 refine Yc Tryz.func330 Tryz.ntmps330 rfl rfl hw ?_
 have hpos:0<q.length:=List.length_pos_iff.2 h0
 obtain⟨x0,hx0⟩:∃x,q[0]? =some x:=⟨_,Ta (by omega)⟩
 obtain⟨xn,hxn⟩:∃x,q[q.length-1]? =some x:=⟨_,Ta (by omega)⟩
 have hswap:=λ{H:List HP}{w:World}(hw:St B w0 (sl 411 2 A q.length cap (q.flatMap itF)::H) w)=>Ui q 0 (q.length-1) x0 xn hx0 hxn hw
 have hp1:=We hx0 hxn
 unfold qIf qpcs
 refine zX4 ?_
 apply Xj (f:=329)
 exact rfl
 exact YiO (by(focus exact zc2))
 exact Yfi
 exact za
 exact rfl
 exactλ_ hw=>(O9 _ hw)
 refine zX2 ?_
 rw[show((q.length:Nat):Int)-1=((q.length-1:Nat):Int) by omega]
 apply ZE (sl 411 2 A q.length cap (q.flatMap itF)::blk g (.cells #[.slice A q.length cap] 413 (0,0))::H)
 ·exact zc0
 apply Jl (f:=386) _
 exact rfl
 exact Wa (by(focus exact zc2))
 exact Yib
 exact za
 exact rfl
 exactλ_ hw=>(hswap hw)
 rintro _ _ ⟨rfl,rfl⟩
 obtain⟨q1,hq1⟩:∃q1,(q.set 0 xn).set (q.length-1) x0=q1:=⟨_,rfl⟩
 rw[hq1]at hp1
 have hl1:=hp1.length_eq
 rw[hq1,<-hl1]
 refine zX4 ?_
 apply ZE (qpcs g A cap q1 H)
 ·unfold qpcs
  exact zc0
 apply Yf _ YwC
 exact za
 exact rfl
 exactλ_ hw=>(Ynp g q1 0 (q1.length-1) (by omega) (by omega) (by omega) (hw))
 rintro _ _ ⟨b,q2,rfl,hp2,rfl⟩
 have hl2:=hp2.length_eq
 obtain⟨q3,x,rfl⟩:∃q3 x,q2=q3++[x]:=by
  have hne:q2≠[]:=by intro h;rw[h]at hl2;simp at hl2;omega
  exact⟨q2.dropLast,q2.getLast hne,(List.dropLast_concat_getLast hne).symm⟩
 have hl3:(q3++[x]).length=q3.length+1:=by simp
 refine zX4 ?_
 apply Jl (f:=384) _
 exact rfl
 exact YnW
 exact YwG
 exact za
 exact rfl
 exactλ_ hw=>(Yoc g q3 x (by omega) hw)
 rintro _ _ ⟨rfl,rfl⟩
 refine zX4 ?_
 apply Yd;exact rfl;exact rfl
 exact⟨x,q3,rfl,(NL (l₁:=[x]) (l₂:=q3)).trans (hp2.trans hp1),rfl⟩
variable {B c k:Nat}{w0 w:World}{H:List HP}
theorem Yqi(c:Nat)(hc:c<=1000000)(hw:St B w0 H w):
 CX B w0 350 [.int .u64 1,.int .u64 c] w λv K=>v=.tuple #[.int .u64 0,.int .u64 c]/\K=H:=by
 have h:=Tryz.bits_Mul 1 c (by omega) (by omega) w
 rw[Nat.one_mul,Nat.div_eq_of_lt (by omega),NA (by omega)]at h
 exact Yob hw h
def fillL(v:Int)(c k:Nat):List Int:=List.replicate k v++List.replicate (c-k) 0
variable {v:Int}
theorem YpQ(h:k<=c):(fillL v c k).length=c:=by grind [fillL]
theorem Ynw{m:Nat}(hk:k+m<=c)(hm:m<=k):(fillL v c k).take k++(fillL v c k).take m++(fillL v c k).drop (k+m)=fillL v c (k+m):=by
 unfold fillL
 rw[S8,S8,List.drop_append]
 simp only[Rb,Ni,List.take_replicate,Nat.min_self,List.drop_replicate]
 rw[RU hm,show m-k=0 by omega,show k-(k+m)=0 by omega,Nat.zero_min,NV,Rx,Rx,NV,TP,List.replicate_append_replicate,show c-k-(k+m-k)=c-(k+m) by omega]
theorem Yjt(l:List Int)(k:Nat):(l.flatMap numF).take k=(l.take k).flatMap numF:=by
 rw[XQ (q:=1) (λ_=>rfl),Nr]
theorem Ypz(l:List Int)(k:Nat):(l.flatMap numF).drop k=(l.drop k).flatMap numF:=by
 rw[O0 (q:=1) (λ_=>rfl),Nr]
theorem YsD(l:List Int):∀v∈l.flatMap numF,v.oneCell'=true:=by
 intro v hv
 obtain⟨z,_,hz⟩:=RP.1 hv
 obtain rfl:v=.int .i64 z:=by grind [numF]
 rfl
theorem Yry(c:Nat):List.replicate c (Value.int .i64 0)=(List.replicate c (0:Int)).flatMap numF:=by
 induction c with
 |zero=>rfl
 |succ c ih=>rw[Nz,Nz,TT,ih];rfl
theorem OM(v:Int)(c:Nat)(hc:1<=c/\c<=100000){A2:Option Addr}{cap2:Nat}(hr:Rd B w0 H A2 (numF v))(hw:St B w0 H w):
 CX B w0 328 [.slice A2 1 cap2,.int .i64 c] w λu K=>∃g,u=.slice (some ⟨g,0,none⟩) (List.replicate c v).length c/\K=ints (some ⟨g,0,none⟩) c (List.replicate c v)::H:=by
 refine Yc Tryz.func328 Tryz.ntmps328 rfl rfl hw ?_
 repeat'(first|((first|apply Ya Yt9|apply Yb Yt9);exact za;exact rfl;exactλ_ hw=>(Yqi c (by omega) hw))|(apply Yhw T;(iterate 3 exact rfl);exact zi3;(iterate 3 exact rfl);omega;intro _)|refine zgd ?_|(refine zgf ?_ ?_<;>intro _<;>try exact zo)|fail)
 rename_i g
 simp only[RS]
 rw[Yry]
 apply Ylo T (o:=0) (k:=c) (kd:=c) (mm:=1) (ys:=numF v) (xs:=(List.replicate c (0:Int)).flatMap numF)
 exact rfl
 exact rfl
 exact hr.cons
 exact zd
 exact rfl
 exact rfl
 ·intro x hx
  obtain rfl:x=.int .i64 v:=by grind [numF]
  rfl
 ·grind [numF]
 have e1:min 1 c=1:=by omega
 have e2:((List.replicate c (0:Int)).flatMap numF).take 0++(numF v).take 1++((List.replicate c (0:Int)).flatMap numF).drop (0+1)=(fillL v c 1).flatMap numF:=by
  obtain⟨c',rfl⟩:∃c',c=c'+1:=⟨c-1,by omega⟩
  grind [fillL,numF]
 rw[e1,e2]
 refine zX7 ?_
 refine Yj (λ(k:Nat)=>[(8,.int .i64 k),(7,.slice (some ⟨g,0,none⟩) c c)]) (λk=>sl 3 1 (some ⟨g,0,none⟩) c c ((fillL v c k).flatMap numF)::H) (λk=>1<=k/\k<=c) (λk=>c-k) 1 ⟨by omega,hc.1⟩ ?_ (λw hw=>hw) ?_
 ·exact zc1
 rintro k ⟨hk1,hk⟩ K hK
 have hfl:=YpQ (v:=v) hk
 have hfl2:((fillL v c k).flatMap numF).length=c:=by rw[XE (q:=1) (λ_=>rfl),hfl,Nr]
 by_cases hlt:k<c
 ·refine zX3 ?_<;>intros
  apply UR [0,1,2,3,4,5,6] [0,7,8,9] [7,8,9] [true]
  kernel_rfl
  kernel_rfl
  exact zy
  (simp only[Yg,nthO];rfl)
  (simp only[Yg,nthO];rfl)
  repeat'(first|(apply Ybl T (e:=3) (size:=1);exact rfl;exact rfl;exact zm;exact rfl;exact rfl;omega)|(apply Jn T;(iterate 4 exact rfl);omega;exact rfl)|refine zgd ?_|fail)
  simp only[RS]
  rw[Yos (by omega)]
  apply Ylo T (o:=k) (k:=c) (kd:=c-k) (mm:=k) (ys:=(fillL v c k).flatMap numF) (xs:=(fillL v c k).flatMap numF)
  exact rfl
  exact rfl
  exact .sl (by(focus exact zc2))
  exact zd
  exact rfl
  exact rfl
  exact YsD _
  ·omega
  obtain⟨m,hm⟩:∃m,min k (c-k)=m:=⟨_,rfl⟩
  rw[hm,Yjt,Yjt,Ypz,<-Rw,<-Rw,Ynw (by omega) (by omega)]
  refine zX2 ?_
  apply hK (k+m)
  ·omega
  ·omega
  ·exact zc1
  exact zc19
 ·obtain rfl:k=c:=by omega
  clear hK
  refine zX1 ?_<;>intros
  apply Yd;exact rfl;exact rfl
  have e3:fillL v k k=List.replicate k v:=by simp[fillL]
  rw[e3]
  exact⟨g,by rw[Rb],by unfold ints;rw[Rb]⟩
open Go.RowKit Go.Eng Go.Nw Go.Rt
structure Dz where
 far:List Int
 q:List Itm
 A:Option Addr
 cap:Nat
structure Ez where
 k:Nat
 far:List Int
 q:List Itm
 A:Option Addr
 cap:Nat
theorem Yq0:∀(l:List Int),(∀x∈l,x<=1073741824)->(l.map Int.toNat).sum<=l.length*1073741824
 |[],_=>by simp
 |a::l,h=>by
  have:=Yq0 l λx hx=>h x (by simp[hx])
  have h1:=h a (by simp)
  grind
theorem Uc(nodes:Nat)(l:List Lk)(to:Int)(hn:nodes<=40)(hl:l.length<=1000000)(hok:ArcsOk nodes l)(hto:0<=to/\to<nodes){AL:Option Addr}{capL B:Nat}{w0:World}{H:List HP}{w:World}(hr:Rd B w0 H AL (l.flatMap lkF))(hw:St B w0 H w):
 CX B w0 303 [.int .i64 nodes,.slice AL l.length capL,.int .i64 to] w λv K=>∃g far,v=.slice (some ⟨g,0,none⟩) far.length nodes/\Dist nodes l to far/\K=ints (some ⟨g,0,none⟩) nodes far::H:=by
 refine Yc Tryz.func303 Tryz.ntmps303 rfl rfl hw ?_
 refine zX14 ?_<;>intros
 apply Yf _ YpJ
 exact za
 exact rfl
 exactλ_ hw=>(OM 1073741824 nodes (by omega) (.blk (by(focus exact zc2))) (hw))
 rintro _ _ ⟨gf,rfl,rfl⟩
 have hrl:(List.replicate nodes (1073741824:Int)).length=nodes:=Rb
 repeat'(first|(apply XB T (f:=numF) (l:=List.replicate nodes (1073741824:Int)) (i:=to.toNat) (a:=0);(iterate 3 exact rfl);exact zd;exact rfl;exactλ_=>rfl;exact rfl;omega)|refine zgd ?_|(refine zgh ?_;intro _)|fail)
 rename_i gL gq
 have hs0:=Yj2 hok hto.1 hto.2
 have hw0:JR ((List.replicate nodes (1073741824:Int)).set to.toNat 0) [(to,0)]<=90000000000:=by
  unfold JR
  have:=Yq0 ((List.replicate nodes (1073741824:Int)).set to.toNat 0) (λx hx=>by
   rcases List.mem_or_eq_of_mem_set hx with h|rfl
   ·rw[(List.mem_replicate.1 h).2];exact Ry _
   ·decide)
  rw[Rj,Rb]at this
  simp only[TV]
  omega
 refine Yj (λ(z:Dz)=>[(8,.pointer (some ⟨gq,0,none⟩)),(7,.slice (some ⟨gf,0,none⟩) z.far.length nodes),(0,.int .i64 nodes),(1,.slice AL l.length capL),(2,.int .i64 to)])
  (λz=>qpcs gq z.A z.cap z.q (ints (some ⟨gf,0,none⟩) nodes z.far::H)) (λz=>DInv nodes l to z.far z.q 0 []/\JR z.far z.q<=90000000000) (λz=>JR z.far z.q) ⟨(List.replicate nodes (1073741824:Int)).set to.toNat 0,[(to,0)],some ⟨gL,0,none⟩,1⟩ ⟨hs0,hw0⟩ ?_ ?_ ?_
 ·dsimp only
  rw[Rj]
  exact zc1
 ·intro w hw
  dsimp only
  have h5:St B w0 (blk gL (.cells #[.int .i64 to,.int .i64 0] 411 (0,0))::blk gq (.cells #[.slice (some ⟨gL,0,none⟩) 1 1] 413 (0,0))::sl 3 1 (some ⟨gf,0,none⟩) (List.replicate nodes (1073741824:Int)).length nodes (((List.replicate nodes (1073741824:Int)).set to.toNat 0).flatMap numF)::H) w:=by
   revert w
   exact zc0
  have h6:=h5.blk_sl (cs:=itF (to,0)) (len:=1) (size:=2) rfl (by omega)
  revert h6
  clear h5 hw
  revert w
  unfold qpcs ints
  rw[Rj]
  exactλw h6=>h6.perm (.swap _ _ _)
 clear hs0 hw0 hrl
 rintro⟨far,q,A,cap⟩ ⟨hinv,hwt⟩ K hK
 simp only at hinv hwt⊢
 have hflen:=hinv.len
 have hql:q.length<=90000000000:=by unfold JR at hwt;omega
 by_cases hq:q.length=0
 ·unfold qpcs
  repeat'(first|((first|apply Ya Yfi|apply Yb Yfi);exact za;exact rfl;exactλ_ hw=>(O9 _ hw))|refine zgd ?_|(refine zgf ?_ ?_<;>intro _<;>try exact zo)|fail)
  apply Yi (ints (some ⟨gf,0,none⟩) nodes far::H)
  ·exact zc0
  apply Yd;exact rfl;exact rfl
  obtain rfl:q=[]:=SL hq
  exact⟨gf,far,rfl,Ynk hinv,rfl⟩
 unfold qpcs
 repeat'(first|((first|apply Ya Yfi|apply Yb Yfi);exact za;exact rfl;exactλ_ hw=>(O9 _ hw))|(apply Wm;exact rfl;kernel_rfl;exact rfl)|refine zgd ?_|(refine zgf ?_ ?_<;>intro _<;>try exact zo)|fail)
 apply ZE (qpcs gq A cap q (ints (some ⟨gf,0,none⟩) nodes far::H))
 ·unfold qpcs
  exact zc0
 apply Yf _ Ywu
 exact za
 exact rfl
 exactλ_ hw=>(YnE gq q (λh=>hq (by rw[h];rfl)) (by omega) (hw))
 rintro _ _ ⟨⟨v,d⟩,q1,rfl,hp,rfl⟩
 obtain⟨⟨v0,v1⟩,hvd,hdn⟩:=hinv.items (v,d) (hp.mem_iff.1 TB)
 simp only at v0 v1 hvd hdn
 have hd0:=(hinv.range v v0 v1).1
 have hdb:d<1073741824:=hdn
 have hgv:=XP (far:=far) (i:=v) (by omega)
 have hq1:q1.length+1=q.length:=hp.length_eq
 unfold qpcs itV
 dsimp only
 by_cases hskip:Yh far v<d
 ·skip
  refine Yui ?_<;>intros
  apply hK ⟨far,q1,A,cap⟩
  ·refine⟨Ynm hinv hp hskip,?_⟩
   unfold JR at hwt⊢
   simp only
   omega
  ·unfold JR
   simp only
   omega
  ·exact zc1
  ·unfold qpcs
   exact zc0
 ·have hde:Yh far v=d:=by omega
  refine Yui ?_<;>intros
  rename_i g9 _
  refine Yj (λ(z:Ez)=>[(46,.int .i64 z.k),(45,.int .i64 l.length),(44,.slice AL l.length capL),(8,.pointer (some ⟨gq,0,none⟩)),(9,.pointer (some ⟨g9,0,none⟩)),(7,.slice (some ⟨gf,0,none⟩) z.far.length nodes),(0,.int .i64 nodes),(1,.slice AL l.length capL),(2,.int .i64 to)])
   (λz=>qpcs gq z.A z.cap z.q (ints (some ⟨gf,0,none⟩) nodes z.far::blk g9 (.cells #[.int .i64 v,.int .i64 d] 411 (0,0))::H)) (λz=>z.k<=l.length/\DInv nodes l to z.far z.q v (l.drop z.k)/\Yh z.far v=d/\JR z.far z.q+1<=JR far q) (λz=>l.length-z.k) ⟨0,far,q1,A,cap⟩ ⟨Tj _,Ynl hinv hp,hde,by unfold JR;exact zc29⟩ ?_ (by unfold qpcs;exact zc0) ?_
  ·exact zc1
  rintro⟨k,far2,q2,A2,cap2⟩ ⟨hk,hinv2,hd2,hwt2⟩ K2 hK2
  simp only at hk hinv2 hd2 hwt2⊢
  have hflen2:=hinv2.len
  have hql2:q2.length<=90000000000:=by unfold JR at hwt2 hwt;omega
  by_cases hlt:k<l.length
  rotate_left
  ·have hkl:k=l.length:=by omega
   clear hK2
   subst hkl
   rw[SR]at hinv2
   refine zX1 ?_<;>intros
   apply hK ⟨far2,q2,A2,cap2⟩
   ·exact⟨Ypx hinv2,by exact zc29⟩
   ·exact zc29
   ·exact zc1
   ·unfold qpcs
    exact zc0
  ·obtain⟨a,ha⟩:∃a,l[k]? =some a:=⟨_,Ta hlt⟩
   have hal:=Tf ha
   obtain⟨⟨a1,a2⟩,⟨a3,a4⟩,⟨a5,a6⟩⟩:=hok a hal
   have hdrop:l.drop k=a::l.drop (k+1):=Yur
   rw[hdrop]at hinv2
   have hga:=XP (far:=far2) (i:=a.1) (by omega)
   unfold qpcs
   by_cases hyes:a.2.1=v/\d+a.2.2<Yh far2 a.1
   ·obtain⟨hy1,hy2⟩:=hyes
    have hlen3:(far2.set a.1.toNat (d+a.2.2)).length=far2.length:=Rj
    repeat'(first|(apply XB T (f:=numF) (l:=far2) (i:=a.1.toNat) (a:=d+a.2.2);(iterate 3 exact rfl);exact zd;exact rfl;exactλ_=>rfl;exact rfl;omega)|(apply Wm;exact rfl;kernel_rfl;exact rfl)|refine zgd ?_|(refine zge ?_ ?_<;>intro _<;>try exact zo)|(refine zgh ?_;intro _)|fail)
    rename_i ga
    apply ZE (qpcs gq A2 cap2 q2 (ints (some ⟨gf,0,none⟩) nodes (far2.set a.1.toNat (d+a.2.2))::blk g9 (.cells #[.int .i64 v,.int .i64 d] 411 (0,0))::H))
    ·unfold qpcs ints
     rw[Rj]
     exact zc0
    apply Yf _ Ywv
    exact za
    exact rfl
    exactλ_ hw=>(Ykp gq q2 (a.1,d+a.2.2) (by omega) (hw))
    rintro _ _ ⟨A3,cap3,q3,rfl,hp3,rfl⟩
    obtain⟨y1,y2,y3⟩:=Ypy hok ⟨v0,v1⟩ hd2 hal hinv2 hy1 hy2 hp3
    refine zX9 ?_
    apply hK2 ⟨k+1,far2.set a.1.toNat (d+a.2.2),q3,A3,cap3⟩
    ·exact⟨by exact zc29,y1,y2,by exact zc29⟩
    ·exact zc29
    ·dsimp only
     rw[hlen3]
     exact zc1
    exact zc19
   ·have hn2:=Yr5 hinv2 (by rw[hd2];exact hyes)
    by_cases hav:a.2.1=v
    ·have hle:¬d+a.2.2<Yh far2 a.1:=λh=>hyes ⟨hav,h⟩
     refine zX43 ?_<;>intros
     apply hK2 ⟨k+1,far2,q2,A2,cap2⟩
     ·exact⟨by exact zc29,hn2,hd2,hwt2⟩
     ·exact zc29
     ·exact zc1
     ·unfold qpcs
      exact zc0
    ·refine zX43 ?_<;>intros
     apply hK2 ⟨k+1,far2,q2,A2,cap2⟩
     ·exact⟨by exact zc29,hn2,hd2,hwt2⟩
     ·exact zc29
     ·exact zc1
     ·unfold qpcs
      exact zc0
section
variable {m:Eng.Mode}{n:Shp}{B d:Nat}{w0:World}{ops:Array Oper}{Q:Exit->Act->World->Prop}{rest:List Oper}{env:Env}{H:List HP}{ty:TypeId}{pos:String}{after:Array Edge}{x y lo:Operand}
variable {k cap gv:Nat}{A:Option Addr}
theorem Yt{P:Program}(T:Tab P)(o n':Nat){t e size bytes:Nat}{ki:IntKind}{z:Int}(hx:evo env x=some (.slice A k cap))(hl:evo env lo=some (.int ki z))(ht:Eng.look T.sl t=some (e,size,bytes))(hn:Nat.ble (d+1) n.k=true)(hz:z=(o:Int))(hb:o<=k)(hn':k-o=n')
 (h:VL P m n B w0 ops Q rest ((d,.slice (subA A o cap size) n' (cap-o))::env) H):VL P m n B w0 ops Q (⟨some d,.slice t x (some lo) none none,ty,pos,after,none⟩::rest) env H:=by
 subst hz
 exact Jn T hx hl ht hn ⟨by omega,by omega⟩ hn' h
theorem Yhz{g o la ca lb cb:Nat}{tt:TypeId}{cs:Array Value}{xs:List Value}{tys:Array TypeId}(hx:evo env x=some (.slice (some ⟨gv,0,none⟩) la ca))(hy:evo env y=some (.slice (subA (some ⟨g,0,none⟩) o cap 5) lb cb))(hm1:Eng.blk gv (.cells cs tt (0,0))∈H)(hm2:sl 117 5 (some ⟨g,0,none⟩) k cap xs∈H)
 (hne:∀w,St B w0 H w->gv≠g) (hc:0<cap/\cap≠o) (hn:Nat.ble (d+1) n.k=true) (h:VL Tryz.prog none n B w0 ops Q rest ((d,.bool false)::env) H):
 VL Tryz.prog none n B w0 ops Q (⟨some d,.call ⟨.value (.func 348),#[x,y],tys⟩,ty,pos,after,none⟩::rest) env H:=by
 have hsub:subA (some ⟨g,0,none⟩) o cap 5=some ⟨g,o*5,none⟩:=by
  unfold subA
  rw[Td hc.2,Sv,Addr.add_lit,RH]
 rw[hsub]at hy
 refine XA (λu K'=>u=.bool false/\K'=H) rfl rfl hn (λa w ha hw=>⟨.bool false,H,w,?_,hw,rfl,rfl⟩) (by rintro _ _ ⟨rfl,rfl⟩;exact h)
 have hb:=(hw.blk hm1).1
 rcases Z5 (hw.sl hm2)with⟨h0,_⟩|⟨g',cur,e0,g1,_,_,g4,_⟩
 ·cases h0
 injection e0 with e0
 injection e0 with e0
 subst e0
 obtain⟨bb,htl⟩:∃bb,Eng.look T.sl 28=some (117,5,bb):=⟨_,rfl⟩
 obtain⟨_,inf,_,hi,_,_,hsi,_⟩:=YE (T.slic htl)
 have hr:=run_callFunc_extern (P:=Tryz.prog) Tryz.func348 (by kernel_rfl) (by kernel_rfl) (by kernel_rfl) (e:=Extern.SlicesOverlaps.overlaps #[28,28] #[4]) (by kernel_rfl) #[.slice (some ⟨gv,0,none⟩) la ca,.slice (some ⟨g,o*5,none⟩) lb cb] w
 have hov:=Lib.run_overlaps_apart (P:=Tryz.prog) w 28 4 117 Tryz.underlying28 5 (λw=>by simp[sizeOf,typeInfo,hi,hsi]) ⟨gv,0,none⟩ ⟨g,o*5,none⟩ la ca lb cb (hne w hw) tt 117 cs.size cur.size (by simp[World.shape?,hb]) (by simp[World.shape?,g1]) (by rw[g4];omega) (by simp[World.frozen?,hb]) (by simp[World.frozen?,hb])
 have he:a.eval (.func 348)=.func (.func 348) #[] #[]:=rfl
 simp[execOp,resolve,invoke,ha.eval hx,ha.eval hy,he,Deferred.ofValue,hr,hov,Result.andThen]
end
variable {k cap gv:Nat}
theorem Yvk(l:List Cel)(c:Cel)(i:Nat)(hk:k=1):(l.take i).take i++[c].take k++(l.take i).drop (i+k)=l.take i++[c]:=by
 grind [RI]
theorem Yvl(l:List Cel)(c:Cel)(i:Nat)(hi:i<=l.length)(hk:k=l.length-i):(l.take i++[c]).take (i+1)++(l.drop i).take k++(l.take i++[c]).drop (i+1+k)=l.take i++c::l.drop i:=Yrw
theorem Yvm(l:List Cel)(i:Nat)(hi:i<=l.length)(hk:k=l.length-i):l.take (i+1)++(l.drop i).take k++l.drop (i+1+k)=l.take (i+1)++l.drop i:=Yro
theorem Yvn(l:List Cel)(c:Cel)(i:Nat)(hi:i<l.length)(hk:k=1):(l.take (i+1)++l.drop i).take i++[c].take k++(l.take (i+1)++l.drop i).drop (i+k)=l.take i++c::l.drop i:=by
 grind
theorem Yp1(l:List Cel)(c:Cel)(i:Nat)(hi:i<=l.length):(l.take i++c::l.drop i).length=l.length+1:=by
 grind
variable {A:Option Addr}
theorem YgA(l:List Cel)(i:Nat)(c:Cel)(hi:i<=l.length)(hlen:l.length<=1000){B:Nat}{w0:World}{H:List HP}{w:World}(hw:St B w0 (cels A cap l::blk gv (.cells #[.int .i64 c.1,.int .i64 c.2.1,.int .i64 c.2.2.1,.int .i64 c.2.2.2.1,.int .i64 c.2.2.2.2] 117 (0,0))::H) w):
 CX B w0 327 [.slice A l.length cap,.int .i64 i,.slice (some ⟨gv,0,none⟩) 1 1] w λv K=>∃A' cap',v=.slice A' (l.take i++c::l.drop i).length cap'/\K=cels A' cap' (l.take i++c::l.drop i)::H:=by
 refine Yc Tryz.func327 Tryz.ntmps327 rfl rfl hw ?_
 unfold cels
 refine Wj (k:=l.length) (cap:=cap) (by(focus exact zc2)) λhcap=>?_
 have hli:=Yp1 l c i hi
 have hrv:∀{L:List HP},blk gv (.cells #[.int .i64 c.1,.int .i64 c.2.1,.int .i64 c.2.2.1,.int .i64 c.2.2.2.1,.int .i64 c.2.2.2.2] 117 (0,0))∈L->Rd B w0 L (some ⟨gv,0,none⟩) (([c]:List Cel).flatMap celF):=λh=>by
  have h1:=Rd.blk (B:=B) (w0:=w0) (cs:=(celF c).toArray) h
  rw[show([c]:List Cel).flatMap celF=(celF c).toArray.toList by simp]
  exact h1
 have hq5:∀c:Cel,(celF c).length=5:=λ_=>rfl
 have ho5:∀c:Cel,Ji (celF c)=true:=λ_=>rfl
 refine zX4 ?_
 apply Yt T i (l.length-i);(iterate 5 exact rfl);exact hi;exact rfl
 by_cases hin:i=l.length
 ·have e1:l.take i++c::l.drop i=l++[c]:=Yrr
  rw[e1]
  refine Yri ?_<;>intros
  rename_i A' cap'
  apply Yi (cels A' cap' (l++[c])::H)
  ·intro w hw
   rw[<-Wr]
   revert w
   exact zc0
  exact zc58
 have hlt:i<l.length:=by omega
 have hrs:∀{L:List HP}{g:Nat},sl 117 5 (some ⟨g,0,none⟩) l.length cap (l.flatMap celF)∈L->Rd B w0 L (subA (some ⟨g,0,none⟩) i cap 5) ((l.drop i).flatMap celF):=λh=>by
  have h1:=Rd.sub (B:=B) (w0:=w0) (q:=5) (o:=i) (k:=l.length-i) (cap:=cap) hq5 (Rd.sl h) hcap
  exact zc75
 apply Yb8 (k:=l.length) (by(focus exact zc2)) (by omega)
 rintro g rfl
 have hA:∃g',(some ⟨g,0,none⟩:Option Addr)=some ⟨g',0,none⟩:=⟨g,rfl⟩
 repeat'(first|(apply Wl T;(iterate 3 exact rfl))|refine zgc ?_|(refine zgf ?_ ?_<;>intro _<;>try exact zo)|fail)
 ·apply ZZ T (n':=i);(iterate 4 exact rfl);omega;omega;exact hA
  refine zX2 ?_
  rw[show(l.length:Int)+((1:Nat):Int)-(i:Int)=((l.length+1-i:Nat):Int) by omega]
  apply W9 T (e:=117) (size:=5) (k:=l.length) (xs:=l.flatMap celF);exact rfl;exact rfl;(focus exact zc2);exact rfl;kernel_rfl;exact rfl;kernel_rfl;omega;intro g2 c2 hc2
  rw[show i+(l.length+1-i)=l.length+1 by omega]at hc2⊢
  have e2:sl 117 5 (some ⟨g2,0,none⟩) i c2 ((l.flatMap celF).take (i*5))=sl 117 5 (some ⟨g2,0,none⟩) (l.take i).length c2 ((l.take i).flatMap celF):=by
   rw[XQ hq5,TA,RU hi]
  rw[e2]
  have hA2:∃g',(some ⟨g2,0,none⟩:Option Addr)=some ⟨g',0,none⟩:=⟨g2,rfl⟩
  have htl:(l.take i).length=i:=zc92
  refine zX4 ?_
  apply Yt T i (l.length+1-i);(iterate 5 exact rfl);omega;exact rfl
  refine zX4 ?_
  apply Zo T (l.take i) [c] (l.take i++[c]) (f:=celF) (o:=i) (cap:=c2);exact rfl;exact rfl;exact hrv (by(focus exact zc2));exact hq5;exact ho5;exact rfl;exact rfl;exact hA2;(simp only[TV];omega);exact Yvk l c i (by omega);exact zd
  refine zX4 ?_
  apply YK [0,1,2,3,4,5,6,7] [8] [true,true,true]
  kernel_rfl
  kernel_rfl
  exact zy
  (simp only[Yg,nthO];rfl)
  (simp only[Yg,nthO];rfl)
  refine zX9 ?_
  apply Yt T (i+1) (l.length+1-(i+1));(iterate 4 exact rfl);omega;omega;exact rfl
  refine zX4 ?_
  apply Yt T i (l.length-i);(iterate 5 exact rfl);omega;exact rfl
  refine zX2 ?_
  apply Zo T (l.take i++[c]) (l.drop i) (l.take i++c::l.drop i) (f:=celF) (o:=i+1) (cap:=c2);exact rfl;exact rfl;exact hrs (by(focus exact zc2));exact hq5;exact ho5;exact rfl;exact rfl;exact hA2;(simp only[Tq,TA,TV,TZ];omega);exact Yvl l c i hi (by omega);exact zd
  refine zX2 ?_
  apply Yi (cels (some ⟨g2,0,none⟩) c2 (l.take i++c::l.drop i)::H)
  ·unfold cels
   exact zc0
  exact zc86
 ·apply ZZ T (n':=l.length+1);(iterate 4 exact rfl);omega;omega;exact hA
  refine zX9 ?_
  apply Yt T (i+1) (l.length+1-(i+1));(iterate 4 exact rfl);omega;omega;exact rfl
  apply Yhz (gv:=gv) (g:=g) (o:=i+1) (cap:=cap) (k:=l.length) (xs:=l.flatMap celF);exact rfl;exact rfl;(focus exact zc2);(focus exact zc2);exactλw hw=>YaL (hw.perm (.swap _ _ _));omega;exact rfl
  refine zX2 ?_
  apply YK [0,1,2,3,4,5,6,7] [8] [true,true]
  kernel_rfl
  kernel_rfl
  exact zy
  (simp only[Yg,nthO];rfl)
  (simp only[Yg,nthO];rfl)
  refine zX9 ?_
  apply Yt T (i+1) (l.length+1-(i+1));(iterate 4 exact rfl);omega;omega;exact rfl
  refine zX4 ?_
  apply Yt T i (l.length+1-i);(iterate 5 exact rfl);omega;exact rfl
  refine zX2 ?_
  apply Zo T l (l.drop i) (l.take (i+1)++l.drop i) (f:=celF) (o:=i+1) (cap:=cap);exact rfl;exact rfl;exact hrs (by(focus exact zc2));exact hq5;exact ho5;exact rfl;exact rfl;exact hA;(simp only[TZ];omega);exact Yvm l i hi (by omega);exact zd
  refine zX2 ?_
  apply Yt T i (l.length+1-i);(iterate 5 exact rfl);omega;exact rfl
  refine zX4 ?_
  apply Zo T (l.take (i+1)++l.drop i) [c] (l.take i++c::l.drop i) (f:=celF) (o:=i) (cap:=cap);exact rfl;exact rfl;exact hrv (by(focus exact zc2));exact hq5;exact ho5;exact rfl;exact rfl;exact hA;(simp only[Tq,TA,TV,TZ];omega);exact Yvn l c i hlt (by omega);exact zd
  refine zX7 ?_
  apply Yi (cels (some ⟨g,0,none⟩) cap (l.take i++c::l.drop i)::H)
  ·unfold cels
   exact zc0
  exact zc81
open Go.ChangeShapes Go.WideShapes Go.ChangeAt Go.RowKit Go.Eng
section
variable {H:Type}{enc:TypeId×Value->H}
theorem Yma{a:Assume}{C:Checked}{os:Os}{f:FuncId}{fn:Func}{s:ChangeSpec}{conds:List PathCond}{apart fresh handsOn again:Bool}{X:World->Prop}(hX:∀w w':World,w.heap=w'.heap->X w->X w')
 (own:ownKnob C.prog.godebug=none) (started:os.Started) (noInit:C.prog.inits.idxOf? f=none) (hfn:C.prog.funcs[f]? =some fn)
 (witness:∃(w:World) (tape:Tape) (i:Input),w.os=os/\(w.forCall tape i).Shaped C.prog/\i.vars=[]/\Input.okWide C.prog (w.forCall tape i) .any w.heap.size f i/\
  ((s.pre enc C.prog fn conds apart (w.forCall tape i).memory i.args/\X (w.forCall tape i).memory)/\sizedMet enc C.prog fn (OpenSpec.ofChange s) apart (w.forCall tape i).memory i.args)/\a.holds C.prog (lone (Frame.enter C.prog f i.args .normal) [] (w.forCall tape i)))
 (contract:∀(W:World) (base:Nat) (args:Array Value) (ds gs:List (DataW H)) (before:List MemPlace),
  (∀(j:Nat) t v,fn.params[j]? =some t->args[j]? =some v->Value.okWide C.prog W .any base t v)->
  DataW.Whole enc C.prog fn.params.toList s.vars apart W args.toList ds gs before->X W->W.ShapedOpen C.prog->
  Calls C.prog f args W λe W'=>∃v,e=.returned v/\s.post enc C.prog fn apart fresh handsOn again W args v W'):
 ReturnsInHanded a C os f .any (λw args=>(s.pre enc C.prog fn conds apart w args/\X w)/\sizedMet enc C.prog fn (OpenSpec.ofChange s) apart w args) (s.post enc C.prog fn apart fresh handsOn again):=by
 refine returnsInHanded_of_calls own started noInit witness ?_
 intro w tape i _ hsh _ hok hpre _
 obtain⟨_,_,_,fn',hfn',_,_,_,_,hval⟩:=hok
 have e:fn'=fn:=Tv (hfn'.symm.trans hfn)
 subst e
 obtain⟨⟨⟨ds,gs,before,hw,_⟩,hx⟩,_⟩:=hpre
 have hw':=DataW.Whole.of_heap (w':=w.forCall tape i) (by rfl) hw
 refine(contract (w.forCall tape i) w.heap.size i.args ds gs before hval hw' (hX _ _ (by rfl) hx) hsh).mono λe W' ⟨v,he,hp⟩=>?_
 subst he
 exact ChangeSpec.post_blind hp
end
def YiD:List (String×DataW Unit):=[("math/bits.deBruijn32tab",Rows.laid_math_bits_deBruijn32tab),("math/bits.deBruijn64tab",Rows.laid_math_bits_deBruijn64tab),("internal/strconv.uint64pow10",Rows.laid_internal_strconv_uint64pow10)]
noncomputable def Yfr(os:Os):World:=
 World.doorLaid Tryz.prog 72 os
theorem YbF(w:World):laidMetH Tryz.prog YiD w=laidMet Tryz.prog YiD w:=MakeChecks.laidMetH_plain _ _ _ (by kernel_rfl)
theorem Yrz(os:Os)(args:Array Value):laidMetH Tryz.prog YiD ((Yfr os).forCall (λ_ _=>0) ⟨#[],args,[]⟩).memory:=by
 rw[YbF]
 exact laidMet_of_run3 8 (by kernel_rfl) (by kernel_rfl) (by kernel_rfl)
theorem YnN(os:Os)(args:Array Value):((Yfr os).forCall (λ_ _=>0) ⟨#[],args,[]⟩).Shaped Tryz.prog:=World.shaped_of_RefB (by kernel_rfl) (by kernel_rfl)
variable {W:World}
theorem YoD{w:World}{n:String}{cs:Array Value}(h:W.var? Tryz.prog n=some cs)(hb:Below W.heap.size W w):w.var? Tryz.prog n=some cs:=by
 unfold World.var? at h⊢
 cases hg:Tryz.prog.globalNamed n with
 |none=>rw[hg]at h;cases h
 |some g=>
  rw[hg]at h
  simp only[NR]at h⊢
  rcases Nc g W.heap.size with hlt|hge
  ·rw[hb.block g hlt];exact h
  ·rw[SE hge]at h;cases h
theorem tabs_of(hL:laidMetH Tryz.prog YiD W)(_hsh:W.ShapedOpen Tryz.prog):TabsB W.heap.size W:=by
 rw[YbF]at hL
 have hpow:Lib.TabIs Tryz.prog W "internal/strconv.uint64pow10" .u64 Lib.pow10Tab:=by
  obtain⟨g,t,cs,fuel,p,h1,h2,h3,h4⟩:=Lib.laidMet.reads hL (n:= "internal/strconv.uint64pow10") (d:=Rows.laid_internal_strconv_uint64pow10) (by unfold YiD;simp)
  have hT:(Tryz.prog.globalNamed "internal/strconv.uint64pow10").bind (λg=>(Tryz.prog.globals[g]?).map (·.type))=some 423:=by kernel_rfl
  rw[h1]at hT
  obtain rfl:t=423:=Tv (h2.symm.trans hT)
  have h5:Rows.laid_internal_strconv_uint64pow10 (H:=Unit)=Lib.tabData .u64 Lib.pow10Tab:=by kernel_rfl
  rw[h5]at h4
  have h6:=Lib.cells_of_tab Tryz.underlying423 Tryz.underlying234 (by kernel_rfl) (by kernel_rfl) h4
  unfold Lib.TabIs
  rw[h3,<-h6]
 intro w hb
 exact⟨YoD hpow hb⟩
theorem Tryz.own:ownKnob Tryz.prog.godebug=none:=by kernel_rfl
theorem Tryz.laidOut:laidOutB Tryz.prog=true:=by kernel_rfl
end Go.Proofs.YtambgjgljcadlaaGreatDoor
