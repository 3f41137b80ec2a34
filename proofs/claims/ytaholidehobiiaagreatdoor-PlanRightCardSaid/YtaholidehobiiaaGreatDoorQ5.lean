/- Lemmas for the claim, part 5. -/
import Derived.Shelf.SlSortCmp.NoneTotal
import Derived.Test.YtaholidehobiiaaGreatDoorQ4
set_option maxRecDepth 100000
set_option maxHeartbeats 8000000
namespace Go.Proofs.YtaholidehobiiaaGreatDoor
open Go.RowKit Go.Eng Go.Nw
theorem YkX{q q':List Itm}(h:q'.Perm q):q'.length=q.length:=h.length_eq
theorem YmH(g:Nat)(q:List Itm)(i0 n:Nat)(hn:n<=q.length)(hl:q.length<=100000000000)(hi0:i0<=100000000000){A:Option Addr}{cap B:Nat}{w0:World}{H:List HP}{w:World}(hw:St B w0 (qpcs g A cap q H) w):
 Calls Tryz.prog 426 [qIf g,.int .i64 i0,.int .i64 n].toArray w (Post B w0 λv K=>∃b q',v=.bool b/\q'.Perm q/\K=qpcs g A cap q' H):=by
 refine Yc Tryz.func426 Tryz.ntmps426 rfl rfl hw ?_
 unfold qIf
 repeat'(first|refine zgb ?_|fail)
 refine Yi (λ(z:Nat×List Itm)=>[(7,.int .i64 z.1),(0,qIf g),(1,.int .i64 i0),(2,.int .i64 n)]) (λz=>qpcs g A cap z.2 H) (λz=>z.1<=100000000000/\z.2.Perm q) (λz=>n-z.1) (i0,q) ⟨hi0,.refl _⟩ ?_ (λw hw=>hw) ?_
 ·exact zu
 rintro⟨i,q1⟩ ⟨hi,hp⟩ K hK
 simp only at hi hp⊢
 have hql:=YkX hp
 unfold qIf qpcs
 by_cases h1:2*i+1<n
 rotate_left
 ·have h1':¬2*(i:Int)+1<n:=by omega
  repeat'(first|refine zgd ?_|(refine zgf ?_ ?_<;>intro _<;>try exact zo)|fail)
  all_goals(
   apply Yd;exact rfl;exact rfl
   exact⟨_,q1,rfl,hp,rfl⟩)
 have hin:i<n:=by omega
 obtain⟨xi,hxi⟩:∃x,q1[i]? =some x:=⟨_,Ta (by omega)⟩
 obtain⟨x1,hx1⟩:∃x,q1[2*i+1]? =some x:=⟨_,Ta (by omega)⟩
 have e1:(2*(i:Int)+1)=((2*i+1:Nat):Int):=by omega
 have e2:((2*i+1:Nat):Int)+1=((2*i+2:Nat):Int):=by omega
 by_cases h2:2*i+2<n
 ·obtain⟨x2,hx2⟩:∃x,q1[2*i+2]? =some x:=⟨_,Ta (by omega)⟩
  obtain⟨b2,hb2⟩:∃b,decide (x2.2<x1.2)=b:=⟨_,rfl⟩
  have h21:=λ{w:World}(hr:Rd B w0 (qpcs g A cap q1 H) A (q1.flatMap itF)) (hw:St B w0 (qpcs g A cap q1 H) w)=>V5 q1 (2*i+2) (2*i+1) x2 x1 hx2 hx1 (cap:=cap) hr hw
  rw[hb2]at h21
  unfold qpcs at h21
  repeat'(first|refine zgd ?_|(refine zgf ?_ ?_<;>intro _<;>try exact zo)|fail)
  rw[e1,e2]
  cases b2 with
  |false=>
   obtain⟨b,hb⟩:∃b,decide (x1.2<xi.2)=b:=⟨_,rfl⟩
   have hless:=λ{w:World}(hr:Rd B w0 (qpcs g A cap q1 H) A (q1.flatMap itF)) (hw:St B w0 (qpcs g A cap q1 H) w)=>V5 q1 (2*i+1) i x1 xi hx1 hxi (cap:=cap) hr hw
   rw[hb]at hless
   have hswap:=λ{H:List HP}{w:World}(hw:St B w0 (sl 411 2 A q1.length cap (q1.flatMap itF)::H) w)=>V6 q1 i (2*i+1) xi x1 hxi hx1 hw
   unfold qpcs at hless
   cases b with
   |false=>
    apply Xf (f:=464);exact rfl;exact XQ zm;exact WN;exact za;exact rfl;exactλ_ hw=>h21 (.sl zm) hw
    repeat'(first|refine zgc ?_|fail)
    apply Xf (f:=464);exact rfl;exact XQ zm;exact WN;exact za;exact rfl;exactλ_ hw=>hless (.sl zm) hw
    repeat'(first|refine zgd ?_|(refine zgf ?_ ?_<;>intro _<;>try exact zo)|fail)
    all_goals(apply Yd;exact rfl;exact rfl;exact⟨_,q1,rfl,hp,rfl⟩)
   |true=>
    apply Xf (f:=464);exact rfl;exact XQ zm;exact WN;exact za;exact rfl;exactλ_ hw=>h21 (.sl zm) hw
    repeat'(first|refine zgc ?_|fail)
    apply Xf (f:=464);exact rfl;exact XQ zm;exact WN;exact za;exact rfl;exactλ_ hw=>hless (.sl zm) hw
    repeat'(first|refine zgd ?_|fail)
    apply XL (sl 411 2 A q1.length cap (q1.flatMap itF)::blk g (.cells #[.slice A q1.length cap] 413 (0,0))::H)
    ·exact zk
    apply Ji (f:=467);exact rfl;exact U5 zm;exact YhJ;exact za;exact rfl;exactλ_ hw=>hswap hw
    rintro _ _ ⟨rfl,rfl⟩
    repeat'(first|refine zgc ?_|fail)
    apply hK (2*i+1,(q1.set i x1).set (2*i+1) xi)
    ·exact⟨by simp only;omega,(U8 hxi hx1).trans hp⟩
    ·simp only;omega
    ·exact zu
    ·dsimp only
     unfold qpcs
     rw[Rh,Rh]
     exact zk
  |true=>
   obtain⟨b,hb⟩:∃b,decide (x2.2<xi.2)=b:=⟨_,rfl⟩
   have hless:=λ{w:World}(hr:Rd B w0 (qpcs g A cap q1 H) A (q1.flatMap itF)) (hw:St B w0 (qpcs g A cap q1 H) w)=>V5 q1 (2*i+2) i x2 xi hx2 hxi (cap:=cap) hr hw
   rw[hb]at hless
   have hswap:=λ{H:List HP}{w:World}(hw:St B w0 (sl 411 2 A q1.length cap (q1.flatMap itF)::H) w)=>V6 q1 i (2*i+2) xi x2 hxi hx2 hw
   unfold qpcs at hless
   cases b with
   |false=>
    apply Xf (f:=464);exact rfl;exact XQ zm;exact WN;exact za;exact rfl;exactλ_ hw=>h21 (.sl zm) hw
    repeat'(first|refine zgc ?_|fail)
    apply Xf (f:=464);exact rfl;exact XQ zm;exact WN;exact za;exact rfl;exactλ_ hw=>hless (.sl zm) hw
    repeat'(first|refine zgd ?_|(refine zgf ?_ ?_<;>intro _<;>try exact zo)|fail)
    all_goals(apply Yd;exact rfl;exact rfl;exact⟨_,q1,rfl,hp,rfl⟩)
   |true=>
    apply Xf (f:=464);exact rfl;exact XQ zm;exact WN;exact za;exact rfl;exactλ_ hw=>h21 (.sl zm) hw
    repeat'(first|refine zgc ?_|fail)
    apply Xf (f:=464);exact rfl;exact XQ zm;exact WN;exact za;exact rfl;exactλ_ hw=>hless (.sl zm) hw
    repeat'(first|refine zgd ?_|fail)
    apply XL (sl 411 2 A q1.length cap (q1.flatMap itF)::blk g (.cells #[.slice A q1.length cap] 413 (0,0))::H)
    ·exact zk
    apply Ji (f:=467);exact rfl;exact U5 zm;exact YhJ;exact za;exact rfl;exactλ_ hw=>hswap hw
    rintro _ _ ⟨rfl,rfl⟩
    repeat'(first|refine zgc ?_|fail)
    apply hK (2*i+2,(q1.set i x2).set (2*i+2) xi)
    ·exact⟨by simp only;omega,(U8 hxi hx2).trans hp⟩
    ·simp only;omega
    ·exact zu
    ·dsimp only
     unfold qpcs
     rw[Rh,Rh]
     exact zk
 ·have h2':¬2*(i:Int)+1+1<n:=by omega
  repeat'(first|refine zgd ?_|(refine zgf ?_ ?_<;>intro _<;>try exact zo)|fail)
  rw[e1]
  obtain⟨b,hb⟩:∃b,decide (x1.2<xi.2)=b:=⟨_,rfl⟩
  have hless:=λ{w:World}(hr:Rd B w0 (qpcs g A cap q1 H) A (q1.flatMap itF)) (hw:St B w0 (qpcs g A cap q1 H) w)=>V5 q1 (2*i+1) i x1 xi hx1 hxi (cap:=cap) hr hw
  rw[hb]at hless
  have hswap:=λ{H:List HP}{w:World}(hw:St B w0 (sl 411 2 A q1.length cap (q1.flatMap itF)::H) w)=>V6 q1 i (2*i+1) xi x1 hxi hx1 hw
  unfold qpcs at hless
  cases b with
  |false=>
   repeat'(first|fail)
   apply Xf (f:=464);exact rfl;exact XQ zm;exact WN;exact za;exact rfl;exactλ_ hw=>hless (.sl zm) hw
   repeat'(first|refine zgd ?_|(refine zgf ?_ ?_<;>intro _<;>try exact zo)|fail)
   all_goals(apply Yd;exact rfl;exact rfl;exact⟨_,q1,rfl,hp,rfl⟩)
  |true=>
   repeat'(first|fail)
   apply Xf (f:=464);exact rfl;exact XQ zm;exact WN;exact za;exact rfl;exactλ_ hw=>hless (.sl zm) hw
   repeat'(first|refine zgd ?_|fail)
   apply XL (sl 411 2 A q1.length cap (q1.flatMap itF)::blk g (.cells #[.slice A q1.length cap] 413 (0,0))::H)
   ·exact zk
   apply Ji (f:=467);exact rfl;exact U5 zm;exact YhJ;exact za;exact rfl;exactλ_ hw=>hswap hw
   rintro _ _ ⟨rfl,rfl⟩
   repeat'(first|refine zgc ?_|fail)
   apply hK (2*i+1,(q1.set i x1).set (2*i+1) xi)
   ·exact⟨by simp only;omega,(U8 hxi hx1).trans hp⟩
   ·simp only;omega
   ·exact zu
   ·dsimp only
    unfold qpcs
    rw[Rh,Rh]
    exact zk
variable {g B cap:Nat}{w0 w:World}{H:List HP}
theorem Ynh(w:World)(_:St B w0 H w):(method (Tryz.prog.types.size+Made.depth) 409 (.pointer (some ⟨g,0,none⟩)) "Pop").run Tryz.prog w=.ok (465,.pointer (some ⟨g,0,none⟩)) w:=Ypv g w
theorem Yj2(w:World)(_:St B w0 H w):(method (Tryz.prog.types.size+Made.depth) 409 (.pointer (some ⟨g,0,none⟩)) "Push").run Tryz.prog w=.ok (466,.pointer (some ⟨g,0,none⟩)) w:=Yni g w
variable {A:Option Addr}
theorem YrA(g:Nat)(q:List Itm)(j0:Nat)(hj0:j0<q.length)(hl:q.length<=100000000000)(hw:St B w0 (qpcs g A cap q H) w):
 Calls Tryz.prog 427 [qIf g,.int .i64 j0].toArray w (Post B w0 λv K=>∃q',v=.tuple #[]/\q'.Perm q/\K=qpcs g A cap q' H):=by
 refine Yc Tryz.func427 Tryz.ntmps427 rfl rfl hw ?_
 unfold qIf
 repeat'(first|refine zgb ?_|fail)
 refine Yi (λ(z:Nat×List Itm)=>[(1,.int .i64 z.1),(0,qIf g)]) (λz=>qpcs g A cap z.2 H) (λz=>z.1<q.length/\z.2.Perm q) (λz=>z.1) (j0,q) ⟨hj0,.refl _⟩ ?_ (λw hw=>hw) ?_
 ·exact zu
 rintro⟨j,q1⟩ ⟨hj,hp⟩ K hK
 simp only at hj hp⊢
 have hql:=YkX hp
 unfold qIf qpcs
 by_cases h1:j=0
 ·subst h1
  repeat'(first|(apply Yg8;(iterate 3 exact rfl);decide;rw[show IntKind.i64.wrap ((((0:Nat):Int)-1).tdiv 2)=0 by decide])|refine zgd ?_|(refine zge ?_ ?_<;>intro _<;>try exact zo)|fail)
  apply Zz;exact rfl
  exact⟨q1,rfl,hp,rfl⟩
 have hjj:1<=j:=by omega
 obtain⟨xj,hxj⟩:∃x,q1[j]? =some x:=⟨_,Ta (by omega)⟩
 obtain⟨i,hi⟩:∃i,(j-1)/2=i:=⟨_,rfl⟩
 have hij:i<j:=by omega
 obtain⟨xi,hxi⟩:∃x,q1[i]? =some x:=⟨_,Ta (by omega)⟩
 have e1:((j:Int)-1)/2=(i:Int):=by omega
 obtain⟨b,hb⟩:∃b,decide (xj.2<xi.2)=b:=⟨_,rfl⟩
 have hless:=λ{w:World}(hr:Rd B w0 (qpcs g A cap q1 H) A (q1.flatMap itF)) (hw:St B w0 (qpcs g A cap q1 H) w)=>V5 q1 j i xj xi hxj hxi (cap:=cap) hr hw
 rw[hb]at hless
 unfold qpcs at hless
 have hswap:=λ{H:List HP}{w:World}(hw:St B w0 (sl 411 2 A q1.length cap (q1.flatMap itF)::H) w)=>V6 q1 i j xi xj hxi hxj hw
 cases b with
 |false=>
  repeat'(first|refine zgd ?_|(refine zge ?_ ?_<;>intro _<;>try exact zo)|fail)
  rw[e1]
  apply Xf (f:=464)
  exact rfl
  exact XQ zm
  exact WN
  exact za
  exact rfl
  exactλ_ hw=>(hless (.sl zm) hw)
  repeat'(first|refine zgd ?_|fail)
  apply Zz;exact rfl
  exact⟨q1,rfl,hp,rfl⟩
 |true=>
  repeat'(first|refine zgd ?_|(refine zge ?_ ?_<;>intro _<;>try exact zo)|fail)
  rw[e1]
  apply Xf (f:=464)
  exact rfl
  exact XQ zm
  exact WN
  exact za
  exact rfl
  exactλ_ hw=>(hless (.sl zm) hw)
  repeat'(first|refine zgd ?_|fail)
  apply XL (sl 411 2 A q1.length cap (q1.flatMap itF)::blk g (.cells #[.slice A q1.length cap] 413 (0,0))::H)
  ·exact zk
  apply Ji (f:=467) _
  exact rfl
  exact U5 zm
  exact YhJ
  exact za
  exact rfl
  exactλ_ hw=>(hswap hw)
  rintro _ _ ⟨rfl,rfl⟩
  repeat'(first|refine zgc ?_|fail)
  apply hK (i,(q1.set i xj).set j xi)
  ·exact⟨by simp only;omega,(U8 hxi hxj).trans hp⟩
  ·simp only;omega
  ·exact zu
  ·dsimp only
   unfold qpcs
   rw[Rh,Rh]
   exact zk
theorem YjO(g:Nat)(q:List Itm)(x:Itm)(hl:q.length<=99999999999)(hw:St B w0 (qpcs g A cap q H) w):
 Calls Tryz.prog 400 [qIf g,.iface 411 (itV x)].toArray w (Post B w0 λv K=>∃A' cap' q',v=.tuple #[]/\q'.Perm (x::q)/\K=qpcs g A' cap' q' H):=by
 refine Yc Tryz.func400 Tryz.ntmps400 rfl rfl hw ?_
 unfold qIf
 repeat'(first|refine zga ?_|fail)
 apply Ji (f:=466) _
 exact rfl
 exact Yj2
 exact Yuf
 exact za
 exact rfl
 exactλ_ hw=>(Yki g q x (by omega) hw)
 rintro _ _ ⟨A2,cap2,rfl,rfl⟩
 unfold qpcs
 repeat'(first|refine zga ?_|fail)
 have hlen:(q++[x]).length=q.length+1:=by simp
 apply Xf (f:=398)
 exact rfl
 exact Yii zm
 exact YeR
 exact za
 exact rfl
 exactλ_ hw=>(OK _ hw)
 repeat'(first|refine zgd ?_|fail)
 rw[show(((q++[x]).length:Nat):Int)-1=((q.length:Nat):Int) by omega]
 apply XL (qpcs g A2 cap2 (q++[x]) H)
 ·unfold qpcs
  exact zk
 apply Yh _ Yuc
 exact za
 exact rfl
 exactλ_ hw=>(YrA g (q++[x]) q.length (by omega) (by omega) (hw))
 rintro _ _ ⟨q',rfl,hp,rfl⟩
 repeat'(first|refine zga ?_|fail)
 apply Zz;exact rfl
 exact⟨A2,cap2,q',rfl,hp.trans NY,rfl⟩
theorem YmW(g:Nat)(q:List Itm)(h0:q≠[])(hl:q.length<=100000000000)(hw:St B w0 (qpcs g A cap q H) w):
 Calls Tryz.prog 399 [qIf g].toArray w (Post B w0 λv K=>∃x q',v=.iface 411 (itV x)/\(x::q').Perm q/\K=qpcs g A cap q' H):=by
 refine Yc Tryz.func399 Tryz.ntmps399 rfl rfl hw ?_
 have hpos:0<q.length:=List.length_pos_iff.2 h0
 obtain⟨x0,hx0⟩:∃x,q[0]? =some x:=⟨_,Ta (by omega)⟩
 obtain⟨xn,hxn⟩:∃x,q[q.length-1]? =some x:=⟨_,Ta (by omega)⟩
 have hswap:=λ{H:List HP}{w:World}(hw:St B w0 (sl 411 2 A q.length cap (q.flatMap itF)::H) w)=>V6 q 0 (q.length-1) x0 xn hx0 hxn hw
 have hp1:=U8 hx0 hxn
 unfold qIf qpcs
 repeat'(first|refine zga ?_|fail)
 apply Xf (f:=398)
 exact rfl
 exact Yii zm
 exact YeR
 exact za
 exact rfl
 exactλ_ hw=>(OK _ hw)
 repeat'(first|refine zgd ?_|fail)
 rw[show((q.length:Nat):Int)-1=((q.length-1:Nat):Int) by omega]
 apply XL (sl 411 2 A q.length cap (q.flatMap itF)::blk g (.cells #[.slice A q.length cap] 413 (0,0))::H)
 ·exact zk
 apply Ji (f:=467) _
 exact rfl
 exact U5 zm
 exact YhJ
 exact za
 exact rfl
 exactλ_ hw=>(hswap hw)
 rintro _ _ ⟨rfl,rfl⟩
 obtain⟨q1,hq1⟩:∃q1,(q.set 0 xn).set (q.length-1) x0=q1:=⟨_,rfl⟩
 rw[hq1]at hp1
 have hl1:=hp1.length_eq
 rw[hq1,<-hl1]
 repeat'(first|refine zga ?_|fail)
 apply XL (qpcs g A cap q1 H)
 ·unfold qpcs
  exact zk
 apply Yh _ Yub
 exact za
 exact rfl
 exactλ_ hw=>(YmH g q1 0 (q1.length-1) (by omega) (by omega) (by omega) (hw))
 rintro _ _ ⟨b,q2,rfl,hp2,rfl⟩
 have hl2:=hp2.length_eq
 obtain⟨q3,x,rfl⟩:∃q3 x,q2=q3++[x]:=by
  have hne:q2≠[]:=by intro h;rw[h]at hl2;simp at hl2;omega
  exact⟨q2.dropLast,q2.getLast hne,(List.dropLast_concat_getLast hne).symm⟩
 have hl3:(q3++[x]).length=q3.length+1:=by simp
 repeat'(first|refine zga ?_|fail)
 apply Ji (f:=465) _
 exact rfl
 exact Ynh
 exact Yue
 exact za
 exact rfl
 exactλ_ hw=>(Ynv g q3 x (by omega) hw)
 rintro _ _ ⟨rfl,rfl⟩
 repeat'(first|refine zga ?_|fail)
 apply Yd;exact rfl;exact rfl
 exact⟨x,q3,rfl,(NY (l₁:=[x]) (l₂:=q3)).trans (hp2.trans hp1),rfl⟩
variable {B c k:Nat}{w0 w:World}{H:List HP}
theorem Ypy(c:Nat)(hc:c<=1000000)(hw:St B w0 H w):
 Calls Tryz.prog 425 [.int .u64 1,.int .u64 c].toArray w (Post B w0 λv K=>v=.tuple #[.int .u64 0,.int .u64 c]/\K=H):=by
 have h:=Tryz.bits_Mul 1 c (by omega) (by omega) w
 rw[Nat.one_mul,Nat.div_eq_of_lt (by omega),Nat.mod_eq_of_lt (by omega)]at h
 exact Ynt hw h
def fillL(v:Int)(c k:Nat):List Int:=List.replicate k v++List.replicate (c-k) 0
variable {v:Int}
theorem Yo7(h:k<=c):(fillL v c k).length=c:=by simp[fillL];omega
theorem YmP{m:Nat}(hk:k+m<=c)(hm:m<=k):(fillL v c k).take k++(fillL v c k).take m++(fillL v c k).drop (k+m)=fillL v c (k+m):=by
 unfold fillL
 rw[Nx,Nx,List.drop_append]
 simp only[Rw,Nb,List.take_replicate,Nat.min_self,List.drop_replicate]
 rw[SG hm,show m-k=0 by omega,show k-(k+m)=0 by omega,Nat.zero_min,N7,TM,TM,N7,TK,List.replicate_append_replicate,show c-k-(k+m-k)=c-(k+m) by omega]
theorem YiX(l:List Int)(k:Nat):(l.flatMap numF).take k=(l.take k).flatMap numF:=by
 rw[XG (q:=1) (λ_=>rfl),NE]
theorem YoO(l:List Int)(k:Nat):(l.flatMap numF).drop k=(l.drop k).flatMap numF:=by
 rw[UX (q:=1) (λ_=>rfl),NE]
theorem Yrh(l:List Int):∀v∈l.flatMap numF,v.oneCell'=true:=by
 intro v hv
 obtain⟨z,_,hz⟩:=RN.1 hv
 obtain rfl:v=.int .i64 z:=by simpa [numF]using hz
 rfl
theorem Yqi(c:Nat):List.replicate c (Value.int .i64 0)=(List.replicate c (0:Int)).flatMap numF:=by
 induction c with
 |zero=>rfl
 |succ c ih=>rw[Nn,Nn,TR,ih];rfl
theorem Oq(v:Int)(c:Nat)(hc:1<=c/\c<=100000){A2:Option Addr}{cap2:Nat}(hr:Rd B w0 H A2 (numF v))(hw:St B w0 H w):
 Calls Tryz.prog 397 [.slice A2 1 cap2,.int .i64 c].toArray w (Post B w0 λu K=>∃g,u=.slice (some ⟨g,0,none⟩) (List.replicate c v).length c/\K=ints (some ⟨g,0,none⟩) c (List.replicate c v)::H):=by
 refine Yc Tryz.func397 Tryz.ntmps397 rfl rfl hw ?_
 repeat'(first|((first|apply Ya Ysn|apply Yb Ysn);exact za;exact rfl;exactλ_ hw=>(Ypy c (by omega) hw))|(apply Yg1 T;(iterate 3 exact rfl);exact zi3;(iterate 3 exact rfl);omega;intro _)|refine zgd ?_|(refine zgf ?_ ?_<;>intro _<;>try exact zo)|fail)
 rename_i g
 simp only[RZ]
 rw[Yqi]
 apply YkN T (o:=0) (k:=c) (kd:=c) (mm:=1) (ys:=numF v) (xs:=(List.replicate c (0:Int)).flatMap numF)
 exact rfl
 exact rfl
 exact hr.cons
 exact zd
 exact rfl
 exact rfl
 ·intro x hx
  obtain rfl:x=.int .i64 v:=by simpa [numF]using hx
  rfl
 ·simp[numF];omega
 have e1:min 1 c=1:=by omega
 have e2:((List.replicate c (0:Int)).flatMap numF).take 0++(numF v).take 1++((List.replicate c (0:Int)).flatMap numF).drop (0+1)=(fillL v c 1).flatMap numF:=by
  obtain⟨c',rfl⟩:∃c',c=c'+1:=⟨c-1,by omega⟩
  rw[Nn]
  simp[fillL,numF,List.replicate_succ]
 rw[e1,e2]
 repeat'(first|refine zgb ?_|fail)
 refine Yi (λ(k:Nat)=>[(8,.int .i64 k),(7,.slice (some ⟨g,0,none⟩) c c)]) (λk=>sl 3 1 (some ⟨g,0,none⟩) c c ((fillL v c k).flatMap numF)::H) (λk=>1<=k/\k<=c) (λk=>c-k) 1 ⟨by omega,hc.1⟩ ?_ (λw hw=>hw) ?_
 ·exact zu
 rintro k ⟨hk1,hk⟩ K hK
 have hfl:=Yo7 (v:=v) hk
 have hfl2:((fillL v c k).flatMap numF).length=c:=by rw[Xa (q:=1) (λ_=>rfl),hfl,NE]
 by_cases hlt:k<c
 ·repeat'(first|refine zgb ?_|(refine zge ?_ ?_<;>intro _<;>try exact zo)|fail)
  apply UI [0,1,2,3,4,5,6] [0,7,8,9] [7,8,9] [true]
  kernel_rfl
  kernel_rfl
  exact zy
  (simp only[Yg,nthO];rfl)
  (simp only[Yg,nthO];rfl)
  repeat'(first|(apply Ya3 T (e:=3) (size:=1);exact rfl;exact rfl;exact zm;exact rfl;exact rfl;omega)|(apply XS T;(iterate 4 exact rfl);omega;exact rfl)|refine zgd ?_|fail)
  simp only[RZ]
  rw[YnM (by omega)]
  apply YkN T (o:=k) (k:=c) (kd:=c-k) (mm:=k) (ys:=(fillL v c k).flatMap numF) (xs:=(fillL v c k).flatMap numF)
  exact rfl
  exact rfl
  exact .sl zm
  exact zd
  exact rfl
  exact rfl
  exact Yrh _
  ·omega
  obtain⟨m,hm⟩:∃m,min k (c-k)=m:=⟨_,rfl⟩
  rw[hm,YiX,YiX,YoO,<-TV,<-TV,YmP (by omega) (by omega)]
  repeat'(first|refine zgd ?_|fail)
  apply hK (k+m)
  ·omega
  ·omega
  ·exact zu
  ·exactλw hw=>hw
 ·obtain rfl:k=c:=by omega
  clear hK
  repeat'(first|refine zgc ?_|(refine zge ?_ ?_<;>intro _<;>try exact zo)|fail)
  apply Yd;exact rfl;exact rfl
  have e3:fillL v k k=List.replicate k v:=by simp[fillL]
  rw[e3]
  exact⟨g,by rw[Rw],by unfold ints;rw[Rw]⟩
open Go.RowKit Go.Eng Go.Nw Go.Rt
structure Dz where
 far:List Int
 q:List Itm
 A:Option Addr
 cap:Nat
structure Ez where
 k:Nat
 far:List Int
 q:List Itm
 A:Option Addr
 cap:Nat
theorem Yp6:∀(l:List Int),(∀x∈l,x<=1073741824)->(l.map Int.toNat).sum<=l.length*1073741824
 |[],_=>by simp
 |a::l,h=>by
  have:=Yp6 l λx hx=>h x (by simp[hx])
  have h1:=h a (by simp)
  simp only[Re,NJ,TS]
  omega
theorem VY(nodes:Nat)(l:List Lk)(to:Int)(hn:nodes<=40)(hl:l.length<=1000000)(hok:ArcsOk nodes l)(hto:0<=to/\to<nodes){AL:Option Addr}{capL B:Nat}{w0:World}{H:List HP}{w:World}(hr:Rd B w0 H AL (l.flatMap lkF))(hw:St B w0 H w):
 Calls Tryz.prog 345 [.int .i64 nodes,.slice AL l.length capL,.int .i64 to].toArray w (Post B w0 λv K=>∃g far,v=.slice (some ⟨g,0,none⟩) far.length nodes/\Dist nodes l to far/\K=ints (some ⟨g,0,none⟩) nodes far::H):=by
 refine Yc Tryz.func345 Tryz.ntmps345 rfl rfl hw ?_
 repeat'(first|refine zga ?_|(refine zgh ?_;intro _)|fail)
 apply Yh _ YoZ
 exact za
 exact rfl
 exactλ_ hw=>(Oq 1073741824 nodes (by omega) (.blk zm) (hw))
 rintro _ _ ⟨gf,rfl,rfl⟩
 have hrl:(List.replicate nodes (1073741824:Int)).length=nodes:=Rw
 repeat'(first|(apply XB T (f:=numF) (l:=List.replicate nodes (1073741824:Int)) (i:=to.toNat) (a:=0);(iterate 3 exact rfl);exact zd;exact rfl;exactλ_=>rfl;exact rfl;omega)|refine zgd ?_|(refine zgh ?_;intro _)|fail)
 rename_i gL gq
 have hs0:=Yjy hok hto.1 hto.2
 have hw0:JJ ((List.replicate nodes (1073741824:Int)).set to.toNat 0) [(to,0)]<=90000000000:=by
  unfold JJ
  have:=Yp6 ((List.replicate nodes (1073741824:Int)).set to.toNat 0) (λx hx=>by
   rcases NH hx with h|rfl
   ·rw[(List.mem_replicate.1 h).2];exact SD _
   ·decide)
  rw[Rh,Rw]at this
  simp only[TP]
  omega
 refine Yi (λ(z:Dz)=>[(8,.pointer (some ⟨gq,0,none⟩)),(7,.slice (some ⟨gf,0,none⟩) z.far.length nodes),(0,.int .i64 nodes),(1,.slice AL l.length capL),(2,.int .i64 to)])
  (λz=>qpcs gq z.A z.cap z.q (ints (some ⟨gf,0,none⟩) nodes z.far::H)) (λz=>DInv nodes l to z.far z.q 0 []/\JJ z.far z.q<=90000000000) (λz=>JJ z.far z.q) ⟨(List.replicate nodes (1073741824:Int)).set to.toNat 0,[(to,0)],some ⟨gL,0,none⟩,1⟩ ⟨hs0,hw0⟩ ?_ ?_ ?_
 ·dsimp only
  rw[Rh]
  exact zu
 ·intro w hw
  dsimp only
  have h5:St B w0 (blk gL (.cells #[.int .i64 to,.int .i64 0] 411 (0,0))::blk gq (.cells #[.slice (some ⟨gL,0,none⟩) 1 1] 413 (0,0))::sl 3 1 (some ⟨gf,0,none⟩) (List.replicate nodes (1073741824:Int)).length nodes (((List.replicate nodes (1073741824:Int)).set to.toNat 0).flatMap numF)::H) w:=by
   revert w
   exact zk
  have h6:=h5.blk_sl (cs:=itF (to,0)) (len:=1) (size:=2) rfl (by omega)
  revert h6
  clear h5 hw
  revert w
  unfold qpcs ints
  rw[Rh]
  exactλw h6=>h6.perm (.swap _ _ _)
 clear hs0 hw0 hrl
 rintro⟨far,q,A,cap⟩ ⟨hinv,hwt⟩ K hK
 simp only at hinv hwt⊢
 have hflen:=hinv.len
 have hql:q.length<=90000000000:=by unfold JJ at hwt;omega
 by_cases hq:q.length=0
 ·unfold qpcs
  repeat'(first|((first|apply Ya YeR|apply Yb YeR);exact za;exact rfl;exactλ_ hw=>(OK _ hw))|refine zgd ?_|(refine zgf ?_ ?_<;>intro _<;>try exact zo)|fail)
  apply Yj (ints (some ⟨gf,0,none⟩) nodes far::H)
  ·exact zk
  apply Yd;exact rfl;exact rfl
  obtain rfl:q=[]:=RJ hq
  exact⟨gf,far,rfl,YmD hinv,rfl⟩
 unfold qpcs
 repeat'(first|((first|apply Ya YeR|apply Yb YeR);exact za;exact rfl;exactλ_ hw=>(OK _ hw))|(apply Wd;exact rfl;kernel_rfl;exact rfl)|refine zgd ?_|(refine zgf ?_ ?_<;>intro _<;>try exact zo)|fail)
 apply XL (qpcs gq A cap q (ints (some ⟨gf,0,none⟩) nodes far::H))
 ·unfold qpcs
  exact zk
 apply Yh _ Yt5
 exact za
 exact rfl
 exactλ_ hw=>(YmW gq q (λh=>hq (by rw[h];rfl)) (by omega) (hw))
 rintro _ _ ⟨⟨v,d⟩,q1,rfl,hp,rfl⟩
 obtain⟨⟨v0,v1⟩,hvd,hdn⟩:=hinv.items (v,d) (hp.mem_iff.1 TA)
 simp only at v0 v1 hvd hdn
 have hd0:=(hinv.range v v0 v1).1
 have hdb:d<1073741824:=hdn
 have hgv:=XP (far:=far) (i:=v) (by omega)
 have hq1:q1.length+1=q.length:=hp.length_eq
 unfold qpcs itV
 dsimp only
 by_cases hskip:Yf far v<d
 ·skip
  repeat'(first|(apply WV;exact rfl;kernel_rfl;exact rfl)|refine zgd ?_|(refine zgf ?_ ?_<;>intro _<;>try exact zo)|(refine zgh ?_;intro _)|fail)
  apply hK ⟨far,q1,A,cap⟩
  ·refine⟨YmF hinv hp hskip,?_⟩
   unfold JJ at hwt⊢
   simp only
   omega
  ·unfold JJ
   simp only
   omega
  ·exact zu
  ·unfold qpcs
   exact zk
 ·have hde:Yf far v=d:=by omega
  repeat'(first|(apply WV;exact rfl;kernel_rfl;exact rfl)|refine zgd ?_|(refine zgf ?_ ?_<;>intro _<;>try exact zo)|(refine zgh ?_;intro _)|fail)
  rename_i g9 _
  refine Yi (λ(z:Ez)=>[(46,.int .i64 z.k),(45,.int .i64 l.length),(44,.slice AL l.length capL),(8,.pointer (some ⟨gq,0,none⟩)),(9,.pointer (some ⟨g9,0,none⟩)),(7,.slice (some ⟨gf,0,none⟩) z.far.length nodes),(0,.int .i64 nodes),(1,.slice AL l.length capL),(2,.int .i64 to)])
   (λz=>qpcs gq z.A z.cap z.q (ints (some ⟨gf,0,none⟩) nodes z.far::blk g9 (.cells #[.int .i64 v,.int .i64 d] 411 (0,0))::H)) (λz=>z.k<=l.length/\DInv nodes l to z.far z.q v (l.drop z.k)/\Yf z.far v=d/\JJ z.far z.q+1<=JJ far q) (λz=>l.length-z.k) ⟨0,far,q1,A,cap⟩ ⟨Tu _,YmE hinv hp,hde,by unfold JJ;simp only;omega⟩ ?_ (by unfold qpcs;exact zk) ?_
  ·exact zu
  rintro⟨k,far2,q2,A2,cap2⟩ ⟨hk,hinv2,hd2,hwt2⟩ K2 hK2
  simp only at hk hinv2 hd2 hwt2⊢
  have hflen2:=hinv2.len
  have hql2:q2.length<=90000000000:=by unfold JJ at hwt2 hwt;omega
  by_cases hlt:k<l.length
  rotate_left
  ·have hkl:k=l.length:=by omega
   clear hK2
   subst hkl
   rw[S0]at hinv2
   repeat'(first|refine zgc ?_|(refine zge ?_ ?_<;>intro _<;>try exact zo)|fail)
   apply hK ⟨far2,q2,A2,cap2⟩
   ·exact⟨YoM hinv2,by simp only;omega⟩
   ·simp only;omega
   ·exact zu
   ·unfold qpcs
    exact zk
  ·obtain⟨a,ha⟩:∃a,l[k]? =some a:=⟨_,Ta hlt⟩
   have hal:=Tf ha
   obtain⟨⟨a1,a2⟩,⟨a3,a4⟩,⟨a5,a6⟩⟩:=hok a hal
   have hdrop:l.drop k=a::l.drop (k+1):=by
    obtain⟨hk3,rfl⟩:=Ti.1 ha
    exact Rx hk3
   rw[hdrop]at hinv2
   have hga:=XP (far:=far2) (i:=a.1) (by omega)
   unfold qpcs
   by_cases hyes:a.2.1=v/\d+a.2.2<Yf far2 a.1
   ·obtain⟨hy1,hy2⟩:=hyes
    have hlen3:(far2.set a.1.toNat (d+a.2.2)).length=far2.length:=Rh
    repeat'(first|(apply XB T (f:=numF) (l:=far2) (i:=a.1.toNat) (a:=d+a.2.2);(iterate 3 exact rfl);exact zd;exact rfl;exactλ_=>rfl;exact rfl;omega)|(apply Wd;exact rfl;kernel_rfl;exact rfl)|refine zgd ?_|(refine zge ?_ ?_<;>intro _<;>try exact zo)|(refine zgh ?_;intro _)|fail)
    rename_i ga
    apply XL (qpcs gq A2 cap2 q2 (ints (some ⟨gf,0,none⟩) nodes (far2.set a.1.toNat (d+a.2.2))::blk g9 (.cells #[.int .i64 v,.int .i64 d] 411 (0,0))::H))
    ·unfold qpcs ints
     rw[Rh]
     exact zk
    apply Yh _ Yt6
    exact za
    exact rfl
    exactλ_ hw=>(YjO gq q2 (a.1,d+a.2.2) (by omega) (hw))
    rintro _ _ ⟨A3,cap3,q3,rfl,hp3,rfl⟩
    obtain⟨y1,y2,y3⟩:=YoN hok ⟨v0,v1⟩ hd2 hal hinv2 hy1 hy2 hp3
    repeat'(first|refine zgc ?_|fail)
    apply hK2 ⟨k+1,far2.set a.1.toNat (d+a.2.2),q3,A3,cap3⟩
    ·exact⟨by simp only;omega,y1,y2,by simp only;omega⟩
    ·simp only;omega
    ·dsimp only
     rw[hlen3]
     exact zu
    ·exactλw hw=>hw
   ·have hn2:=YqR hinv2 (by rw[hd2];exact hyes)
    by_cases hav:a.2.1=v
    ·have hle:¬d+a.2.2<Yf far2 a.1:=λh=>hyes ⟨hav,h⟩
     repeat'(first|refine zgd ?_|(refine zge ?_ ?_<;>intro _<;>try exact zo)|(refine zgh ?_;intro _)|fail)
     apply hK2 ⟨k+1,far2,q2,A2,cap2⟩
     ·exact⟨by simp only;omega,hn2,hd2,hwt2⟩
     ·simp only;omega
     ·exact zu
     ·unfold qpcs
      exact zk
    ·repeat'(first|refine zgd ?_|(refine zge ?_ ?_<;>intro _<;>try exact zo)|(refine zgh ?_;intro _)|fail)
     apply hK2 ⟨k+1,far2,q2,A2,cap2⟩
     ·exact⟨by simp only;omega,hn2,hd2,hwt2⟩
     ·simp only;omega
     ·exact zu
     ·unfold qpcs
      exact zk
end Go.Proofs.YtaholidehobiiaaGreatDoor
namespace Go.Rt
open Go.Nw
def Xj(far:List Int)(at_:Int)(best:Int)(a:Lk):Int:=if a.1=at_/\a.2.2+Yf far a.2.1=Yf far at_/\(best<0\/a.2.1<best)then a.2.1 else best
def Xm(l:List Lk)(far:List Int)(at_:Int):Int:=l.foldl (Xj far at_) (-1)
def Y1(l:List Lk)(far:List Int)(to:Int):Nat->Int->List Int
 |0,_=>[]
 |k+1,at_=>if at_=to then []else Xm l far at_::Y1 l far to k (Xm l far at_)
def wayF(l:List Lk)(far:List Int)(s to:Int):List Int:=if YK<=Yf far s then []else s::Y1 l far to (Yf far s).toNat s
theorem YcU(l:List Lk)(far:List Int)(to:Int):∀(k:Nat) (v:Int),(Y1 l far to k v).length<=k
 |0,_=>TL _
 |k+1,v=>by
  have:=YcU l far to k (Xm l far v)
  unfold Y1
  grind
theorem YgK(l:List Lk)(far:List Int)(s to:Int):(wayF l far s to).length<=1073741824:=by
 unfold wayF
 split
 ·simp_all
 grind [YcU,YK]
theorem Ymt(l:List Lk)(far:List Int)(at_:Int)(a:Lk):Xm (l++[a]) far at_=Xj far at_ (Xm l far at_) a:=by
 grind [Xm]
theorem YqM(l:List Lk)(far:List Int)(at_:Int)(b0:Int):l.foldl (Xj far at_) b0=b0\/∃a∈l,a.1=at_/\a.2.2+Yf far a.2.1=Yf far at_/\l.foldl (Xj far at_) b0=a.2.1:=by
 induction l generalizing b0 with
 |nil=>simp_all
 |cons a l ih=>
  rw[Na]
  rcases ih (Xj far at_ b0 a)with h|⟨c,hc,h⟩
  ·rw[h]
   unfold Xj
   grind
  grind
variable {l:List Lk}{far far':List Int}
theorem YqL{at_:Int}(hl:∀a∈l,0<=a.2.1)(b0:Int)(h:0<=b0\/∃a∈l,a.1=at_/\a.2.2+Yf far a.2.1=Yf far at_):0<=l.foldl (Xj far at_) b0:=by
 induction l generalizing b0 with
 |nil=>
  simp_all
 |cons a l ih=>
  refine ih (λc hc=>hl c (TB _ hc)) _ ?_
  unfold Xj
  grind
variable {nodes:Nat}{to v:Int}
theorem YdJ(_hl:ArcsOk nodes l)(h:Dist nodes l to far)(h0:0<=v)(h1:v<nodes)(hne:v≠to)(hlt:Yf far v<YK):∃a∈l,a.1=v/\a.2.2+Yf far a.2.1=Yf far v:=by
 obtain⟨a,ha,ha1,ha2⟩:=h.tight v h0 h1 hne hlt
 obtain⟨_,_,⟨h5,_⟩⟩:=_hl a ha
 have:=h.least a ha (by omega)
 grind
theorem UO(hl:ArcsOk nodes l)(h:Dist nodes l to far)(h0:0<=v)(h1:v<nodes)(hne:v≠to)(hlt:Yf far v<YK):
 (0<=Xm l far v/\Xm l far v<nodes)/\Yf far (Xm l far v)<Yf far v/\0<=Yf far (Xm l far v)/\∃a∈l,a.1=v/\a.2.1=Xm l far v/\a.2.2+Yf far (Xm l far v)=Yf far v:=by
 have hge:0<=Xm l far v:=YqL (λa ha=>(hl a ha).2.1.1) (-1) (.inr (YdJ hl h h0 h1 hne hlt))
 rcases YqM l far v (-1)with h2|⟨a,ha,h3,h4,h5⟩
 ·grind [Xm]
 ·obtain⟨_,⟨h6,h7⟩,⟨h8,_⟩⟩:=hl a ha
  have h9:Xm l far v=a.2.1:=h5
  have:=(h.range a.2.1 h6 h7).1
  grind
theorem YfY(hl:ArcsOk nodes l)(h:Dist nodes l to far)(h':Dist nodes l to far'):∀(k:Nat) (v:Int),0<=v->v<nodes->Yf far v<YK->(Yf far v).toNat<=k->Yf far' v<=Yf far v:=by
 intro k
 induction k with
 |zero=>
  intro v h0 h1 hlt hk
  by_cases hv:v=to
  ·rw[hv,h.to0,h'.to0];omega
  ·obtain⟨a,ha,ha1,ha2⟩:=YdJ hl h h0 h1 hv hlt
   obtain⟨_,⟨h3,h4⟩,⟨h5,_⟩⟩:=hl a ha
   have:=(h.range a.2.1 h3 h4).1
   omega
 |succ k ih=>
  intro v h0 h1 hlt hk
  by_cases hv:v=to
  ·rw[hv,h.to0,h'.to0];omega
  ·obtain⟨a,ha,ha1,ha2⟩:=YdJ hl h h0 h1 hv hlt
   obtain⟨_,⟨h3,h4⟩,⟨h5,_⟩⟩:=hl a ha
   have h7:=ih a.2.1 h3 h4 (by omega) (by omega)
   have h8:=h'.least a ha (by omega)
   grind
theorem YhI(hl:ArcsOk nodes l)(h:Dist nodes l to far)(h':Dist nodes l to far'):far=far':=by
 have key:∀v:Int,0<=v->v<nodes->Yf far v=Yf far' v:=by
  intro v h0 h1
  have r1:=h.range v h0 h1
  have r2:=h'.range v h0 h1
  rcases MG (Yf far v) YK with h2|h2
  ·have h3:=YfY hl h h' _ v h0 h1 h2 (TL _)
   have h4:=YfY hl h' h _ v h0 h1 (by omega) (TL _)
   omega
  ·rcases MG (Yf far' v) YK with h3|h3
   ·have h4:=YfY hl h' h _ v h0 h1 h3 (TL _)
    omega
   ·omega
 apply SJ
 all_goals grind [XP,Go.Rt.Dist.len,RZ]
open Classical in
noncomputable def ZY(nodes:Nat)(l:List Lk)(to:Int):List Int:=if h:∃far,Dist nodes l to far then h.choose else []
theorem W8(hl:ArcsOk nodes l)(h:Dist nodes l to far):ZY nodes l to=far:=by
 unfold ZY
 rw[dif_pos ⟨far,h⟩]
 exact YhI hl (Exists.choose_spec (⟨far,h⟩:∃far,Dist nodes l to far)) h
end Go.Rt
namespace Go.Proofs.YtaholidehobiiaaGreatDoor
open Go.RowKit Go.Eng Go.Nw Go.Rt
def WayV(A:Option Addr)(l:List Int):Prop:=l=[]->A=none
structure Fz where
 at_:Int
 pre:List Int
 A:Option Addr
 cap:Nat
theorem YhW{l:List Lk}{far:List Int}{to:Int}{nodes:Nat}(hl:ArcsOk nodes l)(hd:Dist nodes l to far){v:Int}(h0:0<=v)(h1:v<nodes)(hne:v≠to)(hlt:Yf far v<YK):∀k j:Nat,(Yf far v).toNat<=k->(Yf far v).toNat<=j->Y1 l far to k v=Y1 l far to j v:=by
 intro k
 induction k generalizing v with
 |zero=>
  intro j hk hj
  have:=(UO hl hd h0 h1 hne hlt).2
  omega
 |succ k ih=>
  intro j hk hj
  obtain⟨b1,b2,b3,_⟩:=UO hl hd h0 h1 hne hlt
  cases j with
  |zero=>omega
  |succ j=>
   unfold Y1
   rw[Td hne,Td hne]
   by_cases hb:Xm l far v=to
   ·cases k<;>cases j<;>simp[Y1,hb]
   ·rw[ih b1.1 b1.2 hb (by omega) j (by omega) (by omega)]
theorem YcQ(nodes:Nat)(l:List Lk)(s to:Int)(hn:nodes<=40)(hl:l.length<=1000000)(hok:ArcsOk nodes l)(hs:0<=s/\s<nodes)(hto:0<=to/\to<nodes){AL:Option Addr}{capL B:Nat}{w0:World}{H:List HP}{w:World}(hr:Rd B w0 H AL (l.flatMap lkF))(hw:St B w0 H w):
 Calls Tryz.prog 275 [.int .i64 nodes,.slice AL l.length capL,.int .i64 s,.int .i64 to].toArray w (Post B w0 λv K=>∃A cap,v=.slice A (wayF l (ZY nodes l to) s to).length cap/\WayV A (wayF l (ZY nodes l to) s to)/\(ZY nodes l to).length=nodes/\Dist nodes l to (ZY nodes l to)/\K=ints A cap (wayF l (ZY nodes l to) s to)::H):=by
 refine Yc Tryz.func275 Tryz.ntmps275 rfl rfl hw ?_
 repeat'(first|refine zga ?_|fail)
 apply Yh _ YoY
 exact za
 exact rfl
 exactλ_ hw=>(VY nodes l to hn hl hok hto hr (hw))
 rintro _ _ ⟨gf,far,rfl,hd,rfl⟩
 rw[W8 hok hd]
 have hflen:=hd.len
 have hgs:=XP (far:=far) (i:=s) (by omega)
 have hrs:=hd.range s hs.1 hs.2
 have hne:YK=1073741824:=rfl
 unfold wayF
 by_cases hfar:YK<=Yf far s
 ·rw[Tm hfar]
  rw[hne]at hfar
  repeat'(first|refine zgd ?_|(refine zgf ?_ ?_<;>intro _<;>try exact zo)|fail)
  apply Yj (ints none 0 []::H)
  ·exactλw hw=>hw.tail.nilSlice _ _
  apply Yd;exact rfl;exact rfl
  exact⟨none,0,rfl,λ_=>rfl,hflen,hd,rfl⟩
 rw[Td hfar]
 rw[hne]at hfar
 repeat'(first|refine zgd ?_|(refine zgf ?_ ?_<;>intro _<;>try exact zo)|(refine zgh ?_;intro _)|fail)
 rename_i g1
 have hf0:0<=Yf far s:=hrs.1
 refine Yi (λ(z:Fz)=>[(11,.int .i64 z.at_),(10,.slice z.A z.pre.length z.cap),(9,.slice (some ⟨gf,0,none⟩) far.length nodes),(1,.slice AL l.length capL),(3,.int .i64 to)])
  (λz=>ints z.A z.cap z.pre::ints (some ⟨gf,0,none⟩) nodes far::H) (λz=>(0<=z.at_/\z.at_<nodes)/\(0<=Yf far z.at_/\Yf far z.at_<1073741824)/\z.pre++Y1 l far to (Yf far z.at_).toNat z.at_=s::Y1 l far to (Yf far s).toNat s/\1<=z.pre.length/\z.pre.length+(Yf far z.at_).toNat<=1073741830) (λz=>(Yf far z.at_).toNat) ⟨s,[s],some ⟨g1,0,none⟩,1⟩ ⟨hs,⟨by omega,by omega⟩,rfl,by simp,by simp only[TP];omega⟩ ?_ (λw hw=>hw.blk_sl (cs:=numF s) (len:=1) (size:=1) rfl (by omega)) ?_
 ·exact zu
 rintro⟨v,pre,A,cap⟩ ⟨⟨v0,v1⟩,⟨d0,d1⟩,hpre,hpl,hpm⟩ K hK
 simp only at v0 v1 d0 d1 hpre hpl hpm⊢
 have hgv:=XP (far:=far) (i:=v) (by omega)
 by_cases hvt:v=to
 ·have hfl:Y1 l far to (Yf far v).toNat v=[]:=by
   rw[hvt,hd.to0];rfl
  rw[hfl,TM]at hpre
  clear hK
  repeat'(first|refine zgc ?_|(refine zge ?_ ?_<;>intro _<;>try exact zo)|fail)
  apply Yj (ints A cap pre::H)
  ·exact zk
  apply Yd;exact rfl;exact rfl
  rw[<-hpre]
  exact⟨A,cap,rfl,λh=>by rw[h]at hpl;simp at hpl,hflen,hd,rfl⟩
 obtain⟨b1,b2,b3,_⟩:=UO hok hd v0 v1 hvt (by rw[hne];omega)
 obtain⟨bb,hbb⟩:∃bb,Xm l far v=bb:=⟨_,rfl⟩
 repeat'(first|refine zgb ?_|(refine zge ?_ ?_<;>intro _<;>try exact zo)|fail)
 refine Yi (λ(k:Nat)=>[(32,.int .i64 k),(31,.int .i64 l.length),(30,.slice AL l.length capL),(12,.int .i64 (Xm (l.take k) far v)),(11,.int .i64 v),(10,.slice A pre.length cap),(9,.slice (some ⟨gf,0,none⟩) far.length nodes),(1,.slice AL l.length capL),(3,.int .i64 to)])
  (λ_=>ints A cap pre::ints (some ⟨gf,0,none⟩) nodes far::H) (λk=>k<=l.length) (λk=>l.length-k) 0 (Tu _) ?_ (λw hw=>hw) ?_
 ·exact zu
 intro k hk K2 hK2
 have hrl:Rd B w0 (ints A cap pre::ints (some ⟨gf,0,none⟩) nodes far::H) AL (l.flatMap lkF):=(hr.cons).cons
 by_cases hlt:k<l.length
 ·obtain⟨a,ha⟩:∃a,l[k]? =some a:=⟨_,Ta hlt⟩
  obtain⟨⟨a1,a2⟩,⟨a3,a4⟩,⟨a5,a6⟩⟩:=hok a (Tf ha)
  have hga:=XP (far:=far) (i:=a.2.1) (by omega)
  have hra:=hd.range a.2.1 a3 a4
  rw[hne]at hra
  have hst:Xm (l.take (k+1)) far v=Xj far v (Xm (l.take k) far v) a:=by
   rw[TF,ha];exact Ymt _ _ _ _
  obtain⟨bk,hbk⟩:∃bk,Xm (l.take k) far v=bk:=⟨_,rfl⟩
  rw[hbk]at hst
  rw[hbk]
  unfold Xj at hst
  by_cases hc:a.1=v/\a.2.2+Yf far a.2.1=Yf far v/\(bk<0\/a.2.1<bk)
  ·rw[Tm hc]at hst
   repeat'(first|refine zgd ?_|(refine zge ?_ ?_<;>intro _<;>try exact zo)|(refine zgh ?_;intro _)|fail)
   all_goals(
    apply hK2 (k+1)
    ·omega
    ·omega
    ·rw[hst];exact zu
    ·exactλw hw=>hw.tail)
  ·rw[Td hc]at hst
   repeat'(first|refine zgd ?_|(refine zge ?_ ?_<;>intro _<;>try exact zo)|(refine zgh ?_;intro _)|fail)
   all_goals(
    apply hK2 (k+1)
    ·omega
    ·omega
    ·rw[hst];exact zu
    ·exactλw hw=>hw.tail)
 ·obtain rfl:k=l.length:=by omega
  clear hK2
  rw[TY,hbb]
  rw[hbb]at b1 b2 b3
  have hfs:Y1 l far to (Yf far v).toNat v=bb::Y1 l far to (Yf far bb).toNat bb:=by
   obtain⟨j,hj⟩:∃j,(Yf far v).toNat=j+1:=⟨(Yf far v).toNat-1,by omega⟩
   rw[hj,show Y1 l far to (j+1) v=if v=to then []else Xm l far v::Y1 l far to j (Xm l far v) from rfl,Td hvt,hbb]
   by_cases hbt:bb=to
   ·rw[hbt]
    cases j<;>simp[Y1,hd.to0]
   ·rw[YhW hok hd b1.1 b1.2 hbt (by rw[hne];omega) j _ (by omega) (TL _)]
  repeat'(first|refine zgc ?_|(refine zge ?_ ?_<;>intro _<;>try exact zo)|(refine zgh ?_;intro _)|(refine zgi ?_;intro _ _)|fail)
  rename_i A3 cap3
  apply hK ⟨bb,pre++[bb],A3,cap3⟩
  ·refine⟨b1,⟨b3,by simp only;omega⟩,?_,by simp,?_⟩
   ·simp only
    rw[TX,List.singleton_append,<-hfs];exact hpre
   ·simp only[Tj,TP]
    omega
  ·simp only;omega
  ·dsimp only
   rw[Tj,TP];exact zu
  ·dsimp only
   rw[<-Ym2]
   exact zk
def dear(a:Lk):Lk:=(a.1,a.2.1,a.2.2*33+1)
noncomputable def Qo(n:Net)(s t:Int):List Int:=wayF ((YS n).map dear) (ZY n.nodes.toNat ((YS n).map dear) t) s t
noncomputable def Z5(n:Net)(s t:Int):List Int×Int:=
 if Z1 n s t≠0 then([],Z1 n s t)else if Qo n s t=[]then([],17)else if 9<(Qo n s t).length then([],21)else(Qo n s t,0)
variable {n:Net}
theorem YqP(h:Ok n):ArcsOk n.nodes.toNat ((YS n).map dear):=by
 intro a ha
 obtain⟨b,hb,rfl⟩:=TG.1 ha
 obtain⟨i,hi,_,rfl⟩:=Oj.1 hb
 have hl:=h.lk i hi
 have h1:=hl.f0;have h2:=hl.f1;have h3:=hl.t0;have h4:=hl.t1;have h5:=hl.l0;have h6:=hl.l1
 unfold dear WX
 simp only
 omega
theorem Yf0{s t:Int}(h:Z1 n s t=0):Yq n=0/\(0<=s/\s<n.nodes)/\(0<=t/\t<n.nodes)/\s≠t:=by
 unfold Z1 offE at h
 by_cases h0:Yq n=0
 ·rw[Td (λh=>h h0)]at h
  simp only[Tq]at h
  by_cases h1:(s<0\/n.nodes<=s)\/(t<0\/n.nodes<=t)\/s=t
  ·rw[Tm h1]at h;cases h
  ·exact⟨h0,by omega,by omega,by omega⟩
 ·rw[Tm h0]at h;cases h
variable {l:List Lk}{k:Nat}{a:Lk}
theorem Yrb(h:l[k]? =some a):((l.take k).map dear++l.drop k)[k]? =some a:=by
 have hk:=(Ti.1 h).1
 rw[Ro (by simp;omega),Tv,TD,SG (by omega),Nb,RB,SQ]
 exact h
theorem Yrc(h:l[k]? =some a):((l.take k).map dear++l.drop k).set k (dear a)=(l.take (k+1)).map dear++l.drop (k+1):=by
 obtain⟨hk,rfl⟩:=Ti.1 h
 have hl:((l.take k).map dear).length=k:=by simp;omega
 rw[NX _ _ (by omega),hl,Nb,Rx hk,Nv,TF,Ta hk,T8,TX]
 rfl
theorem Yeg(n:NetM)(s t:Int){B:Nat}{w0:World}{H:List HP}{w:World}(hin:n.In B w0 H)(hw:St B w0 H w):
 Calls Tryz.prog 203 [n.val,.int .i64 s,.int .i64 t].toArray w (Post B w0 λv K=>∃A cap,v=.tuple #[.slice A (Z5 n.net s t).1.length cap,.int .i64 (Z5 n.net s t).2]/\WayV A (Z5 n.net s t).1/\(Z1 n.net s t=0->Dist n.net.nodes.toNat ((YS n.net).map dear) t (ZY n.net.nodes.toNat ((YS n.net).map dear) t))/\K=ints A cap (Z5 n.net s t).1::H):=by
 refine Yc Tryz.func203 Tryz.ntmps203 rfl rfl hw ?_
 (apply Xt;apply Y0;apply YR;exact rfl;exact rfl;intro g)
 unfold Z5
 by_cases he:Z1 n.net s t=0
 rotate_left
 ·rw[Tm he]
  repeat'(first|((first|apply Ya Up|apply Yb Up);exact za;exact rfl;exactλ_ hw=>(VG n s t hin.cons hw))|refine zgb ?_|(refine zge ?_ ?_<;>intro _<;>try exact zo)|fail)
  (repeat apply Yl)
  apply XT 3 1
  apply Yp;(iterate 3 exact rfl)
  exact⟨none,0,rfl,λ_=>rfl,λh=>absurd h he,rfl⟩
 rw[Td (λh=>h he)]
 obtain⟨hck,⟨s0,s1⟩,⟨t0,t1⟩,hst⟩:=Yf0 he
 have hen:=λ{H:List HP}{w:World}(hin:n.In B w0 H) (hw:St B w0 H w)=>VG n s t hin hw
 rw[he]at hen
 have hok:=YM hck
 have hn0:=hok.n0
 have hn1:=hok.n1
 have hnn:((n.net.nodes.toNat:Nat):Int)=n.net.nodes:=by omega
 have hnn2:n.net.nodes=n.nodes:=rfl
 have hal:(YS n.net).length<=128:=RE (Wh _ _) hok.k0
 have hdo:=YqP hok
 obtain⟨L,hL⟩:∃L,YS n.net=L:=⟨_,rfl⟩
 rw[hL]at hal
 have hLo:=YkW hok hnn.symm
 rw[hL]at hLo
 repeat'(first|((first|apply Ya Up|apply Yb Up);exact za;exact rfl;exactλ_ hw=>(hen hin.cons hw))|refine zgb ?_|(refine zge ?_ ?_<;>intro _<;>try exact zo)|fail)
 apply Yh _ Yr5
 exact za
 exact rfl
 exactλ_ hw=>(Yeq n hin.cons hck (hw))
 rintro _ _ ⟨A,cap,rfl,rfl⟩
 rw[hL]
 repeat'(first|refine zgb ?_|fail)
 refine Yi (λ(k:Nat)=>[(24,.int .i64 k),(23,.int .i64 L.length),(9,.slice A L.length cap),(3,.pointer (some ⟨g,0,none⟩)),(1,.int .i64 s),(2,.int .i64 t)])
  (λk=>sl 298 3 A L.length cap (((L.take k).map dear++L.drop k).flatMap lkF)::netB g n::H) (λk=>k<=L.length) (λk=>L.length-k) 0 (Tu _) ?_ (λw hw=>hw) ?_
 ·exact zu
 intro k hk K hK
 have hml:((L.take k).map dear++L.drop k).length=L.length:=by simp;omega
 by_cases hlt:k<L.length
 ·obtain⟨a,ha⟩:∃a,L[k]? =some a:=⟨_,Ta hlt⟩
  obtain⟨_,_,⟨a5,a6⟩⟩:=hLo a (Tf ha)
  have hmg:=Yrb ha
  have hms:=Yrc ha
  rw[<-hml]
  repeat'(first|(apply VS T (f:=lkF) (l:=(L.take k).map dear++L.drop k) (i:=k) (q:=3) (o:=2) (b:=a) (b':=dear a);(iterate 3 exact rfl);exact zd;exact hmg;exact rfl;exactλ_=>rfl;exact rfl;exact rfl)|refine zgd ?_|(refine zge ?_ ?_<;>intro _<;>try exact zo)|fail)
  rw[hml,hms]
  apply hK (k+1)
  ·omega
  ·omega
  ·exact zu
  ·exactλw hw=>hw
 ·obtain rfl:k=L.length:=by omega
  clear hK
  rw[TY,S0,TM]
  have hLl:(L.map dear).length=L.length:=Tv _
  rw[<-hLl]
  repeat'(first|refine zgc ?_|(refine zge ?_ ?_<;>intro _<;>try exact zo)|fail)
  rw[show(Value.int .i64 n.nodes)=.int .i64 ((n.net.nodes.toNat:Nat):Int) by rw[hnn];rfl]
  rw[hL]at hdo
  apply Yh _ YoX
  exact za
  exact rfl
  exactλ_ hw=>(YcQ n.net.nodes.toNat (L.map dear) s t (by omega) (by omega) hdo ⟨s0,by omega⟩ ⟨t0,by omega⟩ (.sl zm) (hw))
  rintro _ _ ⟨A2,cap2,rfl,hway,hdl,hdd,rfl⟩
  have hsr:wayF (L.map dear) (ZY n.net.nodes.toNat (L.map dear) t) s t=Qo n.net s t:=by rw[<-hL];rfl
  rw[hL]at*
  rw[hsr]at hway⊢
  obtain⟨R,hR⟩:∃R,Qo n.net s t=R:=⟨_,rfl⟩
  rw[hR]at hway⊢
  by_cases hnil:R=[]
  ·rw[Tm hnil]
   have hA:=hway hnil
   subst hA
   repeat'(first|(apply YW;(iterate 3 exact rfl))|refine zgb ?_|fail)
   apply Yj (ints none 0 []::H)
   ·exactλw hw=>(hw.front 2).tail.tail.tail.nilSlice _ _
   apply Yp;(iterate 3 exact rfl)
   exact⟨none,0,rfl,λ_=>rfl,λ_=>hdd,rfl⟩
  ·rw[Td hnil]
   have hRl:R.length<=1073741824:=by rw[<-hR];exact YgK _ _ _ _
   have hpos:0<R.length:=List.length_pos_iff.2 hnil
   refine YfK (e:=3) (size:=1) (k:=R.length) (cap:=cap2) (A:=A2) (xs:=R.flatMap numF) TA hpos ?_
   rintro ga rfl
   by_cases h9:9<R.length
   ·rw[Tm h9]
    have hsh:=λ{H:List HP}{w:World}(hw:St B w0 H w)=>WA R.length (A:=some ⟨ga,0,none⟩) (cap:=cap2) (by omega) hw
    rw[Tm h9]at hsh
    repeat'(first|(apply YW;(iterate 3 exact rfl))|((first|apply Ya WM|apply Yb WM);exact za;exact rfl;exactλ_ hw=>(hsh hw))|refine zgb ?_|(refine zge ?_ ?_<;>intro _<;>try exact zo)|fail)
    apply Yj (ints none 0 []::H)
    ·exactλw hw=>(hw.front 2).tail.tail.tail.nilSlice _ _
    apply Yp;(iterate 3 exact rfl)
    exact⟨none,0,rfl,λ_=>rfl,λ_=>hdd,rfl⟩
   ·rw[Td h9]
    have hsh:=λ{H:List HP}{w:World}(hw:St B w0 H w)=>WA R.length (A:=some ⟨ga,0,none⟩) (cap:=cap2) (by omega) hw
    rw[Td h9]at hsh
    repeat'(first|(apply YW;(iterate 3 exact rfl))|((first|apply Ya WM|apply Yb WM);exact za;exact rfl;exactλ_ hw=>(hsh hw))|refine zgb ?_|(refine zge ?_ ?_<;>intro _<;>try exact zo)|fail)
    apply Yj (ints (some ⟨ga,0,none⟩) cap2 R::H)
    ·exactλw hw=>hw.perm (.cons _ (.dropK (.drop _ _)))
    apply Yp;(iterate 3 exact rfl)
    exact⟨some ⟨ga,0,none⟩,cap2,rfl,λh=>absurd h hnil,λ_=>hdd,rfl⟩
end Go.Proofs.YtaholidehobiiaaGreatDoor
namespace Go.Rt
open Go.Nw
structure Ed where
 f:Int
 t:Int
 c:Int
 r:Int
def Vq(f t c:Int):List Ed:=[⟨f,t,c,1⟩,⟨t,f,-c,0⟩]
def ZL(closed:Int->Bool)(k:Nat):List Ed:=(List.range k).flatMap λv:Nat=>if closed (v:Int)=true then []else Vq (2*(v:Int)) (2*(v:Int)+1) 0
def Uh(l:List Lk):List Ed:=l.flatMap λa=>Vq (2*a.1+1) (2*a.2.1) a.2.2
def WB(nodes:Nat)(l:List Lk)(closed:Int->Bool):List Ed:=ZL closed nodes++Uh l
abbrev UH:=List Int×List Int×Bool
def Xs(i:Nat)(e:Ed)(st:UH):UH:=
 if 0<e.r/\Yf st.1 e.f<YK/\Yf st.1 e.f+e.c<Yf st.1 e.t then(st.1.set e.t.toNat (Yf st.1 e.f+e.c),st.2.1.set e.t.toNat (i:Int),true)else st
def YN:Nat->List Ed->UH->UH
 |_,[],st=>st
 |i,e::es,st=>YN (i+1) es (Xs i e st)
def Oo:Nat->List Ed->List Int->List Int->Option (List Int×List Int)
 |0,_,_,_=>none
 |k+1,es,far,by_=>if(YN 0 es (far,by_,false)).2.2=true then Oo k es (YN 0 es (far,by_,false)).1 (YN 0 es (far,by_,false)).2.1 else some ((YN 0 es (far,by_,false)).1,(YN 0 es (far,by_,false)).2.1)
def twin(i:Nat):Nat:=if i%2=0 then i+1 else i-1
def Vp(es:List Ed)(i:Nat)(d:Int):List Ed:=match es[i]? with|some e=>es.set i {e with r:=e.r+d}|none=>es
def Ya6:Nat->List Ed->List Int->Int->Int->Option (List Ed)
 |0,_,_,_,_=>none
 |k+1,es,by_,s,at_=>
  if at_=s then some es else
   if Yf by_ at_<0 then none else
    match es[(Yf by_ at_).toNat]? with
    |none=>none
    |some e=>if es.length<=twin (Yf by_ at_).toNat then none else Ya6 k (Vp (Vp es (Yf by_ at_).toNat (-1)) (twin (Yf by_ at_).toNat) 1) by_ s e.f
def Zo(sides:Nat)(s:Int):List Int:=(List.replicate sides YK).set s.toNat 0
def Yby(fuel sides:Nat)(es:List Ed)(s t:Int):Option (Int×Bool×List Ed):=
 match Oo fuel es (Zo sides s) (List.replicate sides (-1))with
 |none=>none
 |some (far,by_)=>if YK<=Yf far t then some (0,false,es)else
  match Ya6 fuel es by_ s t with
  |none=>none
  |some es'=>some (Yf far t,true,es')
def YZ(a b to:Int)(closed:Int->Bool)(v:Int):Bool:=decide (v=a\/v=b\/v=to)||closed v
def Ui(fuel nodes:Nat)(l:List Lk)(a b to:Int)(closed:Int->Bool):Option (Int×Bool×List Ed):=
 match Yby fuel (2*nodes) (WB nodes l (YZ a b to closed)) (2*a+1) (2*to)with
 |none=>none
 |some (x,ok,es)=>
  match Yby fuel (2*nodes) es (2*b+1) (2*to)with
  |none=>none
  |some (y,is,es2)=>some (x+y,ok&&is,es2)
theorem Yae:∀(l:List Ed) (i:Nat) (e:Ed) (st:UH),YN i (l++[e]) st=Xs (i+l.length) e (YN i l st)
 |[],_,_,_=>rfl
 |x::l,i,e,st=>by
  show YN (i+1) (l++[e]) (Xs i x st)=_
  rw[Yae l (i+1) e,TS,show i+1+l.length=i+(l.length+1) by omega];rfl
def YkJ(sides:Nat)(es:List Ed):Prop:=∀e∈es,(0<=e.f/\e.f<sides)/\(0<=e.t/\e.t<sides)/\(-1000000<=e.c/\e.c<=1000000)/\(-1000000000<=e.r/\e.r<=1000000000)
structure RelOk(sides:Nat)(low:Int)(st:UH):Prop where
 l1:st.1.length=sides
 l2:st.2.1.length=sides
 low:∀v:Int,0<=v->v<sides->low<=Yf st.1 v/\Yf st.1 v<=YK
variable {sides:Nat}{es:List Ed}
theorem Ykl{low:Int}{st:UH}{e:Ed}{i:Nat}(hes:YkJ sides es)(he:e∈es)(h:RelOk sides low st):RelOk sides (low-1000000) (Xs i e st):=by
 obtain⟨⟨e1,e2⟩,⟨e3,e4⟩,⟨e5,e6⟩,_⟩:=hes e he
 unfold Xs
 split
 ·have hlt:e.t.toNat<st.1.length:=by rw[h.l1];omega
  refine⟨by grind [Go.Rt.RelOk.l1],by grind [Go.Rt.RelOk.l2],λv h0 h1=>?_⟩
  have h2:=h.low v h0 h1
  have h3:=h.low e.f e1 e2
  all_goals grind [Zk,Xx]
 ·exact⟨h.l1,h.l2,λv h0 h1=>by have:=h.low v h0 h1;omega⟩
theorem Qn{sides:Nat}{es:List Ed}(hes:YkJ sides es):∀(l:List Ed) (i:Nat) (st:UH) (low:Int),(∀e∈l,e∈es)->RelOk sides low st->RelOk sides (low-1000000*l.length) (YN i l st)
 |[],_,_,_,_,h=>by grind [YN]
 |e::l,i,st,low,hl,h=>by
  have h1:=Qn hes l (i+1) (Xs i e st) (low-1000000) (λx hx=>hl x (TB _ hx)) (Ykl hes (hl e TA) h)
  rw[TS]
  have e1:low-1000000*((l.length+1:Nat):Int)=low-1000000-1000000*(l.length:Int):=by omega
  rw[e1];exact h1
def EdsIn(sides:Nat)(b:Int)(es:List Ed):Prop:=∀e∈es,(0<=e.f/\e.f<sides)/\(0<=e.t/\e.t<sides)/\(-1000000<=e.c/\e.c<=1000000)/\(-b<=e.r/\e.r<=b)
variable {b:Int}
theorem EdsIn.ok(h:EdsIn sides b es)(hb:b<=1000000000):YkJ sides es:=λe he=>by
 obtain⟨h1,h2,h3,h4⟩:=h e he
 omega
theorem EdsIn.mono{b':Int}(h:EdsIn sides b es)(hb:b<=b'):EdsIn sides b' es:=λe he=>by
 obtain⟨h1,h2,h3,h4⟩:=h e he
 omega
theorem Yik(h:EdsIn sides b es)(i:Nat){d:Int}(hd: -1<=d/\d<=1):EdsIn sides (b+1) (Vp es i d):=by
 unfold Vp
 cases hi:es[i]? with
 |none=>exact h.mono (by omega)
 |some e=>
  intro x hx
  rcases NH hx with hx|rfl
  ·obtain⟨h1,h2,h3,h4⟩:=h x hx
   omega
  ·obtain⟨h1,h2,h3,h4⟩:=h e (Tf hi)
   grind
theorem Yrz(i:Nat):twin i≠i:=by grind [twin]
theorem YnL{s:Int}(hs:0<=s/\s<sides)(b:List Int)(hb:b.length=sides)(ag:Bool):RelOk sides (-2000000000) (Zo sides s,b,ag):=by
 refine⟨by grind [Zo],hb,λv h0 h1=>?_⟩
 have hn:YK=1073741824:=rfl
 unfold Zo
 by_cases hv:v=s
 ·grind [Zk]
 ·rw[Xx (by omega)]
  simp_all [Yf]
end Go.Rt
namespace Go.Proofs.YtaholidehobiiaaGreatDoor
open Go.RowKit Go.Eng Go.Nw Go.Rt
def edF(e:Ed):List Value:=[.int .i64 e.f,.int .i64 e.t,.int .i64 e.c,.int .i64 e.r]
abbrev YcW(sides:Nat)(A:Option Addr)(k cap:Nat):Obj:=.cells #[.int .i64 sides,.slice A k cap] 433 (0,0)
def gpcs(g sides:Nat)(A:Option Addr)(cap:Nat)(es:List Ed)(H:List HP):List HP:=blk g (YcW sides A es.length cap)::sl 438 4 A es.length cap (es.flatMap edF)::H
structure Rz where
 k:Nat
 ag:Bool
 far:List Int
 by_:List Int
structure RzOk(sides:Nat)(es:List Ed)(fuel:Nat)(res:List Int×List Int)(z:Rz):Prop where
 kf:z.k<=fuel
 ok:RelOk sides (-2000000000-2000000000*((fuel-z.k:Nat):Int)) (z.far,z.by_,z.ag)
 run:if z.ag=true then Oo z.k es z.far z.by_=some res else(z.far,z.by_)=res
theorem Ykm(g sides:Nat)(es:List Ed)(far:List Int)(fuel:Nat)(res:List Int×List Int)(hs:1<=sides/\sides<=100)(hes:YkJ sides es)(hel:es.length<=2000)(hfu:fuel<=100000)(hfar:RelOk sides (-2000000000) (far,List.replicate sides (-1),true))(hrun:Oo fuel es far (List.replicate sides (-1))=some res)
 {A AF:Option Addr}{cap capF:Nat}{B:Nat}{w0:World}{H:List HP}{w:World}(hw:St B w0 (gpcs g sides A cap es (ints AF capF far::H)) w):
 Calls Tryz.prog 415 [.pointer (some ⟨g,0,none⟩),.slice AF far.length capF].toArray w (Post B w0 λv K=>∃gb,v=.tuple #[.slice AF res.1.length capF,.slice (some ⟨gb,0,none⟩) res.2.length sides]/\RelOk sides (-2000000000-2000000000*(fuel:Int)) (res.1,res.2,false)/\K=ints (some ⟨gb,0,none⟩) sides res.2::gpcs g sides A cap es (ints AF capF res.1::H)):=by
 refine Yc Tryz.func415 Tryz.ntmps415 rfl rfl hw ?_
 unfold gpcs
 repeat'(first|refine zgd ?_|(refine zgh ?_;intro _)|fail)
 apply Yh _ YoZ
 exact za
 exact rfl
 exactλ_ hw=>(Oq (-1) sides (by omega) (.blk zm) (hw))
 rintro _ _ ⟨gb,rfl,rfl⟩
 have hrl:(List.replicate sides (-1:Int)).length=sides:=Rw
 repeat'(first|refine zgb ?_|fail)
 refine Yi (λ(z:Rz)=>[(7,.bool z.ag),(1,.slice AF z.far.length capF),(6,.slice (some ⟨gb,0,none⟩) z.by_.length sides),(0,.pointer (some ⟨g,0,none⟩))])
  (λz=>ints (some ⟨gb,0,none⟩) sides z.by_::blk g (YcW sides A es.length cap)::sl 438 4 A es.length cap (es.flatMap edF)::ints AF capF z.far::H) (λz=>RzOk sides es fuel res z) (λz=>z.k) ⟨fuel,true,far,List.replicate sides (-1)⟩ ⟨TL _,by simpa using hfar,hrun⟩ ?_ zk ?_
 ·exact zu
 rintro⟨k,ag,fa,by_⟩ hz K hK
 obtain⟨hkf,hok,hrun⟩:=hz
 simp only at hkf hok hrun⊢
 cases ag with
 |false=>
  rw[Td (by decide)]at hrun
  clear hK
  obtain⟨rfl,rfl⟩:fa=res.1/\by_=res.2:=by rw[<-hrun];exact⟨rfl,rfl⟩
  repeat'(first|refine zgc ?_|fail)
  apply Yp;(iterate 3 exact rfl)
  refine⟨gb,rfl,⟨hok.l1,hok.l2,λv h0 h1=>?_⟩,rfl⟩
  have:=hok.low v h0 h1
  simp only at this⊢
  omega
 |true=>
  rw[Tm rfl]at hrun
  cases k with
  |zero=>cases hrun
  |succ k=>
   have hok0:RelOk sides (-2000000000-2000000000*((fuel-(k+1):Nat):Int)) (fa,by_,false):=⟨hok.l1,hok.l2,hok.low⟩
   obtain⟨low,hlow⟩:∃low:Int,-2000000000-2000000000*((fuel-(k+1):Nat):Int)=low:=⟨_,rfl⟩
   rw[hlow]at hok0
   have hlb: -300000000000000<=low:=by omega
   unfold Oo at hrun
   repeat'(first|refine zgd ?_|fail)
   refine Yi (λ(j:Nat)=>[(22,.int .i64 j),(21,.int .i64 es.length),(20,.slice A es.length cap),(7,.bool (YN 0 (es.take j) (fa,by_,false)).2.2),(1,.slice AF (YN 0 (es.take j) (fa,by_,false)).1.length capF),(6,.slice (some ⟨gb,0,none⟩) (YN 0 (es.take j) (fa,by_,false)).2.1.length sides),(0,.pointer (some ⟨g,0,none⟩))])
    (λj=>ints (some ⟨gb,0,none⟩) sides (YN 0 (es.take j) (fa,by_,false)).2.1::blk g (YcW sides A es.length cap)::sl 438 4 A es.length cap (es.flatMap edF)::ints AF capF (YN 0 (es.take j) (fa,by_,false)).1::H) (λj=>j<=es.length) (λj=>es.length-j) 0 (Tu _) ?_ (λw hw=>hw) ?_
   ·exact zu
   intro j hj K2 hK2
   by_cases hlt:j<es.length
   ·obtain⟨e,he⟩:∃e,es[j]? =some e:=⟨_,Ta hlt⟩
    have hem:=Tf he
    obtain⟨⟨e1,e2⟩,⟨e3,e4⟩,⟨e5,e6⟩,⟨e7,e8⟩⟩:=hes e hem
    have htl:(es.take j).length=j:=by rw[TD];omega
    have hst:YN 0 (es.take (j+1)) (fa,by_,false)=Xs j e (YN 0 (es.take j) (fa,by_,false)):=by
     rw[TF,he]
     have:=Yae (es.take j) 0 e (fa,by_,false)
     rw[htl,Ry]at this
     exact this
    have hpo:=Qn hes (es.take j) 0 (fa,by_,false) low (λx hx=>SU hx) hok0
    rw[htl]at hpo
    obtain⟨⟨f2,b2,ag2⟩,hst2⟩:∃st,YN 0 (es.take j) (fa,by_,false)=st:=⟨_,rfl⟩
    rw[hst2]at hst hpo⊢
    obtain⟨p1,p2,p3⟩:=hpo
    simp only at p1 p2 p3
    have q1:=p3 e.f e1 e2
    have q2:=p3 e.t e3 e4
    have hgf:=XP (far:=f2) (i:=e.f) (by omega)
    have hgt:=XP (far:=f2) (i:=e.t) (by omega)
    have hnn:YK=1073741824:=rfl
    rw[hnn]at q1 q2
    dsimp only
    unfold Xs at hst
    simp only[hnn]at hst
    by_cases hc:0<e.r/\Yf f2 e.f<1073741824/\Yf f2 e.f+e.c<Yf f2 e.t
    ·rw[Tm hc]at hst
     repeat'(first|refine zgd ?_|(refine zgf ?_ ?_<;>intro _<;>try exact zo)|(refine zgh ?_;intro _)|fail)
     have hl1:(f2.set e.t.toNat (Yf f2 e.f+e.c)).length=f2.length:=Rh
     have hl2:(b2.set e.t.toNat (j:Int)).length=b2.length:=Rh
     apply Yoa [3,4,5,14] [0,1,2,6,7,8,9,10,11,12,13,15] [16,17,18,19] [true] [true,true,false,false,true]
     kernel_rfl
     kernel_rfl
     exact zy
     exact zy
     exact zk
     (simp only[Yg,nthO];rfl)
     (simp only[Yg,nthO];rfl)
     (simp only[Yg,nthO];rfl)
     repeat'(first|(apply Yow;try exact zl)|(apply YdV T;(iterate 4 exact rfl);omega)|(apply XB T (f:=numF) (l:=f2) (i:=e.t.toNat) (a:=Yf f2 e.f+e.c);(iterate 3 exact rfl);exact zd;exact rfl;exactλ_=>rfl;exact rfl;omega)|(apply XB T (f:=numF) (l:=b2) (i:=e.t.toNat) (a:=(j:Int));(iterate 3 exact rfl);exact zd;exact rfl;exactλ_=>rfl;exact rfl;omega)|(apply Yk;try exact zl)|refine zgd ?_|fail)
     apply hK2 (j+1)
     ·omega
     ·omega
     ·rw[hst]
      dsimp only
      rw[hl1,hl2]
      exact zu
     ·rw[hst]
      dsimp only
      unfold ints
      rw[hl1,hl2]
      exact zk
    ·rw[Td hc]at hst
     repeat'(first|refine zgd ?_|(refine zgf ?_ ?_<;>intro _<;>try exact zo)|(refine zgh ?_;intro _)|fail)
     all_goals(
      apply hK2 (j+1)
      ·omega
      ·omega
      ·rw[hst];exact zu
      ·rw[hst];exactλw hw=>hw.tail)
   ·obtain rfl:j=es.length:=by omega
    clear hK2
    have hpo:=Qn hes es 0 (fa,by_,false) low (λx hx=>hx) hok0
    rw[TY]
    obtain⟨⟨f2,b2,ag2⟩,hst2⟩:∃st,YN 0 es (fa,by_,false)=st:=⟨_,rfl⟩
    rw[hst2]at hrun hpo⊢
    dsimp only at hrun⊢
    repeat'(first|refine zgc ?_|(refine zge ?_ ?_<;>intro _<;>try exact zo)|fail)
    apply hK ⟨k,ag2,f2,b2⟩
    ·refine⟨by simp only;omega,⟨hpo.l1,hpo.l2,λv h0 h1=>?_⟩,?_⟩
     ·have:=hpo.low v h0 h1
      simp only at this⊢
      omega
     ·simp only
      cases ag2
      ·rw[Td (by decide)]at hrun⊢
       exact Tz hrun
      ·rw[Tm rfl]at hrun⊢
       exact hrun
    ·simp only;omega
    ·exact zu
    ·exactλw hw=>hw
theorem Yqh(i:Nat)(hi:i<4611686018427387904):bits .xor .i64 (i:Int) 1=(twin i:Int):=by
 have e1:(BitVec.ofInt 64 (i:Int)).toNat=i:=by rw[BitVec.ofInt_natCast,BitVec.toNat_ofNat];exact Nat.mod_eq_of_lt (by omega)
 show IntKind.i64.wrap ((BitVec.ofInt 64 (i:Int)^^^BitVec.ofInt 64 1).toNat:Int)=_
 have e2:(BitVec.ofInt 64 (1:Int)).toNat=1:=by decide
 have e3:i^^^1=twin i:=by
  unfold twin
  rcases Nat.mod_two_eq_zero_or_one i with h|h
  ·rw[Tm h]
   obtain⟨k,rfl⟩:∃k,i=2*k:=⟨i/2,by omega⟩
   apply Nat.eq_of_testBit_eq
   intro j
   rw[Nat.testBit_xor]
   cases j with
   |zero=>simp
   |succ j=>
    rw[NN,NN,NN]
    rw[show(2*k+1)/2=k by omega,show 2*k/2=k by omega,show 1/2=0 by omega,Nat.zero_testBit,Bool.xor_false]
  ·rw[Td (by omega)]
   obtain⟨k,rfl⟩:∃k,i=2*k+1:=⟨i/2,by omega⟩
   apply Nat.eq_of_testBit_eq
   intro j
   rw[Nat.testBit_xor]
   cases j with
   |zero=>simp
   |succ j=>
    rw[NN,NN,NN]
    rw[show(2*k+1)/2=k by omega,show(2*k+1-1)/2=k by omega,show 1/2=0 by omega,Nat.zero_testBit,Bool.xor_false]
 rw[BitVec.toNat_xor,e1,e2,e3,IntKind.wrap_i64]
 have:twin i<=i+1:=by unfold twin;split<;>omega
 omega
structure Bz where
 k:Nat
 es:List Ed
 at_:Int
structure BzOk(fuel sides:Nat)(b:Int)(E:Nat)(by_:List Int)(s:Int)(res:List Ed)(z:Bz):Prop where
 kf:z.k<=fuel
 run:Ya6 z.k z.es by_ s z.at_=some res
 ein:EdsIn sides (b+2*((fuel-z.k:Nat):Int)) z.es
 len:z.es.length=E
 at_:0<=z.at_/\z.at_<sides
theorem Yfl(g sides:Nat)(es:List Ed)(s t:Int)(fuel:Nat)(b:Int)(r:Int×Bool×List Ed)(hs:1<=sides/\sides<=100)(hes:EdsIn sides b es)(hb:1<=b/\b<=900000)(hel:es.length<=2000)(hfu:fuel<=100000)(hs0:0<=s/\s<sides)(ht0:0<=t/\t<sides)(hrun:Yby fuel sides es s t=some r)
 {A:Option Addr}{cap:Nat}{B:Nat}{w0:World}{H:List HP}{w:World}(hw:St B w0 (gpcs g sides A cap es H) w):
 Calls Tryz.prog 378 [.pointer (some ⟨g,0,none⟩),.int .i64 s,.int .i64 t].toArray w (Post B w0 λv K=>v=.tuple #[.int .i64 r.1,.bool r.2.1]/\(r.2.2.length=es.length/\EdsIn sides (b+2*(fuel:Int)) r.2.2/\ -300000000000000<=r.1/\r.1<=1073741824)/\K=gpcs g sides A cap r.2.2 H):=by
 refine Yc Tryz.func378 Tryz.ntmps378 rfl rfl hw ?_
 have hok:=hes.ok (by omega)
 have hnn:YK=1073741824:=rfl
 unfold gpcs
 repeat'(first|refine zgd ?_|(refine zgh ?_;intro _)|fail)
 apply Yh _ YoZ
 exact za
 exact rfl
 exactλ_ hw=>(Oq 1073741824 sides (by omega) (.blk zm) (hw))
 rintro _ _ ⟨gs,rfl,rfl⟩
 have hrl:(List.replicate sides (1073741824:Int)).length=sides:=Rw
 repeat'(first|(apply XB T (f:=numF) (l:=List.replicate sides (1073741824:Int)) (i:=s.toNat) (a:=0);(iterate 3 exact rfl);exact zd;exact rfl;exactλ_=>rfl;exact rfl;omega)|refine zgd ?_|fail)
 have hst:Zo sides s=(List.replicate sides (1073741824:Int)).set s.toNat 0:=rfl
 have hsl:(Zo sides s).length=(List.replicate sides (1073741824:Int)).length:=by rw[hst];exact Rh
 unfold Yby at hrun
 cases hre:Oo fuel es (Zo sides s) (List.replicate sides (-1))with
 |none=>rw[hre]at hrun;cases hrun
 |some fb=>
  rw[hre]at hrun
  obtain⟨far,by_⟩:=fb
  dsimp only at hrun
  rw[<-hst,<-hsl]
  apply XL (gpcs g sides A cap es (ints (some ⟨gs,0,none⟩) sides (Zo sides s)::H))
  ·unfold gpcs ints
   exact zk
  apply Yh _ Yt7
  exact za
  exact rfl
  exactλ_ hw=>(Ykm g sides es (Zo sides s) fuel (far,by_) hs hok hel (by omega) (YnL hs0 _ Rw _) hre (hw))
  rintro _ _ ⟨gb,rfl,hro,rfl⟩
  obtain⟨l1,l2,hlow⟩:=hro
  simp only at l1 l2 hlow
  have hgt:=XP (far:=far) (i:=t) (by omega)
  have hlt:=hlow t ht0.1 ht0.2
  rw[hnn]at hlt hrun
  unfold gpcs
  dsimp only
  by_cases hno:1073741824<=Yf far t
  ·rw[Tm hno]at hrun
   obtain rfl:=Tz hrun
   repeat'(first|refine zgd ?_|(refine zgf ?_ ?_<;>intro _<;>try exact zo)|fail)
   apply Yj (gpcs g sides A cap es H)
   ·unfold gpcs
    exact zk
   apply Yp;(iterate 3 exact rfl)
   exact⟨rfl,⟨rfl,hes.mono (by omega),show(-300000000000000:Int)<=0 by decide,show(0:Int)<=1073741824 by decide⟩,rfl⟩
  ·rw[Td hno]at hrun
   cases hba:Ya6 fuel es by_ s t with
   |none=>rw[hba]at hrun;cases hrun
   |some res=>
    rw[hba]at hrun
    dsimp only at hrun
    obtain rfl:=Tz hrun
    repeat'(first|refine zgd ?_|(refine zgf ?_ ?_<;>intro _<;>try exact zo)|fail)
    refine Yi (λ(z:Bz)=>[(11,.int .i64 z.at_),(10,.slice (some ⟨gb,0,none⟩) by_.length sides),(9,.slice (some ⟨gs,0,none⟩) far.length sides),(0,.pointer (some ⟨g,0,none⟩)),(1,.int .i64 s),(2,.int .i64 t)])
     (λz=>ints (some ⟨gb,0,none⟩) sides by_::blk g (YcW sides A z.es.length cap)::sl 438 4 A z.es.length cap (z.es.flatMap edF)::ints (some ⟨gs,0,none⟩) sides far::H) (λz=>BzOk fuel sides b es.length by_ s res z) (λz=>z.k) ⟨fuel,es,t⟩ ⟨TL _,hba,hes.mono (by omega),rfl,ht0⟩ ?_ (λw hw=>hw) ?_
    ·exact zu
    rintro⟨k,e1,v⟩ ⟨hkf,hrun1,hein,hlen,⟨v0,v1⟩⟩ K hK
    simp only at hkf hrun1 hein hlen v0 v1⊢
    cases k with
    |zero=>cases hrun1
    |succ k=>
     unfold Ya6 at hrun1
     by_cases hvs:v=s
     ·rw[Tm hvs]at hrun1
      obtain rfl:=Tz hrun1
      clear hK
      repeat'(first|refine zgd ?_|(refine zge ?_ ?_<;>intro _<;>try exact zo)|fail)
      apply Yj (gpcs g sides A cap e1 H)
      ·unfold gpcs
       exact zk
      apply Yp;(iterate 3 exact rfl)
      exact⟨rfl,⟨hlen,hein.mono (by omega),by omega,by omega⟩,rfl⟩
     ·rw[Td hvs]at hrun1
      have hgv:=XP (far:=by_) (i:=v) (by omega)
      obtain⟨i,hi⟩:∃i,Yf by_ v=i:=⟨_,rfl⟩
      rw[hi]at hrun1 hgv
      by_cases hneg:i<0
      ·rw[Tm hneg]at hrun1;cases hrun1
      rw[Td hneg]at hrun1
      obtain⟨m,rfl⟩:∃m:Nat,i=m:=⟨i.toNat,by omega⟩
      rw[RZ]at hrun1
      cases he:e1[m]? with
      |none=>rw[he]at hrun1;cases hrun1
      |some e=>
       rw[he]at hrun1
       dsimp only at hrun1
       by_cases htw:e1.length<=twin m
       ·rw[Tm htw]at hrun1;cases hrun1
       rw[Td htw]at hrun1
       have hml:=(Ti.1 he).1
       have hmb:m<2000:=by omega
       have hxor:=Yqh m (by omega)
       have hm1:Vp e1 m (-1)=e1.set m {e with r:=e.r-1}:=by unfold Vp;rw[he];rfl
       obtain⟨f1,hf1⟩:∃f1,e1.set m {e with r:=e.r-1}=f1:=⟨_,rfl⟩
       have hfl1:f1.length=e1.length:=by rw[<-hf1];exact Rh
       have hin1:=Yik hein m (d:= -1) (by omega)
       rw[hm1,hf1]at hin1
       obtain⟨e2,he2⟩:∃x,f1[twin m]? =some x:=⟨_,Ta (by omega)⟩
       have hm2:Vp f1 (twin m) 1=f1.set (twin m) {e2 with r:=e2.r+1}:=by unfold Vp;rw[he2]
       obtain⟨f2,hf2⟩:∃f2,f1.set (twin m) {e2 with r:=e2.r+1}=f2:=⟨_,rfl⟩
       have hfl2:f2.length=e1.length:=by rw[<-hf2,Rh];exact hfl1
       have hin2:=Yik hin1 (twin m) (d:=1) (by omega)
       rw[hm2,hf2]at hin2
       rw[hm1,hf1,hm2,hf2]at hrun1
       obtain⟨_,_,_,hr1⟩:=hein e (Tf he)
       obtain⟨_,_,_,hr2⟩:=hin1 e2 (Tf he2)
       have hef:=(hein e (Tf he)).1
       have hem:(f1.set (twin m) {e2 with r:=e2.r+1})[m]? =some {e with r:=e.r-1}:=by
        rw[Nz (Yrz m),<-hf1,Sr hml]
       have hfl3:(f1.set (twin m) {e2 with r:=e2.r+1}).length=f1.length:=Rh
       repeat'(first|refine zgb ?_|(refine zge ?_ ?_<;>intro _<;>try exact zo)|fail)
       apply YU [0,1,2,3,4,5,6,7,8,9,10,11,12,13] [14] [true,true,true]
       kernel_rfl
       kernel_rfl
       exact zy
       (simp only[Yg,nthO];rfl)
       (simp only[Yg,nthO];rfl)
       repeat'(first|(apply VS T (f:=edF) (l:=e1) (i:=m) (q:=4) (o:=3) (b:=e) (b':={e with r:=e.r-1});(iterate 3 exact rfl);exact zd;exact he;exact rfl;exactλ_=>rfl;exact rfl;exact rfl)|refine zgd ?_|fail)
       rw[hf1]
       apply Jf (ints (some ⟨gb,0,none⟩) sides by_::blk g (YcW sides A f1.length cap)::sl 438 4 A f1.length cap (f1.flatMap edF)::ints (some ⟨gs,0,none⟩) sides far::H)
       ·rw[hfl1]
        exact zk
       apply YU [0,1,2,3,4,5,6,7,8,9,10,11,12,13,14] [15] [true,true,true]
       kernel_rfl
       kernel_rfl
       exact zy
       (simp only[Yg,nthO];rfl)
       (simp only[Yg,nthO];rfl)
       repeat'(first|(apply YsL;(iterate 3 exact rfl);rw[hxor])|(apply VS T (f:=edF) (l:=f1) (i:=twin m) (q:=4) (o:=3) (b:=e2) (b':={e2 with r:=e2.r+1});(iterate 3 exact rfl);exact zd;exact he2;exact rfl;exactλ_=>rfl;exact rfl;exact rfl)|(apply ZE T (l:=f1.set (twin m) {e2 with r:=e2.r+1}) (f:=edF);(rw[hfl3];exact rfl);exact rfl;exact .sl zm;exact rfl;exactλ_=>rfl;exact rfl;exact rfl;omega)|refine zgd ?_|fail)
       apply hK ⟨k,f2,e.f⟩
       ·exact⟨by simp only;omega,hrun1,hin2.mono (by simp only;omega),by simp only;omega,hef⟩
       ·simp only;omega
       ·exact zu
       ·dsimp only
        rw[hf2,show f1.length=f2.length by omega]
        exact zk
theorem YoP(A:Option Addr)(cap:Nat)(es:List Ed)(f t c:Int):sl 438 4 A (es.length+2) cap (es.flatMap edF++[Value.int .i64 f,.int .i64 t,.int .i64 c,.int .i64 1,.int .i64 t,.int .i64 f,.int .i64 (-c),.int .i64 0])=sl 438 4 A (es++Vq f t c).length cap ((es++Vq f t c).flatMap edF):=by
 simp[Vq,List.flatMap_append,edF]
variable {B k:Nat}{w0 w:World}{H:List HP}
theorem Yhg(g sides:Nat)(es:List Ed)(f t c:Int)(hel:es.length<=100000)(hc: -1000000<=c/\c<=1000000){A:Option Addr}{cap:Nat}(hw:St B w0 (gpcs g sides A cap es H) w):
 Calls Tryz.prog 414 [.pointer (some ⟨g,0,none⟩),.int .i64 f,.int .i64 t,.int .i64 c].toArray w (Post B w0 λv K=>∃A' cap',v=.tuple #[]/\K=gpcs g sides A' cap' (es++Vq f t c) H):=by
 refine Yc Tryz.func414 Tryz.ntmps414 rfl rfl hw ?_
 unfold gpcs
 repeat'(first|(apply YsE;exact rfl;exact rfl;omega)|refine zgd ?_|(refine zgh ?_;intro _)|(refine zgi ?_;intro _ _)|fail)
 rename_i A' cap'
 apply Yj (gpcs g sides A' cap' (es++Vq f t c) H)
 ·unfold gpcs
  have e1:(es++Vq f t c).length=es.length+2:=by simp[Vq]
  rw[<-YoP,e1]
  exact zk
 apply Zz;exact rfl
 exact⟨A',cap',rfl,rfl⟩
variable {closed:Int->Bool}
theorem Ydg(h:closed (k:Int)=false):ZL closed (k+1)=ZL closed k++Vq (2*(k:Int)) (2*(k:Int)+1) 0:=by
 unfold ZL
 rw[RA,TV]
 simp[h]
theorem Yfa(h:closed (k:Int)=true):ZL closed (k+1)=ZL closed k:=by
 unfold ZL
 rw[RA,TV]
 simp[h]
theorem Qk(closed:Int->Bool):∀k,(ZL closed k).length<=2*k
 |0=>by simp[ZL]
 |k+1=>by
  have:=Qk closed k
  cases h:closed (k:Int)
  ·rw[Ydg h,Tj];simp[Vq];omega
  ·rw[Yfa h];omega
theorem Yjk(l:List Lk)(a:Lk):Uh (l++[a])=Uh l++Vq (2*a.1+1) (2*a.2.1) a.2.2:=by simp[Uh,List.flatMap_append]
theorem Yep(l:List Lk):(Uh l).length=2*l.length:=by
 induction l with
 |nil=>rfl
 |cons a l ih=>
  unfold Uh at ih⊢
  rw[TR,Tj,ih]
  simp[Vq];omega
structure Sz where
 k:Nat
 A:Option Addr
 cap:Nat
theorem Yky(nodes:Nat)(l:List Lk)(closed:Int->Bool)(gm clock:Nat)(ents:Ents)(hn:nodes<=1000)(hl:l.length<=1000)(hok:ArcsOk nodes l)(hmb:MB ents closed){AL:Option Addr}{capL:Nat}(hm:blk gm (mobj ents clock)∈H)(hr:Rd B w0 H AL (l.flatMap lkF))(hw:St B w0 H w):
 Calls Tryz.prog 377 [.int .i64 nodes,.slice AL l.length capL,.map (some gm)].toArray w (Post B w0 λv K=>∃g A cap,v=.pointer (some ⟨g,0,none⟩)/\K=gpcs g (2*nodes) A cap (WB nodes l closed) H):=by
 refine Yc Tryz.func377 Tryz.ntmps377 rfl rfl hw ?_
 repeat'(first|refine zgd ?_|(refine zgh ?_;intro _)|fail)
 rename_i g
 refine Yi (λ(z:Sz)=>[(16,.int .i64 z.k),(15,.int .i64 nodes),(7,.pointer (some ⟨g,0,none⟩)),(1,.slice AL l.length capL),(2,.map (some gm))])
  (λz=>gpcs g (2*nodes) z.A z.cap (ZL closed z.k) H) (λz=>z.k<=nodes) (λz=>nodes-z.k) ⟨0,none,0⟩ (Tu _) ?_ ?_ ?_
 ·exact zu
 ·intro w hw
  have h5:=hw.nilSlice 438 4
  revert h5
  unfold gpcs
  exactλh5=>h5.perm (.swap _ _ _)
 rintro⟨k,A,cap⟩ hk K hK
 simp only at hk⊢
 have hnl:=Qk closed k
 by_cases hlt:k<nodes
 ·obtain⟨b,hb⟩:∃b,closed (k:Int)=b:=⟨_,rfl⟩
  have hmk:blk gm (mobj ents clock)∈gpcs g (2*nodes) A cap (ZL closed k) H:=TB _ (TB _ hm)
  cases b with
  |true=>
   have e2:=Yfa hb
   unfold gpcs at hmk⊢
   repeat'(first|(apply J9 (kt:=3) (et:=4);exact rfl;exact rfl;exact hmk;kernel_rfl;exact rfl;kernel_rfl;exact hmb;exact hb)|refine zgd ?_|(refine zge ?_ ?_<;>intro _<;>try exact zo)|fail)
   apply hK ⟨k+1,A,cap⟩
   ·simp only;omega
   ·simp only;omega
   ·exact zu
   ·dsimp only
    rw[e2]
    exactλw hw=>hw
  |false=>
   have e2:=Ydg hb
   unfold gpcs at hmk
   repeat'(first|(apply J9 (kt:=3) (et:=4);exact rfl;exact rfl;exact hmk;kernel_rfl;exact rfl;kernel_rfl;exact hmb;exact hb)|refine zgd ?_|(refine zge ?_ ?_<;>intro _<;>try exact zo)|fail)
   apply Yh _ Ysl
   exact za
   exact rfl
   exactλ_ hw=>(Yhg g (2*nodes) (ZL closed k) (2*(k:Int)) (2*(k:Int)+1) 0 (by omega) (by omega) (hw))
   rintro _ _ ⟨A3,cap3,rfl,rfl⟩
   repeat'(first|refine zgc ?_|fail)
   apply hK ⟨k+1,A3,cap3⟩
   ·simp only;omega
   ·simp only;omega
   ·exact zu
   ·dsimp only
    rw[e2]
    exactλw hw=>hw
 ·obtain rfl:k=nodes:=by omega
  clear hK
  repeat'(first|refine zgc ?_|(refine zge ?_ ?_<;>intro _<;>try exact zo)|fail)
  refine Yi (λ(z:Sz)=>[(33,.int .i64 z.k),(32,.int .i64 l.length),(31,.slice AL l.length capL),(7,.pointer (some ⟨g,0,none⟩))])
   (λz=>gpcs g (2*k) z.A z.cap (ZL closed k++Uh (l.take z.k)) H) (λz=>z.k<=l.length) (λz=>l.length-z.k) ⟨0,A,cap⟩ (Tu _) ?_ ?_ ?_
  ·exact zu
  ·dsimp only
   rw[Nl,show Uh []=[] from rfl,TM]
   exactλw hw=>hw
  rintro⟨j,A2,cap2⟩ hj K hK
  simp only at hj⊢
  have hal:=Yep (l.take j)
  rw[TD]at hal
  by_cases hlt:j<l.length
  ·obtain⟨a,ha⟩:∃a,l[j]? =some a:=⟨_,Ta hlt⟩
   obtain⟨⟨a1,a2⟩,⟨a3,a4⟩,⟨a5,a6⟩⟩:=hok a (Tf ha)
   have e2:Uh (l.take (j+1))=Uh (l.take j)++Vq (2*a.1+1) (2*a.2.1) a.2.2:=by rw[TF,ha];exact Yjk _ _
   have hrk:Rd B w0 (gpcs g (2*k) A2 cap2 (ZL closed k++Uh (l.take j)) H) AL (l.flatMap lkF):=(hr.cons).cons
   repeat'(first|refine zgd ?_|(refine zge ?_ ?_<;>intro _<;>try exact zo)|(refine zgh ?_;intro _)|fail)
   rename_i ga
   apply XL (gpcs g (2*k) A2 cap2 (ZL closed k++Uh (l.take j)) (blk ga (.cells #[.int .i64 a.1,.int .i64 a.2.1,.int .i64 a.2.2] 298 (0,0))::H))
   ·unfold gpcs
    exact zk
   apply Yh _ Ysl
   exact za
   exact rfl
   exactλ_ hw=>(Yhg g (2*k) (ZL closed k++Uh (l.take j)) (2*a.1+1) (2*a.2.1) a.2.2 (by rw[Tj];omega) (by omega) (hw))
   rintro _ _ ⟨A3,cap3,rfl,rfl⟩
   repeat'(first|refine zgc ?_|fail)
   apply hK ⟨j+1,A3,cap3⟩
   ·simp only;omega
   ·simp only;omega
   ·exact zu
   ·dsimp only
    rw[e2,<-TX]
    unfold gpcs
    exact zk
  ·obtain rfl:j=l.length:=by omega
   clear hK
   rw[TY]
   repeat'(first|refine zgc ?_|(refine zge ?_ ?_<;>intro _<;>try exact zo)|fail)
   apply Yd;exact rfl;exact rfl
   exact⟨g,A2,cap2,rfl,rfl⟩
theorem YnI{nodes:Nat}{l:List Lk}{closed:Int->Bool}(h:ArcsOk nodes l):EdsIn (2*nodes) 1 (WB nodes l closed):=by
 intro e he
 rcases TT.1 he with he|he
 ·obtain⟨v,hv,he⟩:=RN.1 he
  have hv:=TO.1 hv
  split at he
  ·cases he
  ·simp only[Vq,TN,R7,N2]at he
   rcases he with rfl|rfl<;>simp only<;>omega
 ·obtain⟨a,ha,he⟩:=RN.1 he
  obtain⟨h1,h2,h3⟩:=h a ha
  simp only[Vq,TN,R7,N2]at he
  rcases he with rfl|rfl<;>simp only<;>omega
theorem Ykx(nodes:Nat)(l:List Lk)(closed:Int->Bool):(WB nodes l closed).length<=2*nodes+2*l.length:=by
 unfold WB
 rw[Tj,Yep]
 have:=Qk closed nodes
 omega
variable {es:Ents}
theorem YnA{seen:Array Nat}{e:Int×Value×Nat}(he:e∈es)(hs:seen.contains e.2.2=false):(es.filter λx=>!(seen.push e.2.2).contains x.2.2).length<(es.filter λx=>!seen.contains x.2.2).length:=by
 have h1:(es.filter λx=>!(seen.push e.2.2).contains x.2.2)=(es.filter λx=>!seen.contains x.2.2).filter λx=>!(x.2.2==e.2.2):=by
  rw[NR]
  congr 1
  funext x
  rw[Array.contains_push]
  cases seen.contains x.2.2<;>cases x.2.2==e.2.2<;>rfl
 rw[h1]
 refine List.length_filter_lt_length_iff_exists.2 ⟨e,Rr.2 ⟨he,by rw[hs];rfl⟩,by simp⟩
theorem Yo1(hn:(es.map λe=>e.2.2).Nodup){x y:Int×Value×Nat}(hx:x∈es)(hy:y∈es)(e:x.2.2=y.2.2):x=y:=by
 induction es with
 |nil=>cases hx
 |cons a l ih=>
  rw[Re,SH]at hn
  rcases TN.1 hx with h1|h1<;>rcases TN.1 hy with h2|h2
  ·rw[h1,h2]
  ·exact absurd (TG.2 ⟨y,h2,by rw[<-e,h1]⟩) hn.1
  ·exact absurd (TG.2 ⟨x,h1,by rw[e,h2]⟩) hn.1
  ·exact ih hn.2 h1 h2
def Yst(mo:Option Nat)(closed:Int->Bool)(H:List HP):Prop:=match mo with
 |none=>∀v,closed v=false
 |some gm=>∃ents clock,blk gm (mobj ents clock)∈H/\MB ents closed/\MOk ents clock
structure Mz(f:Int->Bool) where
 g:Nat
 es:Ents
 c:Nat
 mb:MB es f
 ok:MOk es c
structure Lz where
 es:Ents
 c:Nat
 seen:Array Nat
 f:Int->Bool
theorem Yeu(nodes:Nat)(l:List Lk)(a b to:Int)(mo:Option Nat)(closed:Int->Bool)(fuel:Nat)(r:Int×Bool×List Ed)(hn:1<=nodes/\nodes<=50)(hl:l.length<=900)(hok:ArcsOk nodes l)(ha:0<=a/\a<nodes)(hb:0<=b/\b<nodes)(ht:0<=to/\to<nodes)(hfu:fuel<=100000)(hrun:Ui fuel nodes l a b to closed=some r)
 {AL:Option Addr}{capL B:Nat}{w0:World}{H:List HP}{w:World}(hmo:Yst mo closed H) (hr:Rd B w0 H AL (l.flatMap lkF)) (hw:St B w0 H w):
 Calls Tryz.prog 313 [.int .i64 nodes,.slice AL l.length capL,.int .i64 a,.int .i64 b,.int .i64 to,.map mo].toArray w (Post B w0 λv K=>∃g A cap,v=.tuple #[.int .i64 r.1,.pointer (some ⟨g,0,none⟩),.bool r.2.1]/\(r.2.2.length<=2000/\EdsIn (2*nodes) 900000 r.2.2/\ -600000000000000<=r.1/\r.1<=3000000000)/\K=gpcs g (2*nodes) A cap r.2.2 H):=by
 refine Yc Tryz.func313 Tryz.ntmps313 rfl rfl hw ?_
 iterate 8 (first|refine zga ?_|fail)
 refine J4 (λ(z:Mz λv=>decide (v=a\/v=b\/v=to))=>[(15,.map (some z.g)),(0,.int .i64 nodes),(1,.slice AL l.length capL),(2,.int .i64 a),(3,.int .i64 b),(4,.int .i64 to),(5,.map mo)]) (λz=>blk z.g (mobj z.es z.c)::H) ?_ ?_
 ·intro K hK
  apply Qx (.n1 1 (.n1 3 (.n1 5 (.n1 0 (.n3 2 (.n2 4 (.n1 6 (.n1 7 (.n1 8 .done))) 6 (.n1 4 (.n1 7 (.n1 8 .done)))) 4 (.n2 2 (.n1 6 (.n1 7 (.n1 8 .done))) 6 (.n1 2 (.n1 7 (.n1 8 .done)))) 6 (.n2 2 (.n1 4 (.n1 7 (.n1 8 .done))) 4 (.n1 2 (.n1 7 (.n1 8 .done))))))))) [] []
  kernel_rfl
  kernel_rfl
  exact zy
  exact rfl
  repeat'(first|(apply Ycg;exact rfl;intro gs)|(apply Yqt (kt:=3) (et:=4);(iterate 3 exact rfl);kernel_rfl;(intro _ _;exact zd);(first|assumption|exact MB.nil);(first|assumption|exact MOk.nil);intro _ _ _ _)|(apply YrG;(simp only[nthO];rfl);(simp only[nthO];rfl);(simp only[nthO];rfl))|(apply YkT;(simp only[nthO];rfl);(simp only[nthO];rfl))|(apply YkS;(simp only[nthO];rfl))|(apply QD;try exact zl)|(apply Yk;try exact zl)|refine zgd ?_|fail)
  all_goals(
   rename_i es3 c3 m3 o3
   refine hK ⟨gs,es3,c3,m3.ext λv=>?_,o3⟩ _ _ ?_ ?_
   ·by_cases h1:v=a<;>by_cases h2:v=b<;>by_cases h3:v=to<;>simp[h1,h2,h3]
   ·exact zu
   ·exactλw hw=>hw)
 rintro⟨gs,es0,c0,mb0,ok0⟩
 dsimp only
 apply Xt
 refine J4 (λ(z:Mz (YZ a b to closed))=>[(15,.map (some z.g)),(0,.int .i64 nodes),(1,.slice AL l.length capL),(2,.int .i64 a),(3,.int .i64 b),(4,.int .i64 to)]) (λz=>blk z.g (mobj z.es z.c)::H) ?_ ?_
 ·intro KK hKK
  cases mo with
  |none=>
   repeat'(first|(apply Yg9 (kt:=3) (et:=4);exact rfl;kernel_rfl;exact rfl;intro it)|refine zgb ?_|fail)
   refine Yi (λ(_:Unit)=>[(28,.pointer (some ⟨it,0,none⟩)),(15,.map (some gs)),(0,.int .i64 nodes),(1,.slice AL l.length capL),(2,.int .i64 a),(3,.int .i64 b),(4,.int .i64 to)]) (λ_=>blk it (.mapIter none 0 #[] 0)::blk gs (mobj es0 c0)::H) (λ_=>True) (λ_=>0) () trivial ?_ (λw hw=>hw) ?_
   ·exact zu
   intro _ _ K hK
   clear hK
   repeat'(first|(apply Yjg;exact rfl;exact zm;exact rfl)|refine zgc ?_|fail)
   refine hKK ⟨gs,es0,c0,mb0.ext λv=>?_,ok0⟩ _ _ ?_ ?_
   ·unfold YZ;rw[hmo v,MC]
   ·exact zu
   ·exactλw hw=>hw.tail
  |some gm=>
   obtain⟨ents,clock,hm,hmb,hmk⟩:=hmo
   repeat'(first|(apply Yoo (kt:=3) (et:=4) (g:=gm);exact rfl;exact TB _ hm;kernel_rfl;exact rfl;intro it)|refine zgb ?_|fail)
   refine Yi (λ(_:Lz)=>[(28,.pointer (some ⟨it,0,none⟩)),(15,.map (some gs)),(0,.int .i64 nodes),(1,.slice AL l.length capL),(2,.int .i64 a),(3,.int .i64 b),(4,.int .i64 to)]) (λz=>blk it (.mapIter (some gm) clock z.seen clock)::blk gs (mobj z.es z.c)::H)
    (λz=>MB z.es z.f/\MOk z.es z.c/\(∀v,z.f v=true->YZ a b to closed v=true)/\(∀v,(v=a\/v=b\/v=to)->z.f v=true)/\∀e∈ents,z.seen.contains e.2.2=true->z.f e.1=true) (λz=>(ents.filter λx=>!z.seen.contains x.2.2).length) ⟨es0,c0,#[],λv=>decide (v=a\/v=b\/v=to)⟩ ⟨mb0,ok0,λv h=>by unfold YZ;simp only at h;rw[h];rfl,λv h=>Tc h,λe _ h=>by simp at h⟩ ?_ (λw hw=>hw) ?_
   ·exact zu
   rintro⟨es1,c1,seen,f⟩ ⟨i1,i2,i3,i4,i5⟩ K hK
   simp only at i1 i2 i3 i4 i5⊢
   repeat'(first|apply Xt|apply YgQ|apply Y0|fail)
   apply Yqy (g:=gm)
   ·exact rfl
   ·exact TB _ (TB _ hm)
   ·exact rfl
   ·intro _;exact zd
   ·exact hmk.lt
   ·exact TL _
   ·intro hall
    clear hK
    repeat'(first|refine zgc ?_|fail)
    refine hKK ⟨gs,es1,c1,i1.ext λv=>?_,i2⟩ _ _ ?_ ?_
    ·cases hs:YZ a b to closed v with
     |true=>
      unfold YZ at hs
      rcases Sj _ _▸hs with h|h
      ·exact i4 v (Rm h)
      ·obtain⟨e,he,rfl⟩:=hmb.at_ h
       exact i5 e he (hall e he)
     |false=>
      cases hf:f v with
      |false=>rfl
      |true=>rw[i3 v hf]at hs;cases hs
    ·exact zu
    ·exactλw hw=>hw.tail
   ·rintro⟨ek,ev,eb⟩ he hseen
    simp only at hseen⊢
    have hec:=hmb.mem he
    repeat'(first|(apply Yoh (g:=gm) (e:=(ek,ev,eb));exact rfl;exact TB _ (TB _ hm);exact zm;exact rfl;exact he;exact hmk.nd)|(apply YkP (kt:=3) (et:=4);(iterate 3 exact rfl);kernel_rfl;(intro _ _;exact zd);exact i1;exact i2;intro es2 c2 m2 o2 _ _)|refine zgc ?_|fail)
    apply hK ⟨es2,c2,seen.push eb,λv=>decide (v=ek)||f v⟩
    ·refine⟨m2,o2,λv h=>?_,λv h=>?_,λe he2 h=>?_⟩
     ·simp only at h
      rcases Sj _ _▸h with h|h
      ·obtain rfl:=Rm h
       unfold YZ
       rw[hec,Bool.or_true]
      ·exact i3 v h
     ·simp only;rw[i4 v h,Bool.or_true]
     ·simp only at h⊢
      rw[Array.contains_push]at h
      rcases Sj _ _▸h with h|h
      ·rw[i5 e he2 h,Bool.or_true]
      ·have:e=(ek,ev,eb):=Yo1 hmk.nd he2 he (by simpa using h)
       rw[this];simp
    ·exact YnA (e:=(ek,ev,eb)) he hseen
    ·exact zu
    ·exactλw hw=>hw
 rintro⟨gs2,es2,c2,mb2,ok2⟩
 dsimp only
 have hsl:=Ykx nodes l (YZ a b to closed)
 have hsi:=YnI (closed:=YZ a b to closed) hok
 unfold Ui at hrun
 cases h1:Yby fuel (2*nodes) (WB nodes l (YZ a b to closed)) (2*a+1) (2*to)with
 |none=>rw[h1]at hrun;cases hrun
 |some r1=>
  rw[h1]at hrun
  obtain⟨x,ok,es1⟩:=r1
  dsimp only at hrun
  cases h2:Yby fuel (2*nodes) es1 (2*b+1) (2*to)with
  |none=>rw[h2]at hrun;cases hrun
  |some r2=>
   rw[h2]at hrun
   obtain⟨y,is,es3⟩:=r2
   obtain rfl:=Tz hrun
   repeat'(first|refine zga ?_|fail)
   apply Yh _ YtZ
   exact za
   exact rfl
   exactλ_ hw=>(Yky nodes l (YZ a b to closed) gs2 c2 es2 (by omega) (by omega) hok mb2 TA hr.cons (hw))
   rintro _ _ ⟨g,A,cap,rfl,rfl⟩
   repeat'(first|refine zgd ?_|fail)
   apply Yh _ Ysg
   exact za
   exact rfl
   exactλ_ hw=>(Yfl g (2*nodes) (WB nodes l (YZ a b to closed)) (2*a+1) (2*to) fuel 1 (x,ok,es1) (by omega) hsi (by omega) (by omega) hfu (by omega) (by omega) h1 (hw))
   rintro _ _ ⟨rfl,⟨q1,q2,q3,q4⟩,rfl⟩
   dsimp only at q1 q2 q3 q4⊢
   repeat'(first|refine zgd ?_|fail)
   apply Yh _ Ysg
   exact za
   exact rfl
   exactλ_ hw=>(Yfl g (2*nodes) es1 (2*b+1) (2*to) fuel (1+2*(fuel:Int)) (y,is,es3) (by omega) q2 (by omega) (by omega) hfu (by omega) (by omega) h2 (hw))
   rintro _ _ ⟨rfl,⟨p1,p2,p3,p4⟩,rfl⟩
   dsimp only at p1 p2 p3 p4⊢
   cases ok
   all_goals(
    repeat'(first|refine zgc ?_|fail)
    apply Yj (gpcs g (2*nodes) A cap es3 H)
    ·unfold gpcs
     exact zk
    apply Jr;(iterate 4 exact rfl)
    exact⟨g,A,cap,rfl,⟨by omega,p2.mono (by omega),by omega,by omega⟩,rfl⟩)
end Go.Proofs.YtaholidehobiiaaGreatDoor
namespace Go.Eng
open Go.RowKit
variable {B cap:Nat}{w0:World}{H:List HP}{A:Option Addr}
theorem Yql{P:Program}{n:Shp}{Q:Exit->Act->World->Prop}{env:Env}{c:Code}{e size k:Nat}{xs:List Value}(hm:sl e size A k cap xs∈H)(h:k<=cap->VC P n B w0 c Q env H):VC P n B w0 c Q env H:=by
 refine⟨λa w ha hw=>?_⟩
 have hown:=hw.sl hm
 have hkc:k<=cap:=by
  rcases hown.2 with⟨e1,e2⟩|⟨g,c,cur,e1,_,_,e4,_⟩
  ·omega
  ·injection e1 with _ _ e3;omega
 exact(h hkc).run a w ha hw
end Go.Eng
namespace Go.Proofs.YtaholidehobiiaaGreatDoor
open Go.RowKit Go.Eng Go.Nw Go.Rt
theorem Yp2(A:Option Addr)(cap size:Nat):subA A 0 cap size=A:=by
 unfold subA
 split
 ·rfl
 ·cases A with
  |none=>rfl
  |some a=>simp[Addr.add]
variable {A:Option Addr}{cap B:Nat}{w0 w:World}{H:List HP}
theorem X9(l:List Lk)(hlen:l.length<=1000)(hr:Rd B w0 H A (l.flatMap lkF))(hw:St B w0 H w):
 Calls Tryz.prog 317 [.slice A l.length cap].toArray w (Post B w0 λv K=>∃A' cap',v=.slice A' l.length cap'/\K=sl 298 3 A' l.length cap' (l.flatMap lkF)::H):=by
 cases A with
 |none=>
  have hl:l=[]:=by
   cases l with
   |nil=>rfl
   |cons x l=>
    obtain⟨g,o,e,_⟩:=hr w hw 0 _ rfl
    cases e
  subst hl
  refine Yc Tryz.func317 Tryz.ntmps317 rfl rfl hw ?_
  repeat'(first|(apply YW;(iterate 3 exact rfl))|refine zgb ?_|fail)
  apply XT 298 3;apply Yd;exact rfl;exact rfl;exact⟨none,0,rfl,rfl⟩
 |some a=>
  refine Yc Tryz.func317 Tryz.ntmps317 rfl rfl hw ?_
  repeat'(first|(apply YW;(iterate 3 exact rfl))|(apply Xe T;exact rfl;exact rfl;intro g2)|refine zgb ?_|fail)
  apply XA T (f:=lkF) (l2:=l) (e:=298) (size:=3) (xs:=[]);(iterate 3 exact rfl);exact hr.cons;exact(λ_=>rfl);exact(λ_=>rfl);exact rfl;(intro _ _;exact zd);omega;intro A' cap'
  repeat'(first|refine zga ?_|fail)
  rw[Ry,TK]
  apply Yd;exact rfl;exact rfl;exact⟨A',cap',rfl,rfl⟩
def arcV(a:Lk):Value:=.agg #[.int .i64 a.1,.int .i64 a.2.1,.int .i64 a.2.2]
theorem Ye1{α:Type}(p:α->Bool):∀(l:List α) (k:Int),(l.filter (λa=>!p a)=l/\Yn p l k= -1)\/∃j,j<l.length/\Yn p l k=k+j/\(l.take j).filter (λa=>!p a)=l.take j/\∃a,l[j]? =some a/\p a=true
 |[],_=>.inl ⟨rfl,rfl⟩
 |a::l,k=>by
  unfold Yn
  cases h:p a with
  |true=>exact .inr ⟨0,by simp,by simp,rfl,a,rfl,h⟩
  |false=>
   rw[Td (by decide)]
   have hn:(!p a)=true:=by rw[h];rfl
   rcases Ye1 p l (k+1)with⟨h1,h2⟩|⟨j,h1,h2,h3,b,h4,h5⟩
   ·exact .inl ⟨by rw[Su,Tm hn,h1],h2⟩
   ·refine .inr ⟨j+1,by simp only[TS];omega,by rw[h2];omega,?_,b,h4,h5⟩
    rw[NL,Su,Tm hn,h3]
theorem Yd7(p:Lk->Bool)(l:List Lk)(f:Nat)(cs:List Value)(hen:∀xs w,(callFunc f xs).run Tryz.prog w=.ok (.enter f xs) w)(hlen:l.length<=1000)(hr:Rd B w0 H A (l.flatMap lkF))
 (hp:∀a∈l,∀w,St B w0 H w->Calls Tryz.prog f ([arcV a]++cs).toArray w (Post B w0 λv K=>v=.bool (p a)/\K=H)) (hw:St B w0 H w):
 Calls Tryz.prog 382 [.slice A l.length cap,.func (.func f) #[] cs.toArray].toArray w (Post B w0 λv K=>v=.int .i64 (Yn p l 0)/\K=H):=by
 refine Yc Tryz.func382 Tryz.ntmps382 rfl rfl hw ?_
 repeat'(first|refine zgb ?_|fail)
 refine Yi (λ(k:Nat)=>[(8,.int .i64 k),(7,.int .i64 l.length),(0,.slice A l.length cap),(1,.func (.func f) #[] cs.toArray)]) (λ_=>H) (λk=>k<=l.length/\Yn p l 0=Yn p (l.drop k) k) (λk=>l.length-k) 0 ⟨Tu _,by simp⟩ ?_ (λw hw=>hw) ?_
 ·exact zu
 rintro k ⟨hk,hi⟩ K hK
 by_cases hlt:k<l.length
 ·obtain⟨a,ha⟩:∃a,l[k]? =some a:=⟨_,Ta hlt⟩
  have hpa:=hp a (Tf ha)
  rw[JA p l ha]at hi
  repeat'(first|((first|apply Yz (cs:=cs));exact rfl;exact hen;exact za;exact rfl;exactλ_ hw=>hpa _ hw)|refine zgd ?_|(refine zge ?_ ?_<;>intro _<;>try exact zo)|fail)
  cases hpv:p a
  ·rw[hpv]at hi
   repeat'(first|refine zgc ?_|fail)
   apply hK (k+1)
   ·exact⟨by omega,hi⟩
   ·omega
   ·exact zu
   ·exactλw hw=>hw
  ·rw[hpv]at hi
   repeat'(first|refine zgd ?_|fail)
   apply Yd;exact rfl;exact rfl
   exact⟨by rw[hi];rfl,rfl⟩
 ·repeat'(first|refine zgc ?_|(refine zge ?_ ?_<;>intro _<;>try exact zo)|fail)
  apply Yd;exact rfl;exact rfl
  rw[hi,TZ (by omega)]
  exact⟨rfl,rfl⟩
structure Kz where
 i:Nat
 j:Nat
 M:List Lk
theorem Za(p:Lk->Bool)(l:List Lk)(f:Nat)(cs:List Value)(hen:∀xs w,(callFunc f xs).run Tryz.prog w=.ok (.enter f xs) w)(hlen:l.length<=1000)
 (hp:∀a∈l,∀(X:List HP) w,St B w0 (X++H) w->Calls Tryz.prog f ([arcV a]++cs).toArray w (Post B w0 λv K=>v=.bool (p a)/\K=X++H)) (hw:St B w0 (Jv A cap l::H) w):
 Calls Tryz.prog 316 [.slice A l.length cap,.func (.func f) #[] cs.toArray].toArray w (Post B w0 λv K=>v=.slice A (l.filter λa=>!p a).length cap/\K=Jv A cap (l.filter λa=>!p a)::H):=by
 refine Yc Tryz.func316 Tryz.ntmps316 rfl rfl hw ?_
 refine Yql (k:=l.length) (cap:=cap) zm λhcap=>?_
 have hif:=λ{w:World}(hw:St B w0 (Jv A cap l::H) w)=>Yd7 p l f cs hen hlen (cap:=cap) (.sl TA) (λa ha w hw=>hp a ha [Jv A cap l] w hw) hw
 rcases Ye1 p l 0 with⟨h1,h2⟩|⟨i0,h1,h2,h3,a0,h4,h5⟩
 ·rw[h2]at hif
  rw[h1]
  repeat'(first|((first|apply Ya Ylq|apply Yb Ylq);exact za;exact rfl;exactλ_ hw=>(hif hw))|refine zgb ?_|(refine zge ?_ ?_<;>intro _<;>try exact zo)|fail)
  apply Yd;exact rfl;exact rfl;exact⟨rfl,rfl⟩
 rw[h2,Int.zero_add]at hif
 repeat'(first|((first|apply Ya Ylq|apply Yb Ylq);exact za;exact rfl;exactλ_ hw=>(hif hw))|refine zgc ?_|(refine zge ?_ ?_<;>intro _<;>try exact zo)|fail)
 refine Yi (λ(z:Kz)=>[(6,.int .i64 z.j),(5,.int .i64 z.i),(0,.slice A z.M.length cap),(1,.func (.func f) #[] cs.toArray)]) (λz=>Jv A cap z.M::H) (λz=>z.M.length=l.length/\z.i<z.j/\z.j<=l.length/\z.M.take z.i=(l.take z.j).filter (λa=>!p a)/\z.M.drop z.j=l.drop z.j) (λz=>l.length-z.j) ⟨i0,i0+1,l⟩ ⟨rfl,by simp only;omega,by simp only;omega,?_,rfl⟩ ?_ (λw hw=>hw) ?_
 ·simp only
  rw[TF,h4,Rj,h3]
  simp[h5]
 ·exact zu
 rintro⟨i,j,M⟩ ⟨hM,hij,hj,ht,hd⟩ K hK
 simp only at hM hij hj ht hd⊢
 by_cases hlt:j<l.length
 ·obtain⟨a,ha⟩:∃a,l[j]? =some a:=⟨_,Ta hlt⟩
  have hMa:M[j]? =some a:=by
   have e1:(M.drop j)[0]? =(l.drop j)[0]? :=by rw[hd]
   rw[RB,RB,SQ,ha]at e1
   exact e1
  have hpa:=λ{X1 X2:HP}{w:World}(hw:St B w0 (X1::X2::H) w)=>hp a (Tf ha) [X1,X2] w hw
  have hft:(l.take (j+1)).filter (λa=>!p a)=M.take i++(if p a=true then []else [a]):=by
   rw[TF,ha,Rj,ht]
   cases hpv:p a<;>simp[hpv]
  obtain⟨b,hb⟩:∃b,p a=b:=⟨_,rfl⟩
  rw[hb]at hft hpa
  have hd1:∀x:Lk,(M.set i x).drop (j+1)=l.drop (j+1):=λx=>by
   rw[List.drop_set_of_lt (by omega),<-S9,<-S9,hd]
  cases b with
  |true=>
   rw[Tm rfl,TM]at hft
   repeat'(first|((first|apply Yz (cs:=cs));exact rfl;exact hen;exact za;exact rfl;exactλ_ hw=>hpa hw)|refine zgd ?_|(refine zge ?_ ?_<;>intro _<;>try exact zo)|(refine zgh ?_;intro _)|fail)
   apply hK ⟨i,j+1,M⟩
   ·exact⟨hM,by simp only;omega,by simp only;omega,hft.symm,by simp only;rw[<-S9,<-S9,hd]⟩
   ·simp only;omega
   ·exact zu
   ·exactλw hw=>hw.tail
  |false=>
   rw[Td (by decide)]at hft
   have hMl:(M.set i a).length=M.length:=Rh
   repeat'(first|((first|apply Yz (cs:=cs));exact rfl;exact hen;exact za;exact rfl;exactλ_ hw=>hpa hw)|(apply XV T (f:=lkF) (l:=M) (i:=i) (a:=a);(iterate 3 exact rfl);exact zd;exactλ_=>rfl;(iterate 3 exact rfl);omega)|refine zgd ?_|(refine zge ?_ ?_<;>intro _<;>try exact zo)|(refine zgh ?_;intro _)|fail)
   apply hK ⟨i+1,j+1,M.set i a⟩
   ·refine⟨by simp only;omega,by simp only;omega,by simp only;omega,?_,hd1 a⟩
    simp only
    rw[hft,TF,Sr (by omega),N6 (TL _)]
    rfl
   ·simp only;omega
   ·dsimp only
    rw[hMl]
    exact zu
   ·unfold Jv
    dsimp only
    rw[hMl]
    exactλw hw=>hw.tail
 ·obtain rfl:j=l.length:=by omega
  clear hK
  rw[TY]at ht
  have hil:(l.filter λa=>!p a).length=i:=by rw[<-ht,TD];omega
  have hfl:(M.flatMap lkF).take (i*3)=(l.filter λa=>!p a).flatMap lkF:=by rw[<-XG (q:=3) (λ_=>rfl),ht]
  repeat'(first|(apply XS T (n':=M.length-i);(iterate 4 exact rfl);omega;omega)|refine zgc ?_|(refine zge ?_ ?_<;>intro _<;>try exact zo)|fail)
  rw[RZ]
  apply XL (sl 298 3 A i cap ((l.filter λa=>!p a).flatMap lkF)::H)
  ·intro w hw
   refine hw.shrink (e:=298) (size:=3) (cap:=cap) (A:=A) (xs:=M.flatMap lkF) (k:=M.length) (k':=i) (by omega) ?_
   rw[hfl]
   exact Upd.here _
  apply Qy T T2 (e:=298) (size:=3) (k:=i) (xs:=(l.filter λa=>!p a).flatMap lkF);exact rfl;exact TA;(iterate 3 exact rfl);omega
  repeat'(first|(apply X7 T (l:=M) (n':=i);(iterate 4 exact rfl);omega;omega;omega)|refine zga ?_|fail)
  rw[Yp2]
  repeat'(first|fail)
  apply Yd;exact rfl;exact rfl
  exact⟨by rw[hil],by unfold Jv;rw[hil]⟩
theorem Yeh(s t:Int)(gs gt:Nat)(a:Lk)(hs:blk gs (.cells #[.int .i64 s] 3 (0,0))∈H)(ht:blk gt (.cells #[.int .i64 t] 3 (0,0))∈H)(hw:St B w0 H w):
 Calls Tryz.prog 381 [arcV a,.pointer (some ⟨gs,0,none⟩),.pointer (some ⟨gt,0,none⟩)].toArray w (Post B w0 λv K=>v=.bool (decide (a.1=s/\a.2.1=t))/\K=H):=by
 refine Yc Tryz.func381 Tryz.ntmps381 rfl rfl hw ?_
 unfold arcV
 by_cases h:a.1=s/\a.2.1=t
 ·rw[Tc h]
  repeat'(first|refine zgc ?_|(refine zge ?_ ?_<;>intro _<;>try exact zo)|(refine zgh ?_;intro _)|fail)
  all_goals(apply Yl;apply Yd;exact rfl;exact rfl;exact⟨rfl,rfl⟩)
 ·rw[Tn h]
  repeat'(first|refine zgc ?_|(refine zge ?_ ?_<;>intro _<;>try exact zo)|(refine zgh ?_;intro _)|fail)
  all_goals(apply Yl;apply Yd;exact rfl;exact rfl;exact⟨rfl,rfl⟩)
def UF(s t:Int)(l:List Lk):List Lk:=l.filter λa=>!decide (a.1=s/\a.2.1=t)
theorem Yap(l:List Lk)(s t:Int)(hlen:l.length<=1000)(hr:Rd B w0 H A (l.flatMap lkF))(hw:St B w0 H w):
 Calls Tryz.prog 315 [.slice A l.length cap,.int .i64 s,.int .i64 t].toArray w (Post B w0 λv K=>∃A' cap',v=.slice A' (UF s t l).length cap'/\K=Jv A' cap' (UF s t l)::H):=by
 refine Yc Tryz.func315 Tryz.ntmps315 rfl rfl hw ?_
 repeat'(first|refine zga ?_|(refine zgh ?_;intro _)|fail)
 rename_i g1 g2
 apply Yh _ YeO
 exact za
 exact rfl
 exactλ_ hw=>(X9 l hlen (hr.cons.cons) (hw))
 rintro _ _ ⟨A',cap',rfl,rfl⟩
 repeat'(first|(apply zg29;(apply Ym;exact za;exact rfl))|fail)
 apply Yh _ YeN
 exact za
 exact rfl
 exactλ_ hw=>(Za (λa=>decide (a.1=s/\a.2.1=t)) l 381 [.pointer (some ⟨g1,0,none⟩),.pointer (some ⟨g2,0,none⟩)] Yt1 hlen (λa _ X w hw=>Yeh s t g1 g2 a (Rb _ zm) (Rb _ zm) hw) (hw))
 rintro _ _ ⟨rfl,rfl⟩
 repeat'(first|refine zga ?_|fail)
 apply Yj (Jv A' cap' (UF s t l)::H)
 ·exactλw hw=>hw.perm (.cons _ (.dropK (.drop _ _)))
 apply Yd;exact rfl;exact rfl
 exact⟨A',cap',rfl,rfl⟩
end Go.Proofs.YtaholidehobiiaaGreatDoor
namespace Go.Eng
open Go.RowKit
variable {B:Nat}{w0:World}{H:List HP}
theorem Rd.manyT{K:List HP}{A:Option Addr}{xs:List Value}(h:Rd B w0 H A xs)(hm:Eng.many H∈K):Rd B w0 K A xs:=h.mono λw hw=>by
 obtain⟨S1,h1,h2⟩:=YgA hm hw.sep
 exact⟨hw.below,hw.le,VK h2 h1⟩
end Go.Eng
namespace Go.Proofs.YtaholidehobiiaaGreatDoor
open Go.RowKit Go.Eng Go.Nw Go.Rt
def Jn(pre:List Int)(v:Int):Bool:=decide (v∈pre.drop 1)
def WR(pre:List Int)(to v:Int):Bool:=!decide (v=to)&&Jn pre v
def OX(pre:List Int):Int:=pre.getD 0 0
def Ybr(pre:List Int):Int:=pre.getD (pre.length-1) 0
def Od(l:List Lk)(pre:List Int)(to:Int):List Lk:=(if pre.length=2 then UF (OX pre) to l else l).filter λa=>!(WR pre to a.1||WR pre to a.2.1)
def badB(pre:List Int)(a:Lk):Bool:=Jn pre a.2.1||(Jn pre a.1&&decide (a.1≠Ybr pre))||decide (a.2.1=OX pre)
def Oe(l:List Lk)(pre:List Int):List Lk:=l.filter λa=>!badB pre a
noncomputable def O0(fuel nodes:Nat)(l:List Lk)(pre:List Int)(to:Int):Option (Int×Bool):=
 if Ybr pre=to then some (Yf (ZY nodes (Od l pre to) to) (OX pre),decide (Yf (ZY nodes (Od l pre to) to) (OX pre)<YK))
 else match Ui fuel nodes (Oe l pre) (Ybr pre) (OX pre) to (Jn pre)with
  |none=>none
  |some r=>some (r.1,r.2.1)
variable {l:List Lk}
theorem ArcsOk.sub{nodes:Nat}{m:List Lk}(h:ArcsOk nodes l)(hm:∀a∈m,a∈l):ArcsOk nodes m:=λa ha=>h a (hm a ha)
theorem Ym9{pre:List Int}{to:Int}{a:Lk}(h:a∈Od l pre to):a∈l:=by
 have:=(Rr.1 h).1
 split at this
 ·exact(Rr.1 this).1
 ·exact this
theorem Ym8(l:List Lk)(pre:List Int)(to:Int):(Od l pre to).length<=l.length:=by
 unfold Od
 split
 ·exact RE (Rn _ _) (Rn _ _)
 ·exact Rn _ _
theorem Yna(l:List Lk)(pre:List Int):(Oe l pre).length<=l.length:=Rn _ _
variable {B:Nat}{w0 w:World}{H:List HP}
theorem Ydr(gm gc clock:Nat)(es:Ents)(f:Int->Bool)(a:Lk)(hf:MB es f)(hm:blk gm (mobj es clock)∈H)(hc:blk gc (.cells #[.map (some gm)] 394 (0,0))∈H)(hw:St B w0 H w):
 Calls Tryz.prog 379 [arcV a,.pointer (some ⟨gc,0,none⟩)].toArray w (Post B w0 λv K=>v=.bool (f a.1||f a.2.1)/\K=H):=by
 refine Yc Tryz.func379 Tryz.ntmps379 rfl rfl hw ?_
 unfold arcV
 obtain⟨b1,h1⟩:∃b,f a.1=b:=⟨_,rfl⟩
 obtain⟨b2,h2⟩:∃b,f a.2.1=b:=⟨_,rfl⟩
 rw[h1,h2]
 cases b1
 ·skip
  repeat'(first|(apply J9 (kt:=3) (et:=4);exact rfl;exact rfl;exact TB _ hm;kernel_rfl;exact rfl;kernel_rfl;exact hf;first|exact h1|exact h2)|refine zgc ?_|(refine zgh ?_;intro _)|fail)
  apply Yl;apply Yd;exact rfl;exact rfl;exact⟨rfl,rfl⟩
 ·skip
  repeat'(first|(apply J9 (kt:=3) (et:=4);exact rfl;exact rfl;exact TB _ hm;kernel_rfl;exact rfl;kernel_rfl;exact hf;first|exact h1|exact h2)|refine zgc ?_|(refine zgh ?_;intro _)|fail)
  apply Yl;apply Yd;exact rfl;exact rfl;exact⟨rfl,rfl⟩
theorem Ykn(gm gc ga gf clock:Nat)(es:Ents)(f:Int->Bool)(s t:Int)(a:Lk)(hf:MB es f)(hm:blk gm (mobj es clock)∈H)(hc:blk gc (.cells #[.map (some gm)] 394 (0,0))∈H)(ha:blk ga (.cells #[.int .i64 t] 3 (0,0))∈H)(hs:blk gf (.cells #[.int .i64 s] 3 (0,0))∈H)(hw:St B w0 H w):
 Calls Tryz.prog 380 [arcV a,.pointer (some ⟨gc,0,none⟩),.pointer (some ⟨ga,0,none⟩),.pointer (some ⟨gf,0,none⟩)].toArray w (Post B w0 λv K=>v=.bool (f a.2.1||(f a.1&&decide (a.1≠t))||decide (a.2.1=s))/\K=H):=by
 refine Yc Tryz.func380 Tryz.ntmps380 rfl rfl hw ?_
 unfold arcV
 obtain⟨b1,h1⟩:∃b,f a.1=b:=⟨_,rfl⟩
 obtain⟨b2,h2⟩:∃b,f a.2.1=b:=⟨_,rfl⟩
 rw[h1,h2]
 by_cases e1:a.1=t<;>by_cases e2:a.2.1=s
 ·rw[Tc e2,Tn (λh=>h e1)]
  cases b1<;>cases b2
  all_goals(
   repeat'(first|(apply J9 (kt:=3) (et:=4);exact rfl;exact rfl;exact TB _ hm;kernel_rfl;exact rfl;kernel_rfl;exact hf;first|exact h1|exact h2)|refine zgc ?_|(refine zge ?_ ?_<;>intro _<;>try exact zo)|(refine zgh ?_;intro _)|fail)
   all_goals(apply Yl;apply Yd;exact rfl;exact rfl;exact⟨rfl,rfl⟩))
 ·rw[Tn e2,Tn (λh=>h e1)]
  cases b1<;>cases b2
  all_goals(
   repeat'(first|(apply J9 (kt:=3) (et:=4);exact rfl;exact rfl;exact TB _ hm;kernel_rfl;exact rfl;kernel_rfl;exact hf;first|exact h1|exact h2)|refine zgc ?_|(refine zge ?_ ?_<;>intro _<;>try exact zo)|(refine zgh ?_;intro _)|fail)
   all_goals(apply Yl;apply Yd;exact rfl;exact rfl;exact⟨rfl,rfl⟩))
 ·rw[Tc e2,Tc (p:=a.1≠t) e1]
  cases b1<;>cases b2
  all_goals(
   repeat'(first|(apply J9 (kt:=3) (et:=4);exact rfl;exact rfl;exact TB _ hm;kernel_rfl;exact rfl;kernel_rfl;exact hf;first|exact h1|exact h2)|refine zgc ?_|(refine zge ?_ ?_<;>intro _<;>try exact zo)|(refine zgh ?_;intro _)|fail)
   all_goals(apply Yl;apply Yd;exact rfl;exact rfl;exact⟨rfl,rfl⟩))
 ·rw[Tn e2,Tc (p:=a.1≠t) e1]
  cases b1<;>cases b2
  all_goals(
   repeat'(first|(apply J9 (kt:=3) (et:=4);exact rfl;exact rfl;exact TB _ hm;kernel_rfl;exact rfl;kernel_rfl;exact hf;first|exact h1|exact h2)|refine zgc ?_|(refine zge ?_ ?_<;>intro _<;>try exact zo)|(refine zgh ?_;intro _)|fail)
   all_goals(apply Yl;apply Yd;exact rfl;exact rfl;exact⟨rfl,rfl⟩))
structure Pz where
 ga:Nat
 gf:Nat
structure Qz where
 k:Nat
 es:Ents
 c:Nat
 f:Int->Bool
def Oi(l:List Lk)(pre:List Int)(to:Int):List Lk:=if pre.length=2 then UF (OX pre) to l else l
theorem Ynw(nodes:Nat)(l:List Lk)(pre:List Int)(to:Int)(fuel:Nat)(s:Int×Bool)(hn:1<=nodes/\nodes<=40)(hl:l.length<=900)(hok:ArcsOk nodes l)(hpl:2<=pre.length/\pre.length<=1000)(hpi:∀v∈pre,0<=v/\v<nodes)(hto:0<=to/\to<nodes)(hfu:fuel<=100000)(hrun:O0 fuel nodes l pre to=some s)
 {AL AP:Option Addr}{capL capP B:Nat}{w0:World}{H:List HP}{w:World}(hr:Rd B w0 H AL (l.flatMap lkF)) (hp:Rd B w0 H AP (pre.flatMap numF)) (hcap:pre.length<=capP) (hw:St B w0 H w):
 Calls Tryz.prog 314 [.int .i64 nodes,.slice AL l.length capL,.slice AP pre.length capP,.int .i64 to].toArray w (Post B w0 λv K=>v=.tuple #[.int .i64 s.1,.bool s.2]/\(-600000000000000<=s.1/\s.1<=3000000000)/\K=H):=by
 refine Yc Tryz.func314 Tryz.ntmps314 rfl rfl hw ?_
 have hg0:pre[0]? =some (OX pre):=Zc (by omega)
 have hg1:pre[((pre.length:Int)-1).toNat]? =some (Ybr pre):=by
  rw[show((pre.length:Int)-1).toNat=pre.length-1 by omega];exact Zc (by omega)
 have hfr:=hpi _ (Tf hg0)
 have har:=hpi _ (Tf hg1)
 obtain⟨fr,hfe⟩:∃x,OX pre=x:=⟨_,rfl⟩
 obtain⟨at_,hae⟩:∃x,Ybr pre=x:=⟨_,rfl⟩
 rw[hfe]at hg0 hfr
 rw[hae]at hg1 har
 iterate 7 (first|refine zga ?_|fail)
 refine Jf (many H::[]) (λw hw=>hw.perm (.closeT _)) ?_
 have hpT:Rd B w0 [many H] AP (pre.flatMap numF):=hp.manyT TA
 refine J4 (λ(z:Pz)=>[(11,.pointer (some ⟨z.ga,0,none⟩)),(10,.pointer (some ⟨z.gf,0,none⟩)),(0,.int .i64 nodes),(1,.slice AL l.length capL),(2,.slice AP pre.length capP),(3,.int .i64 to)]) (λz=>blk z.gf (.cells #[.int .i64 fr] 3 (0,0))::blk z.ga (.cells #[.int .i64 at_] 3 (0,0))::H) ?_ ?_
 ·intro K hK
  apply Vr (.n1 0 (.n1 1 (.n1 2 (.n1 3 (.n1 4 (.n1 5 (.n1 6 (.n1 7 (.n1 8 (.n2 9 (.n1 10 (.n1 11 .done)) 10 (.n1 9 (.n1 11 .done)))))))))))) [12] [true]
  kernel_rfl
  kernel_rfl
  exact zy
  (simp only[Yg,nthO];rfl)
  repeat'(first|(apply Yk;try exact zl)|apply(zs91 ?_ ?_)|(apply Xp;try exact zl)|refine zgd ?_|(refine zgh ?_;intro _)|fail)
  ·rename_i gf ga
   refine hK ⟨ga,gf⟩ _ _ ?_ ?_
   ·exact zu
   ·dsimp only
    intro w hw
    have h5:St B w0 (blk gf (.cells #[.int .i64 fr] 3 (0,0))::blk ga (.cells #[.int .i64 at_] 3 (0,0))::[many H]) w:=by
     revert w
     exact zk
    exact h5.perm (.cons _ (.cons _ (.openT _)))
  ·rename_i ga gf
   refine hK ⟨ga,gf⟩ _ _ ?_ ?_
   ·exact zu
   ·dsimp only
    intro w hw
    have h5:St B w0 (blk gf (.cells #[.int .i64 fr] 3 (0,0))::blk ga (.cells #[.int .i64 at_] 3 (0,0))::[many H]) w:=by
     revert w
     exact zk
    exact h5.perm (.cons _ (.cons _ (.openT _)))
 rintro⟨ga,gf⟩
 dsimp only
 have hdl:(pre.drop 1).length=pre.length-1:=Rf
 repeat'(first|(apply Ycg;exact rfl;intro gm)|(apply XS T (n':=(pre.drop 1).length);(iterate 4 exact rfl);omega;(rw[hdl];rfl))|refine zgd ?_|(refine zgh ?_;intro _)|fail)
 rename_i gc
 refine Yi (λ(z:Qz)=>[(34,.int .i64 z.k),(33,.int .i64 (pre.drop 1).length),(32,.slice (subA AP 1 capP 1) (pre.drop 1).length (capP-1)),(12,.pointer (some ⟨gc,0,none⟩)),(11,.pointer (some ⟨ga,0,none⟩)),(10,.pointer (some ⟨gf,0,none⟩)),(0,.int .i64 nodes),(1,.slice AL l.length capL),(2,.slice AP pre.length capP),(3,.int .i64 to)]) (λz=>blk gc (.cells #[.map (some gm)] 394 (0,0))::blk gm (mobj z.es z.c)::blk gf (.cells #[.int .i64 fr] 3 (0,0))::blk ga (.cells #[.int .i64 at_] 3 (0,0))::H)
  (λz=>z.k<=(pre.drop 1).length/\MB z.es z.f/\MOk z.es z.c/\∀v,z.f v=decide (v∈(pre.drop 1).take z.k)) (λz=>(pre.drop 1).length-z.k) ⟨0,[],0,λ_=>false⟩ ⟨Tu _,MB.nil,MOk.nil,λv=>by simp⟩ ?_ zk ?_
 ·exact zu
 rintro⟨k,es,c,f⟩ ⟨hk,hmb,hmk,hf⟩ K hK
 simp only at hk hmb hmk hf⊢
 have hp1:∀{X1 X2 X3 X4:HP},Rd B w0 (X1::X2::X3::X4::H) (subA AP 1 capP 1) ((pre.drop 1).flatMap numF):=Ysq 1 (hp.cons.cons.cons.cons) hcap
 by_cases hlt:k<(pre.drop 1).length
 ·obtain⟨v,hv⟩:∃v,(pre.drop 1)[k]? =some v:=⟨_,Ta hlt⟩
  have hp1':=@hp1
  repeat'(first|(apply ZE T (f:=numF) (l:=pre.drop 1);exact rfl;exact rfl;exact hp1;exact rfl;exactλ_=>rfl;exact rfl;exact rfl;omega)|(apply Jj T (f:=numF) (l:=pre.drop 1);exact rfl;exact hp1;exact hv;exactλ_=>rfl;(iterate 4 exact rfl))|(apply YkP (kt:=3) (et:=4);(iterate 3 exact rfl);kernel_rfl;(intro _ _;exact zd);exact hmb;exact hmk;intro es2 c2 m2 o2 _ _)|refine zgc ?_|(refine zge ?_ ?_<;>intro _<;>try exact zo)|fail)
  apply hK ⟨k+1,es2,c2,λu=>decide (u=v)||f u⟩
  ·refine⟨by simp only;omega,m2,o2,λu=>?_⟩
   simp only
   rw[hf u,TF,hv]
   by_cases h1:u=v<;>by_cases h2:u∈(pre.drop 1).take k<;>simp[h1]
  ·simp only;omega
  ·exact zu
  ·exactλw hw=>hw
 obtain rfl:k=(pre.drop 1).length:=by omega
 clear hK
 rw[TY]at hf
 have hmb2:MB es (Jn pre):=hmb.ext hf
 clear hmb hf hp1
 unfold O0 at hrun
 rw[hfe,hae]at hrun
 by_cases hat:at_=to
 ·rw[Tm hat]at hrun
  have hin:to∈pre.drop 1:=by
   have h1:(pre.drop 1)[pre.length-2]? =some to:=by
    rw[RB,show 1+(pre.length-2)=((pre.length:Int)-1).toNat by omega,<-hat];exact hg1
   exact Tf h1
  have hsto:Jn pre to=true:=Tc hin
  have hll:(Oi l pre to).length<=l.length:=by
   unfold Oi
   split
   ·exact Rn _ _
   ·exact TL _
  have hla:Od l pre to=(Oi l pre to).filter λa=>!(WR pre to a.1||WR pre to a.2.1):=rfl
  have hAl:=Ym8 l pre to
  have hAok:ArcsOk nodes (Od l pre to):=ArcsOk.sub hok λa h=>Ym9 h
  have hnn:YK=1073741824:=rfl
  by_cases h2:pre.length=2
  ·skip
   repeat'(first|(apply YkO (kt:=3) (et:=4);exact rfl;exact rfl;kernel_rfl;(intro _;exact zd);exact hmb2;exact hmk;exact hsto;intro es3 mb3 mk3)|refine zgc ?_|(refine zge ?_ ?_<;>intro _<;>try exact zo)|fail)
   have hrl:Rd B w0 (blk gc (.cells #[.map (some gm)] 394 (0,0))::blk gm (mobj es3 c)::blk gf (.cells #[.int .i64 fr] 3 (0,0))::blk ga (.cells #[.int .i64 at_] 3 (0,0))::H) AL (l.flatMap lkF):=hr.cons.cons.cons.cons
   have hlst:Oi l pre to=UF fr to l:=by unfold Oi;rw[Tm h2,hfe]
   apply Yh _ Yr7
   exact za
   exact rfl
   exactλ_ hw=>(Yap l fr to (by omega) hrl (hw))
   rintro _ _ ⟨A1,cap1,rfl,rfl⟩
   rw[<-hlst]
   repeat'(first|refine zga ?_|fail)
   apply Yh _ YeO
   exact za
   exact rfl
   exactλ_ hw=>(X9 (Oi l pre to) (by omega) (.sl zm) (hw))
   rintro _ _ ⟨A2,cap2,rfl,rfl⟩
   repeat'(first|(apply zg29;(apply Ym;exact za;exact rfl))|fail)
   apply Yh _ YeN
   exact za
   exact rfl
   exactλ_ hw=>(Za (λa=>WR pre to a.1||WR pre to a.2.1) (Oi l pre to) 379 [.pointer (some ⟨gc,0,none⟩)] Ysh (by omega) (λa _ X w hw=>Ydr gm gc c es3 (WR pre to) a mb3 (Rb _ zm) (Rb _ zm) hw) (hw))
   rintro _ _ ⟨rfl,rfl⟩
   rw[<-hla]
   repeat'(first|refine zga ?_|fail)
   apply Yh _ YoY
   exact za
   exact rfl
   exactλ_ hw=>(VY nodes (Od l pre to) to hn.2 (by omega) hAok hto (.sl zm) (hw))
   rintro _ _ ⟨gF,far,rfl,hd,rfl⟩
   rw[W8 hAok hd]at hrun
   obtain rfl:=Tz hrun
   have hflen:=hd.len
   have hgf:=XP (far:=far) (i:=fr) (by omega)
   have hrf:=hd.range fr hfr.1 hfr.2
   rw[hnn]at hrf
   rw[hnn]
   apply XL (ints (some ⟨gF,0,none⟩) nodes far::blk gf (.cells #[.int .i64 fr] 3 (0,0))::H)
   ·exact zk
   iterate 4 (first|refine zga ?_|fail)
   by_cases hlt:Yf far fr<1073741824
   ·rw[Tc hlt]
    apply YU [0,1,2,3,4,5,6,7,8,9,10] [] [true,true]
    kernel_rfl
    kernel_rfl
    exact zy
    (simp only[Yg,nthO];rfl)
    exact rfl
    repeat'(first|refine zgd ?_|(refine zge ?_ ?_<;>intro _<;>try exact zo)|fail)
    apply Yj H
    ·exactλw hw=>hw.tail.tail
    apply Yp;(iterate 3 exact rfl)
    exact⟨rfl,⟨by simp only;omega,by simp only;omega⟩,rfl⟩
   ·rw[Tn hlt]
    apply YU [0,1,2,3,4,5,6,7,8,9,10] [] [true,true]
    kernel_rfl
    kernel_rfl
    exact zy
    (simp only[Yg,nthO];rfl)
    exact rfl
    repeat'(first|refine zgd ?_|(refine zge ?_ ?_<;>intro _<;>try exact zo)|fail)
    apply Yj H
    ·exactλw hw=>hw.tail.tail
    apply Yp;(iterate 3 exact rfl)
    exact⟨rfl,⟨by simp only;omega,by simp only;omega⟩,rfl⟩
  ·skip
   repeat'(first|(apply YkO (kt:=3) (et:=4);exact rfl;exact rfl;kernel_rfl;(intro _;exact zd);exact hmb2;exact hmk;exact hsto;intro es3 mb3 mk3)|refine zgc ?_|(refine zge ?_ ?_<;>intro _<;>try exact zo)|fail)
   have hrl:Rd B w0 (blk gc (.cells #[.map (some gm)] 394 (0,0))::blk gm (mobj es3 c)::blk gf (.cells #[.int .i64 fr] 3 (0,0))::blk ga (.cells #[.int .i64 at_] 3 (0,0))::H) AL (l.flatMap lkF):=hr.cons.cons.cons.cons
   have hlst:Oi l pre to=l:=by unfold Oi;rw[Td h2]
   rw[<-hlst]at hrl⊢
   apply Yh _ YeO
   exact za
   exact rfl
   exactλ_ hw=>(X9 (Oi l pre to) (by omega) hrl (hw))
   rintro _ _ ⟨A2,cap2,rfl,rfl⟩
   repeat'(first|(apply zg29;(apply Ym;exact za;exact rfl))|fail)
   apply Yh _ YeN
   exact za
   exact rfl
   exactλ_ hw=>(Za (λa=>WR pre to a.1||WR pre to a.2.1) (Oi l pre to) 379 [.pointer (some ⟨gc,0,none⟩)] Ysh (by omega) (λa _ X w hw=>Ydr gm gc c es3 (WR pre to) a mb3 (Rb _ zm) (Rb _ zm) hw) (hw))
   rintro _ _ ⟨rfl,rfl⟩
   rw[<-hla]
   repeat'(first|refine zga ?_|fail)
   apply Yh _ YoY
   exact za
   exact rfl
   exactλ_ hw=>(VY nodes (Od l pre to) to hn.2 (by omega) hAok hto (.sl zm) (hw))
   rintro _ _ ⟨gF,far,rfl,hd,rfl⟩
   rw[W8 hAok hd]at hrun
   obtain rfl:=Tz hrun
   have hflen:=hd.len
   have hgf:=XP (far:=far) (i:=fr) (by omega)
   have hrf:=hd.range fr hfr.1 hfr.2
   rw[hnn]at hrf
   rw[hnn]
   apply XL (ints (some ⟨gF,0,none⟩) nodes far::blk gf (.cells #[.int .i64 fr] 3 (0,0))::H)
   ·exact zk
   iterate 4 (first|refine zga ?_|fail)
   by_cases hlt:Yf far fr<1073741824
   ·rw[Tc hlt]
    apply YU [0,1,2,3,4,5,6,7,8,9,10] [] [true,true]
    kernel_rfl
    kernel_rfl
    exact zy
    (simp only[Yg,nthO];rfl)
    exact rfl
    repeat'(first|refine zgd ?_|(refine zge ?_ ?_<;>intro _<;>try exact zo)|fail)
    apply Yj H
    ·exactλw hw=>hw.tail.tail
    apply Yp;(iterate 3 exact rfl)
    exact⟨rfl,⟨by simp only;omega,by simp only;omega⟩,rfl⟩
   ·rw[Tn hlt]
    apply YU [0,1,2,3,4,5,6,7,8,9,10] [] [true,true]
    kernel_rfl
    kernel_rfl
    exact zy
    (simp only[Yg,nthO];rfl)
    exact rfl
    repeat'(first|refine zgd ?_|(refine zge ?_ ?_<;>intro _<;>try exact zo)|fail)
    apply Yj H
    ·exactλw hw=>hw.tail.tail
    apply Yp;(iterate 3 exact rfl)
    exact⟨rfl,⟨by simp only;omega,by simp only;omega⟩,rfl⟩
 ·rw[Td hat]at hrun
  have hbad:∀a,badB pre a=(Jn pre a.2.1||(Jn pre a.1&&decide (a.1≠at_))||decide (a.2.1=fr)):=λa=>by unfold badB;rw[hae,hfe]
  have hBl:=Yna l pre
  have hBok:ArcsOk nodes (Oe l pre):=ArcsOk.sub hok λa h=>(Rr.1 h).1
  have hlb:Oe l pre=l.filter λa=>!badB pre a:=rfl
  cases hbo:Ui fuel nodes (Oe l pre) at_ fr to (Jn pre)with
  |none=>rw[hbo]at hrun;cases hrun
  |some r=>
   rw[hbo]at hrun
   obtain rfl:=Tz hrun
   have hrl:Rd B w0 (blk gc (.cells #[.map (some gm)] 394 (0,0))::blk gm (mobj es c)::blk gf (.cells #[.int .i64 fr] 3 (0,0))::blk ga (.cells #[.int .i64 at_] 3 (0,0))::H) AL (l.flatMap lkF):=hr.cons.cons.cons.cons
   repeat'(first|refine zgc ?_|(refine zge ?_ ?_<;>intro _<;>try exact zo)|fail)
   apply Yh _ YeO
   exact za
   exact rfl
   exactλ_ hw=>(X9 l (by omega) hrl (hw))
   rintro _ _ ⟨A2,cap2,rfl,rfl⟩
   repeat'(first|(apply zg29;(apply Ym;exact za;exact rfl))|fail)
   apply Yh _ YeN
   exact za
   exact rfl
   exactλ_ hw=>(Za (badB pre) l 380 [.pointer (some ⟨gc,0,none⟩),.pointer (some ⟨ga,0,none⟩),.pointer (some ⟨gf,0,none⟩)] Yt0 (by omega) (λa _ X w hw=>by rw[hbad a];exact Ykn gm gc ga gf c es (Jn pre) fr at_ a hmb2 (Rb _ zm) (Rb _ zm) (Rb _ zm) (Rb _ zm) hw) (hw))
   rintro _ _ ⟨rfl,rfl⟩
   rw[<-hlb]
   repeat'(first|refine zga ?_|fail)
   apply Yh _ Yr6
   exact za
   exact rfl
   exactλ_ hw=>(Yeu nodes (Oe l pre) at_ fr to (some gm) (Jn pre) fuel r (by omega) (by omega) hBok har hfr hto hfu hbo ⟨es,c,by exact zm,hmb2,hmk⟩ (.sl zm) (hw))
   rintro _ _ ⟨g,A,cap,rfl,⟨_,_,b3,b4⟩,rfl⟩
   repeat'(first|refine zgc ?_|fail)
   apply Yj H
   ·unfold gpcs
    exactλw hw=>hw.tail.tail.tail.tail.tail.tail.tail
   apply Yp;(iterate 3 exact rfl)
   exact⟨rfl,⟨b3,b4⟩,rfl⟩
end Go.Proofs.YtaholidehobiiaaGreatDoor
namespace Go.Eng
open Go.RowKit
variable {B cap:Nat}{w0:World}{H:List HP}{A:Option Addr}
theorem Wc{P:Program}{n:Shp}{ops:Array Oper}{Q:Exit->Act->World->Prop}{env:Env}{l:List Oper}{e size k:Nat}{xs:List Value}(hm:sl e size A k cap xs∈H)(h:k<=cap->VL P none n B w0 ops Q l env H):VL P none n B w0 ops Q l env H:=by
 refine⟨λa ha w hw=>?_⟩
 have hown:=hw.sl hm
 have hkc:k<=cap:=by
  rcases hown.2 with⟨e1,e2⟩|⟨g,c,cur,e1,_,_,e4,_⟩
  ·omega
  ·injection e1 with _ _ e3;omega
 exact(h hkc).run a ha w hw
end Go.Eng
namespace Go.Proofs.YtaholidehobiiaaGreatDoor
open Go.RowKit Go.Eng Go.Nw Go.Rt
section
variable (fuel nodes:Nat) (L:List Lk) (to total:Int)
noncomputable def U7(r:List Int)(spent at_:Int)(st:Int×Int)(a:Lk):Option (Int×Int):=
 if a.1≠at_\/a.2.1∈r\/(0<=st.1/\st.1<a.2.1)then some st else
  match O0 fuel nodes L (r++[a.2.1]) to with
  |none=>none
  |some s=>if s.2=true/\spent+a.2.2+s.1=total then some (a.2.1,a.2.2)else some st
noncomputable def JG(r:List Int)(spent at_:Int):List Lk->Int×Int->Option (Int×Int)
 |[],st=>some st
 |a::m,st=>match U7 fuel nodes L to total r spent at_ st a with
  |none=>none
  |some st2=>JG r spent at_ m st2
noncomputable def Vf:Nat->List Int->Int->Int->Option (List Int)
 |0,_,_,_=>none
 |k+1,r,spent,at_=>if at_=to then some r else
  match JG fuel nodes L to total r spent at_ L (-1,0)with
  |none=>none
  |some st=>if st.1<0 then none else Vf k (r++[st.1]) (spent+st.2) st.1
end
def midP(r:List Int):List Int:=(r.drop 1).take (r.length-2)
def V1(l:List Lk)(s to:Int)(r:List Int):List Lk:=(if r.length=2 then UF s to l else l).filter λa=>!(decide (a.1∈midP r)||decide (a.2.1∈midP r))
noncomputable def ZM(nodes:Nat)(l:List Lk)(s to:Int)(r:List Int):List Int:=wayF (V1 l s to r) (ZY nodes (V1 l s to r) to) s to
noncomputable def Yac(fuel nodes:Nat)(L:List Lk)(s to:Int):Option (Option (List Int×List Int)):=
 match Ui fuel nodes L s s to (λ_=>false)with
 |none=>none
 |some r=>if r.2.1=false then some none else
  match Vf fuel nodes L to r.1 400 [s] 0 s with
  |none=>none
  |some p=>some (some (p,ZM nodes L s to p))
theorem Ync{l:List Lk}{s to:Int}{r:List Int}{a:Lk}(h:a∈V1 l s to r):a∈l:=by
 have:=(Rr.1 h).1
 split at this
 ·exact(Rr.1 this).1
 ·exact this
theorem Ynb(l:List Lk)(s to:Int)(r:List Int):(V1 l s to r).length<=l.length:=by
 unfold V1
 split
 ·exact RE (Rn _ _) (Rn _ _)
 ·exact Rn _ _
variable {A:Option Addr}{cap B:Nat}{w0:World}{H:List HP}
theorem Ydj(gi:Nat)(m:List Int)(a:Lk)(hlen:m.length<=1000){w:World}(hi:blk gi (.cells #[.slice A m.length cap] 93 (0,0))∈H)(hr:Rd B w0 H A (m.flatMap numF))(hw:St B w0 H w):
 Calls Tryz.prog 318 [arcV a,.pointer (some ⟨gi,0,none⟩)].toArray w (Post B w0 λv K=>v=.bool (decide (a.1∈m)||decide (a.2.1∈m))/\K=H):=by
 refine Yc Tryz.func318 Tryz.ntmps318 rfl rfl hw ?_
 unfold arcV
 have h1:=λ{X:HP}{w:World}(hw:St B w0 (X::H) w)=>Jw m a.1 (by omega) (cap:=cap) (hr.cons (X:=X)) hw
 have h2:=λ{X:HP}{w:World}(hw:St B w0 (X::H) w)=>Jw m a.2.1 (by omega) (cap:=cap) (hr.cons (X:=X)) hw
 obtain⟨b1,hb1⟩:∃b,decide (a.1∈m)=b:=⟨_,rfl⟩
 obtain⟨b2,hb2⟩:∃b,decide (a.2.1∈m)=b:=⟨_,rfl⟩
 rw[hb1]at h1
 rw[hb2]at h2
 rw[hb1,hb2]
 cases b1
 ·skip
  repeat'(first|refine zgb ?_|(refine zgh ?_;intro _)|fail)
  first|apply Ya Vn|apply Yb Vn
  exact za
  exact rfl
  exactλ_ hw=>(h1 hw)
  repeat'(first|refine zgc ?_|fail)
  first|apply Ya Vn|apply Yb Vn
  exact za
  exact rfl
  exactλ_ hw=>(h2 hw)
  repeat'(first|refine zgc ?_|fail)
  apply Yl;apply Yd;exact rfl;exact rfl;exact⟨rfl,rfl⟩
 ·skip
  repeat'(first|refine zgb ?_|(refine zgh ?_;intro _)|fail)
  first|apply Ya Vn|apply Yb Vn
  exact za
  exact rfl
  exactλ_ hw=>(h1 hw)
  repeat'(first|refine zgc ?_|fail)
  apply Yl;apply Yd;exact rfl;exact rfl;exact⟨rfl,rfl⟩
structure Oz where
 k:Nat
 r:List Int
 A:Option Addr
 cap:Nat
 spent:Int
 at_:Int
structure OzOk(fuel nodes:Nat)(L:List Lk)(s to total:Int)(p:List Int)(z:Oz):Prop where
 run:Vf fuel nodes L to total z.k z.r z.spent z.at_=some p
 len:1<=z.r.length/\z.r.length+z.k<=401
 mem:∀v∈z.r,0<=v/\v<nodes
 sp:0<=z.spent/\z.spent<=1000000*(z.r.length:Int)
 one:z.r.length=1->z.at_=s
structure Iz where
 j:Nat
 best:Int
 price:Int
theorem Yph(A:Option Addr)(cap:Nat)(r:List Int)(x:Int):sl 3 1 A (r.length+1) cap (r.flatMap numF++#[Value.int .i64 x].toList)=ints A cap (r++[x]):=by simp[ints,List.flatMap_append,numF]
theorem Ynp(n:NetM)(s to:Int)(nodes fuel:Nat)(res:Option (List Int×List Int))(hck:Yq n.net=0)(hnn:n.nodes=nodes)(hs:0<=s/\s<nodes)(ht:0<=to/\to<nodes)(hst:s≠to)(hfu:fuel<=100000)(hrun:Yac fuel nodes (YS n.net) s to=some res)
 {B:Nat}{w0:World}{H:List HP}{w:World}(hin:n.In B w0 H) (hw:St B w0 H w):
 Calls Tryz.prog 240 [n.val,.int .i64 s,.int .i64 to].toArray w (Post B w0 λv K=>match res with
  |none=>v=.slice none 0 0/\K=H
  |some pq=>∃g A1 c1 A2 c2,v=.slice (some ⟨g,0,none⟩) 2 2/\(2<=pq.1.length/\pq.1.length<=401/\pq.2.length<=1073741824)/\WayV A2 pq.2/\K=sl 93 1 (some ⟨g,0,none⟩) 2 2 ([⟨A1,c1,pq.1⟩,⟨A2,c2,pq.2⟩].flatMap rowF)::ints A1 c1 pq.1::ints A2 c2 pq.2::H):=by
 have hok:=YM hck
 have hn0:=hok.n0
 have hn1:=hok.n1
 have hnn2:n.net.nodes=n.nodes:=rfl
 have hal:(YS n.net).length<=128:=RE (Wh _ _) hok.k0
 have hLo:=YkW hok (nodes:=nodes) hnn
 obtain⟨L,hL⟩:∃L,YS n.net=L:=⟨_,rfl⟩
 have hspecA:=λ{H:List HP}{w:World}(hin:n.In B w0 H) (hw:St B w0 H w)=>Yeq n hin hck hw
 rw[hL]at hal hLo hrun hspecA
 have hno:YK=1073741824:=rfl
 refine Yc Tryz.func240 Tryz.ntmps240 rfl rfl hw ?_
 (apply Xt;apply Y0;apply YR;exact rfl;exact rfl;intro g)
 repeat'(first|refine zgb ?_|fail)
 apply Yh _ Yr5
 exact za
 exact rfl
 exactλ_ hw=>(hspecA hin.cons (hw))
 rintro _ _ ⟨A,cap,rfl,rfl⟩
 unfold Yac at hrun
 cases hbo:Ui fuel nodes L s s to (λ_=>false)with
 |none=>rw[hbo]at hrun;cases hrun
 |some r0=>
  rw[hbo]at hrun
  obtain⟨total,ok,es0⟩:=r0
  dsimp only at hrun
  have hboth:=λ{H:List HP}{w:World}(hr:Rd B w0 H A (L.flatMap lkF)) (hw:St B w0 H w)=>Yeu nodes L s s to none (λ_=>false) fuel (total,ok,es0) (capL:=cap) (by omega) (by omega) hLo hs hs ht hfu hbo (λ_=>rfl) hr hw
  rw[<-hnn]at hboth
  repeat'(first|refine zgb ?_|fail)
  apply Yh _ Yr6
  exact za
  exact rfl
  exactλ_ hw=>(hboth (.sl zm) (hw))
  rintro _ _ ⟨g0,A0,cap0,rfl,⟨_,_,b3,b4⟩,rfl⟩
  dsimp only at b3 b4⊢
  apply XL (Jv A cap L::netB g n::H)
  ·unfold gpcs
   exactλw hw=>hw.tail.tail
  cases ok with
  |false=>
   rw[Tm rfl]at hrun
   obtain rfl:=Tz hrun
   repeat'(first|refine zgd ?_|fail)
   apply Yj H
   ·exactλw hw=>hw.tail.tail
   apply Yd;exact rfl;exact rfl
   exact⟨rfl,rfl⟩
  |true=>
   rw[Td (by decide)]at hrun
   cases hlo:Vf fuel nodes L to total 400 [s] 0 s with
   |none=>rw[hlo]at hrun;cases hrun
   |some p=>
    rw[hlo]at hrun
    obtain rfl:=Tz hrun
    dsimp only
    repeat'(first|refine zgd ?_|(refine zgh ?_;intro _)|fail)
    rename_i g1
    refine Yi (λ(z:Oz)=>[(13,.int .i64 z.at_),(12,.int .i64 z.spent),(11,.slice z.A z.r.length z.cap),(8,.int .i64 total),(7,.slice A L.length cap),(3,.pointer (some ⟨g,0,none⟩)),(1,.int .i64 s),(2,.int .i64 to)]) (λz=>ints z.A z.cap z.r::Jv A cap L::netB g n::H) (λz=>OzOk fuel nodes L s to total p z) (λz=>z.k) ⟨400,[s],some ⟨g1,0,none⟩,1,0,s⟩ ⟨hlo,by simp,λv hv=>by obtain rfl:=TJ.1 hv;exact hs,by simp,λ_=>rfl⟩ ?_ (λw hw=>hw.blk_sl (cs:=numF s) (len:=1) (size:=1) rfl (by omega)) ?_
    ·exact zu
    rintro⟨k,r,Ar,capr,spent,at_⟩ ⟨hrun2,⟨hl1,hl2⟩,hmem,⟨hsp0,hsp1⟩,hone⟩ K hK
    simp only at hrun2 hl1 hl2 hmem hsp0 hsp1 hone⊢
    cases k with
    |zero=>cases hrun2
    |succ k=>
     unfold Vf at hrun2
     by_cases hat:at_=to
     ·rw[Tm hat]at hrun2
      obtain rfl:=Tz hrun2
      have hr2:2<=r.length:=by
       rcases SB 1 r.length with h|h
       ·exact h
       ·have:=hone (by omega)
        exact absurd (this.symm.trans hat) hst
      clear hK
      have hml:(midP r).length=r.length-2:=by unfold midP;rw[TD,Rf];omega
      have hPl:=Ynb L s to r
      have hPok:ArcsOk nodes (V1 L s to r):=ArcsOk.sub hLo λa h=>Ync h
      obtain⟨LL,hLL⟩:∃LL,(if r.length=2 then UF s to L else L)=LL:=⟨_,rfl⟩
      have hLLl:LL.length<=L.length:=by
       rw[<-hLL]
       split
       ·exact Rn _ _
       ·exact TL _
      have hlp:V1 L s to r=LL.filter λa=>!(decide (a.1∈midP r)||decide (a.2.1∈midP r)):=by rw[<-hLL];rfl
      have hfirst:=λ{A:Option Addr}{cap:Nat}{H:List HP}{w:World}(hr:Rd B w0 H A ((V1 L s to r).flatMap lkF)) (hw:St B w0 H w)=>YcQ nodes (V1 L s to r) s to (capL:=cap) (by omega) (by omega) hPok hs ht hr hw
      rw[<-hnn]at hfirst
      by_cases h2:r.length=2
      ·skip
       rw[Tm h2]at hLL
       repeat'(first|refine zgc ?_|(refine zge ?_ ?_<;>intro _<;>try exact zo)|fail)
       apply Yh _ Yr7
       exact za
       exact rfl
       exactλ_ hw=>(Yap L s to (by omega) (.sl zm) (hw))
       rintro _ _ ⟨A1,cap1,rfl,rfl⟩
       rw[hLL]
       repeat'(first|refine zgd ?_|fail)
       refine Wc (e:=3) (size:=1) (k:=r.length) (cap:=capr) (A:=Ar) (xs:=r.flatMap numF) zm λhcapr=>?_
       apply WW T (n':=(midP r).length);(iterate 5 exact rfl);omega;omega
       rw[Int.toNat_one]
       repeat'(first|refine zgd ?_|(refine zgh ?_;intro _)|fail)
       rename_i gi
       have hmid:∀{HH:List HP},Rd B w0 HH Ar (r.flatMap numF)->Rd B w0 HH (subA Ar 1 capr 1) ((midP r).flatMap numF):=λh=>Rd.sub (f:=numF) (q:=1) (o:=1) (k:=r.length-2) (λ_=>rfl) h hcapr
       apply Yh _ YeO
       exact za
       exact rfl
       exactλ_ hw=>(X9 LL (by omega) (.sl zm) (hw))
       rintro _ _ ⟨A2,cap2,rfl,rfl⟩
       repeat'(first|(apply zg29;(apply Ym;exact za;exact rfl))|fail)
       apply Yh _ YeN
       exact za
       exact rfl
       exactλ_ hw=>(Za (λa=>decide (a.1∈midP r)||decide (a.2.1∈midP r)) LL 318 [.pointer (some ⟨gi,0,none⟩)] Yr8 (by omega) (λa _ X w hw=>Ydj gi (midP r) a (by omega) (Rb _ zm) (hmid (.sl (Rb _ zm))) hw) (hw))
       rintro _ _ ⟨rfl,rfl⟩
       rw[<-hlp]
       repeat'(first|refine zgb ?_|fail)
       apply Yh _ YoX
       exact za
       exact rfl
       exactλ_ hw=>(hfirst (.sl zm) (hw))
       rintro _ _ ⟨A9,cap9,rfl,hway,hdl,hdd,rfl⟩
       have hop:wayF (V1 L s to r) (ZY nodes (V1 L s to r) to) s to=ZM nodes L s to r:=rfl
       rw[hop]at hway⊢
       have hq:(ZM nodes L s to r).length<=1073741824:=YgK _ _ _ _
       repeat'(first|refine zga ?_|(refine zgh ?_;intro _)|fail)
       rename_i gL
       apply Yj (sl 93 1 (some ⟨gL,0,none⟩) 2 2 ([⟨Ar,capr,r⟩,⟨A9,cap9,ZM nodes L s to r⟩].flatMap rowF)::ints Ar capr r::ints A9 cap9 (ZM nodes L s to r)::H)
       ·intro w hw
        have h5:St B w0 (blk gL (.cells #[.slice Ar r.length capr,.slice A9 (ZM nodes L s to r).length cap9] 93 (0,0))::ints Ar capr r::ints A9 cap9 (ZM nodes L s to r)::H) w:=by
         revert w
         exact zk
        exact h5.blk_sl (cs:=[Value.slice Ar r.length capr,.slice A9 (ZM nodes L s to r).length cap9]) (len:=2) (size:=1) rfl (by omega)
       apply Yd;exact rfl;exact rfl
       exact⟨gL,Ar,capr,A9,cap9,rfl,⟨hr2,by omega,hq⟩,hway,rfl⟩
      ·skip
       rw[Td h2]at hLL
       rw[hLL]
       repeat'(first|refine zgd ?_|(refine zge ?_ ?_<;>intro _<;>try exact zo)|fail)
       refine Wc (e:=3) (size:=1) (k:=r.length) (cap:=capr) (A:=Ar) (xs:=r.flatMap numF) zm λhcapr=>?_
       apply WW T (n':=(midP r).length);(iterate 5 exact rfl);omega;omega
       rw[Int.toNat_one]
       repeat'(first|refine zgd ?_|(refine zgh ?_;intro _)|fail)
       rename_i gi
       have hmid:∀{HH:List HP},Rd B w0 HH Ar (r.flatMap numF)->Rd B w0 HH (subA Ar 1 capr 1) ((midP r).flatMap numF):=λh=>Rd.sub (f:=numF) (q:=1) (o:=1) (k:=r.length-2) (λ_=>rfl) h hcapr
       apply Yh _ YeO
       exact za
       exact rfl
       exactλ_ hw=>(X9 LL (by omega) (.sl zm) (hw))
       rintro _ _ ⟨A2,cap2,rfl,rfl⟩
       repeat'(first|(apply zg29;(apply Ym;exact za;exact rfl))|fail)
       apply Yh _ YeN
       exact za
       exact rfl
       exactλ_ hw=>(Za (λa=>decide (a.1∈midP r)||decide (a.2.1∈midP r)) LL 318 [.pointer (some ⟨gi,0,none⟩)] Yr8 (by omega) (λa _ X w hw=>Ydj gi (midP r) a (by omega) (Rb _ zm) (hmid (.sl (Rb _ zm))) hw) (hw))
       rintro _ _ ⟨rfl,rfl⟩
       rw[<-hlp]
       repeat'(first|refine zgb ?_|fail)
       apply Yh _ YoX
       exact za
       exact rfl
       exactλ_ hw=>(hfirst (.sl zm) (hw))
       rintro _ _ ⟨A9,cap9,rfl,hway,hdl,hdd,rfl⟩
       have hop:wayF (V1 L s to r) (ZY nodes (V1 L s to r) to) s to=ZM nodes L s to r:=rfl
       rw[hop]at hway⊢
       have hq:(ZM nodes L s to r).length<=1073741824:=YgK _ _ _ _
       repeat'(first|refine zga ?_|(refine zgh ?_;intro _)|fail)
       rename_i gL
       apply Yj (sl 93 1 (some ⟨gL,0,none⟩) 2 2 ([⟨Ar,capr,r⟩,⟨A9,cap9,ZM nodes L s to r⟩].flatMap rowF)::ints Ar capr r::ints A9 cap9 (ZM nodes L s to r)::H)
       ·intro w hw
        have h5:St B w0 (blk gL (.cells #[.slice Ar r.length capr,.slice A9 (ZM nodes L s to r).length cap9] 93 (0,0))::ints Ar capr r::ints A9 cap9 (ZM nodes L s to r)::H) w:=by
         revert w
         exact zk
        exact h5.blk_sl (cs:=[Value.slice Ar r.length capr,.slice A9 (ZM nodes L s to r).length cap9]) (len:=2) (size:=1) rfl (by omega)
       apply Yd;exact rfl;exact rfl
       rw[<-hLL]
       exact⟨gL,Ar,capr,A9,cap9,rfl,⟨hr2,by omega,hq⟩,hway,rfl⟩
     ·rw[Td hat]at hrun2
      cases hsc:JG fuel nodes L to total r spent at_ L (-1,0)with
      |none=>rw[hsc]at hrun2;cases hrun2
      |some bp=>
       rw[hsc]at hrun2
       obtain⟨bf,pf⟩:=bp
       dsimp only at hrun2
       repeat'(first|refine zgb ?_|(refine zge ?_ ?_<;>intro _<;>try exact zo)|fail)
       refine Yi (λ(z:Iz)=>[(45,.int .i64 z.j),(44,.int .i64 L.length),(43,.slice A L.length cap),(15,.int .i64 z.price),(14,.int .i64 z.best),(13,.int .i64 at_),(12,.int .i64 spent),(11,.slice Ar r.length capr),(8,.int .i64 total),(7,.slice A L.length cap),(3,.pointer (some ⟨g,0,none⟩)),(1,.int .i64 s),(2,.int .i64 to)]) (λ_=>ints Ar capr r::Jv A cap L::netB g n::H) (λz=>z.j<=L.length/\JG fuel nodes L to total r spent at_ (L.drop z.j) (z.best,z.price)=some (bf,pf)/\(z.best= -1\/(0<=z.best/\z.best<nodes))/\(0<=z.price/\z.price<=1000000)) (λz=>L.length-z.j) ⟨0,-1,0⟩ ⟨Tu _,hsc,.inl rfl,by simp only;omega⟩ ?_ (λw hw=>hw) ?_
       ·exact zu
       rintro⟨j,best,price⟩ ⟨hj,hsc2,hbest,⟨hpr0,hpr1⟩⟩ K2 hK2
       simp only at hj hsc2 hbest hpr0 hpr1⊢
       by_cases hlt:j<L.length
       ·obtain⟨a,ha⟩:∃a,L[j]? =some a:=⟨_,Ta hlt⟩
        obtain⟨⟨a1,a2⟩,⟨a3,a4⟩,⟨a5,a6⟩⟩:=hLo a (Tf ha)
        have hdrop:L.drop j=a::L.drop (j+1):=by
         obtain⟨hk3,rfl⟩:=Ti.1 ha
         exact Rx hk3
        rw[hdrop]at hsc2
        unfold JG U7 at hsc2
        have hcon:=λ{X:HP}{w:World}(hw:St B w0 (X::ints Ar capr r::Jv A cap L::netB g n::H) w)=>Jw r a.2.1 (by omega) (cap:=capr) (.sl (TB _ TA)) hw
        by_cases h1:a.1=at_
        rotate_left
        ·rw[Tm (.inl h1)]at hsc2
         repeat'(first|refine zgd ?_|(refine zge ?_ ?_<;>intro _<;>try exact zo)|(refine zgh ?_;intro _)|fail)
         apply hK2 ⟨j+1,best,price⟩
         ·exact⟨by simp only;omega,hsc2,hbest,hpr0,hpr1⟩
         ·simp only;omega
         ·exact zu
         ·exactλw hw=>hw.tail
        by_cases h2:a.2.1∈r
        ·rw[Tm (.inr (.inl h2))]at hsc2
         rw[Tc h2]at hcon
         repeat'(first|((first|apply Ya Vn|apply Yb Vn);exact za;exact rfl;exactλ_ hw=>(hcon hw))|refine zgd ?_|(refine zge ?_ ?_<;>intro _<;>try exact zo)|(refine zgh ?_;intro _)|fail)
         apply hK2 ⟨j+1,best,price⟩
         ·exact⟨by simp only;omega,hsc2,hbest,hpr0,hpr1⟩
         ·simp only;omega
         ·exact zu
         ·exactλw hw=>hw.tail
        rw[Tn h2]at hcon
        by_cases h3:0<=best/\best<a.2.1
        ·rw[Tm (.inr (.inr h3))]at hsc2
         repeat'(first|((first|apply Ya Vn|apply Yb Vn);exact za;exact rfl;exactλ_ hw=>(hcon hw))|refine zgd ?_|(refine zgf ?_ ?_<;>intro _<;>try exact zo)|(refine zgh ?_;intro _)|fail)
         apply hK2 ⟨j+1,best,price⟩
         ·exact⟨by simp only;omega,hsc2,hbest,hpr0,hpr1⟩
         ·simp only;omega
         ·exact zu
         ·exactλw hw=>hw.tail
        rw[Td (by rintro(h|h|h);exact h h1;exact h2 h;exact h3 h)]at hsc2
        cases hrs:O0 fuel nodes L (r++[a.2.1]) to with
        |none=>rw[hrs]at hsc2;cases hsc2
        |some s2=>
         rw[hrs]at hsc2
         obtain⟨sum,fine⟩:=s2
         dsimp only at hsc2
         have hlen1:(r++[a.2.1]).length=r.length+1:=by simp
         have hfl1:(r++[a.2.1]).flatMap numF=r.flatMap numF++#[Value.int .i64 a.2.1].toList:=by simp[List.flatMap_append,numF]
         have hrest:=λ{AP:Option Addr}{capP:Nat}{H:List HP}{w:World}(hr:Rd B w0 H A (L.flatMap lkF)) (hp:Rd B w0 H AP ((r++[a.2.1]).flatMap numF)) (hcap:(r++[a.2.1]).length<=capP) (hw:St B w0 H w)=>Ynw nodes L (r++[a.2.1]) to fuel (sum,fine) (capL:=cap) (by omega) (by omega) hLo ⟨by omega,by omega⟩ (λv hv=>by
          rcases TT.1 hv with hv|hv
          ·exact hmem v hv
          ·obtain rfl:=TJ.1 hv
           exact⟨a3,a4⟩) ht hfu hrs hr hp hcap hw
         rw[hlen1,hfl1,<-hnn]at hrest
         dsimp only at hrest
         repeat'(first|((first|apply Ya Vn|apply Yb Vn);exact za;exact rfl;exactλ_ hw=>(hcon hw))|refine zgd ?_|(refine zgf ?_ ?_<;>intro _<;>try exact zo)|(refine zgh ?_;intro _)|fail)
         all_goals(
          apply Vr (.n1 0 (.n1 1 (.n1 2 (.n1 3 (.n1 5 (.n1 6 (.n1 9 (.n2 4 (.n1 7 (.n1 8 (.n1 10 (.n1 11 (.n1 12 (.n1 13 (.n1 14 (.n1 15 .done)))))))) 7 (.n1 4 (.n1 8 (.n1 10 (.n1 11 (.n1 12 (.n1 13 (.n1 14 (.n1 15 .done)))))))))))))))) [] [true,true,true,true]
          kernel_rfl
          kernel_rfl
          exact zy
          exact rfl
          repeat'(first|(apply Yk;try exact zl)|apply(zs91 ?_ ?_)|(apply Xp;try exact zl)|refine zgd ?_|(refine zgh ?_;intro _)|fail)
          all_goals(
           apply Yh _ YoV
           exact za
           exact rfl
           exactλ_ hw=>(Vj r (by omega) (.sl zm) (hw))
           rintro _ _ ⟨A5,cap5,rfl,rfl⟩
           repeat'(first|(apply Yk;try exact zl)|(apply Xp;try exact zl)|refine zgd ?_|(refine zgh ?_;intro _)|(refine zgi ?_;intro _ _)|fail)
           rename_i A6 cap6
           refine Wc (e:=3) (size:=1) (k:=r.length+1) (cap:=cap6) (A:=A6) (xs:=r.flatMap numF++#[Value.int .i64 a.2.1].toList) zm λhcap=>?_
           apply Yh _ YtV
           exact za
           exact rfl
           exactλ_ hw=>(hrest (.sl zm) (.sl zm) hcap (hw))
           rintro _ _ ⟨rfl,⟨q1,q2⟩,rfl⟩
           by_cases hgo:fine=true/\spent+a.2.2+sum=total
           ·rw[Tm hgo]at hsc2
            obtain⟨rfl,heq⟩:=hgo
            repeat'(first|(apply Yk;try exact zl)|(apply Xp;try exact zl)|refine zgd ?_|(refine zge ?_ ?_<;>intro _<;>try exact zo)|fail)
            apply hK2 ⟨j+1,a.2.1,a.2.2⟩
            ·exact⟨by simp only;omega,hsc2,.inr ⟨a3,a4⟩,by simp only;omega⟩
            ·simp only;omega
            ·exact zu
            ·exact zk
           ·rw[Td hgo]at hsc2
            cases fine with
            |false=>
             repeat'(first|(apply Yk;try exact zl)|(apply Xp;try exact zl)|refine zgd ?_|fail)
             apply hK2 ⟨j+1,best,price⟩
             ·exact⟨by simp only;omega,hsc2,hbest,hpr0,hpr1⟩
             ·simp only;omega
             ·exact zu
             ·exact zk
            |true=>
             have hne:¬spent+a.2.2+sum=total:=λh=>hgo ⟨rfl,h⟩
             repeat'(first|(apply Yk;try exact zl)|(apply Xp;try exact zl)|refine zgd ?_|(refine zge ?_ ?_<;>intro _<;>try exact zo)|fail)
             apply hK2 ⟨j+1,best,price⟩
             ·exact⟨by simp only;omega,hsc2,hbest,hpr0,hpr1⟩
             ·simp only;omega
             ·exact zu
             ·exact zk))
       ·obtain rfl:j=L.length:=by omega
        rw[S0]at hsc2
        obtain⟨rfl,rfl⟩:=Prod.mk.inj (Tz hsc2)
        clear hK2
        by_cases hneg:best<0
        ·rw[Tm hneg]at hrun2;cases hrun2
        rw[Td hneg]at hrun2
        repeat'(first|refine zgc ?_|(refine zge ?_ ?_<;>intro _<;>try exact zo)|(refine zgh ?_;intro _)|(refine zgi ?_;intro _ _)|fail)
        rename_i A3 cap3
        apply hK ⟨k,r++[best],A3,cap3,spent+price,best⟩
        ·refine⟨hrun2,?_,λv hv=>?_,?_,λh=>?_⟩
         ·simp only[Tj,TP];omega
         ·rcases TT.1 hv with hv|hv
          ·exact hmem v hv
          ·obtain rfl:=TJ.1 hv
           omega
         ·simp only[Tj,TP];omega
         ·simp only[Tj,TP]at h;omega
        ·simp only;omega
        ·dsimp only
         rw[Tj,TP];exact zu
        ·dsimp only
         rw[<-Yph]
         exact zk
noncomputable def Ya0(fuel:Nat)(n:Net)(s t:Int):Option (Option (List Int×List Int)×Int):=
 if Z1 n s t≠0 then some (none,Z1 n s t)else
  match Yac fuel n.nodes.toNat (YS n) s t with
  |none=>none
  |some none=>some (none,17)
  |some (some pq)=>if 9<pq.1.length\/9<pq.2.length then some (none,21)else some (some pq,0)
theorem Yl3(n:NetM)(s to:Int)(fuel:Nat)(res:Option (List Int×List Int)×Int)(hfu:fuel<=100000)(hrun:Ya0 fuel n.net s to=some res){B:Nat}{w0:World}{H:List HP}{w:World}(hin:n.In B w0 H)(hw:St B w0 H w):
 Calls Tryz.prog 148 [n.val,.int .i64 s,.int .i64 to].toArray w (Post B w0 λv K=>match res.1 with
  |none=>v=.tuple #[.slice none 0 0,.int .i64 res.2]/\K=H
  |some pq=>∃g A1 c1 A2 c2,v=.tuple #[.slice (some ⟨g,0,none⟩) 2 2,.int .i64 res.2]/\(2<=pq.1.length/\pq.1.length<=9/\pq.2.length<=9)/\WayV A2 pq.2/\K=sl 93 1 (some ⟨g,0,none⟩) 2 2 ([⟨A1,c1,pq.1⟩,⟨A2,c2,pq.2⟩].flatMap rowF)::ints A1 c1 pq.1::ints A2 c2 pq.2::H):=by
 refine Yc Tryz.func148 Tryz.ntmps148 rfl rfl hw ?_
 (apply Xt;apply Y0;apply YR;exact rfl;exact rfl;intro g)
 unfold Ya0 at hrun
 by_cases he:Z1 n.net s to=0
 rotate_left
 ·rw[Tm he]at hrun
  obtain rfl:=Tz hrun
  repeat'(first|((first|apply Ya Up|apply Yb Up);exact za;exact rfl;exactλ_ hw=>(VG n s to hin.cons hw))|refine zgb ?_|(refine zge ?_ ?_<;>intro _<;>try exact zo)|fail)
  (repeat apply Yl)
  apply Yp;(iterate 3 exact rfl)
  exact⟨rfl,rfl⟩
 rw[Td (λh=>h he)]at hrun
 obtain⟨hck,⟨s0,s1⟩,⟨t0,t1⟩,hst⟩:=Yf0 he
 have hen:=λ{H:List HP}{w:World}(hin:n.In B w0 H) (hw:St B w0 H w)=>VG n s to hin hw
 rw[he]at hen
 have hok:=YM hck
 have hn0:=hok.n0
 have hn1:=hok.n1
 have hnn:((n.net.nodes.toNat:Nat):Int)=n.net.nodes:=by omega
 have hnn2:n.nodes=((n.net.nodes.toNat:Nat):Int):=by rw[hnn];rfl
 cases hpf:Yac fuel n.net.nodes.toNat (YS n.net) s to with
 |none=>rw[hpf]at hrun;cases hrun
 |some o=>
  rw[hpf]at hrun
  have hp:=λ{H:List HP}{w:World}(hin:n.In B w0 H) (hw:St B w0 H w)=>Ynp n s to n.net.nodes.toNat fuel o hck hnn2 ⟨s0,by omega⟩ ⟨t0,by omega⟩ hst hfu hpf hin hw
  cases o with
  |none=>
   obtain rfl:=Tz hrun
   repeat'(first|((first|apply Ya Up|apply Yb Up);exact za;exact rfl;exactλ_ hw=>(hen hin.cons hw))|refine zgb ?_|(refine zge ?_ ?_<;>intro _<;>try exact zo)|fail)
   apply Yh _ YrX
   exact za
   exact rfl
   exactλ_ hw=>(hp hin.cons (hw))
   rintro _ _ ⟨rfl,rfl⟩
   repeat'(first|(apply YW;(iterate 3 exact rfl))|refine zgb ?_|fail)
   apply Yl
   apply Yp;(iterate 3 exact rfl)
   exact⟨rfl,rfl⟩
  |some pq=>
   obtain⟨p,q⟩:=pq
   dsimp only at hrun
   repeat'(first|((first|apply Ya Up|apply Yb Up);exact za;exact rfl;exactλ_ hw=>(hen hin.cons hw))|refine zgb ?_|(refine zge ?_ ?_<;>intro _<;>try exact zo)|fail)
   apply Yh _ YrX
   exact za
   exact rfl
   exactλ_ hw=>(hp hin.cons (hw))
   rintro _ _ ⟨gL,A1,c1,A2,c2,rfl,⟨k1,k2,k3⟩,hway,rfl⟩
   dsimp only at k1 k2 k3 hway⊢
   repeat'(first|(apply YW;(iterate 3 exact rfl))|refine zgb ?_|fail)
   have hs1:=λ{H:List HP}{w:World}(hw:St B w0 H w)=>WA p.length (A:=A1) (cap:=c1) (by omega) hw
   have hs2:=λ{H:List HP}{w:World}(hw:St B w0 H w)=>WA q.length (A:=A2) (cap:=c2) (by omega) hw
   refine Yi (λ(k:Nat)=>[(28,.int .i64 k),(27,.int .i64 2),(26,.slice (some ⟨gL,0,none⟩) 2 2),(9,.slice (some ⟨gL,0,none⟩) 2 2)]) (λ_=>sl 93 1 (some ⟨gL,0,none⟩) 2 2 ([(⟨A1,c1,p⟩:RowM),⟨A2,c2,q⟩].flatMap rowF)::ints A1 c1 p::ints A2 c2 q::netB g n::H) (λk=>k<=2/\(1<=k->p.length<=9)/\(2<=k->q.length<=9)) (λk=>2-k) 0 ⟨by omega,by omega,by omega⟩ ?_ (λw hw=>hw) ?_
   ·exact zu
   rintro k ⟨hk,hk1,hk2⟩ K hK
   obtain rfl|rfl|rfl:k=0\/k=1\/k=2:=by omega
   ·have hx0:[(⟨A1,c1,p⟩:RowM),⟨A2,c2,q⟩][0]? =some ⟨A1,c1,p⟩:=rfl
    by_cases h9:9<p.length
    ·rw[Tm h9]at hs1
     rw[Tm (.inl h9)]at hrun
     obtain rfl:=Tz hrun
     clear hK
     repeat'(first|(apply ZE T (f:=rowF) (l:=[(⟨A1,c1,p⟩:RowM),⟨A2,c2,q⟩]);exact rfl;exact rfl;exact .sl zm;exact rfl;exactλ_=>rfl;exact rfl;exact rfl;(simp only[TS,RD];omega))|(apply Jj T (f:=rowF) (l:=[(⟨A1,c1,p⟩:RowM),⟨A2,c2,q⟩]);exact rfl;exact .sl zm;exact hx0;exactλ_=>rfl;(iterate 4 exact rfl))|((first|apply Ya WM|apply Yb WM);exact za;exact rfl;exactλ_ hw=>(hs1 hw))|refine zgd ?_|(refine zge ?_ ?_<;>intro _<;>try exact zo)|fail)
     apply Yj H
     ·exactλw hw=>hw.tail.tail.tail.tail
     apply Yp;(iterate 3 exact rfl)
     exact⟨rfl,rfl⟩
    ·rw[Td h9]at hs1
     repeat'(first|(apply ZE T (f:=rowF) (l:=[(⟨A1,c1,p⟩:RowM),⟨A2,c2,q⟩]);exact rfl;exact rfl;exact .sl zm;exact rfl;exactλ_=>rfl;exact rfl;exact rfl;(simp only[TS,RD];omega))|(apply Jj T (f:=rowF) (l:=[(⟨A1,c1,p⟩:RowM),⟨A2,c2,q⟩]);exact rfl;exact .sl zm;exact hx0;exactλ_=>rfl;(iterate 4 exact rfl))|((first|apply Ya WM|apply Yb WM);exact za;exact rfl;exactλ_ hw=>(hs1 hw))|refine zgc ?_|(refine zge ?_ ?_<;>intro _<;>try exact zo)|fail)
     apply hK 1
     ·exact⟨by omega,λ_=>by omega,by omega⟩
     ·omega
     ·exact zu
     ·exactλw hw=>hw
   ·have hx1:[(⟨A1,c1,p⟩:RowM),⟨A2,c2,q⟩][1]? =some ⟨A2,c2,q⟩:=rfl
    by_cases h9:9<q.length
    ·rw[Tm h9]at hs2
     rw[Tm (.inr h9)]at hrun
     obtain rfl:=Tz hrun
     clear hK
     repeat'(first|(apply ZE T (f:=rowF) (l:=[(⟨A1,c1,p⟩:RowM),⟨A2,c2,q⟩]);exact rfl;exact rfl;exact .sl zm;exact rfl;exactλ_=>rfl;exact rfl;exact rfl;(simp only[TS,RD];omega))|(apply Jj T (f:=rowF) (l:=[(⟨A1,c1,p⟩:RowM),⟨A2,c2,q⟩]);exact rfl;exact .sl zm;exact hx1;exactλ_=>rfl;(iterate 4 exact rfl))|((first|apply Ya WM|apply Yb WM);exact za;exact rfl;exactλ_ hw=>(hs2 hw))|refine zgd ?_|(refine zge ?_ ?_<;>intro _<;>try exact zo)|fail)
     apply Yj H
     ·exactλw hw=>hw.tail.tail.tail.tail
     apply Yp;(iterate 3 exact rfl)
     exact⟨rfl,rfl⟩
    ·rw[Td h9]at hs2
     repeat'(first|(apply ZE T (f:=rowF) (l:=[(⟨A1,c1,p⟩:RowM),⟨A2,c2,q⟩]);exact rfl;exact rfl;exact .sl zm;exact rfl;exactλ_=>rfl;exact rfl;exact rfl;(simp only[TS,RD];omega))|(apply Jj T (f:=rowF) (l:=[(⟨A1,c1,p⟩:RowM),⟨A2,c2,q⟩]);exact rfl;exact .sl zm;exact hx1;exactλ_=>rfl;(iterate 4 exact rfl))|((first|apply Ya WM|apply Yb WM);exact za;exact rfl;exactλ_ hw=>(hs2 hw))|refine zgc ?_|(refine zge ?_ ?_<;>intro _<;>try exact zo)|fail)
     apply hK 2
     ·exact⟨by omega,λ_=>hk1 (by omega),λ_=>by omega⟩
     ·omega
     ·exact zu
     ·exactλw hw=>hw
   ·have h1:=hk1 (by omega)
    have h2:=hk2 (by omega)
    rw[Td (by omega)]at hrun
    obtain rfl:=Tz hrun
    clear hK
    repeat'(first|refine zgc ?_|(refine zge ?_ ?_<;>intro _<;>try exact zo)|fail)
    apply Yj (sl 93 1 (some ⟨gL,0,none⟩) 2 2 ([(⟨A1,c1,p⟩:RowM),⟨A2,c2,q⟩].flatMap rowF)::ints A1 c1 p::ints A2 c2 q::H)
    ·exact zk
    apply Yp;(iterate 3 exact rfl)
    exact⟨gL,A1,c1,A2,c2,rfl,⟨k1,h1,h2⟩,hway,rfl⟩
end Go.Proofs.YtaholidehobiiaaGreatDoor
namespace Go.Eng
open Go.RowKit Go.Sort Go.Proofs
variable {α:Type}{q:Nat}
theorem YcR[Inhabited α]{enc:α->List Value}(hq:∀x,(enc x).length=q)(h0:0<q)(l:List α):(flatK enc q l.toArray).toList=l.flatMap enc:=by
 have hlen:(l.flatMap enc).length=l.length*q:=Xa hq l
 have hs:(flatK enc q l.toArray).size=l.length*q:=by simp
 apply List.ext_getElem (by rw[S5,hs,hlen])
 intro t h1 h2
 rw[hlen]at h2
 have hd:t/q<l.length:=Nat.div_lt_of_lt_mul (by rw[Nat.mul_comm];exact h2)
 have hm:=Nat.mod_lt t h0
 have h3:=UY hq l (t/q) (t%q) l[t/q] (Ta hd) hm
 rw[Nat.mul_comm,Nat.div_add_mod]at h3
 have h4:=get_flatK enc q l.toArray t (by simpa using h2)
 rw[getElem!_pos _ t (by rw[hs];exact h2)]at h4
 rw[Array.getElem_toList,h4]
 have h5:l.toArray[t/q]! =l[t/q]:=by rw[getElem!_pos _ _ (by simpa using hd)];simp
 rw[h5,getElem!_pos _ _ (by rw[hq];exact hm)]
 have h8:(enc l[t/q])[t%q]? =some ((enc l[t/q])[t%q]'(by rw[hq];exact hm)):=Ta _
 rw[h8]at h3
 obtain⟨h6,h7⟩:=Ti.1 h3
 exact h7.symm
theorem YnG[Inhabited α]{enc:α->List Value}(hq:∀x,(enc x).length=q)(h0:0<q){l:List α}{k:Nat}(hk:k<=l.length){g cap:Nat}{e:TypeId}{B:Nat}{w0 w:World}{H:List HP}(hw:St B w0 (sl e q (some ⟨g,0,none⟩) l.length cap (l.flatMap enc)::H) w):
 HoldsK enc q w g (k*q) (l.drop k).toArray/\g<w.heap.size/\∀(d:List α) (n:Nat) (os:Array Obj),d.length=l.length-k->St B w0 (sl e q (some ⟨g,0,none⟩) l.length cap ((l.take k++d).flatMap enc)::H) (sortWorldK enc q w g (k*q) n d.toArray os):=by
 have ho:=hw.sl (TA)
 rcases ho.2 with⟨h1,_⟩|⟨g',c,cur,h1,h2,h3,h4,h5,h6,h7⟩
 ·cases h1
 injection h1 with h1 _ hc
 injection h1 with h1
 injection h1 with h1
 subst h1 hc
 have hmul:l.length*q=k*q+(l.length-k)*q:=by rw[<-RX];congr 1;omega
 have hcq:l.length*q<=cap*q:=Rq q h4
 have hg:g<w.heap.size:=(R9.1 h3).1
 refine⟨λj hj=>?_,hg,λd n os hd=>?_⟩
 ·have hs:(flatK enc q (l.drop k).toArray).size=(l.length-k)*q:=by simp
  rw[hs]at hj
  refine⟨?_,by simp[World.frozen?,h3]⟩
  have hcell:w.cell? ⟨g,k*q+j,none⟩=cur[k*q+j]? :=by simp[World.cell?,h3]
  rw[hcell]
  have e1:cur[k*q+j]? =(l.flatMap enc)[k*q+j]? :=by
   rw[<-h7,SL (by omega),Nr]
  rw[e1,<-RB,<-UX hq,<-YcR hq h0,Nr,SK (by rw[hs];exact hj),getElem!_pos _ j (by rw[hs];exact hj)]
  rfl
 ·have hs:(flatK enc q d.toArray).size=(l.length-k)*q:=by simp[hd]
  have hF:(flatK enc q d.toArray).toList=d.flatMap enc:=YcR hq h0 d
  have hheap:(sortWorldK enc q w g (k*q) n d.toArray os).heap[g]? =some (.cells (putCells id (k*q) (flatK enc q d.toArray) cur) e (0,0)):=by
   unfold sortWorldK putRowK
   rw[heap_grow_old _ _ (by simpa using hg)]
   simp[putRow,mapBlock,Sort.ahead,Array.getElem?_modify,h3,onCells]
  have hgb:w.grownBy (sortWorldK enc q w g (k*q) n d.toArray os) (some g):=by
   refine⟨rfl,rfl,rfl,by simp[sortWorldK,putRowK],λb hb hne=>?_⟩
   unfold sortWorldK putRowK
   rw[heap_grow_old _ _ (by simpa using hb)]
   have:g≠b:=λe=>hne (by rw[e])
   simp[putRow,mapBlock,Sort.ahead,Array.getElem?_modify,this]
  have hlen:((l.take k++d).flatMap enc).length=l.length*q:=by
   rw[Xa hq,Tj,TD,hd,SG hk];congr 1;omega
  refine hw.upd (Upd.here H) hgb.os hgb.tape hgb.output hgb.size λS1 hS=>⟨⟨⟨hlen,.inr ⟨g,cap,_,rfl,Tu _,hheap,h4,h5,by simp[putCells,h6],?_⟩⟩,hS.2⟩,λb hb hlt=>hgb.block b hlt λe=>hb ?_⟩
  ·apply SJ
   intro j
   by_cases hj:j<l.length*q
   ·rw[SL hj,Nr]
    have hjc:j<cur.size:=by rw[h6];omega
    have e1:cur[j]? =(l.flatMap enc)[j]? :=by rw[<-h7,SL hj,Nr]
    rw[TV,XG hq]
    have hl1:((l.flatMap enc).take (k*q)).length=k*q:=by rw[TD,Xa hq];omega
    by_cases hjk:j<k*q
    ·rw[Sl (by rw[hl1];exact hjk),SL hjk,<-e1]
     simp[putCells,Array.getElem?_eq_getElem hjc,show¬k*q<=j by omega]
    ·rw[Ro (by rw[hl1];omega),hl1,<-hF,Nr]
     have hin:j-k*q<(flatK enc q d.toArray).size:=by rw[hs];omega
     rw[SK hin]
     have hc2:k*q<=j/\j<k*q+(flatK enc q d.toArray).size:=⟨by omega,by rw[hs];omega⟩
     unfold putCells
     rw[Array.getElem?_mapIdx,SK hjc]
     simp only[RH]
     rw[Tm hc2]
     have h9:(flatK enc q d.toArray)[j-k*q]! =(flatK enc q d.toArray)[j-k*q]'hin:=getElem!_pos (flatK enc q d.toArray) (j-k*q) hin
     rw[h9]
     rfl
   ·rw[List.getElem?_take_eq_none (by omega),RP (by rw[hlen];omega)]
  ·injection e with e
   rw[e]
   exact hS.2 _ rfl
open Go.RowKit
section
variable {P:Program}{ops:Array Oper}{Q:Exit->Act->World->Prop}
def NoQ:Exit->Act->World->Prop:=λ_ _ _=>False
theorem YpA:¬LetsOut NoQ:=by rintro⟨_,_,h⟩;exact h
def YdR(P:Program)(ops:Array Oper)(S:World->Prop)(last:List Nat)(Z:Array Bool->Act->World->Prop):Nat->Array Bool->Act->World->Prop
 |0,listed,a,w=>(∀j,j<ops.size->last.contains j=false->listed.getD j false=true)/\Z listed a w
 |m+1,listed,a,w=>Region.ready .any ops listed≠[]/\∀i∈Region.ready .any ops listed,last.contains i=false/\wpOp P ops NoQ i (λa' w'=>S w'/\YdR P ops S last Z m (listed.setIfInBounds i true) a' w') a w
variable {o:Oper}{a:Act}{w:World}{K:Act->World->Prop}
theorem Ys0(h:o.wp P a w K NoQ):o.wpIn Fence.wide 0 P a w K Q:=by
 refine⟨λf _=>trivial,?_⟩
 unfold Oper.wp at h
 have hs:Oper.semAt Fence.wide.round a.eval o=execOp a.eval o:=Oper.semAt_none _ _
 rw[hs]
 generalize(execOp a.eval o).run P w=res at h⊢
 cases res with
 |ok x w'=>
  cases x<;>simp only[Oper.upon,Oper.uponIn]at h⊢<;>first
   |exact h
   |(refine⟨λhd=>by simp[Fence.wide]at hd,?_⟩
     refine CallsIn.mono (callsIn_wide.2 h) λe w'' he=>?_
     cases e with
     |returned u=>exact he
     |panicked c=>exact he.elim
     |outgrown=>obtain⟨_,_,he⟩:=he;exact he.elim)
   |(refine⟨λhd=>by simp[Fence.wide]at hd,λc cs _=>?_⟩
     obtain⟨v,w2,k1,k2⟩:=h c cs
     exact⟨v,w2,k1,stepsIn_wide.2 k2⟩)
   |exact h.elim
 |halt x w'=>cases x<;>simp only[Oper.upon,Oper.uponIn]at h⊢<;>first|exact h.elim|exact h
theorem YbU{S:World->Prop}{last:List Nat}{Z:Array Bool->Act->World->Prop}{k:Nat}(hz:∀listed a w,Z listed a w->wpAnyIn Fence.wide 0 P .any ops Q k listed a w):∀(m:Nat) (listed:Array Bool) (a:Act) (w:World),YdR P ops S last Z m listed a w->wpAnyIn Fence.wide 0 P .any ops Q (m+k) listed a w
 |0,listed,a,w,h=>by rw[Ry];exact hz _ _ _ h.2
 |m+1,listed,a,w,h=>by
  rw[show m+1+k=(m+k)+1 by omega]
  refine⟨λe=>absurd e h.1,λi hi=>?_⟩
  have h2:=(h.2 i hi).2
  unfold wpOp at h2
  unfold wpOpIn
  cases ho:ops[i]? with
  |none=>rw[ho]at h2;exact YbU hz m _ _ _ h2.2
  |some o=>
   rw[ho]at h2
   simp only at h2⊢
   split
   ·rename_i hw
    rw[Tm hw]at h2
    rcases h2 with h2|⟨_,h2⟩
    ·exact Ys0 (Oper.wp_mono (λa w h=>YbU hz m _ a w h.2) h2)
    ·exact(YpA h2).elim
   ·rename_i hw
    rw[Td hw]at h2
    exact⟨λf _=>trivial,YbU hz m _ _ w h2.2⟩
variable {i:Nat}
theorem YdM{listed:Array Bool}(h:listed.getD i true=false):listed.getD i false=false:=by
 rcases SB i listed.size with h'|h'
 ·simp[h']at h⊢;exact h
 ·simp[Array.getElem?_eq_none h']at h
variable {last:List Nat}
theorem Yjj{S:World->Prop}{Z:Array Bool->Act->World->Prop}{oi:Oper}{v:Value}(hi:ops[i]? =some oi)(hsel:∀(j:Nat) (o:Oper) cs b,ops[j]? =some o->o.op≠.select cs b)
 (hlast:∀j,last.contains j=true->∃f,ancB ops f j i=true) (hil:last.contains i=false):
 ∀(m:Nat) (listed:Array Bool) (a:Act) (w:World),Closed ops listed->
  (∀j oj,ops[j]? =some oj->j≠i->listed.getD j true=false->(∀e∈oj.after,Region.binds .any e=true->e.on≠i)->oi.apart ops oj=true)->
  i∈Region.ready .any ops listed->YieldsIf P ops S oi v a->S w->
  YdR P ops S last Z m (listed.setIfInBounds i true) (a.put oi.dst v) w->YdR P ops S last Z (m+1) listed a w:=by
 intro m
 induction m with
 |zero=>
  intro listed a w hcl _ hr hy hS H
  refine⟨λh=>(by rw[h]at hr;cases hr),λj hj=>?_⟩
  by_cases hji:j=i
  ·subst hji;exact⟨hil,hy.wpOp hi hS ⟨hS,H⟩⟩
  ·obtain⟨hjun,oj,hoj,hall⟩:=mem_ready.1 hj
   have hun':=YdM (mem_ready.1 hr).1
   cases hc:last.contains j with
   |true=>
    obtain⟨f,hf⟩:=hlast j hc
    have:=VW hcl f j i (λok hk e he hb=>by
     obtain rfl:ok=oj:=Tz (hk.symm.trans hoj)
     exact hall e he hb) hf
    rw[hun']at this
    cases this
   |false=>
    have h1:=H.1 j (R9.1 hoj).1 hc
    rw[getD_set_ne false (NZ hji),YdM hjun]at h1
    cases h1
 |succ m ih=>
  intro listed a w hcl hfree hr hy hS H
  refine⟨λh=>(by rw[h]at hr;cases hr),λj hj=>?_⟩
  by_cases hji:j=i
  ·subst hji;exact⟨hil,hy.wpOp hi hS ⟨hS,H⟩⟩
  ·obtain⟨hnl,h1⟩:=H.2 j (ready_mono hj hji)
   obtain⟨hjun,oj,hoj,hall⟩:=mem_ready.1 hj
   have hun':=YdM (mem_ready.1 hr).1
   have hnot:∀e∈oj.after,Region.binds .any e=true->e.on≠i:=λe he hb heq=>by
    have h2:=hall e he hb
    rw[heq,hun']at h2
    cases h2
   have h2:=wpOp_putIf hoj (hfree j oj hoj hji hjun hnot) (λcs b=>hsel i oi cs b hi) (λcs b=>hsel j oj cs b hoj) (λc a w h=>h.elim) hy h1
   have hfree':∀k ok,ops[k]? =some ok->k≠i->(listed.setIfInBounds j true).getD k true=false->
    (∀e∈ok.after,Region.binds .any e=true->e.on≠i)->oi.apart ops ok=true:=λk ok hk hki hu hno=>by
    refine hfree k ok hk hki ?_ hno
    by_cases hjk:j=k
    ·subst hjk;exact hjun
    ·rw[getD_set_ne true hjk]at hu;exact hu
   refine⟨hnl,wpOp_mono (λa' w' h3=>⟨h3.2.1,ih (listed.setIfInBounds j true) a' w' (hcl.set hj) hfree' (ready_mono hr (NZ hji)) h3.1 h3.2.1 ?_⟩) h2⟩
   rw[S8 _ _ hji]
   exact h3.2.2
def YaF(ops:Array Oper):List Nat->Array Bool->Bool
 |[],listed=>(Region.ready .any ops listed).isEmpty
 |i::r,listed=>decide (Region.ready .any ops listed=[i])&&YaF ops r (listed.setIfInBounds i true)
def Ydh(ops:Array Oper)(last:List Nat):List Nat->Array Bool->Bool
 |[],listed=>((List.range ops.size).all λj=>last.contains j||listed.getD j false)&&YaF ops last listed
 |i::rest,listed=>
  (match ops[i]? with
   |some o=>if eff o then decide (Region.ready .any ops listed=[i])else(Region.ready .any ops listed).contains i&&Region.free .any ops listed i
   |none=>false)&&Ydh ops last rest (listed.setIfInBounds i true)
def Ypl(ops:Array Oper)(last:List Nat):Bool:=
 last.all λj=>(List.range ops.size).all λi=>last.contains i||(match ops[i]? with|some o=>eff o|none=>false)||ancB ops ops.size j i
theorem YjU(h:Ypl ops last=true):∀i oi,ops[i]? =some oi->eff oi=false->last.contains i=false->∀j,last.contains j=true->∃f,ancB ops f j i=true:=λi oi hi he hl j hj=>by
 have h1:=TI.1 h j (by simpa using hj)
 have hlt:i<ops.size:=(R9.1 hi).1
 have h2:=TI.1 h1 i (TO.2 hlt)
 rw[hi,hl]at h2
 simp only[he,ND]at h2
 exact⟨_,h2⟩
variable {l:List Oper}
theorem Yfb(hl:ops=l.toArray)(ho:ops[i]? =some o):nthO l i=o:=by
 rw[Q8]
 rw[hl]at ho
 simp only[NG]at ho
 simp[List.getD,ho]
theorem YcV{l:List Oper}(hl:ops=l.toArray):∀(o2:List Nat) (listed:Array Bool) (a:Act) (w:World),YaF ops o2 listed=true->wpListIn Fence.wide 0 P ops Q (Yg l o2) a w->wpAnyIn Fence.wide 0 P .any ops Q o2.length listed a w
 |[],listed,a,w,hB,h=>⟨by simpa [YaF]using hB,h⟩
 |i::r,listed,a,w,hB,h=>by
  simp only[YaF,To,Tq]at hB
  refine⟨λh0=>(by rw[hB.1]at h0;cases h0),λk hk=>?_⟩
  have hk':=hk
  rw[hB.1]at hk
  obtain rfl:k=i:=by simpa using hk
  obtain⟨_,o,ho,_⟩:=mem_ready.1 hk'
  unfold wpOpIn
  simp only[ho]
  rw[Yg,Yfb hl ho]at h
  unfold wpListIn at h
  split
  ·rename_i hw
   rw[Tm hw]at h
   exact Oper.wpIn_mono (λa w h=>YcV hl r _ a w hB.2 h) h
  ·rename_i hw
   rw[Td hw]at h
   exact⟨h.1,YcV hl r _ _ w hB.2 h.2⟩
def YQH(P:Program)(ops:Array Oper)(Q:Exit->Act->World->Prop)(l:List Oper):Exit->Act->World->Prop
 |.normal,a,w=>wpListIn Fence.wide 0 P ops Q l a w
 |_,_,_=>False
theorem Ytl(h:o.wp P a w K (YQH P ops Q l)):o.wp P a w K NoQ:=by
 unfold Oper.wp at h⊢
 generalize(execOp a.eval o).run P w=r at*
 cases r with
 |ok nx w'=>
  cases nx<;>simp only[Oper.upon]at h⊢<;>first
   |exact h
   |(refine Calls.mono h λe w'' he=>?_
     cases e with
     |returned u=>exact he
     |panicked c=>exact he
     |outgrown=>obtain⟨a',w',h'⟩:=he;exact⟨a',w',h'⟩)
 |halt x w'=>
  cases x<;>simp only[Oper.upon]at h⊢<;>exact h
theorem Ut{S:World->Prop}{last:List Nat}(hs:Region.noSelect ops=true)(l:List Oper)(hl:ops=l.toArray)(hlast:Ypl ops last=true):
 ∀(o1:List Nat) (listed:Array Bool) (a:Act) (w:World),Closed ops listed->(∀j∈o1,last.contains j=false)->Ydh ops last o1 listed=true->S w->Ys P ops (YQH P ops Q (Yg l last)) S (Yg l o1) a w->
  YdR P ops S last (λlisted a w=>YaF ops last listed=true/\wpListIn Fence.wide 0 P ops Q (Yg l last) a w) o1.length listed a w
 |[],listed,a,w,_,_,hB,_,h=>by
  simp only[Ydh,To]at hB
  refine⟨λj hj hc=>?_,hB.2,h⟩
  have:=TI.1 hB.1 j (TO.2 hj)
  rw[hc,ND]at this
  exact this
 |i::rest,listed,a,w,hcl,hno,hB,hS,h=>by
  simp only[Ydh,To]at hB
  obtain⟨h1,h2⟩:=hB
  have hno':∀j∈rest,last.contains j=false:=λj hj=>hno j (by simp[hj])
  cases ho:ops[i]? with
  |none=>rw[ho]at h1;cases h1
  |some o=>
   rw[ho]at h1
   simp only[Yg,Yfb hl ho]at h
   by_cases he:eff o=true
   ·simp only[he,NF,Tq]at h1
    unfold Ys at h
    rw[Tm he]at h
    refine⟨λh0=>(by rw[h1]at h0;cases h0),λk hk=>?_⟩
    have hk':=hk
    rw[h1]at hk
    obtain rfl:k=i:=by simpa using hk
    refine⟨hno k (by simp),?_⟩
    unfold wpOp
    simp only[ho]
    by_cases hw:Region.wanted o (yielded ops a.tmps)=true
    ·rw[Tm hw]at h⊢
     exact .inl (Ytl (Oper.wp_mono (λa' w' h'=>⟨h'.1,Ut hs l hl hlast rest _ a' w' (hcl.set hk') hno' h2 h'.1 h'.2⟩) h))
    ·rw[Td hw]at h⊢
     exact⟨hS,Ut hs l hl hlast rest _ _ w (hcl.set hk') hno' h2 hS h⟩
   ·simp only[he]at h1
    simp only[SA,N8,To]at h1
    unfold Ys at h
    rw[Td he]at h
    obtain⟨v,hy,h3⟩:=h
    have hr:i∈Region.ready .any ops listed:=by simpa using h1.1
    exact Yjj ho (Region.noSelect_spec hs) (YjU hlast i o ho (by simpa using he) (hno i (by simp))) (hno i (by simp)) _ listed a w hcl (Region.free_spec ho h1.2) hr hy hS (Ut hs l hl hlast rest _ _ w (hcl.set hr) hno' h2 hS h3)
end
section
variable {P:Program}{B:Nat}{w0:World}{Q:Exit->Act->World->Prop}{env:Env}{H:List HP}
variable {n:Nat}{ds:List Deferred}{l:List Oper}
theorem Yl5{id:Nat}(o1 last:List Nat)(mask:List Bool){Hc F:List HP}(hm:P.follows .mixedOrders=true)
 (hB:(Region.noSelect l.toArray&&decide ((o1++last).length=l.toArray.size)&&Ypl l.toArray last&&(o1.all λj=>!last.contains j)&&Ydh l.toArray last o1 (Array.replicate l.toArray.size false))=true)
 (hsp:Split mask H Hc F) {l1 l2:List Oper}(hl1:Yg l o1=l1) (hl2:Yg l last=l2) (h:VL P (some (some F)) ⟨n,ds,none⟩ B w0 l.toArray (YQH P l.toArray Q l2) l1 env Hc):VC P ⟨n,ds,none⟩ B w0 (.region id l.toArray true) Q env H:=by
 simp only[To,Tq]at hB
 obtain⟨⟨⟨⟨h1,h2⟩,h3⟩,h4⟩,h5⟩:=hB
 refine⟨λa w ha hw=>?_⟩
 refine(wpIn_wide (n:=0)).1 (wpIn_region_any hm ?_)
 have hst:St B w0 (Hc++F) w.drew:=(hw.perm (XK hsp)).drew
 have hr:Ys P l.toArray (YQH P l.toArray Q l2) (St B w0 Hc) l1 a w.drew:=h.run a ha w.drew hst
 rw[<-hl1,<-hl2]at hr
 have hz:=Ut (S:=St B w0 Hc) h1 l rfl h3 o1 _ a w.drew (XU _ _) (λj hj=>by simpa using TI.1 h4 j hj) h5 hst.prefix_ hr
 have:=YbU (k:=last.length) (Q:=Q) (λlisted a w hz=>YcV rfl last listed a w hz.1 hz.2) o1.length _ a w.drew hz
 rw[<-Tj,h2]at this
 exact this
theorem Yoy{ops:Array Oper}(h:VQ ⟨n,ds,none⟩ B w0 (YQ P ops Q l) .normal env H):VQ ⟨n,ds,none⟩ B w0 (YQH P ops Q l) .normal env H:=⟨λa w ha hw=>h.run a w ha hw⟩
end
section
variable {P:Program}{n:Shp}{B:Nat}{w0:World}{Q:Exit->Act->World->Prop}{env:Env}{H:List HP}{m:Mode}{ops:Array Oper}{rest:List Oper}{d:Nat}{ty:TypeId}{pos:String}{after:Array Edge}
variable {a b:Int}
theorem Yl7{x y:Operand}{k:IntKind}{xt yt:TypeId}(hx:evo env x=some (.int k a))(hy:evo env y=some (.int k b))(hn:Nat.ble (d+1) n.k=true)(h:VL P m n B w0 ops Q rest ((d,.int k (bits .andNot k a b))::env) H):
 VL P m n B w0 ops Q (⟨some d,.binOp .andNot xt x y yt,ty,pos,after,none⟩::rest) env H:=Y7 hx hy hn (λ_=>rfl) (λ_=>by rw[show binOp .andNot xt (.int k a) (.int k b)=Op.intBits .andNot k a b by simp[binOp]];rfl) h
end
end Go.Eng
namespace Go.Proofs.YtaholidehobiiaaGreatDoor
open Go.RowKit Go.Eng Go.Nw Go.Rt
def pow1(o:Int):Int:=IntKind.i64.wrap (1*2^o.toNat)
theorem Yrp{o:Int}(h:0<=o/\o<=16):1<=pow1 o/\pow1 o<=65536:=by
 have key:∀n:Nat,n<17->1<=IntKind.i64.wrap (1*2^n)/\IntKind.i64.wrap (1*2^n)<=65536:=by decide+kernel
 exact key o.toNat (by omega)
def Q3(m:List Int)(c:Cel):List Int:=m.set c.1.toNat (bits .andNot .i64 (m.getD c.1.toNat 0) (pow1 c.2.1))
def V3(s:Sch):List Int:=s.cells.foldl Q3 (List.replicate s.len.toNat (pow1 s.off-1))
def Jy(s:Sch):List Int×Int:=if Xz s=false then([],1)else(V3 s,0)
theorem Yps(m:List Int)(c:Cel):(Q3 m c).length=m.length:=Rh
theorem U4:∀(cs:List Cel) (m:List Int),(cs.foldl Q3 m).length=m.length
 |[],_=>rfl
 |c::cs,m=>by rw[Na,U4 cs,Yps]
variable {a b:Int}
theorem Yrq{n i:Nat}(h:i<n):(List.replicate i a++List.replicate (n-i) b).set i a=List.replicate (i+1) a++List.replicate (n-(i+1)) b:=by
 obtain⟨k,rfl⟩:∃k,n=i+(k+1):=⟨n-i-1,by omega⟩
 rw[show i+(k+1)-i=k+1 by omega,show i+(k+1)-(i+1)=k by omega,NX _ _ (by simp),Rw,Nb,Nn,Nv,List.replicate_succ' (n:=i),TX];rfl
theorem YpN(n:Nat)(x:Int):(List.replicate 0 x++List.replicate (n-0) 0).flatMap numF=List.replicate n (Value.int .i64 0):=by
 rw[N7,TK,Nat.sub_zero]
 induction n with
 |zero=>rfl
 |succ n ih=>rw[Nn,TR,ih,Nn];rfl
variable {B:Nat}{w0 w:World}{H:List HP}
theorem YhY(s:SchM)(ht:TabsB B w0)(hr:Rd B w0 H s.A (s.cells.flatMap celF))(hl:s.cells.length<=1000000000000)(hw:St B w0 H w):
 Calls Tryz.prog 192 [s.val].toArray w (Post B w0 λv K=>v=.bool (Xz s.sch)/\K=H):=by
 refine Yc Tryz.func192 Tryz.ntmps192 rfl rfl hw ?_
 have p1:=λ{H':List HP}{w:World}(hr:Rd B w0 H' s.A (s.cells.flatMap celF)) (hw:St B w0 H' w)=>Wx s ht hr hl hw
 unfold SchM.val at p1⊢
 repeat'(first|refine zgb ?_|(refine zgh ?_;intro _)|fail)
 first|apply Ya en40|apply Yb en40
 exact za
 exact rfl
 exactλ_ hw=>(p1 hr.cons hw)
 cases hf:Xz s.sch with
 |false=>
  rw[show(XO s.sch).2=1 by unfold XO;rw[hf,Tm rfl]]
  repeat'(first|refine zgc ?_|(refine zge ?_ ?_<;>intro _<;>try exact zo)|fail)
  apply Yj H
  ·exact zk
  apply Yd;exact rfl;exact rfl;exact⟨rfl,rfl⟩
 |true=>
  rw[show(XO s.sch).2=0 by unfold XO;rw[hf,Td (by decide)]]
  repeat'(first|refine zgc ?_|(refine zge ?_ ?_<;>intro _<;>try exact zo)|fail)
  apply Yj H
  ·exact zk
  apply Yd;exact rfl;exact rfl;exact⟨rfl,rfl⟩
theorem Yj1(s:SchM)(hf:Frm s.sch)(hr:Rd B w0 H s.A (s.cells.flatMap celF))(hw:St B w0 H w):
 Calls Tryz.prog 193 [s.val].toArray w (Post B w0 λv K=>∃g,v=.slice (some ⟨g,0,none⟩) (V3 s.sch).length (V3 s.sch).length/\K=nrs (some ⟨g,0,none⟩) (V3 s.sch).length (V3 s.sch)::H):=by
 refine Yc Tryz.func193 Tryz.ntmps193 rfl rfl hw ?_
 have hsz:1<=s.len/\s.len<=512/\1<=s.off/\s.off<=16:=Rm hf.sized
 have hp:=Yrp (o:=s.off) ⟨by omega,hsz.2.2.2⟩
 have hcl:s.cells.length<=512:=hf.few
 obtain⟨n,hn⟩:∃n:Nat,s.len=n:=⟨s.len.toNat,by omega⟩
 have hp2:1<=IntKind.i64.wrap (1*2^s.off.toNat)/\IntKind.i64.wrap (1*2^s.off.toNat)<=65536:=hp
 have hm0:List.replicate s.sch.len.toNat (pow1 s.sch.off-1)=List.replicate n (IntKind.i64.wrap (1*2^s.off.toNat)-1):=by
  show List.replicate s.len.toNat _=_
  rw[hn,RZ];rfl
 have hml:(V3 s.sch).length=n:=by
  unfold V3
  rw[U4,hm0,Rw]
 unfold SchM.val
 rw[hn]
 repeat'(first|(apply Yg1 T;(iterate 3 exact rfl);exact zi3;(iterate 3 exact rfl);omega;intro _)|refine zgb ?_|(refine zgh ?_;intro _)|fail)
 rename_i gs g
 simp only[RZ]
 refine Yi (λi:Nat=>[(12,.int .i64 (i:Nat)),(11,.int .i64 (n:Nat)),(3,.slice (some ⟨g,0,none⟩) n n),(1,.pointer (some ⟨gs,0,none⟩))])
  (λi=>sl 3 1 (some ⟨g,0,none⟩) n n ((List.replicate i (IntKind.i64.wrap (1*2^s.off.toNat)-1)++List.replicate (n-i) 0).flatMap numF)::blk gs (.cells #[.int .i64 (n:Nat),.int .i64 s.off,.slice s.A s.cells.length s.cap] 37 (0,0))::H) (λi=>i<=n) (λi=>n-i) 0 (Tu _) ?_ ?_ ?_
 ·exact zu
 ·have e0:=YpN n (IntKind.i64.wrap (1*2^s.off.toNat)-1)
  rw[e0]
  exact zk
 rintro i hi K hK
 by_cases hlt:i<n
 ·have hL:(List.replicate i (IntKind.i64.wrap (1*2^s.off.toNat)-1)++List.replicate (n-i) 0).length=n:=by
   rw[Tj,Rw,Rw];omega
  repeat'(first|(apply XB T (f:=numF) (l:=List.replicate i (IntKind.i64.wrap (1*2^s.off.toNat)-1)++List.replicate (n-i) 0) (i:=(i:Int).toNat) (a:=IntKind.i64.wrap (1*2^s.off.toNat)-1);(iterate 3 exact rfl);exact zd;exact rfl;exactλ_=>rfl;exact rfl;omega)|refine zgd ?_|(refine zge ?_ ?_<;>intro _<;>try exact zo)|fail)
  rw[RZ,Yrq hlt]
  apply hK (i+1)
  ·show i+1<=n;omega
  ·omega
  ·exact zu
  ·exact zk
 obtain rfl:i=n:=by omega
 rw[Nb,N7,TM]
 clear hK
 repeat'(first|refine zgc ?_|(refine zge ?_ ?_<;>intro _<;>try exact zo)|fail)
 refine Yi (λj:Nat=>[(26,.int .i64 (j:Nat)),(25,.int .i64 s.cells.length),(24,.slice s.A s.cells.length s.cap),(3,.slice (some ⟨g,0,none⟩) i i),(1,.pointer (some ⟨gs,0,none⟩))])
  (λj=>sl 3 1 (some ⟨g,0,none⟩) i i (((s.cells.take j).foldl Q3 (List.replicate i (IntKind.i64.wrap (1*2^s.off.toNat)-1))).flatMap numF)::blk gs (.cells #[.int .i64 (i:Nat),.int .i64 s.off,.slice s.A s.cells.length s.cap] 37 (0,0))::H) (λj=>j<=s.cells.length) (λj=>s.cells.length-j) 0 (Tu _) ?_ ?_ ?_
 ·exact zu
 ·rw[Nl,List.foldl_nil]
  exact zk
 rintro j hj K hK
 by_cases hlt2:j<s.cells.length
 rotate_left
 ·obtain rfl:j=s.cells.length:=by omega
  rw[TY]
  clear hK
  repeat'(first|refine zgc ?_|(refine zge ?_ ?_<;>intro _<;>try exact zo)|fail)
  apply Yj (nrs (some ⟨g,0,none⟩) (V3 s.sch).length (V3 s.sch)::H)
  ·unfold nrs
   rw[hml]
   unfold V3
   rw[hm0,show s.sch.cells=s.cells from rfl]
   exact zk
  apply Yd;exact rfl;exact rfl
  exact⟨g,by rw[hml],rfl⟩
 obtain⟨c,hc⟩:∃c,s.cells[j]? =some c:=⟨_,Ta hlt2⟩
 obtain⟨m,hm⟩:∃m,(s.cells.take j).foldl Q3 (List.replicate i (IntKind.i64.wrap (1*2^s.off.toNat)-1))=m:=⟨_,rfl⟩
 have hmn:m.length=i:=by rw[<-hm,U4,Rw]
 have hnext:(s.cells.take (j+1)).foldl Q3 (List.replicate i (IntKind.i64.wrap (1*2^s.off.toNat)-1))=Q3 m c:=by
  rw[TF,hc,List.foldl_append,hm];rfl
 rw[hm]
 have hform:=hf.formed c (Tf hc)
 unfold ZT ZC insE at hform
 simp only[To,Tq]at hform
 have hc1:0<=c.1/\c.1<i:=by have:=hform.1.1.1.1;have e:s.sch.len=i:=hn;omega
 have hc2:0<=c.2.1/\c.2.1<16:=by have:=hform.1.1.1.2;have e:s.sch.off=s.off:=rfl;omega
 obtain⟨v,hv⟩:∃v,m[c.1.toNat]? =some v:=⟨_,Ta (by omega)⟩
 have hmc:Q3 m c=m.set c.1.toNat (bits .andNot .i64 v (IntKind.i64.wrap (1*2^c.2.1.toNat))):=by
  unfold Q3;rw[Tt,hv];rfl
 repeat'(first|refine zgd ?_|(refine zge ?_ ?_<;>intro _<;>try exact zo)|(refine zgh ?_;intro _)|fail)
 apply Xv [0,1,2,3,4,5,6,7,8,9] [10]
 kernel_rfl
 kernel_rfl
 (simp only[Yg,nthO];rfl)
 (simp only[Yg,nthO];rfl)
 repeat'(first|(apply XB T (f:=numF) (l:=m) (i:=c.1.toNat) (a:=bits .andNot .i64 v (IntKind.i64.wrap (1*2^c.2.1.toNat)));(iterate 3 exact rfl);exact zd;exact rfl;exactλ_=>rfl;exact rfl;omega)|(apply Yl7;(iterate 3 exact rfl))|refine zgd ?_|fail)
 rw[<-hmc,<-hnext]
 apply hK (j+1)
 ·show j+1<=_;omega
 ·omega
 ·exact zu
 ·exact zk
theorem Yek(s:SchM)(ht:TabsB B w0)(hr:Rd B w0 H s.A (s.cells.flatMap celF))(hl:s.cells.length<=1000000000000)(hw:St B w0 H w):
 Calls Tryz.prog 88 [s.val].toArray w (Post B w0 λv K=>∃A,v=.tuple #[.slice A (Jy s.sch).1.length (Jy s.sch).1.length,.int .i64 (Jy s.sch).2]/\K=nrs A (Jy s.sch).1.length (Jy s.sch).1::H):=by
 refine Yc Tryz.func88 Tryz.ntmps88 rfl rfl hw ?_
 have p1:=λ{H':List HP}{w:World}(hr:Rd B w0 H' s.A (s.cells.flatMap celF)) (hw:St B w0 H' w)=>YhY s ht hr hl hw
 have p2:=λ(hf:Frm s.sch) {H':List HP}{w:World}(hr:Rd B w0 H' s.A (s.cells.flatMap celF)) (hw:St B w0 H' w)=>Yj1 s hf hr hw
 unfold SchM.val at p1 p2⊢
 repeat'(first|refine zgb ?_|(refine zgh ?_;intro _)|fail)
 first|apply Ya YrU|apply Yb YrU
 exact za
 exact rfl
 exactλ_ hw=>(p1 hr.cons hw)
 cases hf:Xz s.sch with
 |false=>
  rw[show Jy s.sch=([],1) by unfold Jy;rw[hf,Tm rfl]]
  repeat'(first|refine zgd ?_|fail)
  apply Yj (nrs none 0 []::H)
  ·intro w hw
   have h5:St B w0 H w:=by
    revert w
    exact zk
   exact h5.nilSlice _ _
  apply Yp;(iterate 3 exact rfl);exact⟨none,rfl,rfl⟩
 |true=>
  rw[show Jy s.sch=(V3 s.sch,0) by unfold Jy;rw[hf,Td (by decide)]]
  repeat'(first|refine zgd ?_|fail)
  apply Yh _ YtD
  exact za
  exact rfl
  exactλ_ hw=>(p2 (ZJ.1 hf) hr.cons (hw))
  rintro _ _ ⟨g,rfl,rfl⟩
  repeat'(first|refine zga ?_|fail)
  apply Yj (nrs (some ⟨g,0,none⟩) (V3 s.sch).length (V3 s.sch)::H)
  ·exact zk
  apply Yp;(iterate 3 exact rfl);exact⟨_,rfl,rfl⟩
structure Pln where
 n:Net
 q:List Rqs
 s:Sch
 c:List Clm
 f:List Int
noncomputable def V9(n:Net)(f:Flw):Rqs×Int:=
 if(Z5 n f.2.1 f.2.2.1).2≠0 then(YlZ,(Z5 n f.2.1 f.2.2.1).2)else((f,[(Z5 n f.2.1 f.2.2.1).1]),0)
noncomputable def WP(n:Net)(f:Flw):Option (List Int×List Int)×Int:=(Ya0 100000 n f.2.1 f.2.2.1).getD (none,0)
noncomputable def reqE(n:Net)(f:Flw):Rqs×Int:=
 match(WP n f).1 with
 |some pq=>((f,[pq.1,pq.2]),0)
 |none=>V9 n f
noncomputable def Ydp(n:Net)(l:List Flw):Int×Int:=YH (λi=>(reqE n (Y9 l i)).2) l.length 0
noncomputable def JZ(n:Net)(l:List Flw):List Rqs×(Int×Int):=
 if Yq n≠0 then([],(-1,1))else if(YE n.nodes l).2≠0 then([],YE n.nodes l)
 else if(Ydp n l).2≠0 then([],Ydp n l)else(l.map λf=>(reqE n f).1,(-1,0))
def Xr(a b:Int):Int:=if a=0 then b else a
def Ob(n:Net)(q:List Rqs)(s:Sch)(e:Int):Int:=if e≠0 then e else Xr (YT n q s).2.2 (Jy s).2
def finE(n:Net)(q:List Rqs)(s:Sch)(e:Int):Option Pln×Int:=
 if Ob n q s e≠0 then(none,Ob n q s e)else(some ⟨n,q,s,(YT n q s).1,(Jy s).1⟩,0)
noncomputable def lowQ(n:Net)(at_:List Int)(q:List Rqs)(i:Nat):Rqs:=if(i:Int)∈at_ then rqAt q i else(V9 n (rqAt q i).1).1
noncomputable def lowL(n:Net)(at_:List Int)(q:List Rqs):List Rqs:=(List.range q.length).map (lowQ n at_ q)
noncomputable def lowB(n:Net)(at_:List Int)(q:List Rqs):Bool:=(List.range q.length).all λi=>decide ((i:Int)∈at_)||decide ((V9 n (rqAt q i).1).2=0)
def fin2(n:Net)(q:List Rqs)(s:Sch)(e:Int):Option Pln×Int:=
 if e=0 then finE n q (WT n q s).1 (WT n q s).2 else(none,e)
noncomputable def fin3(n:Net)(q:List Rqs)(len off e:Int):Option Pln×Int:=
 if(Xb n q len off).1.2.length=q.length then fin2 n q (Xb n q len off).1.1 (Xr e (Xb n q len off).2)
 else(none,Xr (Xr e (Xb n q len off).2) 18)
noncomputable def Yau(n:Net)(q:List Rqs)(len off:Int):Option Pln×Int:=
 if(Xb n q len off).1.2.length=q.length then fin2 n q (Xb n q len off).1.1 (Xb n q len off).2
 else if lowB n (Xb n q len off).1.2 q=false then(none,Xr (Xb n q len off).2 18)
 else fin3 n (lowL n (Xb n q len off).1.2 q) len off (Xb n q len off).2
def perB(l:List Flw)(len:Int):Bool:=l.any λf=>decide (len.tmod f.2.2.2.1≠0)
noncomputable def Ybv(n:Net)(l:List Flw)(len off:Int):Option Pln×Int:=
 if Yq n≠0\/(YE n.nodes l).2≠0 then(none,1)else if len<1\/512<len\/off<1\/16<off then(none,2)
 else if perB l len=true then(none,11)else if(JZ n l).2.2≠0 then(none,(JZ n l).2.2)
 else Yau n (JZ n l).1 len off
def chkP(p:Pln):Int:=
 if Yq p.n≠0 then 1 else if(YT p.n p.q p.s).2.2=15\/(YT p.n p.q p.s).2.2=1/\(YT p.n p.q p.s).2.1<0 then 18
 else if(YT p.n p.q p.s).2.2≠0 then 1 else if(chkE p.n p.q p.s p.c).2≠0 then 20
 else if(Jy p.s).2≠0\/(Jy p.s).1≠p.f then 11 else 0
def idQ(q:List Rqs)(id:Int):Int:=Yn (λx:Rqs=>decide (x.1.1=id)) q 0
def delQ(q:List Rqs)(i:Nat):List Rqs:=q.take i++q.drop (i+1)
def wdrP(p:Pln)(id:Int):Option Pln×Int:=
 if chkP p≠0 then(none,1)else if idQ p.q id<0 then(none,7)else finE p.n (delQ p.q (idQ p.q id).toNat) (QN p.s id).1 (QN p.s id).2
end Go.Proofs.YtaholidehobiiaaGreatDoor
namespace Go.Rt
open Go.Nw
def sumW(w:Int->Nat)(far:List Int):Nat:=(far.map w).sum
theorem YdH{w:Int->Nat}{x:Int}:∀{far:List Int}{i:Nat},i<far.length->sumW w (far.set i x)+w (far.getD i 0)=sumW w far+w x
 |[],_,h=>by simp at h
 |a::l,0,_=>by
  grind [sumW]
 |a::l,i+1,h=>by
  have:=YdH (w:=w) (x:=x) (far:=l) (i:=i) (by simp_all)
  grind [sumW]
theorem YgH{w:Int->Nat}{K:Nat}(h:∀x,w x<=K):∀far:List Int,sumW w far<=far.length*K
 |[]=>by simp[sumW]
 |a::l=>by
  have h1:=YgH h l
  have e:(a::l).length*K=l.length*K+K:=by grind
  grind [sumW]
def fin1(x:Int):Nat:=if x<YK then 1 else 0
def cnt(far:List Int):Nat:=sumW fin1 far
theorem Yjx(far:List Int):cnt far<=far.length:=by
 have:=YgH (w:=fin1) (K:=1) (λx=>by grind [fin1]) far
 grind [cnt]
theorem Q5:YK=1073741824:=rfl
def Ed8(sides:Nat)(es:List Ed):Prop:=∀e∈es,(0<=e.f/\e.f<sides)/\(0<=e.t/\e.t<sides)/\(-8<=e.c/\e.c<=8)
def PotE(es:List Ed)(π:Int->Int):Prop:=∀e∈es,0<e.r->π e.t<=π e.f+e.c
def Imp(e:Ed)(far:List Int):Prop:=0<e.r/\Yf far e.f<YK/\Yf far e.f+e.c<Yf far e.t
structure RelG(sides:Nat)(lo:Int->Int)(st:UH):Prop where
 l1:st.1.length=sides
 l2:st.2.1.length=sides
 lo_:∀v:Int,0<=v->v<sides->lo v<=Yf st.1 v
 hi:∀v:Int,0<=v->v<sides->Yf st.1 v<YK->Yf st.1 v<=8*(cnt st.1:Int)
 top:∀v:Int,0<=v->v<sides->Yf st.1 v<=YK
def Ycx(sides:Nat)(L x:Int):Nat:=(min x (8*(sides:Int)+1)-L).toNat
def mes(sides:Nat)(L:Int)(far:List Int):Nat:=sumW (Ycx sides L) far
variable {sides n:Nat}{es:List Ed}{lo:Int->Int}{L s v x i w:Int}
theorem Yfn{st:UH}{e:Ed}(i:Nat)(hs:sides<=1000)(hes:Ed8 sides es)(hp:PotE es lo)(hL:∀v:Int,0<=v->v<sides->L<=lo v)(he:e∈es)(h:RelG sides lo st):
 RelG sides lo (Xs i e st)/\((Xs i e st=st/\¬Imp e st.1)\/((Xs i e st).2.2=true/\mes sides L (Xs i e st).1+1<=mes sides L st.1)):=by
 obtain⟨⟨e1,e2⟩,⟨e3,e4⟩,⟨e5,e6⟩⟩:=hes e he
 have hn:=Q5
 unfold Xs
 split
 ·rename_i hc
  obtain⟨c1,c2,c3⟩:=hc
  obtain⟨far,by_,ag⟩:=st
  obtain⟨l1,l2,hlo,hhi,htop⟩:=h
  simp only at*
  have hlt:e.t.toNat<far.length:=by omega
  have hself:=Zk (far:=far) (i:=e.t) (x:=Yf far e.f+e.c) hlt
  have hoth:∀v:Int,0<=v->v≠e.t->Yf (far.set e.t.toNat (Yf far e.f+e.c)) v=Yf far v:=by grind [Xx]
  have hf1:=hlo e.f e1 e2
  have hf2:=hhi e.f e1 e2 c2
  have ht1:=htop e.t e3 e4
  have hpe:=hp e he c1
  have hLt:=hL e.t e3 e4
  have hcs:=YdH (w:=fin1) (x:=Yf far e.f+e.c) hlt
  have hms:=YdH (w:=Ycx sides L) (x:=Yf far e.f+e.c) hlt
  have hgd:far.getD e.t.toNat 0=Yf far e.t:=rfl
  rw[hgd]at hcs hms
  have hcl:=Yjx far
  have hcl2:=Yjx (far.set e.t.toNat (Yf far e.f+e.c))
  rw[Rh]at hcl2
  have hx:fin1 (Yf far e.f+e.c)=1:=by unfold fin1;grind
  rw[hx]at hcs
  have hcs':cnt (far.set e.t.toNat (Yf far e.f+e.c))+fin1 (Yf far e.t)=cnt far+1:=hcs
  have hnew:Yf far e.f+e.c<=8*(cnt (far.set e.t.toNat (Yf far e.f+e.c)):Int)/\cnt far<=cnt (far.set e.t.toNat (Yf far e.f+e.c)):=by
   by_cases hfin:Yf far e.t<YK
   ·have:=hhi e.t e3 e4 hfin
    have h1:fin1 (Yf far e.t)=1:=by simp_all [fin1]
    omega
   ·have h1:fin1 (Yf far e.t)=0:=by simp_all [fin1]
    omega
  have hdown:Ycx sides L (Yf far e.f+e.c)+1<=Ycx sides L (Yf far e.t):=by
   unfold Ycx
   omega
  refine⟨⟨by simp_all,by simp_all,?_,?_,?_⟩,.inr ⟨trivial,by grind [mes]⟩⟩
  all_goals grind
 ·rename_i hc
  exact⟨h,.inl ⟨rfl,λhi=>hc hi⟩⟩
theorem Yad{sides:Nat}{es:List Ed}{lo:Int->Int}{L:Int}(hs:sides<=1000)(hes:Ed8 sides es)(hp:PotE es lo)(hL:∀v:Int,0<=v->v<sides->L<=lo v):∀(l:List Ed) (i:Nat) (st:UH),(∀e∈l,e∈es)->RelG sides lo st->
 RelG sides lo (YN i l st)/\mes sides L (YN i l st).1<=mes sides L st.1/\((YN i l st).2.2=false->YN i l st=st/\∀e∈l,¬Imp e st.1)/\(st.2.2=false->(YN i l st).2.2=true->mes sides L (YN i l st).1+1<=mes sides L st.1)
 |[],_,st,_,h=>⟨h,TL _,λ_=>⟨rfl,λe he=>by cases he⟩,λh1 h2=>by grind [YN]⟩
 |e::l,i,st,hl,h=>by
  obtain⟨h1,h2⟩:=Yfn i hs hes hp hL (hl e TA) h
  obtain⟨g1,g2,g3,g4⟩:=Yad hs hes hp hL l (i+1) (Xs i e st) (λx hx=>hl x (TB _ hx)) h1
  refine⟨g1,?_,?_,?_⟩
  ·grind [YN]
  ·intro hf
   have hf':(YN (i+1) l (Xs i e st)).2.2=false:=hf
   rcases h2 with⟨h2,h3⟩|⟨h2,_⟩
   ·all_goals grind [YN]
   simp_all
  grind [YN]
theorem YaS{sides:Nat}{es:List Ed}{lo:Int->Int}{L:Int}(hs:sides<=1000)(hes:Ed8 sides es)(hp:PotE es lo)(hL:∀v:Int,0<=v->v<sides->L<=lo v)
 (I:List Int->List Int->Prop) (hI:∀i e st,es[i]? =some e->RelG sides lo st->I st.1 st.2.1->I (Xs i e st).1 (Xs i e st).2.1):∀(k:Nat) (far by_:List Int),RelG sides lo (far,by_,false)->I far by_->mes sides L far<k->
 ∃r,Oo k es far by_=some r/\RelG sides lo (r.1,r.2,false)/\I r.1 r.2/\∀e∈es,¬Imp e r.1
 |0,_,_,_,_,h=>by omega
 |k+1,far,by_,hG,hi,hk=>by
  have hpI:∀(l:List Ed) (i:Nat) (st:UH),(∀j e,l[j]? =some e->es[i+j]? =some e)->RelG sides lo st->I st.1 st.2.1->I (YN i l st).1 (YN i l st).2.1:=by
   intro l
   induction l with
   |nil=>exactλ_ _ _ _ h=>h
   |cons e l ih=>
    intro i st hj hG hi
    have h0:es[i]? =some e:=hj 0 e rfl
    refine ih (i+1) _ (λj x hx=>?_) (Yfn i hs hes hp hL (Tf h0) hG).1 (hI i e st h0 hG hi)
    have:=hj (j+1) x hx
    grind
  obtain⟨g1,g2,g3,g4⟩:=Yad hs hes hp hL es 0 (far,by_,false) (λ_ h=>h) hG
  have g5:=hpI es 0 (far,by_,false) (λj e h=>by simp_all) hG hi
  unfold Oo
  obtain⟨⟨f2,b2,ag⟩,hst⟩:∃st,YN 0 es (far,by_,false)=st:=⟨_,rfl⟩
  rw[hst]at g1 g2 g3 g4 g5⊢
  simp only at g1 g2 g3 g4 g5⊢
  cases ag with
  |true=>
   have:=g4 trivial rfl
   exact YaS hs hes hp hL I hI k f2 b2 ⟨g1.l1,g1.l2,g1.lo_,g1.hi,g1.top⟩ g5 (by omega)
  |false=>
   simp_all
variable {far by_:List Int}
theorem YsZ(hl:far.length=sides)(hL:L<=0):mes sides L far<=sides*(8*sides+1+L.natAbs):=by
 have:=YgH (w:=Ycx sides L) (K:=8*sides+1+L.natAbs) (λx=>by grind [Ycx]) far
 rw[hl]at this
 exact this
inductive Chain (es:List Ed) (by_:List Int) (s:Int) (T:Ed->Prop):Int->Nat->Prop
 |here:Chain es by_ s T s 0
 |step {v:Int}{n:Nat}{e:Ed}(hne:v≠s) (h0:0<=Yf by_ v) (hi:es[(Yf by_ v).toNat]? =some e) (ht:e.t=v) (hr:0<e.r) (hT:T e) (h:Chain es by_ s T e.f n):Chain es by_ s T v (n+1)
variable {T:Ed->Prop}
theorem Chain.imp{T':Ed->Prop}(hT:∀e∈es,0<e.r->T e->T' e)(h:Chain es by_ s T v n):Chain es by_ s T' v n:=by
 induction h with
 |here=>exact .here
 |step hne h0 hi ht hr hTe _ ih=>exact .step hne h0 hi ht hr (hT _ (Tf hi) hr hTe) ih
theorem Chain.uniq{m:Nat}(h:Chain es by_ s T v n)(h':Chain es by_ s T v m):n=m:=by
 induction h generalizing m with
 |here=>
  cases h' with
  |here=>rfl
  |step hne=>omega
 |step hne h0 hi ht hr hT _ ih=>
  cases h' with
  |here=>omega
  |step hne' h0' hi' ht' hr' hT' h'=>
   grind
theorem Chain.nodes(h:Chain es by_ s T v n):∃L:List Int,L.length=n/\L.Nodup/\∀x∈L,(∃e∈es,e.t=x)/\∃m,m<=n/\Chain es by_ s T x m:=by
 induction h with
 |here=>simp_all
 |@step v n e hne h0 hi ht hr hT h ih=>
  obtain⟨L,h1,h2,h3⟩:=ih
  refine⟨v::L,by simp[h1],SH.2 ⟨λhv=>?_,h2⟩,λx hx=>?_⟩
  ·obtain⟨_,m,hm,hc⟩:=h3 v hv
   have:=Chain.uniq hc (.step hne h0 hi ht hr hT h)
   omega
  ·rcases TN.1 hx with rfl|hx
   ·exact⟨⟨e,Tf hi,ht⟩,n+1,TL _,.step hne h0 hi ht hr hT h⟩
   grind
theorem nodup_len:∀(k:Nat) (L:List Int),L.Nodup->(∀x∈L,0<=x/\x<k)->L.length<=k
 |0,L,_,h=>by
  cases L with
  |nil=>simp_all
  |cons a l=>grind [TA]
 |k+1,L,hn,h=>by
  have h1:=nodup_len k (L.erase (k:Int)) (hn.erase _) λx hx=>by
   grind
  grind
theorem Chain.len(hes:Ed8 sides es)(h:Chain es by_ s T v n):n<=sides:=by
 obtain⟨L,h1,h2,h3⟩:=h.nodes
 rw[<-h1]
 refine nodup_len sides L h2 λx hx=>?_
 obtain⟨⟨e,he,rfl⟩,_⟩:=h3 x hx
 exact(hes e he).2.1
def Tle(far:List Int)(e:Ed):Prop:=Yf far e.f<YK/\Yf far e.f+e.c<=Yf far e.t
structure RelC(sides:Nat)(es:List Ed)(s:Int)(far by_:List Int):Prop where
 s0:Yf far s=0
 ch:∀v:Int,0<=v->v<sides->Yf far v<YK->∃n,Chain es by_ s (Tle far) v n
theorem Yju(hes:Ed8 sides es)(hp:PotE es lo)(hv0:0<=v)(hlt:v.toNat<far.length)(hx:x<=Yf far v)(h:Chain es by_ s (Tle far) w n)(hd:Yf far w-lo w<Yf far v-lo v):Chain es (by_.set v.toNat i) s (Tle (far.set v.toNat x)) w n:=by
 induction h with
 |here=>exact .here
 |@step w n e hne h0 hi ht hr hT h ih=>
  obtain⟨⟨e1,e2⟩,⟨e3,e4⟩,_⟩:=hes e (Tf hi)
  have hwv:w≠v:=by grind
  have hpe:=hp e (Tf hi) hr
  obtain⟨t1,t2⟩:=hT
  have hby:Yf (by_.set v.toNat i) e.t=Yf by_ e.t:=Xx (by omega)
  have hft:Yf (far.set v.toNat x) e.t=Yf far e.t:=Xx (by omega)
  have hff:Yf (far.set v.toNat x) e.f<=Yf far e.f:=by
   by_cases hfv:e.f=v
   ·grind
   ·rw[Xx (by omega)];omega
  subst ht
  exact .step hne (by omega) (by simp_all) rfl hr ⟨by omega,by omega⟩ (ih (by omega))
theorem Ymy(hes:Ed8 sides es)(hv0:0<=v)(hlt:v.toNat<far.length)(hx:x<=Yf far v)(hnew:∃k,Chain es (by_.set v.toNat i) s (Tle (far.set v.toNat x)) v k)(h:Chain es by_ s (Tle far) w n):∃k,Chain es (by_.set v.toNat i) s (Tle (far.set v.toNat x)) w k:=by
 induction h with
 |here=>exact⟨0,.here⟩
 |@step w n e hne h0 hi ht hr hT h ih=>
  by_cases hwv:w=v
  ·simp_all
  obtain⟨⟨e1,e2⟩,⟨e3,e4⟩,_⟩:=hes e (Tf hi)
  obtain⟨k,hk⟩:=ih
  obtain⟨t1,t2⟩:=hT
  have hby:Yf (by_.set v.toNat i) e.t=Yf by_ e.t:=Xx (by omega)
  have hft:Yf (far.set v.toNat x) e.t=Yf far e.t:=Xx (by omega)
  have hff:Yf (far.set v.toNat x) e.f<=Yf far e.f:=by
   by_cases hfv:e.f=v
   ·grind [Zk]
   ·rw[Xx (by omega)];omega
  subst ht
  exact⟨k+1,.step hne (by omega) (by simp_all) rfl hr ⟨by omega,by omega⟩ hk⟩
theorem Yfm(hes:Ed8 sides es)(hp:PotE es lo)(hs:0<=s/\s<sides)(hlo:lo s=0)(i:Nat)(e:Ed)(st:UH)(hi:es[i]? =some e)(hG:RelG sides lo st)(h:RelC sides es s st.1 st.2.1):RelC sides es s (Xs i e st).1 (Xs i e st).2.1:=by
 have he:=Tf hi
 obtain⟨⟨e1,e2⟩,⟨e3,e4⟩,⟨e5,e6⟩⟩:=hes e he
 unfold Xs
 split
 ·rename_i hc
  obtain⟨c1,c2,c3⟩:=hc
  obtain⟨far,by_,ag⟩:=st
  simp only at*
  have hl1:far.length=sides:=hG.l1
  have hl2:by_.length=sides:=hG.l2
  have hlt:e.t.toNat<far.length:=by omega
  have hlt2:e.t.toNat<by_.length:=by omega
  have hpe:=hp e he c1
  have hff:=hG.lo_ e.f e1 e2
  have hts:e.t≠s:=by grind [Go.Rt.RelC.s0]
  have hself:=Zk (far:=far) (i:=e.t) (x:=Yf far e.f+e.c) hlt
  have hef:e.f≠e.t:=by grind
  have hfo:Yf (far.set e.t.toNat (Yf far e.f+e.c)) e.f=Yf far e.f:=Xx (by omega)
  obtain⟨n,hn⟩:=h.ch e.f e1 e2 c2
  have hk:=Yju (i:=(i:Int)) hes hp e3 hlt (x:=Yf far e.f+e.c) (by omega) hn (by omega)
  have hbs:Yf (by_.set e.t.toNat (i:Int)) e.t=i:=Zk hlt2
  have hnew:Chain es (by_.set e.t.toNat (i:Int)) s (Tle (far.set e.t.toNat (Yf far e.f+e.c))) e.t (n+1):=
   .step hts (by omega) (by simp_all) rfl c1 ⟨by omega,by omega⟩ hk
  refine⟨?_,λv h0 h1 h2=>?_⟩
  ·rw[Xx (by omega)];exact h.s0
  ·by_cases hv:v=e.t
   ·grind
   ·rw[Xx (by omega)]at h2
    obtain⟨m,hm⟩:=h.ch v h0 h1 h2
    exact Ymy hes e3 hlt (by omega) ⟨n+1,hnew⟩ hm
 omega
structure FA where
 f:Int
 t:Int
 c:Int
 u:Bool
def fwd(x:FA):Ed:=⟨x.f,x.t,x.c,if x.u=true then 0 else 1⟩
def rev(x:FA):Ed:=⟨x.t,x.f,-x.c,if x.u=true then 1 else 0⟩
def YJ:List FA->List Ed
 |[]=>[]
 |x::l=>fwd x::rev x::YJ l
def Va(x:FA):FA:=⟨x.f,x.t,x.c,!x.u⟩
theorem JV:∀(l:List FA) (j:Nat),(YJ l)[2*j]? =(l[j]?).map fwd
 |[],_=>rfl
 |x::l,0=>rfl
 |x::l,j+1=>by
  rw[show 2*(j+1)=2*j+1+1 by omega]
  simp only[YJ,NA,JV l j]
theorem JW:∀(l:List FA) (j:Nat),(YJ l)[2*j+1]? =(l[j]?).map rev
 |[],_=>rfl
 |x::l,0=>rfl
 |x::l,j+1=>by
  rw[show 2*(j+1)+1=2*j+1+1+1 by omega]
  simp only[YJ,NA,JW l j]
theorem YaE:∀(l:List FA) (j:Nat) (y:FA),((YJ l).set (2*j) (fwd y)).set (2*j+1) (rev y)=YJ (l.set j y)
 |[],_,_=>rfl
 |x::l,0,y=>rfl
 |x::l,j+1,y=>by
  rw[show 2*(j+1)+1=2*j+1+1+1 by omega,show 2*(j+1)=2*j+1+1 by omega]
  simp only[YJ,NT,YaE l j y]
theorem OJ{e:Ed}:∀{l:List FA},e∈YJ l->∃x∈l,e=fwd x\/e=rev x
 |x::l,h=>by
  simp only[YJ,TN]at h
  rcases h with h|h|h
  ·simp_all
  ·simp_all
  ·obtain⟨y,hy,h⟩:=OJ h
   grind
theorem VI{x:FA}:∀{l:List FA},x∈l->fwd x∈YJ l/\rev x∈YJ l
 |y::l,h=>by
  simp only[YJ,TN]
  rcases TN.1 h with rfl|h
  ·simp_all
  ·obtain⟨h1,h2⟩:=VI h
   simp_all
def sumI{α:Type}(g:α->Int)(l:List α):Int:=(l.map g).sum
variable {α:Type}
theorem YO(g:α->Int)(a:α)(l:List α):sumI g (a::l)=g a+sumI g l:=by simp[sumI]
theorem Yp5(g:α->Int):sumI g []=0:=rfl
theorem Jo(g:α->Int)(l m:List α):sumI g (l++m)=sumI g l+sumI g m:=by
 grind [sumI]
theorem VM(g:α->Int){l m:List α}(h:l.Perm m):sumI g l=sumI g m:=by
 induction h with
 |nil=>rfl
 |cons a _ ih=>grind [YO]
 |swap a b l=>rw[YO,YO,YO,YO];omega
 |trans _ _ h1 h2=>omega
theorem YdG{α:Type}(g:α->Int){x y:α}:∀{l:List α}{j:Nat},l[j]? =some x->sumI g (l.set j y)=sumI g l-g x+g y
 |[],_,h=>by simp at h
 |a::l,0,h=>by
  obtain rfl:a=x:=by simp_all
  rw[Nv,YO,YO];omega
 |a::l,j+1,h=>by
  have:=YdG g (y:=y) (l:=l) (j:=j) (by simpa using h)
  grind [YO]
theorem Uz{α:Type}{g:α->Int}:∀{l:List α},(∀x∈l,0<=g x)->0<=sumI g l
 |[],_=>SD _
 |a::l,h=>by
  have h2:=Uz (l:=l) λx hx=>h x (TB _ hx)
  grind [YO]
theorem YdF{β:Type}(g:β->Int)(f:α->β)(l:List α):sumI g (l.map f)=sumI (λx=>g (f x)) l:=by
 grind [sumI,Function.comp_def]
abbrev E3:=Int×Int×Int
def Zb(L:List FA):List E3:=L.map λx=>(x.f,x.t,x.c)
def balG(p:Int->Int)(x:FA):Int:=if x.u=true then p x.t-p x.f else 0
def bal(L:List FA)(p:Int->Int):Int:=sumI (balG p) L
def YhE(x:FA):Int:=if x.u=true then x.c else 0
def Uk(L:List FA):Int:=sumI YhE L
variable {L:List FA}{e:Ed}
theorem Yrd{i:Nat}(hi:(YJ L)[i]? =some e)(hr:0<e.r):∃j x,L[j]? =some x/\i/2=j/\twin i<(YJ L).length/\Vp (Vp (YJ L) i (-1)) (twin i) 1=YJ (L.set j (Va x))/\((i=2*j/\x.u=false/\e=fwd x)\/(i=2*j+1/\x.u=true/\e=rev x)):=by
 have hlt:=(Ti.1 hi).1
 rcases Nat.mod_two_eq_zero_or_one i with h|h
 ·obtain⟨j,rfl⟩:∃j,i=2*j:=⟨i/2,by omega⟩
  have ht:twin (2*j)=2*j+1:=by simp_all [twin]
  rw[JV]at hi
  cases hx:L[j]? with
  |none=>simp_all
  |some x=>
   have hu:x.u=false:=by
    cases hu:x.u with
    |false=>rfl
    |true=>grind [fwd]
   have h1:Vp (YJ L) (2*j) (-1)=(YJ L).set (2*j) (fwd (Va x)):=by
    grind [Vp,JV,fwd,Va]
   grind [Va,rev,JW,Vp,YaE]
 ·obtain⟨j,rfl⟩:∃j,i=2*j+1:=⟨i/2,by omega⟩
  have ht:twin (2*j+1)=2*j:=by simp_all [twin]
  rw[JW]at hi
  cases hx:L[j]? with
  |none=>simp_all
  |some x=>
   rw[hx]at hi
   obtain rfl:rev x=e:=Tz hi
   have hu:x.u=true:=by
    cases hu:x.u with
    |true=>rfl
    |false=>grind [rev]
   refine⟨j,x,hx,by omega,by omega,?_,.inr ⟨rfl,hu,rfl⟩⟩
   have h1:Vp (YJ L) (2*j+1) (-1)=(YJ L).set (2*j+1) (rev (Va x)):=by
    grind [Vp,JW,rev,Va]
   have h2:((YJ L).set (2*j+1) (rev (Va x)))[2*j]? =some (fwd x):=by
    grind [JV]
   rw[h1]
   unfold Vp
   rw[<-YaE,List.set_comm _ _ (by omega)]
   grind [fwd,Va]
variable {j m n sides:Nat}{x:FA}
theorem YmJ(hx:L[j]? =some x):Zb (L.set j (Va x))=Zb L:=by
 unfold Zb
 rw[List.map_set]
 apply SJ
 intro i
 by_cases h:j=i
 ·subst h
  have hj:=(Ti.1 hx).1
  rw[Sr (by simp_all),TE,hx];rfl
 simp_all
variable {π:Int->Int}
theorem YpI(_hx:L[j]? =some x)(he:(x.u=false/\e=fwd x)\/(x.u=true/\e=rev x))(hp:PotE (YJ L) π)(ht:π e.f+e.c=π e.t):PotE (YJ (L.set j (Va x))) π:=by
 intro e' he' hr'
 obtain⟨y,hy,h⟩:=OJ he'
 rcases NH hy with hy|rfl
 ·obtain⟨h1,h2⟩:=VI hy
  rcases h with rfl|rfl
  ·exact hp _ h1 hr'
  ·exact hp _ h2 hr'
 grind [fwd,Va,rev]
theorem Yd6{y:FA}(h:m/2≠j):(YJ (L.set j y))[m]? =(YJ L)[m]? :=by
 rcases Nat.mod_two_eq_zero_or_one m with hm|hm
 ·obtain⟨k,rfl⟩:∃k,m=2*k:=⟨m/2,by omega⟩
  grind [JV]
 ·obtain⟨k,rfl⟩:∃k,m=2*k+1:=⟨m/2,by omega⟩
  grind [JW]
variable {by_:List Int}{s v w:Int}
theorem Chain.other{T:Ed->Prop}(hv:Chain (YJ L) by_ s T v (n+1))(hi:(YJ L)[(Yf by_ v).toNat]? =some e)(het:e.t=v)(hx:L[j]? =some x)(_hj:(Yf by_ v).toNat/2=j)(hex:((Yf by_ v).toNat=2*j/\e=fwd x)\/((Yf by_ v).toNat=2*j+1/\e=rev x))(h:Chain (YJ L) by_ s T w m)(hm:m<=n):Chain (YJ (L.set j (Va x))) by_ s T w m:=by
 induction h with
 |here=>exact .here
 |@step w m e' hne h0 hi' ht hr hT h ih=>
  refine .step hne h0 ?_ ht hr hT (ih (by omega))
  rw[Yd6];exact hi'
  intro hjj
  have hfull:Chain (YJ L) by_ s T w (m+1):=.step hne h0 hi' ht hr hT h
  have hwv:w≠v:=by grind [Go.Rt.Chain.uniq]
  by_cases hsame:(Yf by_ w).toNat=(Yf by_ v).toNat
  ·simp_all
  ·rcases hex with⟨h1,rfl⟩|⟨h1,rfl⟩
   ·have h2:(Yf by_ w).toNat=2*j+1:=by omega
    rw[h2,JW,hx]at hi'
    have:(rev x).f=v:=het
    grind [Go.Rt.Chain.uniq]
   ·have h2:(Yf by_ w).toNat=2*j:=by omega
    rw[h2,JV,hx]at hi'
    have:(fwd x).f=v:=het
    grind [Go.Rt.Chain.uniq]
theorem YkZ{by_ far:List Int}{s:Int}{T:Ed->Prop}{π:Int->Int}(hT:∀e,T e->π e.f+e.c=π e.t/\Yf far e.f+e.c=Yf far e.t):∀(n k:Nat) (v:Int) (L:List FA),Chain (YJ L) by_ s T v n->n<k->PotE (YJ L) π->
 ∃L',Ya6 k (YJ L) by_ s v=some (YJ L')/\Zb L'=Zb L/\(∀p,bal L' p=bal L p+(p v-p s))/\Uk L'=Uk L+(Yf far v-Yf far s)/\PotE (YJ L') π
 |_,0,_,_,_,h,_=>by omega
 |0,k+1,v,L,h,_,hp=>by
  cases h
  refine⟨L,by simp_all [Ya6],rfl,λp=>by omega,by omega,hp⟩
 |n+1,k+1,v,L,h,hk,hp=>by
  cases id h with
  |@step _ _ e hne h0 hi ht hr hTe h'=>
   obtain⟨j,x,hx,hj,htw,hmv,hcase⟩:=Yrd hi hr
   obtain⟨t1,t2⟩:=hT e hTe
   have hcase2:(x.u=false/\e=fwd x)\/(x.u=true/\e=rev x):=by
    grind
   have hex:((Yf by_ v).toNat=2*j/\e=fwd x)\/((Yf by_ v).toNat=2*j+1/\e=rev x):=by
    grind
   obtain⟨L',b1,b2,b3,b4,b5⟩:=YkZ hT n k e.f (L.set j (Va x)) (Chain.other h hi ht hx hj hex h' (TL _)) (by omega) (YpI hx hcase2 hp t1)
   refine⟨L',?_,by rw[b2,YmJ hx],λp=>?_,?_,b5⟩
   ·simp_all [Ya6]
   ·have:bal (L.set j (Va x)) p=bal L p+(p e.t-p e.f):=by
     grind [bal,YdG,balG,Va,fwd,rev]
    grind
   ·have:Uk (L.set j (Va x))=Uk L+e.c:=by
     grind [Uk,YdG,YhE,Va,fwd,rev]
    grind
theorem Ymx{es:List Ed}(hp:PotE es π){far:List Int}{D:Int}(_hs:sides<=1000)(h:Chain es by_ s (Tle far) w n)(hd:Yf far w-π w<=D):Chain es by_ s (λe=>Tle far e/\Yf far e.t-π e.t<=D/\Yf far e.f-π e.f<=D) w n:=by
 induction h with
 |here=>exact .here
 |@step w n e hne h0 hi ht hr hT h ih=>
  have hpe:=hp e (Tf hi) hr
  obtain⟨t1,t2⟩:=id hT
  subst ht
  exact .step hne h0 hi rfl hr ⟨hT,hd,by omega⟩ (ih (by omega))
theorem Qq:(Zo sides s).length=sides:=by grind [Zo]
theorem Zu(hs:0<=s/\s<sides)(hv:0<=v/\v<sides):Yf (Zo sides s) v=if v=s then 0 else YK:=by
 unfold Zo
 split
 ·grind [Zk]
 ·rw[Xx (by omega)]
  simp_all [Yf]
structure Yqk(sides:Nat)(L:List FA)(s t x W:Int)(es':List Ed)(L':List FA)(π':Int->Int):Prop where
 es:es'=YJ L'
 ends:Zb L'=Zb L
 bal_:∀p,bal L' p=bal L p+(p t-p s)
 cost:Uk L'=Uk L+x
 pot:PotE (YJ L') π'
 bd:∀v:Int,0<=v->v<sides-> -W<=π' v/\π' v<=3*W+8*sides
structure Yn6(L:List FA)(s t x:Int)(es':List Ed)(R:Int->Bool):Prop where
 es:es'=YJ L
 x0:x=0
 rs:R s=true
 rt:R t=false
 cl:∀e∈YJ L,0<e.r->R e.f=true->R e.t=true
theorem Ygo{fuel:Nat}{t W:Int}(hs:sides<=100)(hes:Ed8 sides (YJ L))(hp:PotE (YJ L) π)(hW:0<=W/\W<=100000)(hb:∀v:Int,0<=v->v<sides-> -W<=π v/\π v<=W)(hs0:0<=s/\s<sides)(ht0:0<=t/\t<sides)(hf:sides*(8*sides+1+(2*W).natAbs)<fuel)(hf2:sides<fuel):
 ∃r,Yby fuel sides (YJ L) s t=some r/\((r.2.1=false/\∃R,Yn6 L s t r.1 r.2.2 R)\/(r.2.1=true/\∃L' π',Yqk sides L s t r.1 W r.2.2 L' π')):=by
 have hn:=Q5
 have hps:=hb s hs0.1 hs0.2
 have hplo:PotE (YJ L) (λv=>π v-π s):=λe he hr=>by have:=hp e he hr;grind
 have hL:∀v:Int,0<=v->v<sides-> -(2*W)<=(λv=>π v-π s) v:=by grind
 have hG:RelG sides (λv=>π v-π s) (Zo sides s,List.replicate sides (-1),false):=by
  refine⟨Qq,Rw,λv h0 h1=>?_,λv h0 h1=>?_,λv h0 h1=>?_⟩
  ·simp only
   rw[Zu hs0 ⟨h0,h1⟩]
   grind
  ·simp only
   rw[Zu hs0 ⟨h0,h1⟩]
   omega
  ·simp only
   rw[Zu hs0 ⟨h0,h1⟩]
   omega
 have hC:RelC sides (YJ L) s (Zo sides s) (List.replicate sides (-1)):=by
  refine⟨by simp_all [Zu],λv h0 h1 h2=>?_⟩
  rw[Zu hs0 ⟨h0,h1⟩]at h2
  by_cases h:v=s
  ·rw[h];exact⟨0,.here⟩
  omega
 have hm:=YsZ (sides:=sides) (L:= -(2*W)) (far:=Zo sides s) Qq (by omega)
 rw[Int.natAbs_neg]at hm
 obtain⟨⟨far,by_⟩,hr,hG2,hC2,hcl⟩:=YaS (by omega) hes hplo hL (RelC sides (YJ L) s) (λi e st hi hG h=>Yfm hes hplo hs0 (Int.sub_self _) i e st hi hG h) fuel _ _ hG hC (by omega)
 simp only at hG2 hC2 hcl
 unfold Yby
 rw[hr]
 simp only
 obtain⟨l1,l2,hlo,hhi,htop⟩:=hG2
 simp only at l1 l2 hlo hhi htop
 have hcn:=Yjx far
 have hfin:∀v:Int,0<=v->v<sides->Yf far v<YK->Yf far v<=8*sides:=by grind
 have hclosed:∀e∈YJ L,0<e.r->Yf far e.f<YK->Yf far e.t<=Yf far e.f+e.c/\Yf far e.t<YK:=by
  intro e he hr hf
  obtain⟨⟨e1,e2⟩,⟨e3,e4⟩,⟨e5,e6⟩⟩:=hes e he
  have h1:=hfin e.f e1 e2 hf
  have h2:Yf far e.t<=Yf far e.f+e.c:=by
   rcases MG (Yf far e.f+e.c) (Yf far e.t)with h|h
   ·exact absurd ⟨hr,hf,h⟩ (hcl e he)
   omega
  omega
 by_cases hno:YK<=Yf far t
 ·rw[Tm hno]
  refine⟨_,rfl,.inl ⟨rfl,λv=>decide (Yf far v<YK),rfl,rfl,?_,?_,?_⟩⟩
  ·grind [Go.Rt.RelC.s0]
  all_goals simp_all
 ·rw[Td hno]
  have hto:Yf far t<YK:=by omega
  obtain⟨n,hn'⟩:=hC2.ch t ht0.1 ht0.2 hto
  have hlt:=hlo t ht0.1 ht0.2
  have hft:=hfin t ht0.1 ht0.2 hto
  have hpt:=hb t ht0.1 ht0.2
  obtain⟨D,hD⟩:∃D,Yf far t-π t=D:=⟨_,rfl⟩
  have hlow:=Ymx (sides:=sides) hp (by omega) hn' (Int.le_of_eq hD)
  --the new numbers
  let π':Int->Int:=λv=>if Yf far v<YK/\Yf far v-π v<=D then Yf far v+π s else π v+D+π s
  have hlowv:∀v,Yf far v<YK->Yf far v-π v<=D->π' v=Yf far v+π s:=by grind
  have hhiv:∀v,¬(Yf far v<YK/\Yf far v-π v<=D)->π' v=π v+D+π s:=λv h=>Td h
  have hpot:PotE (YJ L) π':=by
   intro e he hr
   have hpe:=hp e he hr
   grind
  have hch:Chain (YJ L) by_ s (λe=>π' e.f+e.c=π' e.t/\Yf far e.f+e.c=Yf far e.t) t n:=by
   refine hlow.imp λe he hr ⟨⟨h1,h2⟩,h3,h4⟩=>?_
   grind
  have hnl:=hn'.len hes
  obtain⟨L',b1,b2,b3,b4,b5⟩:=YkZ (λ_ h=>h) n fuel t L hch (by omega) hpot
  rw[b1]
  refine⟨_,rfl,.inr ⟨rfl,L',π',rfl,b2,b3,?_,b5,?_⟩⟩
  ·rw[b4,hC2.s0];omega
  grind
def balE(E:List E3)(p:Int->Int):Int:=sumI (λe=>p e.2.1-p e.1) E
def Z3(E:List E3):Int:=sumI (λe:E3=>e.2.2) E
variable {L:List FA}{E R:List E3}
theorem dual{q:Int->Int}{κ:E3->Int}(h1:∀x∈L,x.u=true->0<=q x.t-q x.f-κ (x.f,x.t,x.c))(h0:∀x∈L,x.u=false->q x.t-q x.f-κ (x.f,x.t,x.c)<=0)(hE:(Zb L).Perm (E++R)):balE E q-sumI κ E<=bal L q-sumI (λx:FA=>if x.u=true then κ (x.f,x.t,x.c)else 0) L:=by
 have e1:sumI (λe:E3=>max 0 (q e.2.1-q e.1-κ e)) (Zb L)=bal L q-sumI (λx:FA=>if x.u=true then κ (x.f,x.t,x.c)else 0) L:=by
  unfold Zb bal
  rw[YdF]
  clear hE
  induction L with
  |nil=>rfl
  |cons x L ih=>
   rw[YO,YO,YO,ih (λy hy=>h1 y (TB _ hy)) (λy hy=>h0 y (TB _ hy))]
   unfold balG
   grind
 rw[VM _ hE,Jo]at e1
 have h2:0<=sumI (λe:E3=>max 0 (q e.2.1-q e.1-κ e)) R:=Uz λe _=>by omega
 have h3:balE E q-sumI κ E<=sumI (λe:E3=>max 0 (q e.2.1-q e.1-κ e)) E:=by
  clear hE e1 h2
  unfold balE
  induction E with
  |nil=>exact SD _
  |cons e E ih=>grind [YO]
 omega
theorem YmI{π:Int->Int}(hp:PotE (YJ L) π)(hE:(Zb L).Perm (E++R))(hb:balE E π=bal L π):Uk L<=Z3 E:=by
 have h:=dual (q:=π) (κ:=λe=>e.2.2) (L:=L) (λx hx hu=>?_) (λx hx hu=>?_) hE
 ·unfold Uk Z3
  have e:sumI YhE L=sumI (λx:FA=>if x.u=true then(x.f,x.t,x.c).snd.snd else 0) L:=rfl
  omega
 ·have:=hp _ (VI hx).2 (by grind [rev])
  grind [rev]
 ·have:=hp _ (VI hx).1 (by grind [fwd])
  grind [fwd]
theorem cut{s t x:Int}{es':List Ed}{R:Int->Bool}(h:Yn6 L s t x es' R){R':List E3}(hE:(Zb L).Perm (E++R')):balE E (λv=>if R v=true then 0 else 1)<=bal L (λv=>if R v=true then 0 else 1):=by
 have hd:=dual (q:=λv=>if R v=true then 0 else 1) (κ:=λ_=>0) (L:=L) (λx hx hu=>?_) (λx hx hu=>?_) hE
 ·have e1:sumI (λ_:E3=>(0:Int)) E=0:=by
   clear hd hE
   induction E with
   |nil=>rfl
   |cons a E ih=>grind [YO]
  have e2:sumI (λx:FA=>if x.u=true then(0:Int)else 0) L=0:=by
   clear hd hE h
   induction L with
   |nil=>rfl
   |cons a E ih=>grind [YO]
  omega
 ·have:=h.cl _ (VI hx).2 (by grind [rev])
  simp only[rev]at this
  grind
 ·have:=h.cl _ (VI hx).1 (by grind [fwd])
  simp only[fwd]at this
  grind
def Ql(closed:Int->Bool)(k:Nat):List FA:=(List.range k).flatMap λv:Nat=>if closed (v:Int)=true then []else [⟨2*(v:Int),2*(v:Int)+1,0,false⟩]
def YkV(l:List Lk):List FA:=l.map λa=>⟨2*a.1+1,2*a.2.1,a.2.2,false⟩
def ZX(nodes:Nat)(l:List Lk)(closed:Int->Bool):List FA:=Ql closed nodes++YkV l
theorem Wo:∀(l m:List FA),YJ (l++m)=YJ l++YJ m
 |[],_=>rfl
 |x::l,m=>by simp only[TC,YJ,Wo l m]
theorem YnH(nodes:Nat)(l:List Lk)(closed:Int->Bool):WB nodes l closed=YJ (ZX nodes l closed):=by
 unfold WB ZX
 rw[Wo]
 congr 1
 ·unfold ZL Ql
  generalize List.range nodes=r
  induction r with
  |nil=>rfl
  |cons v r ih=>
   rw[TR,TR,ih,Wo]
   split
   ·rfl
   ·rfl
 ·unfold Uh YkV
  induction l with
  |nil=>rfl
  |cons a l ih=>
   rw[TR,Re,ih]
   rfl
def Arcs8(nodes:Nat)(l:List Lk):Prop:=∀a∈l,(0<=a.1/\a.1<nodes)/\(0<=a.2.1/\a.2.1<nodes)/\(1<=a.2.2/\a.2.2<=8)
def arc3(a:Lk):E3:=(2*a.1+1,2*a.2.1,a.2.2)
def JD(v:Int):E3:=(2*v,2*v+1,0)
variable {nodes:Nat}{l:List Lk}{closed:Int->Bool}
theorem Ol{e:E3}:e∈Zb (ZX nodes l closed)↔(∃v:Int,(0<=v/\v<nodes)/\closed v=false/\e=JD v)\/∃a∈l,e=arc3 a:=by
 unfold Zb ZX
 rw[T8,TT]
 constructor
 ·rintro(h|h)
  ·obtain⟨x,hx,rfl⟩:=TG.1 h
   obtain⟨v,hv,h⟩:=RN.1 hx
   have hv:=TO.1 hv
   cases hc:closed (v:Int)with
   |true=>simp_all
   |false=>
    rw[hc,Td (by decide)]at h
    obtain rfl:=TJ.1 h
    exact .inl ⟨(v:Int),by omega,hc,rfl⟩
  ·obtain⟨x,hx,rfl⟩:=TG.1 h
   obtain⟨a,ha,rfl⟩:=TG.1 hx
   exact .inr ⟨a,ha,rfl⟩
 ·rintro(⟨v,⟨h0,h1⟩,hc,rfl⟩|⟨a,ha,rfl⟩)
  ·left
   refine TG.2 ⟨⟨2*v,2*v+1,0,false⟩,RN.2 ⟨v.toNat,TO.2 (by omega),?_⟩,rfl⟩
   grind
  ·right
   exact TG.2 ⟨⟨2*a.1+1,2*a.2.1,a.2.2,false⟩,TG.2 ⟨a,ha,rfl⟩,rfl⟩
variable {α β:Type}
theorem UE{f:α->β}(hf:∀a b,f a=f b->a=b){l:List α}(h:l.Nodup):(l.map f).Nodup:=
 by grind
theorem JE{f:α->β}{l:List α}(h:(l.map f).Nodup):l.Nodup:=
 List.Pairwise.imp (λhne e=>hne (TU f e)) (Md.1 h)
theorem Yhk(a b:Lk)(h:arc3 a=arc3 b):a=b:=by
 grind [arc3]
theorem Ynk(a b:Int)(h:JD a=JD b):a=b:=by
 grind [JD]
theorem Yhl(a:Lk)(v:Int):arc3 a≠JD v:=by
 grind [arc3,JD]
theorem Q4(closed:Int->Bool):∀k,((Ql closed k).map λx:FA=>(x.f,x.t,x.c)).Nodup/\∀e∈(Ql closed k).map λx:FA=>(x.f,x.t,x.c),∃v:Int,v<k/\e=JD v
 |0=>⟨List.nodup_nil,λe he=>by cases he⟩
 |k+1=>by
  obtain⟨h1,h2⟩:=Q4 closed k
  have e:Ql closed (k+1)=Ql closed k++(if closed (k:Int)=true then []else [⟨2*(k:Int),2*(k:Int)+1,0,false⟩]):=by
   grind [Ql,RA]
  rw[e,T8]
  by_cases hc:closed (k:Int)=true
  ·grind
  ·rw[Td hc]
   refine⟨Ri.2 ⟨h1,by simp,λa ha b hb=>?_⟩,λe he=>?_⟩
   ·grind [JD]
   ·rcases TT.1 he with he|he
    ·grind
    ·exact⟨(k:Int),by omega,by grind [JD]⟩
theorem YjF(hl:l.Nodup):(Zb (ZX nodes l closed)).Nodup:=by
 unfold Zb ZX
 rw[T8]
 obtain⟨h1,h2⟩:=Q4 closed nodes
 have h3:(YkV l).map (λx:FA=>(x.f,x.t,x.c))=l.map arc3:=by
  unfold YkV;rw[NS];rfl
 rw[h3]
 refine Ri.2 ⟨h1,UE Yhk hl,λa ha b hb=>?_⟩
 grind [Yhl]
theorem YsR{sides:Nat}(h:∀e∈Zb L,(0<=e.1/\e.1<sides)/\(0<=e.2.1/\e.2.1<sides)/\(-8<=e.2.2/\e.2.2<=8)):Ed8 sides (YJ L):=by
 intro e he
 obtain⟨x,hx,h2⟩:=OJ he
 have h3:=h (x.f,x.t,x.c) (TG.2 ⟨x,hx,rfl⟩)
 rcases h2 with rfl|rfl
 ·exact h3
 grind [rev]
theorem YbE(hl:Arcs8 nodes l):∀e∈Zb (ZX nodes l closed),(0<=e.1/\e.1<(2*nodes:Nat))/\(0<=e.2.1/\e.2.1<(2*nodes:Nat))/\(0<=e.2.2/\e.2.2<=8):=by
 intro e he
 rcases Ol.1 he with⟨v,hv,_,rfl⟩|⟨a,ha,rfl⟩
 ·grind [JD]
 ·obtain⟨h1,h2,h3⟩:=hl a ha
  grind [arc3]
theorem YgF:∀x∈ZX nodes l closed,x.u=false:=by
 intro x hx
 rcases TT.1 hx with h|h
 ·obtain⟨v,_,h⟩:=RN.1 h
  simp_all
 ·obtain⟨a,_,rfl⟩:=TG.1 h;rfl
def want(a b to:Int)(p:Int->Int):Int:=(p (2*to)-p (2*a+1))+(p (2*to)-p (2*b+1))
theorem Ycs(h:∀x∈L,x.u=false)(p:Int->Int):bal L p=0:=by
 unfold bal
 induction L with
 |nil=>rfl
 |cons x L ih=>
  grind [YO,balG]
theorem YmB(h:∀x∈L,x.u=false):Uk L=0:=by
 unfold Uk
 induction L with
 |nil=>rfl
 |cons x L ih=>
  grind [YO,YhE]
structure YbS(nodes:Nat)(l:List Lk)(a b to x:Int)(sh:Int->Bool)(es:List Ed)(L:List FA)(π:Int->Int):Prop where
 es:es=YJ L
 ends:Zb L=Zb (ZX nodes l sh)
 bal_:∀p,bal L p=want a b to p
 cost:Uk L=x
 pot:PotE (YJ L) π
 bd:∀v:Int,0<=v->v<(2*nodes:Nat)-> -(16*(nodes:Int))<=π v/\π v<=64*(nodes:Int)
def Yss(nodes:Nat)(l:List Lk)(a b to:Int)(sh:Int->Bool):Prop:=∀E R:List E3,(Zb (ZX nodes l sh)).Perm (E++R)->(∀p,balE E p=want a b to p)->False
theorem YqN{fuel:Nat}{a b to:Int}(hn:1<=nodes/\nodes<=50)(hl:Arcs8 nodes l)(ha:0<=a/\a<nodes)(hb:0<=b/\b<nodes)(ht:0<=to/\to<nodes)(hf:2*nodes*(48*nodes+1)<fuel):
 ∃r,Ui fuel nodes l a b to closed=some r/\((r.2.1=true/\∃L π,YbS nodes l a b to r.1 (YZ a b to closed) r.2.2 L π)\/(r.2.1=false/\Yss nodes l a b to (YZ a b to closed))):=by
 have hs:2*nodes<=100:=by omega
 have hen:=YbE (closed:=YZ a b to closed) hl
 have hun:=YgF (nodes:=nodes) (l:=l) (closed:=YZ a b to closed)
 have h8:∀{L:List FA},Zb L=Zb (ZX nodes l (YZ a b to closed))->Ed8 (2*nodes) (YJ L):=by grind [YsR]
 have hp0:PotE (YJ (ZX nodes l (YZ a b to closed))) (λ_=>0):=by
  intro e he hr
  obtain⟨x,hx,h⟩:=OJ he
  have hc:=hen (x.f,x.t,x.c) (TG.2 ⟨x,hx,rfl⟩)
  grind [fwd,rev]
 have m1:(2*nodes)*(8*(2*nodes)+1+(2*(0:Int)).natAbs)<=2*nodes*(48*nodes+1):=by grind
 have m2:2*nodes<=2*nodes*(48*nodes+1):=by grind
 have m3:(2*nodes)*(8*(2*nodes)+1+(2*(16*(nodes:Int))).natAbs)<=2*nodes*(48*nodes+1):=by grind
 unfold Ui
 rw[YnH]
 obtain⟨⟨x,ok,es⟩,h1,h2⟩:=Ygo (fuel:=fuel) (s:=2*a+1) (t:=2*to) (W:=0) hs (h8 rfl) hp0 (by omega) (λv _ _=>by omega) (by omega) (by omega) (by omega) (by omega)
 rw[h1]
 simp only at h2⊢
 rcases h2 with⟨rfl,R,hR⟩|⟨rfl,L1,π1,hY⟩
 ·obtain⟨⟨y,is,es2⟩,h3,_⟩:=Ygo (fuel:=fuel) (s:=2*b+1) (t:=2*to) (W:=0) hs (h8 rfl) hp0 (by omega) (λv _ _=>by omega) (by omega) (by omega) (by omega) (by omega)
  rw[hR.es,h3]
  refine⟨_,rfl,.inr ⟨rfl,λE R' hE hb2=>?_⟩⟩
  have h4:=cut hR hE
  rw[hb2,Ycs hun]at h4
  unfold want at h4
  dsimp only at h4
  rw[hR.rs,hR.rt,Tm rfl,Td (by decide)]at h4
  omega
 ·obtain⟨⟨y,is,es2⟩,h3,h4⟩:=Ygo (fuel:=fuel) (s:=2*b+1) (t:=2*to) (W:=16*nodes) hs (h8 hY.ends) hY.pot (by omega) (λv h0 h1=>by have:=hY.bd v h0 h1;omega) (by omega) (by omega) (by omega) (by omega)
  rw[hY.es,h3]
  rcases h4 with⟨rfl,R,hR⟩|⟨rfl,L2,π2,hZ⟩
  ·refine⟨_,rfl,.inr ⟨rfl,λE R' hE hb2=>?_⟩⟩
   have h4:=cut hR (by rw[hY.ends];exact hE)
   rw[hb2,hY.bal_,Ycs hun]at h4
   unfold want at h4
   dsimp only at h4
   rw[hR.rs,hR.rt,Tm rfl,Td (by decide)]at h4
   omega
  ·refine⟨_,rfl,.inl ⟨rfl,L2,π2,hZ.es,hZ.ends.trans hY.ends,λp=>?_,?_,hZ.pot,λv h0 h1=>?_⟩⟩
   ·rw[hZ.bal_,hY.bal_,Ycs hun]
    grind [want]
   ·rw[hZ.cost,hY.cost,YmB hun]
    omega
   ·have:=hZ.bd v h0 h1
    omega
theorem UM(e:E3)(E:List E3)(p:Int->Int):balE (e::E) p=(p e.2.1-p e.1)+balE E p:=YO _ _ _
theorem Yhn(E F:List E3)(p:Int->Int):balE (E++F) p=balE E p+balE F p:=Jo _ _ _
theorem Yer{E F:List E3}(h:E.Perm F)(p:Int->Int):balE E p=balE F p:=VM _ h
def YbH(L:List FA):List E3:=(L.filter λx=>x.u).map λx=>(x.f,x.t,x.c)
def Ypc(L:List FA):List E3:=(L.filter λx=>!x.u).map λx=>(x.f,x.t,x.c)
theorem YnU(L:List FA):(Zb L).Perm (YbH L++Ypc L):=by
 unfold Zb YbH Ypc
 rw[<-T8]
 exact List.Perm.map _ (List.filter_append_perm _ L).symm
theorem Yqb(L:List FA)(p:Int->Int):balE (YbH L) p=bal L p:=by
 unfold YbH bal
 induction L with
 |nil=>rfl
 |cons x L ih=>
  rw[YO,<-ih,Su]
  unfold balG
  cases hu:x.u with
  |true=>simp[UM]
  |false=>simp
theorem YnT(L:List FA):Z3 (YbH L)=Uk L:=by
 unfold YbH Uk
 induction L with
 |nil=>rfl
 |cons x L ih=>
  rw[YO,<-ih,Su]
  unfold YhE Z3
  cases hu:x.u with
  |true=>simp[YO]
  |false=>simp
inductive Yb7:Int->Int->List E3->Prop
 |nil {t:Int}:Yb7 t t []
 |cons {e:E3}{t:Int}{E:List E3}(h:Yb7 e.2.1 t E):Yb7 e.1 t (e::E)
def ind(v w:Int):Int:=if w=v then 1 else 0
theorem YaY{T:Int}{X:(Int->Int)->Int}(hX:∀v,v≠T->X (ind v)<=0):∀(n:Nat) (U:List E3) (A:Int),U.length<=n->(∀p,balE U p=(p T-p A)+X p)->∃P U',U.Perm (P++U')/\Yb7 A T P/\∀p,balE U' p=X p
 |n,U,A,hn,hb=>by
  by_cases hAT:A=T
  ·subst hAT
   exact⟨[],U,.refl _,.nil,λp=>by simp_all⟩
  ·have h1:=hb (ind A)
   have h2:=hX A hAT
   have h3:ind A A=1:=Tm rfl
   have h4:ind A T=0:=Td (NZ hAT)
   have hex:∃e∈U,e.1=A:=by
    by_cases hex:∃e∈U,e.1=A
    ·exact hex
    ·have:0<=balE U (ind A):=Uz λe he=>by
      grind [ind]
     omega
   obtain⟨e,he,rfl⟩:=hex
   have hp:=List.perm_cons_erase he
   have hl:=hp.length_eq
   rw[TS]at hl
   cases n with
   |zero=>omega
   |succ n=>
    obtain⟨P,U',g1,g2,g3⟩:=YaY hX n (U.erase e) e.2.1 (by omega) λp=>by
     grind [Yer,UM]
    exact⟨e::P,U',hp.trans (.cons _ g1),.cons g2,g3⟩
inductive Way (l:List Lk) (sh:Int->Bool) (to:Int):Int->List Lk->Prop
 |last {a:Lk}(ha:a∈l) (ht:a.2.1=to):Way l sh to a.1 [a]
 |step {a:Lk}{az:List Lk}(ha:a∈l) (hs:sh a.2.1=false) (h:Way l sh to a.2.1 az):Way l sh to a.1 (a::az)
def Xl:List Lk->List Int
 |[]=>[]
 |_::az=>az.map λa=>a.1
def eOf(az:List Lk):List E3:=az.map arc3++(Xl az).map JD
def Ze(az:List Lk):Int:=sumI (λa:Lk=>a.2.2) az
variable {l az:List Lk}{sh:Int->Bool}{to u b:Int}
theorem Way.cons_(h:Way l sh to u az):∃a az',az=a::az'/\a.1=u:=by
 cases h with
 |last ha ht=>simp_all
 |step ha hs h=>simp_all
variable {a:Lk}
theorem Way.inner_cons(h:Way l sh to u az):Xl (a::az)=u::Xl az:=by
 obtain⟨b,bs,rfl,rfl⟩:=h.cons_
 rfl
theorem Way.mem(h:Way l sh to u az):∀a∈az,a∈l:=by
 induction h with
 |last ha ht=>simp_all
 |step ha hs h ih=>
  simp_all
theorem Way.open_(h:Way l sh to u az):∀v∈Xl az,sh v=false:=by
 induction h with
 |last ha ht=>intro v hv;cases hv
 |step ha hs h ih=>
  intro v hv
  rw[h.inner_cons]at hv
  grind
theorem Way.perm_e(h:Way l sh to u az):(eOf (a::az)).Perm (arc3 a::JD u::eOf az):=by
 unfold eOf
 rw[h.inner_cons,Re,Re,TC]
 exact .cons _ List.perm_middle
theorem Way.bal_(h:Way l sh to u az)(p:Int->Int):balE (eOf az) p=p (2*to)-p (2*u+1):=by
 induction h with
 |@last a ha ht=>
  have:eOf [a]=[arc3 a]:=rfl
  rw[this,UM,<-ht]
  simp[arc3,balE,Yp5]
 |step ha hs h ih=>
  rw[Yer h.perm_e,UM,UM,ih]
  grind [arc3,JD]
theorem QO(az:List Lk):Z3 (eOf az)=Ze az:=by
 unfold Z3 eOf Ze
 rw[Jo,YdF,YdF]
 have:sumI (λx=>(JD x).2.2) (Xl az)=0:=by
  generalize Xl az=I
  induction I with
  |nil=>rfl
  |cons v I ih=>rw[YO,ih];rfl
 rw[this,ME]
 rfl
theorem YdQ{l:List Lk}{sh:Int->Bool}{to:Int}(hto:sh to=true):∀(n:Nat) (P:List E3) (u:Int),P.length<=n->(∀e∈P,(∃v,sh v=false/\e=JD v)\/∃a∈l,e=arc3 a)->Yb7 (2*u+1) (2*to) P->∃az,Way l sh to u az/\P.Perm (eOf az)
 |n,P,u,hn,hm,hw=>by
  obtain⟨s,hs⟩:∃s,2*u+1=s:=⟨_,rfl⟩
  obtain⟨t,ht⟩:∃t,2*to=t:=⟨_,rfl⟩
  rw[hs,ht]at hw
  cases hw with
  |nil=>omega
  |@cons e _ E hw=>
   rcases hm e TA with⟨v,_,rfl⟩|⟨a,ha,rfl⟩
   ·grind [JD]
   ·have hu:a.1=u:=by grind [arc3]
    subst hu
    obtain⟨s2,hs2⟩:∃s,(arc3 a).2.1=s:=⟨_,rfl⟩
    rw[hs2]at hw
    cases hw with
    |nil=>
     refine⟨[a],.last ha (by grind [arc3]),.refl _⟩
    |@cons e' _ E' hw=>
     rcases hm e' (TB _ TA)with⟨v,hv,rfl⟩|⟨a',_,rfl⟩
     ·have hva:a.2.1=v:=by grind [arc3,JD]
      subst hva
      cases n with
      |zero=>simp at hn
      |succ n=>
       obtain⟨az,h1,h2⟩:=YdQ hto n E' a.2.1 (by grind) (λe he=>hm e (TB _ (TB _ he))) (by rw[ht];exact hw)
       exact⟨a::az,.step ha hv h1,(List.Perm.cons _ (.cons _ h2)).trans h1.perm_e.symm⟩
     grind [arc3]
structure Cand(l:List Lk)(sh:Int->Bool)(a b to:Int)(az bs:List Lk):Prop where
 p:Way l sh to a az
 q:Way l sh to b bs
 arcs:(az++bs).Nodup
 nodes:(Xl az++Xl bs).Nodup
theorem YiT:∀{E M:List E3},E.Nodup->(∀e∈E,e∈M)->∃R,M.Perm (E++R)
 |[],M,_,_=>⟨M,.refl _⟩
 |e::E,M,hn,hm=>by
  obtain⟨h1,h2⟩:=SH.1 hn
  have hp:=List.perm_cons_erase (hm e TA)
  obtain⟨R,hR⟩:=YiT (M:=M.erase e) h2 λx hx=>by
   grind
  exact⟨R,hp.trans (.cons _ hR)⟩
theorem YjE(az bs:List Lk):(eOf az++eOf bs).Perm ((az++bs).map arc3++(Xl az++Xl bs).map JD):=by
 unfold eOf
 rw[T8,T8]
 rw[TX,TX]
 refine .append_left _ ?_
 rw[<-TX,<-TX]
 exact .append_right _ NY
variable {nodes:Nat}
theorem Cand.sub{a:Int}{bs:List Lk}(hl:Arcs8 nodes l)(h:Cand l sh a b to az bs):∃R,(Zb (ZX nodes l sh)).Perm ((eOf az++eOf bs)++R):=by
 have hn:(eOf az++eOf bs).Nodup:=by
  rw[(YjE az bs).nodup_iff]
  refine Ri.2 ⟨UE Yhk h.arcs,UE Ynk h.nodes,λx hx y hy=>?_⟩
  grind [Yhl]
 refine YiT hn λe he=>?_
 have he:=(YjE az bs).mem_iff.1 he
 rcases TT.1 he with he|he
 ·obtain⟨c,hc,rfl⟩:=TG.1 he
  refine Ol.2 (.inr ⟨c,?_,rfl⟩)
  rcases TT.1 hc with hc|hc
  ·exact h.p.mem c hc
  ·exact h.q.mem c hc
 ·obtain⟨v,hv,rfl⟩:=TG.1 he
  have hr:∀{u:Int}{cs:List Lk},Way l sh to u cs->v∈Xl cs->0<=v/\v<nodes:=λhw hv=>by
   have:∃c∈l,c.1=v:=by
    obtain⟨c,cs',rfl,_⟩:=hw.cons_
    obtain⟨d,hd,rfl⟩:=TG.1 hv
    exact⟨d,hw.mem d (TB _ hd),rfl⟩
   obtain⟨c,hc,rfl⟩:=this
   exact(hl c hc).1
  rcases TT.1 hv with hv|hv
  ·exact Ol.2 (.inl ⟨v,hr h.p hv,h.p.open_ v hv,rfl⟩)
  ·exact Ol.2 (.inl ⟨v,hr h.q hv,h.q.open_ v hv,rfl⟩)
theorem Yhr{fuel:Nat}{a:Int}{closed:Int->Bool}(hn:1<=nodes/\nodes<=50)(hl:Arcs8 nodes l)(hnd:l.Nodup)(ha:0<=a/\a<nodes)(hb:0<=b/\b<nodes)(ht:0<=to/\to<nodes)(hf:2*nodes*(48*nodes+1)<fuel):
 ∃r,Ui fuel nodes l a b to closed=some r/\((r.2.1=true/\(∃L π,YbS nodes l a b to r.1 (YZ a b to closed) r.2.2 L π)/\(∃az bs,Cand l (YZ a b to closed) a b to az bs/\Ze az+Ze bs=r.1)/\∀az bs,Cand l (YZ a b to closed) a b to az bs->r.1<=Ze az+Ze bs)\/(r.2.1=false/\∀az bs,¬Cand l (YZ a b to closed) a b to az bs)):=by
 obtain⟨r,hr,h⟩:=YqN (closed:=closed) hn hl ha hb ht hf
 refine⟨r,hr,?_⟩
 have hsto:YZ a b to closed to=true:=by unfold YZ;simp
 have hcb:∀{az bs:List Lk},Cand l (YZ a b to closed) a b to az bs->∀p,balE (eOf az++eOf bs) p=want a b to p:=λhc p=>by
  rw[Yhn,hc.p.bal_,hc.q.bal_];rfl
 rcases h with⟨h1,L,π,hY⟩|⟨h1,hN⟩
 ·have hmin:∀az bs,Cand l (YZ a b to closed) a b to az bs->r.1<=Ze az+Ze bs:=λaz bs hc=>by
   obtain⟨R,hR⟩:=hc.sub hl
   have:=YmI hY.pot (by rw[hY.ends];exact hR) (by rw[hcb hc,hY.bal_])
   rw[hY.cost]at this
   unfold Z3 at this
   rw[Jo]at this
   have e1:=QO az
   have e2:=QO bs
   unfold Z3 at e1 e2
   omega
  refine .inl ⟨h1,⟨L,π,hY⟩,?_,hmin⟩
  have hub:=λp=>(Yqb L p).trans (hY.bal_ p)
  obtain⟨P,U1,g1,g2,g3⟩:=YaY (T:=2*to) (X:=λp=>p (2*to)-p (2*b+1)) (λv hv=>by
   rw[show ind v (2*to)=0 from Td (NZ hv)]
   unfold ind;split<;>decide) _ (YbH L) (2*a+1) (TL _) hub
  obtain⟨Q,U2,g4,g5,g6⟩:=YaY (T:=2*to) (X:=λ_=>0) (λv hv=>SD _) _ U1 (2*b+1) (TL _) (λp=>by rw[g3 p];omega)
  have hall:(Zb L).Perm ((P++Q)++(U2++Ypc L)):=by
   refine(YnU L).trans ?_
   rw[TX,<-TX Q,<-TX P]
   exact .append_right _ (g1.trans (.append_left _ g4))
  rw[hY.ends]at hall
  have hmem:∀e∈P++Q,(∃v,YZ a b to closed v=false/\e=JD v)\/∃a∈l,e=arc3 a:=λe he=>by
   rcases Ol.1 (hall.mem_iff.2 (Ss _ he))with⟨v,_,hv,h⟩|h
   ·exact .inl ⟨v,hv,h⟩
   ·exact .inr h
  obtain⟨az,w1,p1⟩:=YdQ hsto _ P a (TL _) (λe he=>hmem e (Ss _ he)) g2
  obtain⟨bs,w2,p2⟩:=YdQ hsto _ Q b (TL _) (λe he=>hmem e (Rb _ he)) g5
  have hnd2:=hall.nodup_iff.1 (YjF hnd)
  have hnd3:=(Ri.1 hnd2).1
  rw[((p1.append p2).trans (YjE az bs)).nodup_iff]at hnd3
  obtain⟨n1,n2,_⟩:=Ri.1 hnd3
  have hc:Cand l (YZ a b to closed) a b to az bs:=⟨w1,w2,JE n1,JE n2⟩
  refine⟨az,bs,hc,?_⟩
  have hle:Ze az+Ze bs<=r.1:=by
   have e1:=QO az
   have e2:=QO bs
   have e3:Z3 (YbH L)=Z3 P+(Z3 Q+Z3 U2):=by
    unfold Z3
    rw[VM _ g1,Jo,VM _ g4,Jo]
   have e4:Z3 P=Ze az:=by rw[<-e1];exact VM _ p1
   have e5:Z3 Q=Ze bs:=by rw[<-e2];exact VM _ p2
   have e6:0<=Z3 U2:=Uz λe he=>(YbE hl e (hall.mem_iff.2 (Rb _ (Ss _ he)))).2.2.1
   rw[YnT,hY.cost]at e3
   omega
  have:=hmin az bs hc
  omega
 ·exact .inr ⟨h1,λaz bs hc=>by
   obtain⟨R,hR⟩:=hc.sub hl
   exact hN _ _ hR (hcb hc)⟩
end Go.Rt
