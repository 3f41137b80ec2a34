/- Lemmas. -/
import Derived.Test.YtjommdkgfbhbdaaGreatDoorRows
import Derived.Lib.LaidU8
import Derived.LaidMore
import Derived.Deep.DeepLaidRun
import Derived.Stop.Joined
import Derived.Test.YtjommdkgfbhbdaaGreatDoorQ8
set_option maxRecDepth 100000
set_option maxHeartbeats 8000000
set_option linter.all false
namespace Go.Proofs.YtjommdkgfbhbdaaGreatDoor
open Go.RowKit Go.Eng Go.Nw
section
variable {m:Eng.Mode}{n:Shp}{B d:Nat}{w0:World}{ops:Array Oper}{Q:Exit->Act->World->Prop}{rest:List Oper}{env:Env}{H:List HP}{ty:TypeId}{pos:String}{after:Array Edge}{x y lo:Operand}
variable {k cap gv:Nat}{A:Option Addr}
theorem YU{P:Program}(T:Tab P)(o n':Nat){t e size bytes:Nat}{ki:IntKind}{z:Int}(hx:evo env x=some (.slice A k cap))(hl:evo env lo=some (.int ki z))(ht:Eng.look T.sl t=some (e,size,bytes))(hn:Nat.ble (d+1) n.k=true)(hz:z=(o:Int))(hb:o<=k)(hn':k-o=n')
 (h:VL P m n B w0 ops Q rest ((d,.slice (subA A o cap size) n' (cap-o))::env) H):VL P m n B w0 ops Q (⟨some d,.slice t x (some lo) none none,ty,pos,after,none⟩::rest) env H:=by
 subst hz
 exact ZP T hx hl ht hn ⟨by omega,by omega⟩ hn' h
theorem Yhg{g o la ca lb cb:Nat}{tt:TypeId}{cs:Array Value}{xs:List Value}{tys:Array TypeId}(hx:evo env x=some (.slice (some ⟨gv,0,none⟩) la ca))(hy:evo env y=some (.slice (subA (some ⟨g,0,none⟩) o cap 5) lb cb))(hm1:Eng.blk gv (.cells cs tt (0,0))∈H)(hm2:sl 162 5 (some ⟨g,0,none⟩) k cap xs∈H)
 (hne:∀w,St B w0 H w->gv≠g) (hc:0<cap/\cap≠o) (hn:Nat.ble (d+1) n.k=true) (h:VL Tryz.prog none n B w0 ops Q rest ((d,.bool false)::env) H):
 VL Tryz.prog none n B w0 ops Q (⟨some d,.call ⟨.value (.func 409),#[x,y],tys⟩,ty,pos,after,none⟩::rest) env H:=by
 have hsub:subA (some ⟨g,0,none⟩) o cap 5=some ⟨g,o*5,none⟩:=by
  unfold subA
  rw[Tj hc.2,Ss,Addr.add_lit,Ri]
 rw[hsub]at hy
 refine XA (λu K'=>u=.bool false/\K'=H) rfl rfl hn (λa w ha hw=>⟨.bool false,H,w,?_,hw,rfl,rfl⟩) (by rintro _ _ ⟨rfl,rfl⟩;exact h)
 have hb:=(hw.blk hm1).1
 rcases Jf (hw.sl hm2)with⟨h0,_⟩|⟨g',cur,e0,g1,_,_,g4,_⟩
 ·cases h0
 injection e0 with e0
 injection e0 with e0
 subst e0
 obtain⟨bb,htl⟩:∃bb,Eng.look T.sl 31=some (162,5,bb):=⟨_,rfl⟩
 obtain⟨_,inf,_,hi,_,_,hsi,_⟩:=YG (T.slic htl)
 have hr:=run_callFunc_extern (P:=Tryz.prog) Tryz.func409 (by kernel_rfl) (by kernel_rfl) (by kernel_rfl) (e:=Extern.SlicesOverlaps.overlaps #[31,31] #[4]) (by kernel_rfl) #[.slice (some ⟨gv,0,none⟩) la ca,.slice (some ⟨g,o*5,none⟩) lb cb] w
 have hov:=Lib.run_overlaps_apart (P:=Tryz.prog) w 31 4 162 Tryz.underlying31 5 (λw=>by simp[sizeOf,typeInfo,hi,hsi]) ⟨gv,0,none⟩ ⟨g,o*5,none⟩ la ca lb cb (hne w hw) tt 162 cs.size cur.size (by simp[World.shape?,hb]) (by simp[World.shape?,g1]) (by rw[g4];omega) (by simp[World.frozen?,hb]) (by simp[World.frozen?,hb])
 have he:a.eval (.func 409)=.func (.func 409) #[] #[]:=rfl
 simp[execOp,resolve,invoke,ha.eval hx,ha.eval hy,he,Deferred.ofValue,hr,hov,Result.andThen]
end
variable {k cap gv:Nat}
theorem Yu8(l:List Cel)(c:Cel)(i:Nat)(hk:k=1):(l.take i).take i++[c].take k++(l.take i).drop (i+k)=l.take i++[c]:=by
 grind [Rb]
theorem Yu9(l:List Cel)(c:Cel)(i:Nat)(hi:i<=l.length)(hk:k=l.length-i):(l.take i++[c]).take (i+1)++(l.drop i).take k++(l.take i++[c]).drop (i+1+k)=l.take i++c::l.drop i:=by
 simp_all [List.take_of_length_le]
theorem Yva(l:List Cel)(i:Nat)(hi:i<=l.length)(hk:k=l.length-i):l.take (i+1)++(l.drop i).take k++l.drop (i+1+k)=l.take (i+1)++l.drop i:=by
 grind [Rb,TY]
theorem Yvb(l:List Cel)(c:Cel)(i:Nat)(hi:i<l.length)(hk:k=1):(l.take (i+1)++l.drop i).take i++[c].take k++(l.take (i+1)++l.drop i).drop (i+k)=l.take i++c::l.drop i:=by
 grind
theorem YpM(l:List Cel)(c:Cel)(i:Nat)(hi:i<=l.length):(l.take i++c::l.drop i).length=l.length+1:=by
 grind
variable {A:Option Addr}
theorem Ygr(l:List Cel)(i:Nat)(c:Cel)(hi:i<=l.length)(hlen:l.length<=1000){B:Nat}{w0:World}{H:List HP}{w:World}(hw:St B w0 (cels A cap l::blk gv (.cells #[.int .i64 c.1,.int .i64 c.2.1,.int .i64 c.2.2.1,.int .i64 c.2.2.2.1,.int .i64 c.2.2.2.2] 162 (0,0))::H) w):
 CX B w0 370 [.slice A l.length cap,.int .i64 i,.slice (some ⟨gv,0,none⟩) 1 1] w λv K=>∃A' cap',v=.slice A' (l.take i++c::l.drop i).length cap'/\K=cels A' cap' (l.take i++c::l.drop i)::H:=by
 refine Ya Tryz.func370 Tryz.ntmps370 rfl rfl hw ?_
 unfold cels
 refine OA (k:=l.length) (cap:=cap) (by(focus exact zc2)) λhcap=>?_
 have hli:=YpM l c i hi
 have hrv:∀{L:List HP},blk gv (.cells #[.int .i64 c.1,.int .i64 c.2.1,.int .i64 c.2.2.1,.int .i64 c.2.2.2.1,.int .i64 c.2.2.2.2] 162 (0,0))∈L->Rd B w0 L (some ⟨gv,0,none⟩) (([c]:List Cel).flatMap celF):=λh=>by
  have h1:=Rd.blk (B:=B) (w0:=w0) (cs:=(celF c).toArray) h
  rw[show([c]:List Cel).flatMap celF=(celF c).toArray.toList by simp]
  exact h1
 have hq5:∀c:Cel,(celF c).length=5:=λ_=>rfl
 have ho5:∀c:Cel,Ji (celF c)=true:=λ_=>rfl
 refine zX2 ?_
 apply YU T i (l.length-i);(iterate 5 exact rfl);exact hi;exact rfl
 by_cases hin:i=l.length
 ·have e1:l.take i++c::l.drop i=l++[c]:=by rw[hin,TI,SB]
  rw[e1]
  repeat'(first|refine zgb ?_|(refine zgf ?_ ?_<;>intro _<;>try exact zo)|(refine zgi ?_;intro _ _)|fail)
  rename_i A' cap'
  apply Yf (cels A' cap' (l++[c])::H)
  ·intro w hw
   rw[<-JU]
   revert w
   exact zc0
  exact Yua
 have hlt:i<l.length:=by omega
 have hrs:∀{L:List HP}{g:Nat},sl 162 5 (some ⟨g,0,none⟩) l.length cap (l.flatMap celF)∈L->Rd B w0 L (subA (some ⟨g,0,none⟩) i cap 5) ((l.drop i).flatMap celF):=λh=>by
  have h1:=Rd.sub (B:=B) (w0:=w0) (q:=5) (o:=i) (k:=l.length-i) (cap:=cap) hq5 (Rd.sl h) hcap
  exact Yur
 apply Yf3 (k:=l.length) (by(focus exact zc2)) (by omega)
 rintro g rfl
 have hA:∃g',(some ⟨g,0,none⟩:Option Addr)=some ⟨g',0,none⟩:=⟨g,rfl⟩
 repeat'(first|(apply Yln T;(iterate 3 exact rfl))|refine zgc ?_|(refine zgf ?_ ?_<;>intro _<;>try exact zo)|fail)
 ·apply Vu T (n':=i);(iterate 4 exact rfl);omega;omega;exact hA
  refine zX3 ?_
  rw[show(l.length:Int)+((1:Nat):Int)-(i:Int)=((l.length+1-i:Nat):Int) by omega]
  apply Ya8 T (e:=162) (size:=5) (k:=l.length) (xs:=l.flatMap celF);exact rfl;exact rfl;(focus exact zc2);exact rfl;kernel_rfl;exact rfl;kernel_rfl;omega;intro g2 c2 hc2
  rw[show i+(l.length+1-i)=l.length+1 by omega]at hc2⊢
  have e2:sl 162 5 (some ⟨g2,0,none⟩) i c2 ((l.flatMap celF).take (i*5))=sl 162 5 (some ⟨g2,0,none⟩) (l.take i).length c2 ((l.take i).flatMap celF):=by
   rw[X0 hq5,TU,S8 hi]
  rw[e2]
  have hA2:∃g',(some ⟨g2,0,none⟩:Option Addr)=some ⟨g',0,none⟩:=⟨g2,rfl⟩
  have htl:(l.take i).length=i:=Yem
  refine zX2 ?_
  apply YU T i (l.length+1-i);(iterate 5 exact rfl);omega;exact rfl
  refine zX2 ?_
  apply Vd T (l.take i) [c] (l.take i++[c]) (f:=celF) (o:=i) (cap:=c2);exact rfl;exact rfl;exact hrv (by(focus exact zc2));exact hq5;exact ho5;exact rfl;exact rfl;exact hA2;(simp only[T9];omega);exact Yu8 l c i (by omega);exact zd
  refine zX2 ?_
  apply YA [0,1,2,3,4,5,6,7] [8] [true,true,true]
  kernel_rfl
  kernel_rfl
  exact zy
  (simp only[Yc,nthO];rfl)
  (simp only[Yc,nthO];rfl)
  refine zX10 ?_
  apply YU T (i+1) (l.length+1-(i+1));(iterate 4 exact rfl);omega;omega;exact rfl
  refine zX2 ?_
  apply YU T i (l.length-i);(iterate 5 exact rfl);omega;exact rfl
  refine zX3 ?_
  apply Vd T (l.take i++[c]) (l.drop i) (l.take i++c::l.drop i) (f:=celF) (o:=i+1) (cap:=c2);exact rfl;exact rfl;exact hrs (by(focus exact zc2));exact hq5;exact ho5;exact rfl;exact rfl;exact hA2;(simp only[Tt,TU,T9,TY];omega);exact Yu9 l c i hi (by omega);exact zd
  refine zX3 ?_
  apply Yf (cels (some ⟨g2,0,none⟩) c2 (l.take i++c::l.drop i)::H)
  ·unfold cels
   exact zc0
  exact Yuv
 ·apply Vu T (n':=l.length+1);(iterate 4 exact rfl);omega;omega;exact hA
  refine zX10 ?_
  apply YU T (i+1) (l.length+1-(i+1));(iterate 4 exact rfl);omega;omega;exact rfl
  apply Yhg (gv:=gv) (g:=g) (o:=i+1) (cap:=cap) (k:=l.length) (xs:=l.flatMap celF);exact rfl;exact rfl;(focus exact zc2);(focus exact zc2);exactλw hw=>Ye3 (hw.perm (.swap _ _ _));omega;exact rfl
  refine zX3 ?_
  apply YA [0,1,2,3,4,5,6,7] [8] [true,true]
  kernel_rfl
  kernel_rfl
  exact zy
  (simp only[Yc,nthO];rfl)
  (simp only[Yc,nthO];rfl)
  refine zX10 ?_
  apply YU T (i+1) (l.length+1-(i+1));(iterate 4 exact rfl);omega;omega;exact rfl
  refine zX2 ?_
  apply YU T i (l.length+1-i);(iterate 5 exact rfl);omega;exact rfl
  refine zX3 ?_
  apply Vd T l (l.drop i) (l.take (i+1)++l.drop i) (f:=celF) (o:=i+1) (cap:=cap);exact rfl;exact rfl;exact hrs (by(focus exact zc2));exact hq5;exact ho5;exact rfl;exact rfl;exact hA;(simp only[TY];omega);exact Yva l i hi (by omega);exact zd
  refine zX3 ?_
  apply YU T i (l.length+1-i);(iterate 5 exact rfl);omega;exact rfl
  refine zX2 ?_
  apply Vd T (l.take (i+1)++l.drop i) [c] (l.take i++c::l.drop i) (f:=celF) (o:=i) (cap:=cap);exact rfl;exact rfl;exact hrv (by(focus exact zc2));exact hq5;exact ho5;exact rfl;exact rfl;exact hA;(simp only[Tt,TU,T9,TY];omega);exact Yvb l c i hlt (by omega);exact zd
  refine zX7 ?_
  apply Yf (cels (some ⟨g,0,none⟩) cap (l.take i++c::l.drop i)::H)
  ·unfold cels
   exact zc0
  exact Yut
abbrev Itm:=Int×Int
def itF(x:Itm):List Value:=[.int .i64 x.1,.int .i64 x.2]
def qpcs(g:Nat)(A:Option Addr)(cap:Nat)(q:List Itm)(H:List HP):List HP:=blk g (.cells #[.slice A q.length cap] 376 (0,0))::sl 374 2 A q.length cap (q.flatMap itF)::H
def qIf(g:Nat):Value:=.iface 372 (.pointer (some ⟨g,0,none⟩))
theorem YpX(g:Nat)(w:World):(method (Tryz.prog.types.size+Made.depth) 372 (.pointer (some ⟨g,0,none⟩)) "Pop").run Tryz.prog w=.ok (452,.pointer (some ⟨g,0,none⟩)) w:=by kernel_rfl
theorem YnI(g:Nat)(w:World):(method (Tryz.prog.types.size+Made.depth) 372 (.pointer (some ⟨g,0,none⟩)) "Push").run Tryz.prog w=.ok (453,.pointer (some ⟨g,0,none⟩)) w:=by kernel_rfl
theorem YpW:Tryz.prog.types.size+Made.depth=(Tryz.prog.types.size+Made.depth-1)+1:=by kernel_rfl
variable {g B cap:Nat}{v:Value}{w0 w:World}{H:List HP}
theorem Yit(hb:blk g (.cells #[v] 376 (0,0))∈H)(w:World)(hw:St B w0 H w):(method (Tryz.prog.types.size+Made.depth) 372 (.pointer (some ⟨g,0,none⟩)) "Len").run Tryz.prog w=.ok (372,v) w:=by
 rw[YpW,Ya3 (f:=372) (elem:=376) (by kernel_rfl)]
 have hc:=Y7 (i:=0) (hw.blk hb).1
 have h:(loadVar 376 ⟨g,0,none⟩).run Tryz.prog w=.ok v w:=by
  simp[loadVar,Xj (T.scal (t:=376) rfl).1,hc]
 rw[h];rfl
theorem X3(hb:blk g (.cells #[v] 376 (0,0))∈H)(w:World)(hw:St B w0 H w):(method (Tryz.prog.types.size+Made.depth) 372 (.pointer (some ⟨g,0,none⟩)) "Less").run Tryz.prog w=.ok (451,v) w:=by
 rw[YpW,Ya3 (f:=451) (elem:=376) (by kernel_rfl)]
 have hc:=Y7 (i:=0) (hw.blk hb).1
 have h:(loadVar 376 ⟨g,0,none⟩).run Tryz.prog w=.ok v w:=by
  simp[loadVar,Xj (T.scal (t:=376) rfl).1,hc]
 rw[h];rfl
theorem UZ(hb:blk g (.cells #[v] 376 (0,0))∈H)(w:World)(hw:St B w0 H w):(method (Tryz.prog.types.size+Made.depth) 372 (.pointer (some ⟨g,0,none⟩)) "Swap").run Tryz.prog w=.ok (454,v) w:=by
 rw[YpW,Ya3 (f:=454) (elem:=376) (by kernel_rfl)]
 have hc:=Y7 (i:=0) (hw.blk hb).1
 have h:(loadVar 376 ⟨g,0,none⟩).run Tryz.prog w=.ok v w:=by
  simp[loadVar,Xj (T.scal (t:=376) rfl).1,hc]
 rw[h];rfl
variable {A:Option Addr}
theorem OO(k:Nat)(hw:St B w0 H w):
 CX B w0 372 [.slice A k cap] w λv K=>v=.int .i64 k/\K=H:=by
 refine Ya Tryz.func372 Tryz.ntmps372 rfl rfl hw ?_
 repeat'(first|(refine zs9 ?_)|refine zga ?_|fail)
 exact zc24
theorem V4(q:List Itm)(i j:Nat)(x y:Itm)(hx:q[i]? =some x)(hy:q[j]? =some y)(hr:Rd B w0 H A (q.flatMap itF))(hw:St B w0 H w):
 CX B w0 451 [.slice A q.length cap,.int .i64 i,.int .i64 j] w λv K=>v=.bool (decide (x.2<y.2))/\K=H:=by
 refine Ya Tryz.func451 Tryz.ntmps451 rfl rfl hw ?_
 have hi:=(Tu.1 hx).1
 have hj:=(Tu.1 hy).1
 by_cases hlt:x.2<y.2
 ·refine zX50 ?_<;>intros
  exact zc24
 ·refine zX50 ?_<;>intros
  exact zc24
theorem V5(q:List Itm)(i j:Nat)(x y:Itm)(hx:q[i]? =some x)(hy:q[j]? =some y)(hw:St B w0 (sl 374 2 A q.length cap (q.flatMap itF)::H) w):
 CX B w0 454 [.slice A q.length cap,.int .i64 i,.int .i64 j] w λv K=>v=.tuple #[]/\K=sl 374 2 A q.length cap (((q.set i y).set j x).flatMap itF)::H:=by
 refine Ya Tryz.func454 Tryz.ntmps454 rfl rfl hw ?_
 have hi:=(Tu.1 hx).1
 have hj:=(Tu.1 hy).1
 have hl1:(q.set i y).length=q.length:=TE
 refine zX8 ?_
 apply UB [2,3,0,1,4,5,6,7,8,9,10,11,12] [2,3,13,14,15] [13,14,15] [true]
 kernel_rfl
 kernel_rfl
 exact zy
 (simp only[Yc,nthO];rfl)
 (simp only[Yc,nthO];rfl)
 repeat'(first|(apply ZD T (f:=itF) (l:=q) (i:=i) (a:=y);(iterate 3 exact rfl);exact zd;exactλ_=>rfl;(iterate 3 exact rfl);omega)|(apply ZD T (f:=itF) (l:=q.set i y) (i:=j) (a:=x);(iterate 3 exact rfl);exact zd;exactλ_=>rfl;(iterate 3 exact rfl);omega)|refine zgd ?_|fail)
 exact Yjx
def itV(x:Itm):Value:=.agg #[.int .i64 x.1,.int .i64 x.2]
variable {A:Option Addr}{cap B:Nat}{w0 w:World}{H:List HP}
theorem Yqi(q:List Itm)(x:Itm)(hw:St B w0 (sl 374 2 A (q.length+1) cap ((q++[x]).flatMap itF)::H) w):St B w0 (sl 374 2 A q.length cap (q.flatMap itF)::H) w:=by
 have e:((q++[x]).flatMap itF).take (q.length*2)=q.flatMap itF:=by
  rw[<-X0 (q:=2) (λ_=>rfl),List.take_left' rfl]
 refine hw.shrink (e:=374) (size:=2) (k:=q.length+1) (k':=q.length) (cap:=cap) (A:=A) (xs:=(q++[x]).flatMap itF) (Nat.le_succ _) ?_
 rw[e]
 exact Upd.here _
theorem YnU(g:Nat)(q:List Itm)(x:Itm)(hl:q.length<=100000000000)(hw:St B w0 (qpcs g A cap (q++[x]) H) w):
 CX B w0 452 [.pointer (some ⟨g,0,none⟩)] w λv K=>v=.iface 374 (itV x)/\K=qpcs g A cap q H:=by
 refine Ya Tryz.func452 Tryz.ntmps452 rfl rfl hw ?_
 have hlen:(q++[x]).length=q.length+1:=by simp
 have hxl:(q++[x])[((((q++[x]).length:Nat):Int)-1).toNat]? =some x:=by
  simp_all
 unfold qpcs
 refine zX2 ?_
 apply YA [0,1,2,3,4,5,6,7,8,9,10] [11] [true,true]
 kernel_rfl
 kernel_rfl
 exact zy
 (simp only[Yc,nthO];rfl)
 (simp only[Yc,nthO];rfl)
 repeat'(first|(apply Yh;try exact zl)|refine zgd ?_|(refine zgh ?_;intro _)|fail)
 rename_i g3
 apply YA [0,1,2,3,4,5,6,7,8,9,10] [11] [true,true]
 kernel_rfl
 kernel_rfl
 exact zy
 (simp only[Yc,nthO];rfl)
 (simp only[Yc,nthO];rfl)
 repeat'(first|(apply Ybd T (e:=374) (size:=2);exact rfl;exact rfl;exact zm;exact rfl;exact rfl;omega)|(apply U8;exact rfl;kernel_rfl;exact rfl)|refine zgd ?_|fail)
 apply Yf (qpcs g A cap q H)
 ·intro w hw
  rw[show((((q++[x]).length:Nat):Int)-1).toNat=q.length by omega,hlen]at hw
  have h5:St B w0 (sl 374 2 A (q.length+1) cap ((q++[x]).flatMap itF)::blk g (.cells #[.slice A q.length cap] 376 (0,0))::H) w:=by
   revert w
   exact zc0
  exact(Yqi q x h5).perm (.swap _ _ _)
 apply Yd;exact rfl;exact rfl
 exact Qg
theorem YkL(g:Nat)(q:List Itm)(x:Itm)(hl:q.length<=100000000000)(hw:St B w0 (qpcs g A cap q H) w):
 CX B w0 453 [.pointer (some ⟨g,0,none⟩),.iface 374 (itV x)] w λv K=>∃A' cap',v=.tuple #[]/\K=qpcs g A' cap' (q++[x]) H:=by
 refine Ya Tryz.func453 Tryz.ntmps453 rfl rfl hw ?_
 unfold qpcs itV
 repeat'(first|(apply Ya9;exact rfl;kernel_rfl;exact rfl)|refine zgc ?_|(refine zgh ?_;intro _)|fail)
 rename_i g3
 apply YA [0,1,2,3,4,5,6,7] [8] [true,true,false]
 kernel_rfl
 kernel_rfl
 exact zy
 (simp only[Yc,nthO];rfl)
 (simp only[Yc,nthO];rfl)
 repeat'(first|(apply Yh;try exact zl)|refine zgd ?_|(refine zgh ?_;intro _)|(refine zgi ?_;intro _ _)|fail)
 rename_i A3 cap3
 apply Yf (qpcs g A3 cap3 (q++[x]) H)
 ·unfold qpcs
  rw[Tt,T9,show(q++[x]).flatMap itF=q.flatMap itF++#[Value.int .i64 x.1,.int .i64 x.2].toList by simp[itF]]
  exact zc0
 apply JB;exact rfl
 exact⟨A3,cap3,rfl,rfl⟩
theorem U3{q:List Itm}{i j:Nat}{x y:Itm}(hx:q[i]? =some x)(hy:q[j]? =some y):((q.set i y).set j x).Perm q:=by
 obtain⟨hi,rfl⟩:=Tu.1 hx
 obtain⟨hj,rfl⟩:=Tu.1 hy
 exact List.set_set_perm hi hj
theorem Ylx{q q':List Itm}(h:q'.Perm q):q'.length=q.length:=h.length_eq
theorem Yng(g:Nat)(q:List Itm)(i0 n:Nat)(hn:n<=q.length)(hl:q.length<=100000000000)(hi0:i0<=100000000000){A:Option Addr}{cap B:Nat}{w0:World}{H:List HP}{w:World}(hw:St B w0 (qpcs g A cap q H) w):
 CX B w0 412 [qIf g,.int .i64 i0,.int .i64 n] w λv K=>∃b q',v=.bool b/\q'.Perm q/\K=qpcs g A cap q' H:=by
 refine Ya Tryz.func412 Tryz.ntmps412 rfl rfl hw ?_
 unfold qIf
 refine zX7 ?_
 refine Ye (λ(z:Nat×List Itm)=>[(7,.int .i64 z.1),(0,qIf g),(1,.int .i64 i0),(2,.int .i64 n)]) (λz=>qpcs g A cap z.2 H) (λz=>z.1<=100000000000/\z.2.Perm q) (λz=>n-z.1) (i0,q) ⟨hi0,.refl _⟩ ?_ (λw hw=>hw) ?_
 ·exact zc1
 rintro⟨i,q1⟩ ⟨hi,hp⟩ K hK
 simp only at hi hp⊢
 have hql:=Ylx hp
 unfold qIf qpcs
 by_cases h1:2*i+1<n
 rotate_left
 ·have h1':¬2*(i:Int)+1<n:=by omega
  repeat'(first|refine zgd ?_|(refine zgf ?_ ?_<;>intro _<;>try exact zo)|fail)
  all_goals(
   apply Yd;exact rfl;exact rfl
   exact⟨_,q1,rfl,hp,rfl⟩)
 have hin:i<n:=by omega
 obtain⟨xi,hxi⟩:∃x,q1[i]? =some x:=⟨_,Ta (by omega)⟩
 obtain⟨x1,hx1⟩:∃x,q1[2*i+1]? =some x:=⟨_,Ta (by omega)⟩
 have e1:(2*(i:Int)+1)=((2*i+1:Nat):Int):=by omega
 have e2:((2*i+1:Nat):Int)+1=((2*i+2:Nat):Int):=by omega
 by_cases h2:2*i+2<n
 ·obtain⟨x2,hx2⟩:∃x,q1[2*i+2]? =some x:=⟨_,Ta (by omega)⟩
  obtain⟨b2,hb2⟩:∃b,decide (x2.2<x1.2)=b:=⟨_,rfl⟩
  have h21:=λ{w:World}(hr:Rd B w0 (qpcs g A cap q1 H) A (q1.flatMap itF)) (hw:St B w0 (qpcs g A cap q1 H) w)=>V4 q1 (2*i+2) (2*i+1) x2 x1 hx2 hx1 (cap:=cap) hr hw
  rw[hb2]at h21
  unfold qpcs at h21
  refine zX25 ?_<;>intros
  rw[e1,e2]
  cases b2 with
  |false=>
   obtain⟨b,hb⟩:∃b,decide (x1.2<xi.2)=b:=⟨_,rfl⟩
   have hless:=λ{w:World}(hr:Rd B w0 (qpcs g A cap q1 H) A (q1.flatMap itF)) (hw:St B w0 (qpcs g A cap q1 H) w)=>V4 q1 (2*i+1) i x1 xi hx1 hxi (cap:=cap) hr hw
   rw[hb]at hless
   have hswap:=λ{H:List HP}{w:World}(hw:St B w0 (sl 374 2 A q1.length cap (q1.flatMap itF)::H) w)=>V5 q1 i (2*i+1) xi x1 hxi hx1 hw
   unfold qpcs at hless
   cases b with
   |false=>
    apply Xe (f:=451);exact rfl;exact X3 (by(focus exact zc2));exact WI;exact za;exact rfl;exactλ_ hw=>h21 (.sl (by(focus exact zc2))) hw
    refine zX10 ?_
    apply Xe (f:=451);exact rfl;exact X3 (by(focus exact zc2));exact WI;exact za;exact rfl;exactλ_ hw=>hless (.sl (by(focus exact zc2))) hw
    exact zc19
   |true=>
    apply Xe (f:=451);exact rfl;exact X3 (by(focus exact zc2));exact WI;exact za;exact rfl;exactλ_ hw=>h21 (.sl (by(focus exact zc2))) hw
    refine zX10 ?_
    apply Xe (f:=451);exact rfl;exact X3 (by(focus exact zc2));exact WI;exact za;exact rfl;exactλ_ hw=>hless (.sl (by(focus exact zc2))) hw
    refine zX10 ?_
    apply Zh (sl 374 2 A q1.length cap (q1.flatMap itF)::blk g (.cells #[.slice A q1.length cap] 376 (0,0))::H)
    ·exact zc0
    apply Jr (f:=454);exact rfl;exact UZ (by(focus exact zc2));exact YhQ;exact za;exact rfl;exactλ_ hw=>hswap hw
    rintro _ _ ⟨rfl,rfl⟩
    refine zX10 ?_
    apply hK (2*i+1,(q1.set i x1).set (2*i+1) xi)
    ·exact⟨by exact zc57,(U3 hxi hx1).trans hp⟩
    ·exact zc57
    ·exact zc1
    ·dsimp only
     unfold qpcs
     rw[TE,TE]
     exact zc0
  |true=>
   obtain⟨b,hb⟩:∃b,decide (x2.2<xi.2)=b:=⟨_,rfl⟩
   have hless:=λ{w:World}(hr:Rd B w0 (qpcs g A cap q1 H) A (q1.flatMap itF)) (hw:St B w0 (qpcs g A cap q1 H) w)=>V4 q1 (2*i+2) i x2 xi hx2 hxi (cap:=cap) hr hw
   rw[hb]at hless
   have hswap:=λ{H:List HP}{w:World}(hw:St B w0 (sl 374 2 A q1.length cap (q1.flatMap itF)::H) w)=>V5 q1 i (2*i+2) xi x2 hxi hx2 hw
   unfold qpcs at hless
   cases b with
   |false=>
    apply Xe (f:=451);exact rfl;exact X3 (by(focus exact zc2));exact WI;exact za;exact rfl;exactλ_ hw=>h21 (.sl (by(focus exact zc2))) hw
    refine zX10 ?_
    apply Xe (f:=451);exact rfl;exact X3 (by(focus exact zc2));exact WI;exact za;exact rfl;exactλ_ hw=>hless (.sl (by(focus exact zc2))) hw
    exact zc19
   |true=>
    apply Xe (f:=451);exact rfl;exact X3 (by(focus exact zc2));exact WI;exact za;exact rfl;exactλ_ hw=>h21 (.sl (by(focus exact zc2))) hw
    refine zX10 ?_
    apply Xe (f:=451);exact rfl;exact X3 (by(focus exact zc2));exact WI;exact za;exact rfl;exactλ_ hw=>hless (.sl (by(focus exact zc2))) hw
    refine zX10 ?_
    apply Zh (sl 374 2 A q1.length cap (q1.flatMap itF)::blk g (.cells #[.slice A q1.length cap] 376 (0,0))::H)
    ·exact zc0
    apply Jr (f:=454);exact rfl;exact UZ (by(focus exact zc2));exact YhQ;exact za;exact rfl;exactλ_ hw=>hswap hw
    rintro _ _ ⟨rfl,rfl⟩
    refine zX10 ?_
    apply hK (2*i+2,(q1.set i x2).set (2*i+2) xi)
    ·exact⟨by exact zc57,(U3 hxi hx2).trans hp⟩
    ·exact zc57
    ·exact zc1
    ·dsimp only
     unfold qpcs
     rw[TE,TE]
     exact zc0
 ·have h2':¬2*(i:Int)+1+1<n:=by omega
  refine zX25 ?_<;>intros
  rw[e1]
  obtain⟨b,hb⟩:∃b,decide (x1.2<xi.2)=b:=⟨_,rfl⟩
  have hless:=λ{w:World}(hr:Rd B w0 (qpcs g A cap q1 H) A (q1.flatMap itF)) (hw:St B w0 (qpcs g A cap q1 H) w)=>V4 q1 (2*i+1) i x1 xi hx1 hxi (cap:=cap) hr hw
  rw[hb]at hless
  have hswap:=λ{H:List HP}{w:World}(hw:St B w0 (sl 374 2 A q1.length cap (q1.flatMap itF)::H) w)=>V5 q1 i (2*i+1) xi x1 hxi hx1 hw
  unfold qpcs at hless
  cases b with
  |false=>
   refine zX8 ?_
   apply Xe (f:=451);exact rfl;exact X3 (by(focus exact zc2));exact WI;exact za;exact rfl;exactλ_ hw=>hless (.sl (by(focus exact zc2))) hw
   exact zc19
  |true=>
   refine zX8 ?_
   apply Xe (f:=451);exact rfl;exact X3 (by(focus exact zc2));exact WI;exact za;exact rfl;exactλ_ hw=>hless (.sl (by(focus exact zc2))) hw
   refine zX10 ?_
   apply Zh (sl 374 2 A q1.length cap (q1.flatMap itF)::blk g (.cells #[.slice A q1.length cap] 376 (0,0))::H)
   ·exact zc0
   apply Jr (f:=454);exact rfl;exact UZ (by(focus exact zc2));exact YhQ;exact za;exact rfl;exactλ_ hw=>hswap hw
   rintro _ _ ⟨rfl,rfl⟩
   refine zX10 ?_
   apply hK (2*i+1,(q1.set i x1).set (2*i+1) xi)
   ·exact⟨by exact zc57,(U3 hxi hx1).trans hp⟩
   ·exact zc57
   ·exact zc1
   ·dsimp only
    unfold qpcs
    rw[TE,TE]
    exact zc0
variable {g B cap:Nat}{w0 w:World}{H:List HP}
theorem YnH(w:World)(_:St B w0 H w):(method (Tryz.prog.types.size+Made.depth) 372 (.pointer (some ⟨g,0,none⟩)) "Pop").run Tryz.prog w=.ok (452,.pointer (some ⟨g,0,none⟩)) w:=YpX g w
theorem Ykx(w:World)(_:St B w0 H w):(method (Tryz.prog.types.size+Made.depth) 372 (.pointer (some ⟨g,0,none⟩)) "Push").run Tryz.prog w=.ok (453,.pointer (some ⟨g,0,none⟩)) w:=YnI g w
variable {A:Option Addr}
theorem Ysm(g:Nat)(q:List Itm)(j0:Nat)(hj0:j0<q.length)(hl:q.length<=100000000000)(hw:St B w0 (qpcs g A cap q H) w):
 CX B w0 413 [qIf g,.int .i64 j0] w λv K=>∃q',v=.tuple #[]/\q'.Perm q/\K=qpcs g A cap q' H:=by
 refine Ya Tryz.func413 Tryz.ntmps413 rfl rfl hw ?_
 unfold qIf
 refine zX7 ?_
 refine Ye (λ(z:Nat×List Itm)=>[(1,.int .i64 z.1),(0,qIf g)]) (λz=>qpcs g A cap z.2 H) (λz=>z.1<q.length/\z.2.Perm q) (λz=>z.1) (j0,q) ⟨hj0,.refl _⟩ ?_ (λw hw=>hw) ?_
 ·exact zc1
 rintro⟨j,q1⟩ ⟨hj,hp⟩ K hK
 simp only at hj hp⊢
 have hql:=Ylx hp
 unfold qIf qpcs
 by_cases h1:j=0
 ·subst h1
  repeat'(first|(apply Yhj;(iterate 3 exact rfl);decide;rw[show IntKind.i64.wrap ((((0:Nat):Int)-1).tdiv 2)=0 by decide])|refine zgd ?_|(refine zgf ?_ ?_<;>intro _<;>try exact zo)|fail)
  apply JB;exact rfl
  exact⟨q1,rfl,hp,rfl⟩
 have hjj:1<=j:=by omega
 obtain⟨xj,hxj⟩:∃x,q1[j]? =some x:=⟨_,Ta (by omega)⟩
 obtain⟨i,hi⟩:∃i,(j-1)/2=i:=⟨_,rfl⟩
 have hij:i<j:=by omega
 obtain⟨xi,hxi⟩:∃x,q1[i]? =some x:=⟨_,Ta (by omega)⟩
 have e1:((j:Int)-1)/2=(i:Int):=by omega
 obtain⟨b,hb⟩:∃b,decide (xj.2<xi.2)=b:=⟨_,rfl⟩
 have hless:=λ{w:World}(hr:Rd B w0 (qpcs g A cap q1 H) A (q1.flatMap itF)) (hw:St B w0 (qpcs g A cap q1 H) w)=>V4 q1 j i xj xi hxj hxi (cap:=cap) hr hw
 rw[hb]at hless
 unfold qpcs at hless
 have hswap:=λ{H:List HP}{w:World}(hw:St B w0 (sl 374 2 A q1.length cap (q1.flatMap itF)::H) w)=>V5 q1 i j xi xj hxi hxj hw
 cases b with
 |false=>
  refine zX25 ?_<;>intros
  rw[e1]
  apply Xe (f:=451)
  exact rfl
  exact X3 (by(focus exact zc2))
  exact WI
  exact za
  exact rfl
  exactλ_ hw=>(hless (.sl (by(focus exact zc2))) hw)
  refine zX3 ?_
  apply JB;exact rfl
  exact⟨q1,rfl,hp,rfl⟩
 |true=>
  refine zX25 ?_<;>intros
  rw[e1]
  apply Xe (f:=451)
  exact rfl
  exact X3 (by(focus exact zc2))
  exact WI
  exact za
  exact rfl
  exactλ_ hw=>(hless (.sl (by(focus exact zc2))) hw)
  refine zX10 ?_
  apply Zh (sl 374 2 A q1.length cap (q1.flatMap itF)::blk g (.cells #[.slice A q1.length cap] 376 (0,0))::H)
  ·exact zc0
  apply Jr (f:=454) _
  exact rfl
  exact UZ (by(focus exact zc2))
  exact YhQ
  exact za
  exact rfl
  exactλ_ hw=>(hswap hw)
  rintro _ _ ⟨rfl,rfl⟩
  refine zX10 ?_
  apply hK (i,(q1.set i xj).set j xi)
  ·exact⟨by exact zc57,(U3 hxi hxj).trans hp⟩
  ·exact zc57
  ·exact zc1
  ·dsimp only
   unfold qpcs
   rw[TE,TE]
   exact zc0
theorem Ykk(g:Nat)(q:List Itm)(x:Itm)(hl:q.length<=99999999999)(hw:St B w0 (qpcs g A cap q H) w):
 CX B w0 374 [qIf g,.iface 374 (itV x)] w λv K=>∃A' cap' q',v=.tuple #[]/\q'.Perm (x::q)/\K=qpcs g A' cap' q' H:=by
 refine Ya Tryz.func374 Tryz.ntmps374 rfl rfl hw ?_
 refine zX2 ?_
 apply Jr (f:=453) _
 exact rfl
 exact Ykx
 exact Yxk
 exact za
 exact rfl
 exactλ_ hw=>(YkL g q x (by omega) hw)
 rintro _ _ ⟨A2,cap2,rfl,rfl⟩
 unfold qpcs
 refine zX2 ?_
 have hlen:(q++[x]).length=q.length+1:=by simp
 apply Xe (f:=372)
 exact rfl
 exact Yit (by(focus exact zc2))
 exact YlP
 exact za
 exact rfl
 exactλ_ hw=>(OO _ hw)
 repeat'(first|(refine zs31 ?_)|fail)
 rw[show(((q++[x]).length:Nat):Int)-1=((q.length:Nat):Int) by omega]
 apply Zh (qpcs g A2 cap2 (q++[x]) H)
 ·unfold qpcs
  exact zc45
 apply Yg _ Yxg
 exact za
 exact rfl
 exactλ_ hw=>(Ysm g (q++[x]) q.length (by omega) (by omega) (hw))
 rintro _ _ ⟨q',rfl,hp,rfl⟩
 refine zX2 ?_
 apply JB;exact rfl
 exact⟨A2,cap2,q',rfl,hp.trans Np,rfl⟩
theorem Yns(g:Nat)(q:List Itm)(h0:q≠[])(hl:q.length<=100000000000)(hw:St B w0 (qpcs g A cap q H) w):
 CX B w0 373 [qIf g] w λv K=>∃x q',v=.iface 374 (itV x)/\(x::q').Perm q/\K=qpcs g A cap q' H:=by
 refine Ya Tryz.func373 Tryz.ntmps373 rfl rfl hw ?_
 have hpos:0<q.length:=List.length_pos_iff.2 h0
 obtain⟨x0,hx0⟩:∃x,q[0]? =some x:=⟨_,Ta (by omega)⟩
 obtain⟨xn,hxn⟩:∃x,q[q.length-1]? =some x:=⟨_,Ta (by omega)⟩
 have hswap:=λ{H:List HP}{w:World}(hw:St B w0 (sl 374 2 A q.length cap (q.flatMap itF)::H) w)=>V5 q 0 (q.length-1) x0 xn hx0 hxn hw
 have hp1:=U3 hx0 hxn
 unfold qIf qpcs
 refine zX2 ?_
 apply Xe (f:=372)
 exact rfl
 exact Yit (by(focus exact zc2))
 exact YlP
 exact za
 exact rfl
 exactλ_ hw=>(OO _ hw)
 refine zX3 ?_
 rw[show((q.length:Nat):Int)-1=((q.length-1:Nat):Int) by omega]
 apply Zh (sl 374 2 A q.length cap (q.flatMap itF)::blk g (.cells #[.slice A q.length cap] 376 (0,0))::H)
 ·exact zc0
 apply Jr (f:=454) _
 exact rfl
 exact UZ (by(focus exact zc2))
 exact YhQ
 exact za
 exact rfl
 exactλ_ hw=>(hswap hw)
 rintro _ _ ⟨rfl,rfl⟩
 obtain⟨q1,hq1⟩:∃q1,(q.set 0 xn).set (q.length-1) x0=q1:=⟨_,rfl⟩
 rw[hq1]at hp1
 have hl1:=hp1.length_eq
 rw[hq1,<-hl1]
 refine zX2 ?_
 apply Zh (qpcs g A cap q1 H)
 ·unfold qpcs
  exact zc0
 apply Yg _ Yxf
 exact za
 exact rfl
 exactλ_ hw=>(Yng g q1 0 (q1.length-1) (by omega) (by omega) (by omega) (hw))
 rintro _ _ ⟨b,q2,rfl,hp2,rfl⟩
 have hl2:=hp2.length_eq
 obtain⟨q3,x,rfl⟩:∃q3 x,q2=q3++[x]:=by
  have hne:q2≠[]:=by intro h;rw[h]at hl2;simp at hl2;omega
  exact⟨q2.dropLast,q2.getLast hne,(List.dropLast_concat_getLast hne).symm⟩
 have hl3:(q3++[x]).length=q3.length+1:=by simp
 refine zX2 ?_
 apply Jr (f:=452) _
 exact rfl
 exact YnH
 exact Yxj
 exact za
 exact rfl
 exactλ_ hw=>(YnU g q3 x (by omega) hw)
 rintro _ _ ⟨rfl,rfl⟩
 refine zX2 ?_
 apply Yd;exact rfl;exact rfl
 exact⟨x,q3,rfl,(Np (l₁:=[x]) (l₂:=q3)).trans (hp2.trans hp1),rfl⟩
variable {B c k:Nat}{w0 w:World}{H:List HP}
theorem Yp0(c:Nat)(hc:c<=1000000)(hw:St B w0 H w):
 CX B w0 411 [.int .u64 1,.int .u64 c] w λv K=>v=.tuple #[.int .u64 0,.int .u64 c]/\K=H:=by
 have h:=Tryz.bits_Mul 1 c (by omega) (by omega) w
 rw[Nat.one_mul,Nat.div_eq_of_lt (by omega),Nat.mod_eq_of_lt (by omega)]at h
 exact YnS hw h
def fillL(v:Int)(c k:Nat):List Int:=List.replicate k v++List.replicate (c-k) 0
variable {v:Int}
theorem YpA(h:k<=c):(fillL v c k).length=c:=by grind [fillL]
theorem Ynm{m:Nat}(hk:k+m<=c)(hm:m<=k):(fillL v c k).take k++(fillL v c k).take m++(fillL v c k).drop (k+m)=fillL v c (k+m):=by
 unfold fillL
 rw[SH,SH,List.drop_append]
 simp only[TS,Nl,List.take_replicate,Nat.min_self,List.drop_replicate]
 rw[S8 hm,show m-k=0 by omega,show k-(k+m)=0 by omega,Nat.zero_min,Na,Rr,Rr,Na,TC,List.replicate_append_replicate,show c-k-(k+m-k)=c-(k+m) by omega]
theorem Yjf(l:List Int)(k:Nat):(l.flatMap numF).take k=(l.take k).flatMap numF:=by
 rw[X0 (q:=1) (λ_=>rfl),RG]
theorem Ypc(l:List Int)(k:Nat):(l.flatMap numF).drop k=(l.drop k).flatMap numF:=by
 rw[UT (q:=1) (λ_=>rfl),RG]
theorem YrY(l:List Int):∀v∈l.flatMap numF,v.oneCell'=true:=by
 intro v hv
 obtain⟨z,_,hz⟩:=SV.1 hv
 obtain rfl:v=.int .i64 z:=by grind [numF]
 rfl
theorem Yq2(c:Nat):List.replicate c (Value.int .i64 0)=(List.replicate c (0:Int)).flatMap numF:=by
 induction c with
 |zero=>rfl
 |succ c ih=>rw[SQ,SQ,Re,ih];rfl
theorem Ol(v:Int)(c:Nat)(hc:1<=c/\c<=100000){A2:Option Addr}{cap2:Nat}(hr:Rd B w0 H A2 (numF v))(hw:St B w0 H w):
 CX B w0 371 [.slice A2 1 cap2,.int .i64 c] w λu K=>∃g,u=.slice (some ⟨g,0,none⟩) (List.replicate c v).length c/\K=ints (some ⟨g,0,none⟩) c (List.replicate c v)::H:=by
 refine Ya Tryz.func371 Tryz.ntmps371 rfl rfl hw ?_
 repeat'(first|((apply Yb Yxe);exact za;exact rfl;exactλ_ hw=>(Yp0 c (by omega) hw))|(apply Ycq T;(iterate 3 exact rfl);exact zi3;(iterate 3 exact rfl);omega;intro _)|refine zgd ?_|(refine zge ?_ ?_<;>intro _<;>try exact zo)|fail)
 rename_i g
 simp only[Ry]
 rw[Yq2]
 apply Ylo T (o:=0) (k:=c) (kd:=c) (mm:=1) (ys:=numF v) (xs:=(List.replicate c (0:Int)).flatMap numF)
 exact rfl
 exact rfl
 exact hr.cons
 exact zd
 exact rfl
 exact rfl
 ·intro x hx
  obtain rfl:x=.int .i64 v:=by grind [numF]
  rfl
 ·grind [numF]
 have e1:min 1 c=1:=by omega
 have e2:((List.replicate c (0:Int)).flatMap numF).take 0++(numF v).take 1++((List.replicate c (0:Int)).flatMap numF).drop (0+1)=(fillL v c 1).flatMap numF:=by
  obtain⟨c',rfl⟩:∃c',c=c'+1:=⟨c-1,by omega⟩
  grind [fillL,numF]
 rw[e1,e2]
 refine zX7 ?_
 refine Ye (λ(k:Nat)=>[(8,.int .i64 k),(7,.slice (some ⟨g,0,none⟩) c c)]) (λk=>sl 3 1 (some ⟨g,0,none⟩) c c ((fillL v c k).flatMap numF)::H) (λk=>1<=k/\k<=c) (λk=>c-k) 1 ⟨by omega,hc.1⟩ ?_ (λw hw=>hw) ?_
 ·exact zc1
 rintro k ⟨hk1,hk⟩ K hK
 have hfl:=YpA (v:=v) hk
 have hfl2:((fillL v c k).flatMap numF).length=c:=by rw[Xb (q:=1) (λ_=>rfl),hfl,RG]
 by_cases hlt:k<c
 ·refine zX1 ?_<;>intros
  apply UB [0,1,2,3,4,5,6] [0,7,8,9] [7,8,9] [true]
  kernel_rfl
  kernel_rfl
  exact zy
  (simp only[Yc,nthO];rfl)
  (simp only[Yc,nthO];rfl)
  repeat'(first|(apply Ybd T (e:=3) (size:=1);exact rfl;exact rfl;exact zm;exact rfl;exact rfl;omega)|(apply ZP T;(iterate 4 exact rfl);omega;exact rfl)|refine zgd ?_|fail)
  simp only[Ry]
  rw[Yn9 (by omega)]
  apply Ylo T (o:=k) (k:=c) (kd:=c-k) (mm:=k) (ys:=(fillL v c k).flatMap numF) (xs:=(fillL v c k).flatMap numF)
  exact rfl
  exact rfl
  exact .sl (by(focus exact zc2))
  exact zd
  exact rfl
  exact rfl
  exact YrY _
  ·omega
  obtain⟨m,hm⟩:∃m,min k (c-k)=m:=⟨_,rfl⟩
  rw[hm,Yjf,Yjf,Ypc,<-RB,<-RB,Ynm (by omega) (by omega)]
  refine zX3 ?_
  apply hK (k+m)
  ·omega
  ·omega
  ·exact zc1
  exact zc21
 ·obtain rfl:k=c:=by omega
  clear hK
  refine zX0 ?_<;>intros
  apply Yd;exact rfl;exact rfl
  have e3:fillL v k k=List.replicate k v:=by simp[fillL]
  rw[e3]
  exact⟨g,by rw[TS],by unfold ints;rw[TS]⟩
open Go.RowKit Go.Eng Go.Nw Go.Rt
structure Dz where
 far:List Int
 q:List Itm
 A:Option Addr
 cap:Nat
structure Ez where
 k:Nat
 far:List Int
 q:List Itm
 A:Option Addr
 cap:Nat
theorem Yqz:∀(l:List Int),(∀x∈l,x<=1073741824)->(l.map Int.toNat).sum<=l.length*1073741824
 |[],_=>by simp
 |a::l,h=>by
  have:=Yqz l λx hx=>h x (by simp[hx])
  have h1:=h a (by simp)
  grind
theorem YcU(nodes:Nat)(l:List Lk)(to:Int)(hn:nodes<=40)(hl:l.length<=1000000)(hok:ArcsOk nodes l)(hto:0<=to/\to<nodes){AL:Option Addr}{capL B:Nat}{w0:World}{H:List HP}{w:World}(hr:Rd B w0 H AL (l.flatMap lkF))(hw:St B w0 H w):
 CX B w0 313 [.int .i64 nodes,.slice AL l.length capL,.int .i64 to] w λv K=>∃g far,v=.slice (some ⟨g,0,none⟩) far.length nodes/\Dist nodes l to far/\K=ints (some ⟨g,0,none⟩) nodes far::H:=by
 refine Ya Tryz.func313 Tryz.ntmps313 rfl rfl hw ?_
 refine zX14 ?_<;>intros
 apply Yg _ Ypr
 exact za
 exact rfl
 exactλ_ hw=>(Ol 1073741824 nodes (by omega) (.blk (by(focus exact zc2))) (hw))
 rintro _ _ ⟨gf,rfl,rfl⟩
 have hrl:(List.replicate nodes (1073741824:Int)).length=nodes:=TS
 repeat'(first|(apply XI T (f:=numF) (l:=List.replicate nodes (1073741824:Int)) (i:=to.toNat) (a:=0);(iterate 3 exact rfl);exact zd;exact rfl;exactλ_=>rfl;exact rfl;omega)|refine zgd ?_|(refine zgh ?_;intro _)|fail)
 rename_i gL gq
 have hs0:=Yj1 hok hto.1 hto.2
 have hw0:JM ((List.replicate nodes (1073741824:Int)).set to.toNat 0) [(to,0)]<=90000000000:=by
  unfold JM
  have:=Yqz ((List.replicate nodes (1073741824:Int)).set to.toNat 0) (λx hx=>by
   rcases List.mem_or_eq_of_mem_set hx with h|rfl
   ·rw[(List.mem_replicate.1 h).2];exact SK _
   ·decide)
  rw[TE,TS]at this
  simp only[T9]
  omega
 refine Ye (λ(z:Dz)=>[(8,.pointer (some ⟨gq,0,none⟩)),(7,.slice (some ⟨gf,0,none⟩) z.far.length nodes),(0,.int .i64 nodes),(1,.slice AL l.length capL),(2,.int .i64 to)])
  (λz=>qpcs gq z.A z.cap z.q (ints (some ⟨gf,0,none⟩) nodes z.far::H)) (λz=>DInv nodes l to z.far z.q 0 []/\JM z.far z.q<=90000000000) (λz=>JM z.far z.q) ⟨(List.replicate nodes (1073741824:Int)).set to.toNat 0,[(to,0)],some ⟨gL,0,none⟩,1⟩ ⟨hs0,hw0⟩ ?_ ?_ ?_
 ·dsimp only
  rw[TE]
  exact zc1
 ·intro w hw
  dsimp only
  have h5:St B w0 (blk gL (.cells #[.int .i64 to,.int .i64 0] 374 (0,0))::blk gq (.cells #[.slice (some ⟨gL,0,none⟩) 1 1] 376 (0,0))::sl 3 1 (some ⟨gf,0,none⟩) (List.replicate nodes (1073741824:Int)).length nodes (((List.replicate nodes (1073741824:Int)).set to.toNat 0).flatMap numF)::H) w:=by
   revert w
   exact zc0
  have h6:=h5.blk_sl (cs:=itF (to,0)) (len:=1) (size:=2) rfl (by omega)
  revert h6
  clear h5 hw
  revert w
  unfold qpcs ints
  rw[TE]
  exactλw h6=>h6.perm (.swap _ _ _)
 clear hs0 hw0 hrl
 rintro⟨far,q,A,cap⟩ ⟨hinv,hwt⟩ K hK
 simp only at hinv hwt⊢
 have hflen:=hinv.len
 have hql:q.length<=90000000000:=by unfold JM at hwt;omega
 by_cases hq:q.length=0
 ·unfold qpcs
  repeat'(first|((apply Yb YlP);exact za;exact rfl;exactλ_ hw=>(OO _ hw))|refine zgd ?_|(refine zge ?_ ?_<;>intro _<;>try exact zo)|fail)
  apply Yf (ints (some ⟨gf,0,none⟩) nodes far::H)
  ·exact zc0
  apply Yd;exact rfl;exact rfl
  obtain rfl:q=[]:=RL hq
  exact⟨gf,far,rfl,Ync hinv,rfl⟩
 unfold qpcs
 repeat'(first|((apply Yb YlP);exact za;exact rfl;exactλ_ hw=>(OO _ hw))|(apply U8;exact rfl;kernel_rfl;exact rfl)|refine zgd ?_|(refine zge ?_ ?_<;>intro _<;>try exact zo)|fail)
 apply Zh (qpcs gq A cap q (ints (some ⟨gf,0,none⟩) nodes far::H))
 ·unfold qpcs
  exact zc0
 apply Yg _ Yw0
 exact za
 exact rfl
 exactλ_ hw=>(Yns gq q (λh=>hq (by rw[h];rfl)) (by omega) (hw))
 rintro _ _ ⟨⟨v,d⟩,q1,rfl,hp,rfl⟩
 obtain⟨⟨v0,v1⟩,hvd,hdn⟩:=hinv.items (v,d) (hp.mem_iff.1 TG)
 simp only at v0 v1 hvd hdn
 have hd0:=(hinv.range v v0 v1).1
 have hdb:d<1073741824:=hdn
 have hgv:=ZE (far:=far) (i:=v) (by omega)
 have hq1:q1.length+1=q.length:=hp.length_eq
 unfold qpcs itV
 dsimp only
 by_cases hskip:Yk far v<d
 ·skip
  refine YtF ?_<;>intros
  apply hK ⟨far,q1,A,cap⟩
  ·refine⟨Yne hinv hp hskip,?_⟩
   unfold JM at hwt⊢
   simp only
   omega
  ·unfold JM
   simp only
   omega
  ·exact zc1
  ·unfold qpcs
   exact zc0
 ·have hde:Yk far v=d:=by omega
  refine YtF ?_<;>intros
  rename_i g9 _
  refine Ye (λ(z:Ez)=>[(46,.int .i64 z.k),(45,.int .i64 l.length),(44,.slice AL l.length capL),(8,.pointer (some ⟨gq,0,none⟩)),(9,.pointer (some ⟨g9,0,none⟩)),(7,.slice (some ⟨gf,0,none⟩) z.far.length nodes),(0,.int .i64 nodes),(1,.slice AL l.length capL),(2,.int .i64 to)])
   (λz=>qpcs gq z.A z.cap z.q (ints (some ⟨gf,0,none⟩) nodes z.far::blk g9 (.cells #[.int .i64 v,.int .i64 d] 374 (0,0))::H)) (λz=>z.k<=l.length/\DInv nodes l to z.far z.q v (l.drop z.k)/\Yk z.far v=d/\JM z.far z.q+1<=JM far q) (λz=>l.length-z.k) ⟨0,far,q1,A,cap⟩ ⟨Td _,Ynd hinv hp,hde,by unfold JM;exact zc57⟩ ?_ (by unfold qpcs;exact zc0) ?_
  ·exact zc1
  rintro⟨k,far2,q2,A2,cap2⟩ ⟨hk,hinv2,hd2,hwt2⟩ K2 hK2
  simp only at hk hinv2 hd2 hwt2⊢
  have hflen2:=hinv2.len
  have hql2:q2.length<=90000000000:=by unfold JM at hwt2 hwt;omega
  by_cases hlt:k<l.length
  rotate_left
  ·have hkl:k=l.length:=by omega
   clear hK2
   subst hkl
   rw[SB]at hinv2
   refine zX0 ?_<;>intros
   apply hK ⟨far2,q2,A2,cap2⟩
   ·exact⟨Ypa hinv2,by exact zc57⟩
   ·exact zc57
   ·exact zc1
   ·unfold qpcs
    exact zc0
  ·obtain⟨a,ha⟩:∃a,l[k]? =some a:=⟨_,Ta hlt⟩
   have hal:=Tc ha
   obtain⟨⟨a1,a2⟩,⟨a3,a4⟩,⟨a5,a6⟩⟩:=hok a hal
   have hdrop:l.drop k=a::l.drop (k+1):=by
    obtain⟨hk3,rfl⟩:=Tu.1 ha
    exact Rm hk3
   rw[hdrop]at hinv2
   have hga:=ZE (far:=far2) (i:=a.1) (by omega)
   unfold qpcs
   by_cases hyes:a.2.1=v/\d+a.2.2<Yk far2 a.1
   ·obtain⟨hy1,hy2⟩:=hyes
    have hlen3:(far2.set a.1.toNat (d+a.2.2)).length=far2.length:=TE
    repeat'(first|(apply XI T (f:=numF) (l:=far2) (i:=a.1.toNat) (a:=d+a.2.2);(iterate 3 exact rfl);exact zd;exact rfl;exactλ_=>rfl;exact rfl;omega)|(apply U8;exact rfl;kernel_rfl;exact rfl)|refine zgd ?_|(refine zgf ?_ ?_<;>intro _<;>try exact zo)|(refine zgh ?_;intro _)|fail)
    rename_i ga
    apply Zh (qpcs gq A2 cap2 q2 (ints (some ⟨gf,0,none⟩) nodes (far2.set a.1.toNat (d+a.2.2))::blk g9 (.cells #[.int .i64 v,.int .i64 d] 374 (0,0))::H))
    ·unfold qpcs ints
     rw[TE]
     exact zc0
    apply Yg _ Yw1
    exact za
    exact rfl
    exactλ_ hw=>(Ykk gq q2 (a.1,d+a.2.2) (by omega) (hw))
    rintro _ _ ⟨A3,cap3,q3,rfl,hp3,rfl⟩
    obtain⟨y1,y2,y3⟩:=Ypb hok ⟨v0,v1⟩ hd2 hal hinv2 hy1 hy2 hp3
    refine zX10 ?_
    apply hK2 ⟨k+1,far2.set a.1.toNat (d+a.2.2),q3,A3,cap3⟩
    ·exact⟨by exact zc57,y1,y2,by exact zc57⟩
    ·exact zc57
    ·dsimp only
     rw[hlen3]
     exact zc1
    exact zc21
   ·have hn2:=YrA hinv2 (by rw[hd2];exact hyes)
    by_cases hav:a.2.1=v
    ·have hle:¬d+a.2.2<Yk far2 a.1:=λh=>hyes ⟨hav,h⟩
     refine zX79 ?_<;>intros
     apply hK2 ⟨k+1,far2,q2,A2,cap2⟩
     ·exact⟨by exact zc57,hn2,hd2,hwt2⟩
     ·exact zc57
     ·exact zc1
     ·unfold qpcs
      exact zc0
    ·refine zX79 ?_<;>intros
     apply hK2 ⟨k+1,far2,q2,A2,cap2⟩
     ·exact⟨by exact zc57,hn2,hd2,hwt2⟩
     ·exact zc57
     ·exact zc1
     ·unfold qpcs
      exact zc0
variable {B:Nat}{w0 w:World}{H:List HP}
theorem ZU(a lo hi:Int)(hw:St B w0 H w):
 CX B w0 243 [.int .i64 a,.int .i64 lo,.int .i64 hi] w λv K=>v=.bool (decide (lo<=a/\a<=hi))/\K=H:=by
 refine Ya Tryz.func243 Tryz.ntmps243 rfl rfl hw ?_
 exact zc27
theorem O9(c:Cel)(hw:St B w0 H w):
 CX B w0 173 [celV c] w λv K=>∃g,v=.slice (some ⟨g,0,none⟩) 5 5/\K=blk g (.cells (celF c).toArray 3 (0,0))::H:=by
 refine Ya Tryz.func173 Tryz.ntmps173 rfl rfl hw ?_
 refine zX73 ?_<;>intros
 rename_i g
 apply Yf (blk g (.cells (celF c).toArray 3 (0,0))::H)
 ·unfold celF
  exact zc0
 exact zc24
theorem YdR(a b:Cel)(hw:St B w0 H w):
 CX B w0 245 [celV a,celV b] w λv K=>v=.bool (Xg a b)/\K=H:=by
 refine Ya Tryz.func245 Tryz.ntmps245 rfl rfl hw ?_
 apply Xc
 iterate 5 (first|refine zga ?_|(refine zgh ?_;intro _)|fail)
 apply YbZ
 apply Xc
 refine Zs (λ(z:Nat×Nat)=>[(5,.slice (some ⟨z.1,0,none⟩) 5 5),(6,.slice (some ⟨z.2,0,none⟩) 5 5)]) (λz=>blk z.1 (.cells (celF a).toArray 3 (0,0))::blk z.2 (.cells (celF b).toArray 3 (0,0))::H) ?_ ?_
 ·intro K hK
  apply UC (.n1 0 (.n1 2 (.n2 1 (.n1 3 .done) 3 (.n1 1 .done)))) [4,5] [true,true]
  kernel_rfl
  kernel_rfl
  exact zy
  (simp only[Yc,nthO];rfl)
  repeat'(first|((apply Yg _ YsJ);exact za;exact rfl;exactλ_ hw=>O9 _ hw;rintro _ _ ⟨g9,rfl,rfl⟩)|(apply YeZ;(simp only[nthO];rfl);(simp only[nthO];rfl))|(apply YeY;(simp only[nthO];rfl))|(apply UE;try exact zl)|(apply Yh;try exact zl)|refine zgd ?_|fail)
  all_goals(
   rename_i gx
   first
    |(refine hK (gx,g9) _ _ zu ?_;dsimp only[celF];exact zk;done)
    |(refine hK (g9,gx) _ _ zu ?_;dsimp only[celF];exact zk;done))
 rintro⟨g1,g2⟩
 dsimp only
 have hA:Rd B w0 (blk g1 (.cells (celF a).toArray 3 (0,0))::blk g2 (.cells (celF b).toArray 3 (0,0))::H) (some ⟨g1,0,none⟩) ((nums a).flatMap numF):=Rd.blk (cs:=(celF a).toArray) (.head _)
 have hB:Rd B w0 (blk g1 (.cells (celF a).toArray 3 (0,0))::blk g2 (.cells (celF b).toArray 3 (0,0))::H) (some ⟨g2,0,none⟩) ((nums b).flatMap numF):=Rd.blk (cs:=(celF b).toArray) (.tail _ (.head _))
 have la:(nums a).length=5:=rfl
 have lb:(nums b).length=5:=rfl
 refine zX7 ?_
 refine Ye (λ(i:Nat)=>[(7,.int .i64 i),(5,.slice (some ⟨g1,0,none⟩) (nums a).length 5),(6,.slice (some ⟨g2,0,none⟩) (nums b).length 5)]) (λ_=>blk g1 (.cells (celF a).toArray 3 (0,0))::blk g2 (.cells (celF b).toArray 3 (0,0))::H) (λi=>i<=5/\Xg a b=X6 ((nums a).drop i) ((nums b).drop i)) (λi=>5-i) 0 ⟨Td _,rfl⟩ ?_ (λw hw=>hw) ?_
 ·simp_all
 rintro i ⟨hi,he⟩ K hK
 by_cases hlt:i<5
 ·obtain⟨x,hx⟩:∃x,(nums a)[i]? =some x:=⟨_,Ta (by omega)⟩
  obtain⟨y,hy⟩:∃y,(nums b)[i]? =some y:=⟨_,Ta (by omega)⟩
  rw[Ydv hx hy]at he
  by_cases hxy:x=y
  ·rw[Tj (by omega)]at he
   refine zX50 ?_<;>intros
   apply hK (i+1)
   ·grind
   ·omega
   ·exact zc1
   exact zc21
  ·rw[Tn hxy]at he
   rw[he]
   clear hK
   repeat'(first|refine zgd ?_|(refine zge ?_ ?_<;>intro _<;>try exact zo)|fail)
   all_goals(
    apply Yf H
    ·exact zk
    apply Yd;exact rfl;exact rfl
    first
     |exact⟨by rw[Tf (by omega)],rfl⟩
     |exact⟨by rw[Ti (by omega)],rfl⟩)
 ·obtain rfl:i=5:=by omega
  refine zX0 ?_<;>intros
  apply Yf H
  ·exact zc0
  apply Yd;exact rfl;exact rfl
  exact⟨by rw[he];rfl,rfl⟩
theorem YbD(s:SchM)(c:Cel)(hs:1<=s.len/\s.len<=512/\1<=s.off/\s.off<=16)(hw:St B w0 H w):
 CX B w0 244 [s.val,celV c] w λv K=>v=.bool (XJ s.sch c)/\K=H:=by
 refine Ya Tryz.func244 Tryz.ntmps244 rfl rfl hw ?_
 repeat'(first|((apply YS W5);exact za;exact rfl;exactλ_ hw=>(ZU _ _ _ hw);all_goals(intro hB;(try simp only[Tm,Tv]at hB);try exact zo))|refine zgd ?_|(refine zgh ?_;intro _)|fail)
 all_goals(
  apply Yf H
  ·exact zk
  apply Yd;exact rfl;exact rfl
  first
   |exact⟨by rw[show XJ s.sch c=true by(unfold XJ XK insE SchM.sch;simp only[Tq,Tm];omega)],rfl⟩
   |exact⟨by rw[show XJ s.sch c=false by(rw[Sj];unfold XJ XK insE SchM.sch;simp only[ne_eq,Tq,Tm];omega)],rfl⟩)
theorem VB(s:SchM){B:Nat}{w0:World}{H:List HP}{w:World}(hr:Rd B w0 H s.A (s.cells.flatMap celF))(hl:s.cells.length<=1000000000000)(hw:St B w0 H w):
 CX B w0 164 [s.val] w λv K=>v=.bool (Xd s.sch)/\K=H:=by
 refine Ya Tryz.func164 Tryz.ntmps164 rfl rfl hw ?_
 have e1:s.sch.cells=s.cells:=rfl
 have e2:s.sch.len=s.len:=rfl
 have e3:s.sch.off=s.off:=rfl
 have e4:s.sch.cells.length=s.cells.length:=rfl
 have hno:¬(1<=s.len/\s.len<=512/\1<=s.off/\s.off<=16/\s.cells.length<=512)->Xd s.sch=false:=λh=>by
  rw[Sj]
  intro hh
  have h0:=XF.1 hh
  have h1:=TT h0.sized
  have h2:=h0.few
  omega
 by_cases hz:1<=s.len/\s.len<=512/\1<=s.off/\s.off<=16/\s.cells.length<=512
 rotate_left
 ·rw[hno hz]
  repeat'(first|((apply YS W5);exact za;exact rfl;exactλ_ hw=>(ZU _ _ _ hw);all_goals(intro hB;(try simp only[Tm,Tv]at hB);try exact zo))|refine zgd ?_|(refine zge ?_ ?_<;>intro _<;>try exact zo)|(refine zgh ?_;intro _)|fail)
  all_goals(
   apply Yf H
   ·exact zk
   apply Yd;exact rfl;exact rfl
   exact⟨rfl,rfl⟩)
 have hss:Zw s.sch=true:=Tf (by omega)
 have hfe:Xd s.sch=(List.range s.cells.length).all (Zn s.sch):=by
  unfold Xd
  rw[hss,e1,Tf hz.2.2.2.2,RD,RD]
 have hsb:1<=s.len/\s.len<=512/\1<=s.off/\s.off<=16:=⟨hz.1,hz.2.1,hz.2.2.1,hz.2.2.2.1⟩
 rw[hfe]
 repeat'(first|((apply YS W5);exact za;exact rfl;exactλ_ hw=>(ZU _ _ _ hw);all_goals(intro hB;(try simp only[Tm,Tv]at hB);try exact zo))|refine zgc ?_|(refine zge ?_ ?_<;>intro _<;>try exact zo)|(refine zgh ?_;intro _)|fail)
 first|(rename_i g;guard_hyp g:Nat)|(rename_i g _;guard_hyp g:Nat)|(rename_i g _ _;guard_hyp g:Nat)
 refine Ye (λ(i:Nat)=>[(3,.int .i64 i),(1,.pointer (some ⟨g,0,none⟩))]) (λ_=>blk g (.cells #[.int .i64 s.len,.int .i64 s.off,.slice s.A s.cells.length s.cap] 33 (0,0))::H) (λi=>i<=s.cells.length/\(List.range i).all (Zn s.sch)=true) (λi=>s.cells.length-i) 0 ⟨Td _,rfl⟩ ?_ (λw hw=>hw) ?_
 ·exact zc1
 rintro i ⟨hi,hall⟩ K hK
 have hr:=hr.cons (X:=blk g (.cells #[.int .i64 s.len,.int .i64 s.off,.slice s.A s.cells.length s.cap] 33 (0,0)))
 by_cases hlt:i<s.cells.length
 ·have hget:s.cells[i]? =some (Yj s.sch i):=YM (s:=s.sch) hlt
  have hgo:Zn s.sch i=false->(List.range s.cells.length).all (Zn s.sch)=false:=λh=>Yf9 hlt h
  have hst:Zn s.sch i=true->(List.range (i+1)).all (Zn s.sch)=true:=λh=>by rw[WU,hall,h];rfl
  rcases Su i with h0|h0
  ·subst h0
   repeat'(first|((apply ZY YsX);exact za;exact rfl;exactλ_ hw=>(YbD s _ hsb hw);all_goals(intro hB;(try simp only[Tm,Tv]at hB);try exact zo))|(apply zg28;refine zs84 ?_)|refine zgd ?_|(refine zge ?_ ?_<;>intro _<;>try exact zo)|fail)
   all_goals first
    |(apply hK (0+1)
      ·exact⟨by omega,hst (by simp[Zn, *])⟩
      ·omega
      ·exact zu
      ·exact zk
      done)
    |(apply Yf H
      ·exact zk
      apply Yd;exact rfl;exact rfl
      exact⟨by rw[hgo (by simp[Zn, *])],rfl⟩)
  ·have hget2:s.cells[((i:Int)-1).toNat]? =some (Yj s.sch (i-1)):=zc64
   have hi0:decide (i=0)=false:=Ti (by omega)
   repeat'(first|((apply ZY YsX);exact za;exact rfl;exactλ_ hw=>(YbD s _ hsb hw);all_goals(intro hB;(try simp only[Tm,Tv]at hB);try exact zo))|((apply ZY Ypl);exact za;exact rfl;exactλ_ hw=>(YdR _ _ hw);all_goals(intro hB;(try simp only[Tm,Tv]at hB);try exact zo))|(apply zg28;refine zs84 ?_)|refine zgd ?_|(refine zge ?_ ?_<;>intro _<;>try exact zo)|fail)
   all_goals first
    |(apply hK (i+1)
      ·exact⟨by omega,hst (by simp[Zn, *])⟩
      ·omega
      ·exact zu
      ·exact zk
      done)
    |(apply Yf H
      ·exact zk
      apply Yd;exact rfl;exact rfl
      exact⟨by rw[hgo (by simp[Zn, *])],rfl⟩)
 ·refine zX0 ?_<;>intros
  apply Yf H
  ·exact zc0
  apply Yd;exact rfl;exact rfl
  rw[show i=s.cells.length by omega]at hall
  exact⟨by rw[hall],rfl⟩
variable {α:Type}{i:Nat}
theorem YhW{p:α->Bool}{l:List α}{x:α}(h:l[i]? =some x):(l.take (i+1)).filter p=(l.take i).filter p++if p x=true then [x]else []:=zc76
theorem Yno{p:α->Bool}{l:List α}:((l.take i).filter p).length<=l.length:=by
 grind
section
variable {m:Eng.Mode}{n:Shp}{B d:Nat}{w0:World}{ops:Array Oper}{Q:Exit->Act->World->Prop}{rest:List Oper}{env:Env}{H:List HP}{ty:TypeId}{pos:String}{after:Array Edge}{x y:Operand}
variable {a:Int}
theorem Yll{b:Int}{xt yt:TypeId}(hx:evo env x=some (.int .u8 a))(hy:evo env y=some (.int .u8 b))(hn:Nat.ble (d+1) n.k=true)(hb:0<=a+b/\a+b<=255)(h:VL Tryz.prog m n B w0 ops Q rest ((d,.int .u8 (a+b))::env) H):
 VL Tryz.prog m n B w0 ops Q (⟨some d,.binOp .add xt x y yt,ty,pos,after,none⟩::rest) env H:=ZN hx hy hn (by rw[IntWalk.u8_in _ hb];exact h)
theorem Yoz{k j:IntKind}{src dst:TypeId}(hx:evo env x=some (.int k a))(hs:Eng.look T.ik src=some j)(ht:Eng.look T.ik dst=some .u8)(hn:Nat.ble (d+1) n.k=true)(hb:0<=a/\a<=255)(h:VL Tryz.prog m n B w0 ops Q rest ((d,.int .u8 a)::env) H):
 VL Tryz.prog m n B w0 ops Q (⟨some d,.convert src dst x,ty,pos,after,none⟩::rest) env H:=Jc T hx hs ht hn (by rw[IntWalk.u8_in _ hb];exact h)
theorem Ylm{g:Nat}{z:Int}{tt:TypeId}{fr:Nat×Nat}(hx:evo env x=some (.slice (some ⟨g,0,none⟩) 1 1))(hm:blk g (.cells #[.int .u8 z] tt fr)∈H)(hn:Nat.ble (d+1) n.k=true)
 (h:VL Tryz.prog m n B w0 ops Q rest ((d,strV [UInt8.ofNat z.toNat])::env) H):VL Tryz.prog m n B w0 ops Q (⟨some d,.convert 119 9 x,ty,pos,after,none⟩::rest) env H:=by
 refine Yt rfl rfl hn rfl (λa w ha hw=>?_) h
 have hl:=run_loadCells_list (P:=Tryz.prog) w ⟨g,0,none⟩ [.int .u8 z] (λj v hj=>by
  obtain⟨g',o,e5,hc⟩:=Rd.blk (cs:=#[.int .u8 z]) hm w hw j v hj
  injection e5 with e5
  injection e5 with e5 e6
  subst e5
  rw[<-e6]at hc
  rw[Addr.add_lit]
  exact hc)
 have hr:(Conv.bytesToString (.slice (some ⟨g,0,none⟩) 1 1)).run Tryz.prog w=.ok (strV [UInt8.ofNat z.toNat]) w:=by
  rw[run_bytesToString w ⟨g,0,none⟩ 1 1 [z] hl]
  rfl
 simp[execOp,ha.eval hx,run_convert_bytes_string w 119 9 5 _ 1 1 Tryz.underlying119 Tryz.underlying5 Tryz.underlying9,hr]
end
theorem YeE:∀(n:Nat),n<10000->∀{B:Nat}{w0:World}{H:List HP}{w:World},St B w0 H w->
 CX B w0 172 [.int .i64 n] w λv K=>v=strV (Lib.decDigits n)/\K=H:=by
 intro n
 induction n using Nat.strongRecOn with
 |_ n ih=>
 intro hn B w0 H w hw
 refine Ya Tryz.func172 Tryz.ntmps172 rfl rfl hw ?_
 by_cases h10:n<10
 ·repeat'(first|refine zgd ?_|(refine zge ?_ ?_<;>intro _<;>try exact zo)|fail)
  rw[IntWalk.u8_in _ (by omega)]
  repeat'(first|(apply Yll;(iterate 3 exact rfl);omega)|(apply Ylm;exact rfl;exact zm;exact rfl)|refine zgb ?_|(refine zgh ?_;intro _)|fail)
  apply Yf H
  ·exact zk
  apply Yd;exact rfl;exact rfl
  rw[Lib.decDigits_one h10,Int.toNat_add (by omega) (by omega)]
  exact⟨rfl,rfl⟩
 ·have hq:((n:Int)/10)=((n/10:Nat):Int):=by omega
  have hm:((n:Int)%10)=((n%10:Nat):Int):=by omega
  have hih:=λ{B:Nat}{w0:World}{H:List HP}{w:World}(hw:St B w0 H w)=>by
   have h:=ih (n/10) (by omega) (by omega) hw
   rw[<-hq]at h
   exact h
  have hl:=YlD (u:=n/10) (by omega)
  repeat'(first|refine zgb ?_|(refine zge ?_ ?_<;>intro _<;>try exact zo)|fail)
  refine Y6 [many H] (λw hw=>hw.perm (.closeT H)) ?_
  apply Qz (.p1 0 (.p1 1 (.p1 3 (.p1 4 (.p1 5 (.p1 6 (.d2 2 (.d1 7 (.d1 8 .done)) 7 (.d2 2 (.d1 8 .done) 8 (.d1 2 .done))))))))) [9,10] [false]
  kernel_rfl
  kernel_rfl
  exact zy
  (simp only[Yc,nthO];rfl)
  repeat'(first|(apply Yoz;(iterate 4 exact rfl);omega)|(apply Yll;(iterate 3 exact rfl);omega)|(apply Ylm;exact rfl;exact zm;exact rfl)|((apply Yb YsI);exact za;exact rfl;exactλ_ hw=>(hih hw))|(apply XY (Lib.decDigits (n/10)) [UInt8.ofNat (48+((n:Int)%10)).toNat];(iterate 3 exact rfl);(show _+1<=_;omega))|(apply Ylu;(simp only[nthO];rfl))|(apply Yls;(simp only[nthO];rfl);exact zp)|(apply Ylt;(simp only[nthO];rfl);(simp only[nthO];rfl);exact zp)|(apply QF;try exact zl)|refine zgd ?_|(refine zgh ?_;intro _)|fail)
  all_goals(
   apply Yf H
   ·intro w hw
    have h5:St B w0 [many H] w:=by
     revert w
     exact zk
    exact h5.perm (.openT H)
   apply Yd;exact rfl;exact rfl
   refine⟨?_,rfl⟩
   have e:Lib.decDigits n=Lib.decDigits (n/10)++[UInt8.ofNat (48+n%10)]:=by
    conv=>lhs;rw[Lib.decDigits,dif_neg h10]
   rw[e,hm,Int.toNat_add (by omega) (by omega)]
   rfl)
variable {B:Nat}{w0 w:World}{H:List HP}
theorem X7(word:List UInt8)(l:List Int)(h:∀n∈l,0<=n/\n<10000)(h5:l.length<=100)(hwd:word.length<=100){A:Option Addr}{cap:Nat}(hr:Rd B w0 H A (l.flatMap numF))(hw:St B w0 H w):
 CX B w0 85 [strV word,.slice A l.length cap] w λv K=>v=strV (Y0 word l)/\K=H:=by
 refine Ya Tryz.func85 Tryz.ntmps85 rfl rfl hw ?_
 repeat'(first|refine zgb ?_|fail)
 refine Ye (λ(i:Nat)=>[(6,.int .i64 i),(1,.slice A l.length cap),(5,strV (XW word (l.take i)))]) (λ_=>H) (λi=>i<=l.length) (λi=>l.length-i) 0 (Td _) ?_ (λw hw=>hw) ?_
 ·have e0:XW word (l.take 0)=word:=by simp[XW]
  rw[e0]
  exact zu
 intro i hi K hK
 have hbl:=UJ (w:=word) (l:=l.take i) λn hn=>h n (RY hn)
 have hlt0:(l.take i).length<=100:=by rw[TU];omega
 by_cases hlt:i<l.length
 ·obtain⟨n,hn⟩:∃n,l[i]? =some n:=⟨_,Ta hlt⟩
  have hnb:=h n (Tc hn)
  have hil:=Ob hnb
  have hde:∀{H:List HP}{w:World},St B w0 H w->CX B w0 172 [.int .i64 n] w λv K=>v=strV (Lib.itoa n)/\K=H:=λhw=>by
   have h:=YeE n.toNat (by omega) hw
   rw[show((n.toNat:Nat):Int)=n by omega,<-Ydr hnb.1]at h
   exact h
  repeat'(first|((apply Yb YsI);exact za;exact rfl;exactλ_ hw=>(hde hw))|(apply XY (XW word (l.take i)) [32];(iterate 3 exact rfl);(show _+1<=_;omega))|(apply XY (XW word (l.take i)++[32]) (Lib.itoa n);(iterate 3 exact rfl);(rw[Tt];show _+1+_<=_;omega))|refine zgd ?_|(refine zge ?_ ?_<;>intro _<;>try exact zo)|fail)
  apply hK (i+1)
  ·show i+1<=l.length
   omega
  ·omega
  ·rw[TB,hn,RN,OD,<-TV]
   exact zu
  ·exactλw hw=>hw
 ·skip
  repeat'(first|(apply XY (XW word (l.take i)) [10];(iterate 3 exact rfl);(show _+1<=_;omega))|refine zgc ?_|(refine zge ?_ ?_<;>intro _<;>try exact zo)|fail)
  apply Yd;exact rfl;exact rfl
  rw[show i=l.length by omega,TI]
  exact⟨rfl,rfl⟩
theorem YiU(s:SchM)(hr:Rd B w0 H s.A (s.cells.flatMap celF))(hl:s.cells.length<=1000000000000)(hw:St B w0 H w):
 CX B w0 86 [s.val] w λv K=>v=.tuple #[strV (Xq s.sch).1,.int .i64 (Xq s.sch).2]/\K=H:=by
 refine Ya Tryz.func86 Tryz.ntmps86 rfl rfl hw ?_
 have e1:s.sch.cells=s.cells:=rfl
 cases hf:Xd s.sch with
 |false=>
  repeat'(first|((apply Yb YcY);exact za;exact rfl;exactλ_ hw=>(OE (TF Value.bool hf) (λ_ hw=>VB s hr.cons hl hw) hw))|refine zgd ?_|(refine zgh ?_;intro _)|fail)
  apply Yf H
  ·exact zk
  apply YH;(iterate 3 exact rfl)
  rw[Xq,Tn hf]
  exact⟨rfl,rfl⟩
 |true=>
  have hfr:=XF.1 hf
  have hle:s.cells.length<=512:=hfr.few
  have hnm:=OJ hfr
  have hln1:=XR (w:=wordS) hnm.1
  repeat'(first|((apply Yb YcY);exact za;exact rfl;exactλ_ hw=>(OE (TF Value.bool hf) (λ_ hw=>VB s hr.cons hl hw) hw))|refine zgc ?_|(refine zgh ?_;intro _)|fail)
  rename_i gs gl
  apply Yb en85
  exact za
  exact rfl
  exactλ_ hw=>(X7 wordS [s.sch.len,s.sch.off] hnm.1 (by show 2<=100;decide) (by decide) (Rd.blk (cs:=#[.int .i64 s.len,.int .i64 s.off]) zm) hw)
  repeat'(first|refine zgb ?_|fail)
  refine Ye (λ(i:Nat)=>[(5,.int .i64 i),(1,.pointer (some ⟨gs,0,none⟩)),(4,strV (X9 s.sch i))]) (λ_=>blk gs (.cells #[.int .i64 s.len,.int .i64 s.off,.slice s.A s.cells.length s.cap] 33 (0,0))::H) (λi=>i<=s.cells.length) (λi=>s.cells.length-i) 0 (Td _) ?_ ?_ ?_
  ·have e0:X9 s.sch 0=Y0 wordS [s.sch.len,s.sch.off]:=by unfold X9;simp
   rw[e0]
   exact zu
  ·exact zk
  intro i hi K hK
  have hr:=hr.cons (X:=blk gs (.cells #[.int .i64 s.len,.int .i64 s.off,.slice s.A s.cells.length s.cap] 33 (0,0)))
  have htl:=Wy hfr i hi
  by_cases hlt:i<s.cells.length
  ·have hget:s.cells[i]? =some (Yj s.sch i):=YM (s:=s.sch) hlt
   have hnc:=hnm.2 _ (Z0 (s:=s.sch) hlt)
   have hln:=XR (w:=wordC) hnc
   have h5n:(nums (Yj s.sch i)).length=5:=rfl
   have h4w:wordC.length=4:=rfl
   repeat'(first|refine zgd ?_|(refine zge ?_ ?_<;>intro _<;>try exact zo)|fail)
   apply Yg _ YsJ
   exact za
   exact rfl
   exactλ_ hw=>(O9 (Yj s.sch i) (hw))
   rintro _ _ ⟨ga,rfl,rfl⟩
   repeat'(first|fail)
   apply Yb en85
   exact za
   exact rfl
   exactλ_ hw=>(X7 wordC (nums (Yj s.sch i)) hnc (by show 5<=100;decide) (by decide) (Rd.blk (cs:=(celF (Yj s.sch i)).toArray) zm) hw)
   repeat'(first|(apply XY (X9 s.sch i) (Y0 wordC (nums (Yj s.sch i)));(iterate 3 exact rfl);omega)|refine zgc ?_|fail)
   apply hK (i+1)
   ·show i+1<=s.cells.length
    omega
   ·omega
   ·rw[Ot hlt]
    exact zu
   ·exact zk
  ·repeat'(first|refine zgc ?_|(refine zge ?_ ?_<;>intro _<;>try exact zo)|fail)
   apply Yf H
   ·exact zk
   apply YH;(iterate 3 exact rfl)
   rw[Xq,Tj (by simp[hf])]
   rw[show i=s.sch.cells.length from(by have:s.sch.cells.length=s.cells.length:=rfl;omega),show X9 s.sch s.sch.cells.length=Yea s.sch from(by unfold X9 Yea;rw[TI])]
   exact⟨rfl,rfl⟩
open Go.ChangeShapes Go.WideShapes Go.ChangeAt Go.RowKit Go.Eng
section
variable {H:Type}{enc:TypeId×Value->H}
theorem YlY{a:Assume}{C:Checked}{os:Os}{f:FuncId}{fn:Func}{s:ChangeSpec}{conds:List PathCond}{apart fresh handsOn again:Bool}{X:World->Prop}(hX:∀w w':World,w.heap=w'.heap->X w->X w')
 (own:ownKnob C.prog.godebug=none) (started:os.Started) (noInit:C.prog.inits.idxOf? f=none) (hfn:C.prog.funcs[f]? =some fn)
 (witness:∃(w:World) (tape:Tape) (i:Input),w.os=os/\(w.forCall tape i).Shaped C.prog/\i.vars=[]/\Input.okWide C.prog (w.forCall tape i) .any w.heap.size f i/\
  ((s.pre enc C.prog fn conds apart (w.forCall tape i).memory i.args/\X (w.forCall tape i).memory)/\sizedMet enc C.prog fn (OpenSpec.ofChange s) apart (w.forCall tape i).memory i.args)/\a.holds C.prog (lone (Frame.enter C.prog f i.args .normal) [] (w.forCall tape i)))
 (contract:∀(W:World) (base:Nat) (args:Array Value) (ds gs:List (DataW H)) (before:List MemPlace),
  (∀(j:Nat) t v,fn.params[j]? =some t->args[j]? =some v->Value.okWide C.prog W .any base t v)->
  DataW.Whole enc C.prog fn.params.toList s.vars apart W args.toList ds gs before->X W->W.ShapedOpen C.prog->
  Calls C.prog f args W λe W'=>∃v,e=.returned v/\s.post enc C.prog fn apart fresh handsOn again W args v W'):
 ReturnsInHanded a C os f .any (λw args=>(s.pre enc C.prog fn conds apart w args/\X w)/\sizedMet enc C.prog fn (OpenSpec.ofChange s) apart w args) (s.post enc C.prog fn apart fresh handsOn again):=by
 refine returnsInHanded_of_calls own started noInit witness ?_
 intro w tape i _ hsh _ hok hpre _
 obtain⟨_,_,_,fn',hfn',_,_,_,_,hval⟩:=hok
 have e:fn'=fn:=TJ (hfn'.symm.trans hfn)
 subst e
 obtain⟨⟨⟨ds,gs,before,hw,_⟩,hx⟩,_⟩:=hpre
 have hw':=DataW.Whole.of_heap (w':=w.forCall tape i) (by rfl) hw
 refine(contract (w.forCall tape i) w.heap.size i.args ds gs before hval hw' (hX _ _ (by rfl) hx) hsh).mono λe W' ⟨v,he,hp⟩=>?_
 subst he
 exact ChangeSpec.post_blind hp
end
def Yii:List (String×DataW Unit):=[("math/bits.deBruijn32tab",Rows.laid_math_bits_deBruijn32tab),("math/bits.deBruijn64tab",Rows.laid_math_bits_deBruijn64tab),("internal/strconv.uint64pow10",Rows.laid_internal_strconv_uint64pow10)]
noncomputable def Yfq(os:Os):World:=
 World.doorLaid Tryz.prog 72 os
theorem Ybt(w:World):laidMetH Tryz.prog Yii w=laidMet Tryz.prog Yii w:=MakeChecks.laidMetH_plain _ _ _ (by kernel_rfl)
theorem Yq3(os:Os)(args:Array Value):laidMetH Tryz.prog Yii ((Yfq os).forCall (λ_ _=>0) ⟨#[],args,[]⟩).memory:=by
 rw[Ybt]
 exact laidMet_of_run3 8 (by kernel_rfl) (by kernel_rfl) (by kernel_rfl)
theorem YnC(os:Os)(args:Array Value):((Yfq os).forCall (λ_ _=>0) ⟨#[],args,[]⟩).Shaped Tryz.prog:=World.shaped_of_RefB (by kernel_rfl) (by kernel_rfl)
variable {W:World}
theorem Yof{w:World}{n:String}{cs:Array Value}(h:W.var? Tryz.prog n=some cs)(hb:Below W.heap.size W w):w.var? Tryz.prog n=some cs:=by
 unfold World.var? at h⊢
 cases hg:Tryz.prog.globalNamed n with
 |none=>rw[hg]at h;cases h
 |some g=>
  rw[hg]at h
  simp only[Nv]at h⊢
  rcases Nh g W.heap.size with hlt|hge
  ·rw[hb.block g hlt];exact h
  ·rw[SC hge]at h;cases h
theorem tabs_of(hL:laidMetH Tryz.prog Yii W)(_hsh:W.ShapedOpen Tryz.prog):TabsB W.heap.size W:=by
 rw[Ybt]at hL
 have hpow:Lib.TabIs Tryz.prog W "internal/strconv.uint64pow10" .u64 Lib.pow10Tab:=by
  obtain⟨g,t,cs,fuel,p,h1,h2,h3,h4⟩:=Lib.laidMet.reads hL (n:= "internal/strconv.uint64pow10") (d:=Rows.laid_internal_strconv_uint64pow10) (by unfold Yii;simp)
  have hT:(Tryz.prog.globalNamed "internal/strconv.uint64pow10").bind (λg=>(Tryz.prog.globals[g]?).map (·.type))=some 415:=by kernel_rfl
  rw[h1]at hT
  obtain rfl:t=415:=TJ (h2.symm.trans hT)
  have h5:Rows.laid_internal_strconv_uint64pow10 (H:=Unit)=Lib.tabData .u64 Lib.pow10Tab:=by kernel_rfl
  rw[h5]at h4
  have h6:=Lib.cells_of_tab Tryz.underlying415 Tryz.underlying209 (by kernel_rfl) (by kernel_rfl) h4
  unfold Lib.TabIs
  rw[h3,<-h6]
 intro w hb
 exact⟨Yof hpow hb⟩
theorem Tryz.own:ownKnob Tryz.prog.godebug=none:=by kernel_rfl
theorem Tryz.laidOut:laidOutB Tryz.prog=true:=by kernel_rfl
end Go.Proofs.YtjommdkgfbhbdaaGreatDoor
