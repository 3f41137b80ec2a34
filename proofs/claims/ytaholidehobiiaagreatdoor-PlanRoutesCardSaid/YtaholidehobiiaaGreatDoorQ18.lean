/- Lemmas for the claim, part 18. -/
import Derived.Test.YtaholidehobiiaaGreatDoorQ15
set_option maxRecDepth 100000
set_option maxHeartbeats 8000000
set_option linter.all false
namespace Go.Proofs.YtaholidehobiiaaGreatDoor
open Go.RowKit Go.Eng Go.Nw
section
variable {m:Eng.Mode}{n:Shp}{B d:Nat}{w0:World}{ops:Array Oper}{Q:Exit->Act->World->Prop}{rest:List Oper}{env:Env}{H:List HP}{ty:TypeId}{pos:String}{after:Array Edge}{x y lo:Operand}
variable {k cap gv:Nat}{A:Option Addr}
theorem Yy{P:Program}(T:Tab P)(o n':Nat){t e size bytes:Nat}{ki:IntKind}{z:Int}(hx:evo env x=some (.slice A k cap))(hl:evo env lo=some (.int ki z))(ht:Eng.look T.sl t=some (e,size,bytes))(hn:Nat.ble (d+1) n.k=true)(hz:z=(o:Int))(hb:o<=k)(hn':k-o=n')
 (h:VL P m n B w0 ops Q rest ((d,.slice (subA A o cap size) n' (cap-o))::env) H):VL P m n B w0 ops Q (⟨some d,.slice t x (some lo) none none,ty,pos,after,none⟩::rest) env H:=by
 subst hz
 exact ZZ T hx hl ht hn ⟨by omega,by omega⟩ hn' h
theorem YiB{g o la ca lb cb:Nat}{tt:TypeId}{cs:Array Value}{xs:List Value}{tys:Array TypeId}(hx:evo env x=some (.slice (some ⟨gv,0,none⟩) la ca))(hy:evo env y=some (.slice (subA (some ⟨g,0,none⟩) o cap 5) lb cb))(hm1:Eng.blk gv (.cells cs tt (0,0))∈H)(hm2:sl 64 5 (some ⟨g,0,none⟩) k cap xs∈H)
 (hne:∀w,St B w0 H w->gv≠g) (hc:0<cap/\cap≠o) (hn:Nat.ble (d+1) n.k=true) (h:VL Tryz.prog none n B w0 ops Q rest ((d,.bool false)::env) H):
 VL Tryz.prog none n B w0 ops Q (⟨some d,.call ⟨.value (.func 423),#[x,y],tys⟩,ty,pos,after,none⟩::rest) env H:=by
 have hsub:subA (some ⟨g,0,none⟩) o cap 5=some ⟨g,o*5,none⟩:=by
  simp_all [subA,Go.Addr.add_lit]
 rw[hsub]at hy
 refine XO (λu K'=>u=.bool false/\K'=H) rfl rfl hn (λa w ha hw=>⟨.bool false,H,w,?_,hw,rfl,rfl⟩) zc70
 have hb:=(hw.blk hm1).1
 rcases Ji (hw.sl hm2)with⟨h0,_⟩|⟨g',cur,e0,g1,_,_,g4,_⟩
 ·cases h0
 injection e0 with e0
 injection e0 with e0
 subst e0
 obtain⟨bb,htl⟩:∃bb,Eng.look T.sl 35=some (64,5,bb):=⟨_,rfl⟩
 obtain⟨_,inf,_,hi,_,_,hsi,_⟩:=YJ (T.slic htl)
 have hr:=run_callFunc_extern (P:=Tryz.prog) Tryz.func423 (by kernel_rfl) (by kernel_rfl) (by kernel_rfl) (e:=Extern.SlicesOverlaps.overlaps #[35,35] #[4]) (by kernel_rfl) #[.slice (some ⟨gv,0,none⟩) la ca,.slice (some ⟨g,o*5,none⟩) lb cb] w
 have hov:=Lib.run_overlaps_apart (P:=Tryz.prog) w 35 4 64 Tryz.underlying35 5 (λw=>by simp_all) ⟨gv,0,none⟩ ⟨g,o*5,none⟩ la ca lb cb (hne w hw) tt 64 cs.size cur.size (by simp[World.shape?,hb]) (by simp[World.shape?,g1]) (by rw[g4];omega) YgU YgU
 have he:a.eval (.func 423)=.func (.func 423) #[] #[]:=rfl
 exact zc57
end
variable {k cap gv:Nat}
theorem Yww(l:List Cel)(c:Cel)(i:Nat)(hk:k=1):(l.take i).take i++[c].take k++(l.take i).drop (i+k)=l.take i++[c]:=by
 grind [Ru]
theorem Ywx(l:List Cel)(c:Cel)(i:Nat)(hi:i<=l.length)(hk:k=l.length-i):(l.take i++[c]).take (i+1)++(l.drop i).take k++(l.take i++[c]).drop (i+1+k)=l.take i++c::l.drop i:=YsP
theorem Ywy(l:List Cel)(i:Nat)(hi:i<=l.length)(hk:k=l.length-i):l.take (i+1)++(l.drop i).take k++l.drop (i+1+k)=l.take (i+1)++l.drop i:=YsI
theorem Ywz(l:List Cel)(c:Cel)(i:Nat)(hi:i<l.length)(hk:k=1):(l.take (i+1)++l.drop i).take i++[c].take k++(l.take (i+1)++l.drop i).drop (i+k)=l.take i++c::l.drop i:=by
 grind
theorem Yrp(l:List Cel)(c:Cel)(i:Nat)(hi:i<=l.length):(l.take i++c::l.drop i).length=l.length+1:=by
 grind
variable {A:Option Addr}
theorem Yhy(l:List Cel)(i:Nat)(c:Cel)(hi:i<=l.length)(hlen:l.length<=1000){B:Nat}{w0:World}{H:List HP}{w:World}(hw:St B w0 (cels A cap l::blk gv (.cells #[.int .i64 c.1,.int .i64 c.2.1,.int .i64 c.2.2.1,.int .i64 c.2.2.2.1,.int .i64 c.2.2.2.2] 64 (0,0))::H) w):
 CX B w0 396 [.slice A l.length cap,.int .i64 i,.slice (some ⟨gv,0,none⟩) 1 1] w λv K=>∃A' cap',v=.slice A' (l.take i++c::l.drop i).length cap'/\K=cels A' cap' (l.take i++c::l.drop i)::H:=by
 refine Yc Tryz.func396 Tryz.ntmps396 rfl rfl hw ?_
 unfold cels
 refine Qb (k:=l.length) (cap:=cap) (by(focus exact zc2)) λhcap=>?_
 have hli:=Yrp l c i hi
 have hrv:∀{L:List HP},blk gv (.cells #[.int .i64 c.1,.int .i64 c.2.1,.int .i64 c.2.2.1,.int .i64 c.2.2.2.1,.int .i64 c.2.2.2.2] 64 (0,0))∈L->Rd B w0 L (some ⟨gv,0,none⟩) (([c]:List Cel).flatMap celF):=λh=>by
  have h1:=Rd.blk (B:=B) (w0:=w0) (cs:=(celF c).toArray) h
  rw[show([c]:List Cel).flatMap celF=(celF c).toArray.toList by simp]
  exact h1
 have hq5:∀c:Cel,(celF c).length=5:=λ_=>rfl
 have ho5:∀c:Cel,Ju (celF c)=true:=λ_=>rfl
 refine zX4 ?_
 apply Yy T i (l.length-i);(iterate 5 exact rfl);exact hi;exact rfl
 by_cases hin:i=l.length
 ·have e1:l.take i++c::l.drop i=l++[c]:=YsL
  rw[e1]
  refine YsC ?_<;>intros
  rename_i A' cap'
  apply Yi (cels A' cap' (l++[c])::H)
  ·intro w hw
   rw[<-WK]
   revert w
   exact zc0
  exact zc60
 have hlt:i<l.length:=by omega
 have hrs:∀{L:List HP}{g:Nat},sl 64 5 (some ⟨g,0,none⟩) l.length cap (l.flatMap celF)∈L->Rd B w0 L (subA (some ⟨g,0,none⟩) i cap 5) ((l.drop i).flatMap celF):=λh=>by
  have h1:=Rd.sub (B:=B) (w0:=w0) (q:=5) (o:=i) (k:=l.length-i) (cap:=cap) hq5 (Rd.sl h) hcap
  exact zc78
 apply YcF (k:=l.length) (by(focus exact zc2)) (by omega)
 rintro g rfl
 have hA:∃g',(some ⟨g,0,none⟩:Option Addr)=some ⟨g',0,none⟩:=⟨g,rfl⟩
 repeat'(first|(apply Yg3 T;(iterate 3 exact rfl))|refine zgc ?_|(refine zgf ?_ ?_<;>intro _<;>try exact zo)|fail)
 ·apply Jb T (n':=i);(iterate 4 exact rfl);omega;omega;exact hA
  refine zX2 ?_
  rw[show(l.length:Int)+((1:Nat):Int)-(i:Int)=((l.length+1-i:Nat):Int) by omega]
  apply Ot T (e:=64) (size:=5) (k:=l.length) (xs:=l.flatMap celF);exact rfl;exact rfl;(focus exact zc2);exact rfl;kernel_rfl;exact rfl;kernel_rfl;omega;intro g2 c2 hc2
  rw[show i+(l.length+1-i)=l.length+1 by omega]at hc2⊢
  have e2:sl 64 5 (some ⟨g2,0,none⟩) i c2 ((l.flatMap celF).take (i*5))=sl 64 5 (some ⟨g2,0,none⟩) (l.take i).length c2 ((l.take i).flatMap celF):=by
   rw[XG hq5,TT,SO hi]
  rw[e2]
  have hA2:∃g',(some ⟨g2,0,none⟩:Option Addr)=some ⟨g',0,none⟩:=⟨g2,rfl⟩
  have htl:(l.take i).length=i:=YgT
  refine zX4 ?_
  apply Yy T i (l.length+1-i);(iterate 5 exact rfl);omega;exact rfl
  refine zX4 ?_
  apply Zz T (l.take i) [c] (l.take i++[c]) (f:=celF) (o:=i) (cap:=c2);exact rfl;exact rfl;exact hrv (by(focus exact zc2));exact hq5;exact ho5;exact rfl;exact rfl;exact hA2;(simp only[TO];omega);exact Yww l c i (by omega);exact zd
  refine zX4 ?_
  apply YX [0,1,2,3,4,5,6,7] [8] [true,true,true]
  kernel_rfl
  kernel_rfl
  exact zy
  (simp only[Yh,nthO];rfl)
  (simp only[Yh,nthO];rfl)
  refine zX11 ?_
  apply Yy T (i+1) (l.length+1-(i+1));(iterate 4 exact rfl);omega;omega;exact rfl
  refine zX4 ?_
  apply Yy T i (l.length-i);(iterate 5 exact rfl);omega;exact rfl
  refine zX2 ?_
  apply Zz T (l.take i++[c]) (l.drop i) (l.take i++c::l.drop i) (f:=celF) (o:=i+1) (cap:=c2);exact rfl;exact rfl;exact hrs (by(focus exact zc2));exact hq5;exact ho5;exact rfl;exact rfl;exact hA2;(simp only[To,TT,TO,Rq];omega);exact Ywx l c i hi (by omega);exact zd
  refine zX2 ?_
  apply Yi (cels (some ⟨g2,0,none⟩) c2 (l.take i++c::l.drop i)::H)
  ·unfold cels
   exact zc0
  exact zc89
 ·apply Jb T (n':=l.length+1);(iterate 4 exact rfl);omega;omega;exact hA
  refine zX11 ?_
  apply Yy T (i+1) (l.length+1-(i+1));(iterate 4 exact rfl);omega;omega;exact rfl
  apply YiB (gv:=gv) (g:=g) (o:=i+1) (cap:=cap) (k:=l.length) (xs:=l.flatMap celF);exact rfl;exact rfl;(focus exact zc2);(focus exact zc2);exactλw hw=>Ybd (hw.perm (.swap _ _ _));omega;exact rfl
  refine zX2 ?_
  apply YX [0,1,2,3,4,5,6,7] [8] [true,true]
  kernel_rfl
  kernel_rfl
  exact zy
  (simp only[Yh,nthO];rfl)
  (simp only[Yh,nthO];rfl)
  refine zX11 ?_
  apply Yy T (i+1) (l.length+1-(i+1));(iterate 4 exact rfl);omega;omega;exact rfl
  refine zX4 ?_
  apply Yy T i (l.length+1-i);(iterate 5 exact rfl);omega;exact rfl
  refine zX2 ?_
  apply Zz T l (l.drop i) (l.take (i+1)++l.drop i) (f:=celF) (o:=i+1) (cap:=cap);exact rfl;exact rfl;exact hrs (by(focus exact zc2));exact hq5;exact ho5;exact rfl;exact rfl;exact hA;(simp only[Rq];omega);exact Ywy l i hi (by omega);exact zd
  refine zX2 ?_
  apply Yy T i (l.length+1-i);(iterate 5 exact rfl);omega;exact rfl
  refine zX4 ?_
  apply Zz T (l.take (i+1)++l.drop i) [c] (l.take i++c::l.drop i) (f:=celF) (o:=i) (cap:=cap);exact rfl;exact rfl;exact hrv (by(focus exact zc2));exact hq5;exact ho5;exact rfl;exact rfl;exact hA;(simp only[To,TT,TO,Rq];omega);exact Ywz l c i hlt (by omega);exact zd
  refine zX8 ?_
  apply Yi (cels (some ⟨g,0,none⟩) cap (l.take i++c::l.drop i)::H)
  ·unfold cels
   exact zc0
  exact zc86
end Go.Proofs.YtaholidehobiiaaGreatDoor
