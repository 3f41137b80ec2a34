/- Lemmas for the claim, part 27. -/
import Derived.Test.YtaholidehobiiaaGreatDoorQ25
set_option maxRecDepth 100000
set_option maxHeartbeats 8000000
set_option linter.all false
namespace Go.Proofs.YtaholidehobiiaaGreatDoor
open Go.RowKit Go.Eng Go.Nw Go.Rt
structure Yqb(n:NetM)(L:List Flw)(id:Int)(r:RowM):Prop where
 lk:∀x∈Yp n.net r.xs,LkOk n.net L x.1 x.2.1 id
 key:∀i,i+1<r.xs.length->0<=Yt n.net (r.xs.getD i 0) (r.xs.getD (i+1) 0)
 len:1<=r.xs.length/\r.xs.length<=9
structure PlM2 where
 i:Nat
 s:SchM
 P:List HP
theorem Yka(n:NetM)(L:List Flw)(s:SchM)(x:RqM)(hsm:Sm n.net L s.sch)(h24:s.len<=24)(hrow:∀r∈x.rows,Yqb n L x.f.1 r)(hf:Xx n.net.nodes x.f=0){B:Nat}{w0:World}{H:List HP}{w:World}(hin:n.In B w0 H)(hr:Rd B w0 H s.A (s.cells.flatMap celF))(hx:x.In B w0 H)(hw:St B w0 H w):
 CX B w0 201 [n.val,s.val,rqV x] w λv K=>∃(s':SchM) (ok:Bool) (P:List HP),v=.tuple #[s'.val,.bool ok]/\
  (ok=true->JY n.net x.f (x.rows.map (·.xs)) s.sch=some s'.sch/\Rd B w0 (many P::H) s'.A (s'.cells.flatMap celF))/\(ok=false->JY n.net x.f (x.rows.map (·.xs)) s.sch=none)/\K=many P::H:=by
 refine Yc Tryz.func201 Tryz.ntmps201 rfl rfl hw ?_
 have hop:∀w,St B w0 [many H] w->St B w0 H w:=λw hw=>hw.perm (.openT H)
 have hin:=hin.mono hop
 have hr:=hr.mono hop
 have hx:=hx.mono hop
 obtain⟨-,hper,hph,-,hd⟩:=XK hf
 have hxr:=hx.rt
 have hxl:=hx.ln
 obtain⟨RR,hRR⟩:∃R,JY n.net x.f (x.rows.map (·.xs)) s.sch=R:=⟨_,rfl⟩
 rw[hRR]
 have hsz:1<=s.len/\s.len<=512/\1<=s.off/\s.off<=16:=Rj hsm.sized
 refine ZW [many H] (λw hw=>hw.perm (.closeT H)) ?_
 refine ZW (many []::[many H]) (λw hw=>hw.perm (.noMany _)) ?_
 unfold NetM.val SchM.val rqV
 refine zX26 ?_<;>intros
 rename_i g3 g4 g5 g6 g8
 refine Yg (λz:PlM2=>[(19,.int .i64 (z.i:Nat)),(18,.int .i64 x.rows.length),(17,.slice x.A x.rows.length x.cap),(9,.bool true),(7,.bool false),(8,.pointer (some ⟨g8,0,none⟩)),(6,.pointer (some ⟨g6,0,none⟩)),(5,.pointer (some ⟨g5,0,none⟩)),(4,.pointer (some ⟨g4,0,none⟩)),(3,.pointer (some ⟨g3,0,none⟩))])
  (λz=>grdA g8 n z.s::blk g6 (.cells #[.int .i64 0,.int .i64 0,.slice none 0 0] 37 (0,0))::rqA g5 x::schA g4 s::many z.P::[many H])
  (λz=>z.i<=x.rows.length/\FilI n L s.len s.off B w0 H z.s z.P/\JY n.net x.f ((x.rows.map (·.xs)).drop z.i) z.s.sch=RR) (λz=>x.rows.length-z.i) ⟨0,s,[]⟩ ⟨Tm _,⟨hsm,rfl,rfl,hr.cons⟩,hRR⟩ ?_ ?_ ?_
 ·exact zc1
 ·intro w hw
  have h5:St B w0 (grdA g8 n s::blk g6 (.cells (Value.agg #[.int .i64 0,.int .i64 0,.slice none 0 0]).cells 37 (0,0))::rqA g5 x::schA g4 s::many []::[many H]) w:=by
   revert w
   exact zc0
  exact h5
 rintro⟨i,s1,P⟩ ⟨hi,hF,hrel⟩ K hK
 dsimp only at hi hF hrel⊢
 by_cases hlt:i<x.rows.length
 rotate_left
 ·obtain rfl:i=x.rows.length:=by omega
  clear hK
  rw[Ru YsN]at hrel
  refine zX76 ?_<;>intros
  apply Yq T (H2:=many P::H);(iterate 3 exact rfl);(focus exact zc2);exact rfl;exact rfl
  ·intro w hw
   have h5:St B w0 (many P::[many H]) w:=by
    revert w
    exact zc0
   exact Yn1
  exact zc83
 obtain⟨r,hrx⟩:∃r,x.rows[i]? =some r:=⟨_,Ta hlt⟩
 have hrm:r∈x.rows:=Tc hrx
 have hro:=hrow r hrm
 have hdrop:(x.rows.map (·.xs)).drop i=r.xs::(x.rows.map (·.xs)).drop (i+1):=by
  have hl2:i<(x.rows.map (·.xs)).length:=by rw[TB];exact hlt
  rw[Rl hl2]
  congr 1
  have h6:(x.rows.map (·.xs))[i]? =some r.xs:=by rw[TR,hrx];rfl
  rw[Ta hl2]at h6
  exact Tv h6
 rw[hdrop,JY]at hrel
 obtain⟨HR,hHR⟩:∃R,YaX n.net x.f (Yp n.net r.xs) s1.sch.len.toNat s1.sch x.f.2.2.2.2.1=R:=⟨_,rfl⟩
 rw[hHR]at hrel
 have hl1:s1.sch.len=s.len:=hF.len
 rw[hl1]at hHR
 refine zX1 ?_<;>intros
 refine Yg (λz:PlM2=>[(12,.int .i64 (x.f.2.2.2.2.1+(z.i:Int)*x.f.2.2.2.1)),(11,.slice r.A r.xs.length r.cap),(19,.int .i64 (i:Nat)),(18,.int .i64 x.rows.length),(17,.slice x.A x.rows.length x.cap),(9,.bool true),(7,.bool false),(8,.pointer (some ⟨g8,0,none⟩)),(6,.pointer (some ⟨g6,0,none⟩)),(5,.pointer (some ⟨g5,0,none⟩)),(4,.pointer (some ⟨g4,0,none⟩)),(3,.pointer (some ⟨g3,0,none⟩))])
  (λz=>grdA g8 n z.s::blk g6 (.cells #[.int .i64 0,.int .i64 0,.slice none 0 0] 37 (0,0))::rqA g5 x::schA g4 s::many z.P::[many H])
  (λz=>z.i<=s.len.toNat/\FilI n L s.len s.off B w0 H z.s z.P/\YaX n.net x.f (Yp n.net r.xs) (s.len.toNat-z.i) z.s.sch (x.f.2.2.2.2.1+(z.i:Int)*x.f.2.2.2.1)=HR) (λz=>s.len.toNat-z.i) ⟨0,s1,P⟩ ⟨Tm _,hF,by simpa using hHR⟩ ?_ ?_ ?_
 ·dsimp only
  rw[show x.f.2.2.2.2.1+((0:Nat):Int)*x.f.2.2.2.1=x.f.2.2.2.2.1 by simp]
  exact zc1
 ·exact zc0
 clear hF hHR hl1
 rintro⟨j,s2,P2⟩ ⟨hj,hF,hHR⟩ K2 hK2
 dsimp only at hj hF hHR⊢
 have hl2:s2.sch.len=s.len:=hF.len
 obtain⟨y,hy⟩:∃y:Int,x.f.2.2.2.2.1+(j:Int)*x.f.2.2.2.1=y:=⟨_,rfl⟩
 have hjy:(j:Int)<=(j:Int)*x.f.2.2.2.1:=by
  have:=SA hper.1 (show(0:Int)<=j by omega)
  rw[Int.mul_one]at this
  exact this
 rw[hy]at hHR⊢
 by_cases hyl:y<s.len
 rotate_left
 ·have hHR2:HR=some s2.sch:=by
   rw[<-hHR]
   cases s.len.toNat-j with
   |zero=>rfl
   |succ k=>rw[YaX,Tf (by rw[hl2];exact hyl)]
  rw[hHR2]at hrel
  dsimp only at hrel
  clear hK2
  refine zX1 ?_<;>intros
  apply hK ⟨i+1,s2,P2⟩
  ·exact⟨by exact zc71,hF,hrel⟩
  ·exact zc39
  ·exact zc1
  ·exact zc0
 obtain⟨k,hk⟩:∃k,s.len.toNat-j=k+1:=⟨s.len.toNat-j-1,by omega⟩
 rw[hk,YaX,Tn (by rw[hl2];exact hyl)]at hHR
 have hxw:=hx.rw_ r hrm
 have pr:=λ{R':List HP}{w:World}(hw:St B w0 (many R'::many P2::[many H]) w)=>Yfr n L s2 x.f r y hF.sm (by have:=hF.len;omega) hro.lk hro.key hro.len ⟨by omega,by omega⟩ ⟨by omega,by omega⟩ (R:=R') (H:=many P2::[many H]) hin.cons hF.rd hxw.cons hw
 unfold grdV flwV at pr
 refine Yvl ?_<;>intros
 apply XU (many [grdA g8 n s2,blk g6 (.cells #[.int .i64 0,.int .i64 0,.slice none 0 0] 37 (0,0)),rqA g5 x,schA g4 s]::many P2::[many H])
 ·intro w hw
  have h5:St B w0 (grdA g8 n s2::blk g6 (.cells #[.int .i64 0,.int .i64 0,.slice none 0 0] 37 (0,0))::rqA g5 x::schA g4 s::many P2::[many H]) w:=by
   revert w
   exact zc0
  exact h5.perm (.close [_,_,_,_] (many P2::[many H]))
 apply Ye _ Yxx
 exact za
 exact rfl
 exactλ_ hw=>(pr (hw))
 rintro _ _ ⟨s3,ok,P3,rfl,ho1,ho2,rfl⟩
 apply XU (many P3::grdA g8 n s2::blk g6 (.cells #[.int .i64 0,.int .i64 0,.slice none 0 0] 37 (0,0))::rqA g5 x::schA g4 s::many P2::[many H])
 ·exactλw hw=>hw.perm (.cons _ (.open_ [_,_,_,_] (many P2::[many H])))
 cases ok with
 |false=>
  have hn:=ho2 rfl
  rw[hn]at hHR
  dsimp only at hHR
  rw[<-hHR]at hrel
  dsimp only at hrel
  clear hK hK2
  refine zX2 ?_
  apply Yq T (H2:=many P2::H);(iterate 3 exact rfl);(focus exact zc2);exact rfl;exact rfl
  ·intro w hw
   have h5:St B w0 (many P2::[many H]) w:=by
    revert w
    exact zc0
   exact Yn1
  exact⟨s,false,P2,rfl,λh=>(by cases h),λ_=>hrel.symm,rfl⟩
 |true=>
  obtain⟨h1,hrd3⟩:=ho1 rfl
  rw[h1]at hHR
  dsimp only at hHR
  obtain⟨hsm3,hg3,-⟩:=YhT (Yp n.net r.xs) hro.lk hF.sm (by omega) (by omega) (by rw[hl2];omega) h1
  have h3l:s3.len=s.len:=hg3.len.trans hF.len
  have h3o:s3.off=s.off:=hg3.off.trans hF.off
  have hyn:x.f.2.2.2.2.1+((j+1:Nat):Int)*x.f.2.2.2.1=y+x.f.2.2.2.1:=by
   rw[<-hy,show((j+1:Nat):Int)=(j:Int)+1 by omega,Int.add_mul];omega
  refine zX2 ?_
  apply hK2 ⟨j+1,s3,[many P3,many P2]⟩
  ·refine⟨by show j+1<=_;omega,⟨hsm3,h3l,h3o,hrd3.mono λw hw=>hw.perm (.open_ [_,_] [many H])⟩,?_⟩
   dsimp only
   rw[hyn,show s.len.toNat-(j+1)=k by omega]
   exact hHR
  ·exact zc39
  ·dsimp only
   rw[hyn]
   exact zc1
  ·intro w hw
   have h5:St B w0 (grdA g8 n s3::blk g6 (.cells #[.int .i64 0,.int .i64 0,.slice none 0 0] 37 (0,0))::rqA g5 x::schA g4 s::many P3::many P2::[many H]) w:=by
    revert w
    exact zc0
   exact h5.perm (.cons _ (.cons _ (.cons _ (.cons _ (.close [_,_] [many H])))))
variable {B:Nat}{w0 w:World}{H:List HP}
theorem Ycn(n:NetM)(q:List RqM)(s:SchM){A:Option Addr}{cap:Nat}(ht:TabsB B w0)(hin:n.In B w0 H)(hq:QIn B w0 H A q)(hrs:Rd B w0 H s.A (s.cells.flatMap celF))(hsl:s.cells.length<=1000000000000)(hw:St B w0 H w):
 CX B w0 158 [n.val,.slice A q.length cap,s.val] w λv K=>v=.bool (decide ((YN n.net (q.map RqM.rq) s.sch).2.2=0))/\K=H:=by
 refine Yc Tryz.func158 Tryz.ntmps158 rfl rfl hw ?_
 have p1:=λ{H':List HP}{w:World}(hin:n.In B w0 H') (hq:QIn B w0 H' A q) (hrs:Rd B w0 H' s.A (s.cells.flatMap celF)) (hw:St B w0 H' w)=>Wt n q s (cap:=cap) ht hin hq hrs hsl hw
 unfold OutC NetM.val SchM.val at p1
 obtain⟨⟨RC,ri,re⟩,hR⟩:∃R,YN n.net (q.map RqM.rq) s.sch=R:=⟨_,rfl⟩
 rw[hR]at p1⊢
 dsimp only at p1⊢
 unfold NetM.val SchM.val
 refine zX70 ?_<;>intros
 apply Ye _ en80
 exact za
 exact rfl
 exactλ_ hw=>(p1 hin.cons.cons hq.cons.cons hrs.cons.cons (hw))
 rintro _ _ ⟨A2,cap2,C,rfl,hC,hCl,rfl⟩
 by_cases h0:re=0
 ·rw[Td h0]
  refine zX1 ?_<;>intros
  apply Yi H
  ·exact zc0
  apply Yd;exact rfl;exact rfl;grind
 ·rw[Ti h0]
  refine zX1 ?_<;>intros
  apply Yi H
  ·exact zc0
  exact zc11
theorem Yto(s:SchM)(id:Int)(hf:XH s.sch=true):QB s.sch id=(⟨s.len,s.off,s.cells.filter λc=>!(decide (Xf c=id))⟩,0):=by
 unfold QB
 rw[Tf (by simp_all)]
 unfold OE
 have h2:(λc:Cel=>decide (Xf c≠id))=λc=>!(decide (Xf c=id)):=by
  simp_all
 rw[h2]
 exact rfl
theorem Yn7(s:SchM)(id:Int)(ht:TabsB B w0)(hr:Rd B w0 H s.A (s.cells.flatMap celF))(hl:s.cells.length<=1000000000000)(hw:St B w0 H w):
 CX B w0 109 [s.val,.int .i64 id] w (OutS H (QB s.sch id)):=by
 refine Yc Tryz.func109 Tryz.ntmps109 rfl rfl hw ?_
 have p1:=λ{H':List HP}{w:World}(hr:Rd B w0 H' s.A (s.cells.flatMap celF)) (hw:St B w0 H' w)=>WY s ht hr hl hw
 unfold SchM.val at p1⊢
 refine O9 ?_<;>intros
 first|apply Ya en40|apply Yb en40
 exact za
 exact rfl
 exactλ_ hw=>(p1 hr.cons.cons.cons hw)
 cases hf:XH s.sch with
 |false=>
  rw[show(X5 s.sch).2=1 by simp_all [X5]]
  refine zX0 ?_<;>intros
  apply Yq T (H2:=cels none 0 []::H);(iterate 3 exact rfl);(focus exact zc2);exact rfl;exact rfl;(intro w hw;refine St.nilSlice (H:=H) ?_ _ _;revert w;(intro w hw;refine hw.perm ?_;focus exact zc3))
  simp_all [UU,QB]
 |true=>
  rw[show(X5 s.sch).2=0 by simp_all [X5]]
  have hle:s.cells.length<=512:=(ZA.1 hf).few
  refine zX1 ?_<;>intros
  rename_i g2 g3 g4
  apply Ye _ Yf2
  exact za
  exact rfl
  exactλ_ hw=>(JC s.cells (by omega) hr.cons.cons.cons (hw))
  rintro _ _ ⟨A1,c1,rfl,rfl⟩
  refine zX71 ?_
  apply Ye _ Yna
  exact za
  exact rfl
  exactλ_ hw=>(UG (λc=>decide (Xf c=id)) s.cells 208 [.pointer (some ⟨g2,0,none⟩)] Yxn (by omega) (λc _ X w hw=>Ylh c id g2 (TU _ (by simp_all)) hw) (hw))
  rintro _ _ ⟨rfl,rfl⟩
  have hd:=Yto s id hf
  refine zX2 ?_
  apply Yq T (H2:=cels A1 c1 (s.cells.filter λc=>!(decide (Xf c=id)))::H);(iterate 3 exact rfl);(focus exact zc2);exact rfl;exact rfl;(intro w hw;refine hw.perm ?_;focus exact zc3)
  rw[hd]
  exact⟨A1,c1,rfl,rfl⟩
def rqs(A:Option Addr)(cap:Nat)(l:List RqM):HP:=sl 86 7 A l.length cap (l.flatMap rqF)
theorem Qs(A:Option Addr)(cap:Nat)(l:List RqM)(x:RqM):sl 86 7 A (l.length+1) cap (l.flatMap rqF++#[Value.int .i64 x.f.1,.int .i64 x.f.2.1,.int .i64 x.f.2.2.1,.int .i64 x.f.2.2.2.1,.int .i64 x.f.2.2.2.2.1,.int .i64 x.f.2.2.2.2.2,.slice x.A x.rows.length x.cap].toList)=rqs A cap (l++[x]):=by
 grind [rqs,rqF]
variable {A:Option Addr}{cap B k gv:Nat}{w0 w:World}{H:List HP}
theorem UE(l:List RqM)(hlen:l.length<=1000000)(hr:Rd B w0 H A (l.flatMap rqF))(hw:St B w0 H w):
 CX B w0 102 [.slice A l.length cap] w λv K=>∃A' cap',v=.slice A' l.length cap'/\K=rqs A' cap' l::H:=by
 cases A with
 |none=>
  have hl:l=[]:=by
   cases l with
   |nil=>rfl
   |cons x l=>
    exact zc35
  subst hl
  refine Yc Tryz.func102 Tryz.ntmps102 rfl rfl hw ?_
  refine zX7 ?_
  apply X9 86 7;exact zc36
 |some a=>
  refine Yc Tryz.func102 Tryz.ntmps102 rfl rfl hw ?_
  repeat'(first|(apply ZE;(iterate 3 exact rfl))|(apply Y1 T;exact rfl;exact rfl;intro g2)|refine zga ?_|fail)
  apply Xy T (f:=rqF) (l2:=l) (e:=86) (size:=7) (xs:=[]);(iterate 3 exact rfl);exact hr.cons;exact(λ_=>rfl);exact(λ_=>rfl);exact rfl;(intro _ _;exact zd);omega;intro A' cap'
  exact zc55
section
variable {m:Eng.Mode}{n:Shp}{B d:Nat}{w0:World}{ops:Array Oper}{Q:Exit->Act->World->Prop}{rest:List Oper}{env:Env}{H:List HP}{ty:TypeId}{pos:String}{after:Array Edge}{x y lo:Operand}
variable {gv k cap:Nat}
theorem Yg9{g o la ca lb cb:Nat}{tt:TypeId}{cs:Array Value}{xs:List Value}{tys:Array TypeId}(hx:evo env x=some (.slice (some ⟨gv,0,none⟩) la ca))(hy:evo env y=some (.slice (subA (some ⟨g,0,none⟩) o cap 7) lb cb))(hm1:Eng.blk gv (.cells cs tt (0,0))∈H)(hm2:sl 86 7 (some ⟨g,0,none⟩) k cap xs∈H)
 (hne:∀w,St B w0 H w->gv≠g) (hc:0<cap/\cap≠o) (hn:Nat.ble (d+1) n.k=true) (h:VL Tryz.prog none n B w0 ops Q rest ((d,.bool false)::env) H):
 VL Tryz.prog none n B w0 ops Q (⟨some d,.call ⟨.value (.func 204),#[x,y],tys⟩,ty,pos,after,none⟩::rest) env H:=by
 have hsub:subA (some ⟨g,0,none⟩) o cap 7=some ⟨g,o*7,none⟩:=by
  simp_all [subA,Go.Addr.add_lit]
 rw[hsub]at hy
 refine XO (λu K'=>u=.bool false/\K'=H) rfl rfl hn (λa w ha hw=>⟨.bool false,H,w,?_,hw,rfl,rfl⟩) zc70
 have hb:=(hw.blk hm1).1
 rcases Ji (hw.sl hm2)with⟨h0,_⟩|⟨g',cur,e0,g1,_,_,g4,_⟩
 ·cases h0
 injection e0 with e0
 injection e0 with e0
 subst e0
 obtain⟨bb,htl⟩:∃bb,Eng.look T.sl 30=some (86,7,bb):=⟨_,rfl⟩
 obtain⟨_,inf,_,hi,_,_,hsi,_⟩:=YJ (T.slic htl)
 have hr:=run_callFunc_extern (P:=Tryz.prog) Tryz.func204 (by kernel_rfl) (by kernel_rfl) (by kernel_rfl) (e:=Extern.SlicesOverlaps.overlaps #[30,30] #[4]) (by kernel_rfl) #[.slice (some ⟨gv,0,none⟩) la ca,.slice (some ⟨g,o*7,none⟩) lb cb] w
 have hov:=Lib.run_overlaps_apart (P:=Tryz.prog) w 30 4 86 Tryz.underlying30 7 (λw=>by simp[sizeOf,typeInfo,hi,hsi]) ⟨gv,0,none⟩ ⟨g,o*7,none⟩ la ca lb cb (hne w hw) tt 86 cs.size cur.size (by simp[World.shape?,hb]) (by simp[World.shape?,g1]) (by rw[g4];omega) YgU YgU
 have he:a.eval (.func 204)=.func (.func 204) #[] #[]:=rfl
 exact zc57
end
theorem Yty(l:List RqM)(c:RqM)(i:Nat)(hk:k=1):(l.take i).take i++[c].take k++(l.take i).drop (i+k)=l.take i++[c]:=by
 grind [Ru]
theorem YtA(l:List RqM)(c:RqM)(i:Nat)(hi:i<=l.length)(hk:k=l.length-i):(l.take i++[c]).take (i+1)++(l.drop i).take k++(l.take i++[c]).drop (i+1+k)=l.take i++c::l.drop i:=YsP
theorem YtC(l:List RqM)(i:Nat)(hi:i<=l.length)(hk:k=l.length-i):l.take (i+1)++(l.drop i).take k++l.drop (i+1+k)=l.take (i+1)++l.drop i:=YsI
theorem YtE(l:List RqM)(c:RqM)(i:Nat)(hi:i<l.length)(hk:k=1):(l.take (i+1)++l.drop i).take i++[c].take k++(l.take (i+1)++l.drop i).drop (i+k)=l.take i++c::l.drop i:=by
 grind
theorem Ql(l:List RqM)(c:RqM)(i:Nat)(hi:i<=l.length):(l.take i++c::l.drop i).length=l.length+1:=by
 grind
theorem YaJ(l:List RqM)(i:Nat)(c:RqM)(hi:i<=l.length)(hlen:l.length<=1000)(hw:St B w0 (rqs A cap l::blk gv (.cells #[.int .i64 c.f.1,.int .i64 c.f.2.1,.int .i64 c.f.2.2.1,.int .i64 c.f.2.2.2.1,.int .i64 c.f.2.2.2.2.1,.int .i64 c.f.2.2.2.2.2,.slice c.A c.rows.length c.cap] 86 (0,0))::H) w):
 CX B w0 101 [.slice A l.length cap,.int .i64 i,.slice (some ⟨gv,0,none⟩) 1 1] w λv K=>∃A' cap',v=.slice A' (l.take i++c::l.drop i).length cap'/\K=rqs A' cap' (l.take i++c::l.drop i)::H:=by
 refine Yc Tryz.func101 Tryz.ntmps101 rfl rfl hw ?_
 unfold rqs
 refine Qb (k:=l.length) (cap:=cap) (by(focus exact zc2)) λhcap=>?_
 have hli:=Ql l c i hi
 have hrv:∀{L:List HP},blk gv (.cells #[.int .i64 c.f.1,.int .i64 c.f.2.1,.int .i64 c.f.2.2.1,.int .i64 c.f.2.2.2.1,.int .i64 c.f.2.2.2.2.1,.int .i64 c.f.2.2.2.2.2,.slice c.A c.rows.length c.cap] 86 (0,0))∈L->Rd B w0 L (some ⟨gv,0,none⟩) (([c]:List RqM).flatMap rqF):=λh=>by
  have h1:=Rd.blk (B:=B) (w0:=w0) (cs:=(rqF c).toArray) h
  rw[show([c]:List RqM).flatMap rqF=(rqF c).toArray.toList by simp]
  exact h1
 have hq7:∀c:RqM,(rqF c).length=7:=λ_=>rfl
 have ho7:∀c:RqM,Ju (rqF c)=true:=λ_=>rfl
 refine zX4 ?_
 apply Yy T i (l.length-i);(iterate 5 exact rfl);exact hi;exact rfl
 by_cases hin:i=l.length
 ·have e1:l.take i++c::l.drop i=l++[c]:=YsL
  rw[e1]
  refine YsC ?_<;>intros
  rename_i A' cap'
  apply Yi (rqs A' cap' (l++[c])::H)
  ·intro w hw
   rw[<-Qs]
   revert w
   exact zc0
  exact zc60
 have hlt:i<l.length:=by omega
 have hrs:∀{L:List HP}{g:Nat},sl 86 7 (some ⟨g,0,none⟩) l.length cap (l.flatMap rqF)∈L->Rd B w0 L (subA (some ⟨g,0,none⟩) i cap 7) ((l.drop i).flatMap rqF):=λh=>by
  have h1:=Rd.sub (B:=B) (w0:=w0) (q:=7) (o:=i) (k:=l.length-i) (cap:=cap) hq7 (Rd.sl h) hcap
  exact zc78
 apply YcF (k:=l.length) (by(focus exact zc2)) (by omega)
 rintro g rfl
 have hA:∃g',(some ⟨g,0,none⟩:Option Addr)=some ⟨g',0,none⟩:=⟨g,rfl⟩
 repeat'(first|(apply Yg3 T;(iterate 3 exact rfl))|refine zgc ?_|(refine zgf ?_ ?_<;>intro _<;>try exact zo)|fail)
 ·apply Jb T (n':=i);(iterate 4 exact rfl);omega;omega;exact hA
  refine zX2 ?_
  rw[show(l.length:Int)+((1:Nat):Int)-(i:Int)=((l.length+1-i:Nat):Int) by omega]
  apply Ot T (e:=86) (size:=7) (k:=l.length) (xs:=l.flatMap rqF);exact rfl;exact rfl;(focus exact zc2);exact rfl;kernel_rfl;exact rfl;kernel_rfl;omega;intro g2 c2 hc2
  rw[show i+(l.length+1-i)=l.length+1 by omega]at hc2⊢
  have e2:sl 86 7 (some ⟨g2,0,none⟩) i c2 ((l.flatMap rqF).take (i*7))=sl 86 7 (some ⟨g2,0,none⟩) (l.take i).length c2 ((l.take i).flatMap rqF):=by
   rw[XG hq7,TT,SO hi]
  rw[e2]
  have hA2:∃g',(some ⟨g2,0,none⟩:Option Addr)=some ⟨g',0,none⟩:=⟨g2,rfl⟩
  have htl:(l.take i).length=i:=YgT
  refine zX4 ?_
  apply Yy T i (l.length+1-i);(iterate 5 exact rfl);omega;exact rfl
  refine zX4 ?_
  apply Zz T (l.take i) [c] (l.take i++[c]) (f:=rqF) (o:=i) (cap:=c2);exact rfl;exact rfl;exact hrv (by(focus exact zc2));exact hq7;exact ho7;exact rfl;exact rfl;exact hA2;(simp only[TO];omega);exact Yty l c i (by omega);exact zd
  refine zX4 ?_
  apply YX [0,1,2,3,4,5,6,7] [8] [true,true,true]
  kernel_rfl
  kernel_rfl
  exact zy
  (simp only[Yh,nthO];rfl)
  (simp only[Yh,nthO];rfl)
  refine zX11 ?_
  apply Yy T (i+1) (l.length+1-(i+1));(iterate 4 exact rfl);omega;omega;exact rfl
  refine zX4 ?_
  apply Yy T i (l.length-i);(iterate 5 exact rfl);omega;exact rfl
  refine zX2 ?_
  apply Zz T (l.take i++[c]) (l.drop i) (l.take i++c::l.drop i) (f:=rqF) (o:=i+1) (cap:=c2);exact rfl;exact rfl;exact hrs (by(focus exact zc2));exact hq7;exact ho7;exact rfl;exact rfl;exact hA2;(simp only[To,TT,TO,Rq];omega);exact YtA l c i hi (by omega);exact zd
  refine zX2 ?_
  apply Yi (rqs (some ⟨g2,0,none⟩) c2 (l.take i++c::l.drop i)::H)
  ·unfold rqs
   exact zc0
  exact zc89
 ·apply Jb T (n':=l.length+1);(iterate 4 exact rfl);omega;omega;exact hA
  refine zX11 ?_
  apply Yy T (i+1) (l.length+1-(i+1));(iterate 4 exact rfl);omega;omega;exact rfl
  apply Yg9 (gv:=gv) (g:=g) (o:=i+1) (cap:=cap) (k:=l.length) (xs:=l.flatMap rqF);exact rfl;exact rfl;(focus exact zc2);(focus exact zc2);exactλw hw=>Ybd (hw.perm (.swap _ _ _));omega;exact rfl
  refine zX2 ?_
  apply YX [0,1,2,3,4,5,6,7] [8] [true,true]
  kernel_rfl
  kernel_rfl
  exact zy
  (simp only[Yh,nthO];rfl)
  (simp only[Yh,nthO];rfl)
  refine zX11 ?_
  apply Yy T (i+1) (l.length+1-(i+1));(iterate 4 exact rfl);omega;omega;exact rfl
  refine zX4 ?_
  apply Yy T i (l.length+1-i);(iterate 5 exact rfl);omega;exact rfl
  refine zX2 ?_
  apply Zz T l (l.drop i) (l.take (i+1)++l.drop i) (f:=rqF) (o:=i+1) (cap:=cap);exact rfl;exact rfl;exact hrs (by(focus exact zc2));exact hq7;exact ho7;exact rfl;exact rfl;exact hA;(simp only[Rq];omega);exact YtC l i hi (by omega);exact zd
  refine zX2 ?_
  apply Yy T i (l.length+1-i);(iterate 5 exact rfl);omega;exact rfl
  refine zX4 ?_
  apply Zz T (l.take (i+1)++l.drop i) [c] (l.take i++c::l.drop i) (f:=rqF) (o:=i) (cap:=cap);exact rfl;exact rfl;exact hrv (by(focus exact zc2));exact hq7;exact ho7;exact rfl;exact rfl;exact hA;(simp only[To,TT,TO,Rq];omega);exact YtE l c i hlt (by omega);exact zd
  refine zX8 ?_
  apply Yi (rqs (some ⟨g,0,none⟩) cap (l.take i++c::l.drop i)::H)
  ·unfold rqs
   exact zc0
  exact zc86
theorem YeP{id:Int}:∀{q:List Rqs}{k:Nat},k<=q.length->(∀i (x:Rqs),i<k->q[i]? =some x->x.1.1<id)->(∀x:Rqs,q[k]? =some x->¬x.1.1<id)->posQ q id=k
 |[],k,hk,_,_=>by
  have:k=0:=by simp_all
  subst this;rfl
 |y::q,0,_,_,h2=>by
  simp_all [posQ]
 |y::q,k+1,hk,h1,h2=>by
  have ih:=YeP (id:=id) (q:=q) (k:=k) (by grind) (λi x hi hx=>h1 (i+1) x (by omega) hx) λx hx=>h2 x hx
  unfold posQ at ih⊢
  rw[NL,Tn (Td (h1 0 y (by omega) rfl)),TM,ih]
theorem Ygi(a b:RqM)(hw:St B w0 H w):
 CX B w0 272 [rqV a,rqV b] w λv K=>v=.int .i64 (cmpI a.f.1 b.f.1)/\K=H:=by
 refine Yc Tryz.func272 Tryz.ntmps272 rfl rfl hw ?_
 refine Yvm ?_<;>intros
 apply Yi H
 ·exact zc20
 exact zc24
theorem YcK{a b:Int}:cmpI a b<0↔a<b:=by
 unfold cmpI
 omega
def Ymx(l:List RqM):Prop:=∀(i j:Nat) (x y:RqM),i<j->l[i]? =some x->l[j]? =some y->x.f.1<y.f.1
theorem Yh6(l:List RqM)(c:RqM)(ho:Ymx l)(hlen:l.length<=1000000000)(hr:Rd B w0 H A (l.flatMap rqF))(hw:St B w0 H w):
 CX B w0 271 [.slice A l.length cap,rqV c,.func (.func 272) #[] #[]] w λv K=>
  ∃b,v=.tuple #[.int .i64 (posQ (l.map RqM.rq) c.f.1:Nat),.bool b]/\K=H:=by
 refine Yc Tryz.func271 Tryz.ntmps271 rfl rfl hw ?_
 (apply YY;apply Yx;apply Yr;exact rfl;exact rfl;intro g)
 refine zX8 ?_
 have hr:=hr.cons (X:=blk g (.cells (rqF c).toArray 86 (0,0)))
 refine Yaj (λ(lo hi:Nat)=>[(9,.int .i64 lo),(10,.int .i64 hi),(8,.int .i64 l.length),(0,.slice A l.length cap),(2,.func (.func 272) #[] #[]),(4,.pointer (some ⟨g,0,none⟩))]) (λ_ _=>blk g (.cells (rqF c).toArray 86 (0,0))::H)
  (λlo hi=>lo<=hi/\hi<=l.length/\(∀i x,i<lo->l[i]? =some x->x.f.1<c.f.1)/\(∀i x,hi<=i->l[i]? =some x->¬x.f.1<c.f.1)) (λlo hi=>hi-lo) 0 l.length ⟨by omega,by omega,λj x hj=>by omega,λj x h1 h2=>by simp_all⟩ ?_ (λw hw=>hw) ?_
 ·exact zc1
 rintro lo hi ⟨h1,h2,h3,h4⟩ K hK
 by_cases hlt:lo<hi
 ·obtain⟨b,hb⟩:∃b,l[(((lo:Int)+hi)/2).toNat]? =some b:=⟨_,Ta (by omega)⟩
  have hm:(((lo:Int)+hi)/2).toNat=(lo+hi)/2:=by omega
  have hb2:l[(lo+hi)/2]? =some b:=by grind
  repeat'(first|((first|apply Y3 (cs:=[])|apply Xo (cs:=[]));exact rfl;exact YuQ;exact za;exact rfl;exactλ_ hw=>(Ygi b c hw))|(apply zg28;refine zs84 ?_)|refine zgd ?_|(refine zge ?_ ?_<;>intro _<;>try exact zo)|fail)
  ·rename_i hc
   rw[YcK]at hc
   apply hK ((lo+hi)/2+1) hi
   ·exact zc52
   ·omega
   ·exact zc1
   exact zc17
  ·rename_i hc
   have hc:¬b.f.1<c.f.1:=λh=>by have:=YcK.2 h;omega
   apply hK lo ((lo+hi)/2)
   ·exact zc48
   ·omega
   ·exact zc1
   exact zc17
 ·obtain rfl:lo=hi:=by omega
  have hpe:posQ (l.map RqM.rq) c.f.1=lo:=YeP (by rw[TB];exact h2) (λi x hi hx=>by
   rw[TR]at hx
   cases hl:l[i]? with
   |none=>rw[hl]at hx;cases hx
   |some y=>rw[hl]at hx;cases hx;exact h3 i y hi hl) λx hx=>by
   rw[TR]at hx
   cases hl:l[lo]? with
   |none=>rw[hl]at hx;cases hx
   |some y=>exact Yv2
  rw[hpe]
  by_cases hl:lo<l.length
  ·obtain⟨b,hb⟩:∃b,l[lo]? =some b:=⟨_,Ta hl⟩
   repeat'(first|((first|apply Y3 (cs:=[])|apply Xo (cs:=[]));exact rfl;exact YuQ;exact za;exact rfl;exactλ_ hw=>(Ygi b c hw))|(apply zg28;refine zs84 ?_)|refine zgd ?_|(refine zge ?_ ?_<;>intro _<;>try exact zo)|fail)
   all_goals(apply Yj;apply YM;(iterate 3 exact rfl);exact⟨_,rfl,rfl⟩)
  ·refine zX19 ?_<;>intros
   apply Yj;exact zc88
theorem Yfq(q:List RqM)(x:RqM)(ho:Ymx q)(hlen:q.length<=1000)(hr:Rd B w0 H A (q.flatMap rqF))(hw:St B w0 H w):
 CX B w0 200 [.slice A q.length cap,rqV x] w λv K=>∃A' cap',v=.slice A' (q.length+1) cap'/\
  K=rqs A' cap' (q.take (posQ (q.map RqM.rq) x.f.1)++x::q.drop (posQ (q.map RqM.rq) x.f.1))::H:=by
 refine Yc Tryz.func200 Tryz.ntmps200 rfl rfl hw ?_
 have hp:posQ (q.map RqM.rq) x.f.1<=q.length:=zc77
 generalize hP:posQ (q.map RqM.rq) x.f.1=k at hp
 have p1:=λ{H':List HP}{w:World}(hr:Rd B w0 H' A (q.flatMap rqF)) (hw:St B w0 H' w)=>Yh6 q x ho (by omega) (cap:=cap) hr hw
 rw[hP]at p1
 have p2:=λ{A':Option Addr}{cap' gv:Nat}{H':List HP}{w:World}(hw:St B w0 (rqs A' cap' q::rqA gv x::H') w)=>YaJ q k x hp hlen hw
 rw[Ql q x k hp]at p2
 have hr:Rd B w0 [many H] A (q.flatMap rqF):=hr.mono λw hw=>hw.perm (.openT H)
 have hrx:∀{L:List HP},(∀w,St B w0 L w->St B w0 [many H] w)->Rd B w0 L A (q.flatMap rqF):=λh=>hr.mono h
 refine ZW [many H] (λw hw=>hw.perm (.closeT H)) ?_
 unfold rqV at p1⊢
 (apply YY;apply Yx;apply Yr;exact rfl;exact rfl;intro g)
 refine zX8 ?_
 apply Ye _ Yxw
 exact za
 exact rfl
 exactλ_ hw=>(p1 hr.cons (hw))
 rintro _ _ ⟨b,rfl,rfl⟩
 refine zX11 ?_
 apply Yir (.p1 0 (.p1 2 (.p1 3 (.d2 1 (.d1 4 (.d1 5 (.d1 6 .done))) 4 (.d1 1 (.d1 5 (.d1 6 .done))))))) [] [true,true]
 kernel_rfl
 kernel_rfl
 exact zy
 exact rfl
 repeat'(first|((apply Ye _ Yje);exact za;exact rfl;exactλ_ hw=>UE q (by omega) (hrx zk) hw;rintro _ _ ⟨A1,cap1,rfl,rfl⟩)|(apply Ua T T2;(iterate 7 exact rfl);intro gv)|(apply Xd [rqs A1 cap1 q,rqA gv x] _ YqX;exact za;try exact zl;exact zp;exact rfl;exactλ_ hw=>p2 hw;rintro _ _ ⟨A2,cap2,rfl,rfl⟩)|(apply Yus;(simp only[nthO];rfl))|(apply Yuq;(simp only[nthO];rfl);exact zp)|(apply Yur;(simp only[nthO];rfl);(simp only[nthO];rfl);exact zp)|(apply YiK;try exact zl)|refine zgd ?_|fail)
 all_goals(
  apply Yi (rqs A2 cap2 (q.take k++x::q.drop k)::H)
  ·intro w hw
   have h5:St B w0 (rqs A2 cap2 (q.take k++x::q.drop k)::[many H]) w:=by
    revert w
    exact zk
   exact h5.perm (.cons _ (.openT H))
  apply Yd;exact rfl;exact rfl
  exact⟨A2,cap2,rfl,rfl⟩)
variable {A:Option Addr}{cap B:Nat}{w0 w:World}{H:List HP}
theorem Yd0(p:RqM->Bool)(l:List RqM)(f:Nat)(cs:List Value)(hen:∀xs w,(callFunc f xs).run Tryz.prog w=.ok (.enter f xs) w)(hlen:l.length<=100000000)(hr:Rd B w0 H A (l.flatMap rqF))
 (hp:∀a∈l,∀w,St B w0 H w->Calls Tryz.prog f ([rqV a]++cs).toArray w (Post B w0 λv K=>v=.bool (p a)/\K=H)) (hw:St B w0 H w):
 CX B w0 106 [.slice A l.length cap,.func (.func f) #[] cs.toArray] w λv K=>v=.int .i64 (Ym p l 0)/\K=H:=by
 refine Yc Tryz.func106 Tryz.ntmps106 rfl rfl hw ?_
 refine zX8 ?_
 refine Yg (λ(k:Nat)=>[(8,.int .i64 k),(7,.int .i64 l.length),(0,.slice A l.length cap),(1,.func (.func f) #[] cs.toArray)]) (λ_=>H) (λk=>k<=l.length/\Ym p l 0=Ym p (l.drop k) k) (λk=>l.length-k) 0 ⟨Tm _,by simp⟩ ?_ (λw hw=>hw) ?_
 ·exact zc1
 rintro k ⟨hk,hi⟩ K hK
 by_cases hlt:k<l.length
 ·obtain⟨a,ha⟩:∃a,l[k]? =some a:=⟨_,Ta hlt⟩
  have hpa:=hp a (Tc ha)
  rw[Z3 p l ha]at hi
  refine zX35 ?_<;>intros
  cases hpv:p a
  ·rw[hpv]at hi
   refine zX11 ?_
   apply hK (k+1)
   ·grind
   ·omega
   ·exact zc1
   exact zc17
  exact zc10
 exact zc7
theorem OD(p:RqM->Bool)(l:List RqM)(f:Nat)(cs:List Value)(hen:∀xs w,(callFunc f xs).run Tryz.prog w=.ok (.enter f xs) w)(hlen:l.length<=100000000)(hr:Rd B w0 H A (l.flatMap rqF))
 (hp:∀a∈l,∀w,St B w0 H w->Calls Tryz.prog f ([rqV a]++cs).toArray w (Post B w0 λv K=>v=.bool (p a)/\K=H)) (hw:St B w0 H w):
 CX B w0 197 [.slice A l.length cap,.func (.func f) #[] cs.toArray] w λv K=>v=.bool (l.any p)/\K=H:=by
 refine Yc Tryz.func197 Tryz.ntmps197 rfl rfl hw ?_
 rw[<-YdX]
 refine zX4 ?_
 first|apply Ya YmV|apply Yb YmV
 exact za
 exact rfl
 exactλ_ hw=>(Yd0 p l f cs hen hlen hr hp hw)
 by_cases h0:0<=Ym p l 0
 ·exact zc18
 ·exact zc18
theorem Ysg(n:Net)(l:List Flw):(schE n l ZD).2≠0:=by
 have h:ZM n l ZD≠0:=by
  unfold ZM
  split
  ·decide
  split
  ·decide
  rw[Tn (by decide)];decide
 simp_all [schE]
def Yht(n:Net)(q:List Rqs):Bool:=decide (¬(YN n q ZD).2.2=1\/0<=(YN n q ZD).2.1)
variable {n:Net}{q:List Rqs}
theorem Ygc(h:Yo n=0):Yht n q=decide ((rqsE n q).2≠0):=by
 unfold Yht YN
 by_cases h1:(rqsE n q).2=0
 ·rw[Tf (λe=>e h1),Tn (Ysg n _)]
  simp_all
 ·have h3:decide ((rqsE n q).2≠0)=true:=Td h1
  rw[Tn h1,h3]
  refine Td ?_
  have hff:∀{f:Nat->Int}{r:Nat},(YZ f r 0).2≠0->0<=(YZ f r 0).1:=λ{f r} hne=>by
   have aux:∀{r i:Nat},(YZ f r i).2≠0->0<=(YZ f r i).1:=by
    intro r
    induction r with
    |zero=>intro i h;exact absurd rfl h
    |succ r ih=>
     intro i h
     unfold YZ at h⊢
     split
     ·split at h
      ·exact ih h
      ·contradiction
     ·omega
   exact aux hne
  unfold rqsE at h1⊢
  rw[Tf (λe=>e h)]at h1⊢
  by_cases h2:(Yu n.nodes (Y0 q)).2=0
  ·rw[Tf (λe=>e h2)]at h1⊢
   exact .inr (hff h1)
  ·rw[Tn h2]at h1⊢
   unfold Yu at h2⊢
   split at h2
   ·rw[Tn (by assumption)];decide
   rw[Tf (by assumption)]
   split at h2
   ·rw[Tn (by assumption)];decide
   rw[Tf (by assumption)]
   exact .inr (hff h2)
theorem Yb6(n:NetM)(q:List RqM)(ht:TabsB B w0)(hin:n.In B w0 H)(hq:QIn B w0 H A q)(hw:St B w0 H w):
 CX B w0 199 [n.val,.slice A q.length cap] w λv K=>v=.bool (Yht n.net (q.map RqM.rq))/\K=H:=by
 refine Yc Tryz.func199 Tryz.ntmps199 rfl rfl hw ?_
 have p1:=λ{H':List HP}{w:World}(hin:n.In B w0 H') (hq:QIn B w0 H' A q) (hw:St B w0 H' w)=>Wt n q ⟨0,0,none,0,[]⟩ (cap:=cap) ht hin hq (.nil) (by decide) hw
 unfold OutC NetM.val SchM.val at p1
 have hz:(⟨0,0,none,0,[]⟩:SchM).sch=ZD:=rfl
 rw[hz]at p1
 unfold Yht
 obtain⟨⟨RC,ri,re⟩,hR⟩:∃R,YN n.net (q.map RqM.rq) ZD=R:=⟨_,rfl⟩
 rw[hR]at p1⊢
 dsimp only at p1⊢
 unfold NetM.val
 refine zX26 ?_<;>intros
 apply Ye _ en80
 exact za
 exact rfl
 exactλ_ hw=>(p1 hin.cons hq.cons (hw))
 rintro _ _ ⟨A2,cap2,C,rfl,hC,hCl,rfl⟩
 by_cases h0:re=1
 ·by_cases h1:0<=ri
  ·rw[Td (.inr h1)]
   refine zX43 ?_<;>intros
   all_goals(apply Yi H;((intro w hw;refine hw.perm ?_;focus exact zc3));exact zc84)
  ·rw[Ti (by rintro(h|h);exact h h0;exact h1 h)]
   refine zX43 ?_<;>intros
   all_goals(apply Yi H;((intro w hw;refine hw.perm ?_;focus exact zc3));exact zc84)
 ·rw[Td (.inl h0)]
  refine zX0 ?_<;>intros
  all_goals(apply Yi H;((intro w hw;refine hw.perm ?_;focus exact zc3));exact zc84)
theorem Yoo(y x:RqM)(g:Nat)(hm:rqA g x∈H)(hw:St B w0 H w):
 CX B w0 198 [rqV y,.pointer (some ⟨g,0,none⟩)] w λv K=>v=.bool (decide (y.f.1=x.f.1))/\K=H:=by
 refine Yc Tryz.func198 Tryz.ntmps198 rfl rfl hw ?_
 unfold rqV
 by_cases h:y.f.1=x.f.1
 ·rw[Td h]
  refine zX46 ?_<;>intros
  all_goals(apply Yi H;((intro w hw;refine hw.perm ?_;focus exact zc3));exact zc11)
 ·rw[Ti h]
  refine zX46 ?_<;>intros
  all_goals(apply Yi H;((intro w hw;refine hw.perm ?_;focus exact zc3));exact zc11)
theorem Yop{s:Sch}{x:Rqs}(hc:(YN n q s).2.2=0)(hx:(rqsE n (insQ q x)).2=0)(hm:s.len.tmod x.1.2.2.2.1=0):
 Sm n (Y0 (insQ q x)) s/\Xx n.nodes x.1=0/\(∀r∈x.2,(∀y∈Yp n r,LkOk n (Y0 (insQ q x)) y.1 y.2.1 x.1.1)/\(∀i,i+1<r.length->0<=Yt n (r.getD i 0) (r.getD (i+1) 0))/\1<=r.length/\r.length<=9):=by
 obtain⟨h1,h2⟩:=XC.1 hc
 have hsem:=ZV.1 (XT.1 h1)
 obtain⟨-,hfl,hrt⟩:=Ut hx
 have hxm:x∈insQ q x:=by simp[Vy]
 have hrx:=hrt x hxm
 have hfx:Xx n.nodes x.1=0:=Vf hfl (TC.2 ⟨x,hxm,rfl⟩)
 obtain⟨hib,-⟩:=XK hfx
 have hsm:Sm n (Y0 (insQ q x)) s:=by
  have h0:=hsem.sm
  refine⟨h0.ck,hfl,λf hf=>?_,h0.sized,h0.formed,h0.ord,λc hcm=>⟨(h0.good c hcm).1,?_⟩,h0.once,h0.clear⟩
  ·obtain⟨y,hy,rfl⟩:=TC.1 hf
   rcases Vy.1 hy with rfl|hy
   ·exact hm
   ·exact h0.per _ (TC.2 ⟨y,hy,rfl⟩)
  ·obtain⟨f,hf,e⟩:=ZF.1 (h0.good c hcm).2
   obtain⟨y,hy,rfl⟩:=TC.1 hf
   exact ZF.2 ⟨y.1,TC.2 ⟨y,Vy.2 (.inr hy),rfl⟩,e⟩
 have hfi:0<=Z1 (Y0 (insQ q x)) x.1.1:=ZF.2 ⟨x.1,TC.2 ⟨x,hxm,rfl⟩,rfl⟩
 refine⟨hsm,hfx,λr hr=>?_⟩
 have hck:=Vj hrx r hr
 obtain⟨-,hlen,hg⟩:=Vc hck
 refine⟨λy hy=>⟨Yd6 hck y hy,hfi,hib⟩,λi hi=>?_,by omega,hlen.2⟩
 have:=hg i hi
 unfold Yz at this
 rw[Tq]at this
 exact Rj this.1
theorem QIn.insert{A':Option Addr}{cap':Nat}{q:List RqM}{x:RqM}(h:QIn B w0 H A q)(hx:x.In B w0 H)(hl:q.length<=1000)(k:Nat)(hk:k<=q.length):QIn B w0 (rqs A' cap' (q.take k++x::q.drop k)::H) A' (q.take k++x::q.drop k):=
 ⟨.sl Tz,λy hy=>by
  rcases TI.1 hy with hy|hy
  ·exact(h.x y (SB hy)).cons
  ·rcases TL.1 hy with rfl|hy
   ·exact hx.cons
   ·exact(h.x y (List.mem_of_mem_drop hy)).cons,by grind⟩
theorem YtF(q:List RqM)(x:RqM):(q.take (posQ (q.map RqM.rq) x.f.1)++x::q.drop (posQ (q.map RqM.rq) x.f.1)).map RqM.rq=insQ (q.map RqM.rq) x.rq:=by
 rw[Rb,Rh,List.map_take,N4];rfl
theorem Yrk{q:List RqM}(h:(rqsE n (q.map RqM.rq)).2=0):Ymx q:=λi j x y hij hi hj=>by
 have hl:=(Tj.1 hj).1
 have:=Ysb h hij (by simp_all)
 unfold rqAt at this
 rw[Tu,Tu,TR,TR,hi,hj]at this
 exact this
theorem YcW(n:NetM)(q:List RqM)(s:SchM)(x:RqM)(h24:s.len<=24){A:Option Addr}{cap B:Nat}{w0:World}{H:List HP}{w:World}(ht:TabsB B w0)(hin:n.In B w0 H)(hq:QIn B w0 H A q)(hrs:Rd B w0 H s.A (s.cells.flatMap celF))(hsl:s.cells.length<=1000000000000)(hx:x.In B w0 H)(hw:St B w0 H w):
 CX B w0 99 [n.val,.slice A q.length cap,s.val,rqV x] w (OutS H (XQ n.net (q.map RqM.rq) s.sch x.rq)):=by
 refine Yc Tryz.func99 Tryz.ntmps99 rfl rfl hw ?_
 have p1:=λ{H':List HP}{w:World}(hin:n.In B w0 H') (hq:QIn B w0 H' A q) (hrs:Rd B w0 H' s.A (s.cells.flatMap celF)) (hw:St B w0 H' w)=>Ycn n q s (cap:=cap) ht hin hq hrs hsl hw
 have pf:=λ{A':Option Addr}{cap':Nat}{q':List RqM}{H':List HP}{w:World}(hin:n.In B w0 H') (hq:QIn B w0 H' A' q') (hw:St B w0 H' w)=>Yb6 n q' (cap:=cap') ht hin hq hw
 have pp:=λ(hsm:Sm n.net (Y0 (insQ (q.map RqM.rq) x.rq)) s.sch) (hrow:∀r∈x.rows,Yqb n (Y0 (insQ (q.map RqM.rq) x.rq)) x.f.1 r) (hf:Xx n.net.nodes x.f=0) {H':List HP}{w:World}(hin:n.In B w0 H') (hr:Rd B w0 H' s.A (s.cells.flatMap celF)) (hx:x.In B w0 H') (hw:St B w0 H' w)=>Yka n _ s x hsm h24 hrow hf hin hr hx hw
 have hn1:n.val=.agg #[.int .i64 n.nodes,.slice n.pA n.rows.length n.pcap,.int .i64 n.noise,.int .i64 n.thr,.slice n.lA n.links.length n.lcap,.slice n.mA n.margin.length n.mcap]:=rfl
 unfold NetM.val SchM.val rqV at*
 clear hn1
 have hlenS:s.sch.len=s.len:=rfl
 have hxf:x.rq.1=x.f:=rfl
 have hop:∀w,St B w0 [many H] w->St B w0 H w:=λw hw=>hw.perm (.openT H)
 have hin:=hin.mono hop
 have hq:=hq.mono hop
 have hrs:=hrs.mono hop
 have hx:=hx.mono hop
 refine ZW [many H] (λw hw=>hw.perm (.closeT H)) ?_
 refine zX70 ?_<;>intros
 rename_i g4 g6 g7 g8
 first|apply Ya Ym6|apply Yb Ym6
 exact za
 exact rfl
 exactλ_ hw=>(p1 hin.cons.cons.cons.cons hq.cons.cons.cons.cons hrs.cons.cons.cons.cons hw)
 by_cases hc:(YN n.net (q.map RqM.rq) s.sch).2.2=0
 rotate_left
 ·rw[Ti hc]
  refine zX2 ?_
  apply Yq T (H2:=cels none 0 []::H);(iterate 3 exact rfl);(focus exact zc2);exact rfl;exact rfl
  ·intro w hw
   have h5:St B w0 [many H] w:=by
    revert w
    exact zc0
   exact zc53
  exact UU 1 (by rw[XQ,Tn hc]) rfl
 rw[Td hc]
 have hrq:(rqsE n.net (q.map RqM.rq)).2=0:=Rn.1 λh1=>by
  unfold YN at hc;rw[Tn h1]at hc;exact h1 hc
 have hck:=(Ut hrq).1
 have hql:q.length<=16:=by
  have h1:=(Ut hrq).2.1
  unfold Yu at h1
  split at h1
  ·cases h1
  split at h1
  ·cases h1
  rename_i h2
  unfold Y0 at h2
  rw[TB,TB]at h2
  omega
 have hord:=Yrk hrq
 repeat'(first|(apply zg29;(apply Yw;exact za;exact rfl))|refine zgd ?_|fail)
 first|apply Ya Ym9|apply Yb Ym9
 exact za
 exact rfl
 exactλ_ hw=>(OD (λy=>decide (y.f.1=x.f.1)) q 198 [.pointer (some ⟨g7,0,none⟩)] Yxj (by omega) hq.rd.cons.cons.cons.cons (λa _ w hw=>Yoo a x g7 (by(focus exact zc2)) hw) hw)
 have hhas:(q.any λy=>decide (y.f.1=x.f.1))=hasQ (q.map RqM.rq) x.f.1:=by
  unfold hasQ;rw[List.any_map];rfl
 rw[hhas]
 cases hh:hasQ (q.map RqM.rq) x.f.1 with
 |true=>
  refine zX2 ?_
  apply Yq T (H2:=cels none 0 []::H);(iterate 3 exact rfl);(focus exact zc2);exact rfl;exact rfl
  ·intro w hw
   have h5:St B w0 [many H] w:=by
    revert w
    exact zc0
   exact zc53
  exact UU 6 (by rw[XQ,Tf (λe=>e hc),Tn (show hasQ (q.map RqM.rq) x.rq.1.1=true from hh)]) rfl
 |false=>
 have hadm:XQ n.net (q.map RqM.rq) s.sch x.rq=(if(rqsE n.net (insQ (q.map RqM.rq) x.rq)).2≠0 then(ZD,1)
  else if s.sch.len.tmod x.rq.1.2.2.2.1≠0 then(ZD,11)else match JY n.net x.rq.1 x.rq.2 s.sch with
   |none=>(ZD,18)
   |some t=>if 512<t.cells.length then(ZD,8)else(t,0):Sch×Int):=by
  have hh2:¬hasQ (q.map RqM.rq) x.rq.1.1=true:=λh=>by rw[show hasQ (q.map RqM.rq) x.rq.1.1=false from hh]at h;cases h
  unfold XQ
  rw[Tf (λe=>e hc),Tf hh2]
  rfl
 rw[hadm]
 have pi:=λ{H':List HP}{w:World}(hr:Rd B w0 H' A (q.flatMap rqF)) (hw:St B w0 H' w)=>Yfq q x hord (by omega) (cap:=cap) hr hw
 have hkl:posQ (q.map RqM.rq) x.f.1<=q.length:=zc77
 have hmap:=YtF q x
 have hins:=Ql q x _ hkl
 generalize posQ (q.map RqM.rq) x.f.1=k at*
 unfold rqV at pi
 refine zX4 ?_
 apply YX [0,1,2,3,4,5] [] [true,true,true,true,true]
 kernel_rfl
 kernel_rfl
 exact zy
 (simp only[Yh,nthO];rfl)
 exact rfl
 refine zX2 ?_
 apply Ye _ Yxk
 exact za
 exact rfl
 exactλ_ hw=>(pi hq.rd.cons.cons.cons.cons (hw))
 rintro _ _ ⟨A1,cap1,rfl,rfl⟩
 rw[<-hins]
 have hqi:=hq.insert (A':=A1) (cap':=cap1) hx (by omega) k hkl
 refine zX18 ?_
 first|apply Ya Yf1|apply Yb Yf1
 exact za
 exact rfl
 exactλ_ hw=>(pf (hin.mono zc0) (hqi.mono zc0) hw)
 rw[hmap,Ygc hck]
 by_cases hrx:(rqsE n.net (insQ (q.map RqM.rq) x.rq)).2=0
 rotate_left
 ·rw[Td hrx]
  refine zX18 ?_
  apply Yq T (H2:=cels none 0 []::H);(iterate 3 exact rfl);(focus exact zc2);exact rfl;exact rfl
  ·intro w hw
   have h5:St B w0 [many H] w:=by
    revert w
    exact zc0
   exact zc53
  exact UU 1 (by rw[Tn hrx]) rfl
 have hdf:decide ((rqsE n.net (insQ (q.map RqM.rq) x.rq)).2≠0)=false:=Ti (λe=>e hrx)
 rw[hdf,Tf (λe=>e hrx)]
 have hxm:x.rq∈insQ (q.map RqM.rq) x.rq:=Vy.2 (.inl rfl)
 have hfx:Xx n.net.nodes x.f=0:=Vf (Ut hrx).2.1 (TC.2 ⟨x.rq,hxm,rfl⟩)
 obtain⟨-,hper,hph,-,hd⟩:=XK hfx
 have hl1:1<=s.len:=by
  have h0:=(ZV.1 (XT.1 (XC.1 hc).1)).frm.sized
  unfold Jo at h0
  exact(Rj h0).1
 have hmm:s.len.tmod x.f.2.2.2.1=s.len%x.f.2.2.2.1:=RE (by omega)
 by_cases hm:s.len%x.f.2.2.2.1=0
 rotate_left
 ·rw[Tn (show s.sch.len.tmod x.rq.1.2.2.2.1≠0 fromλe=>hm (hmm.symm.trans e))]
  refine zX99 ?_<;>intros
  apply Yq T (H2:=cels none 0 []::H);(iterate 3 exact rfl);(focus exact zc2);exact rfl;exact rfl
  ·intro w hw
   have h5:St B w0 [many H] w:=by
    revert w
    exact zc0
   exact zc53
  exact UU 11 rfl rfl
 rw[Tf (show¬s.sch.len.tmod x.rq.1.2.2.2.1≠0 fromλe=>e (hmm.trans hm))]
 obtain⟨hsm,-,hrd⟩:=Yop hc hrx (hmm.trans hm)
 have hrow:∀r∈x.rows,Yqb n (Y0 (insQ (q.map RqM.rq) x.rq)) x.f.1 r:=λr hr=>by
  obtain⟨h1,h2,h3⟩:=hrd r.xs (TC.2 ⟨r,hr,rfl⟩)
  exact⟨h1,h2,h3⟩
 have pl:=λ{H':List HP}{w:World}=>@pp hsm hrow hfx H' w
 clear pp
 apply XU [many H,netA g4 n,schA g6 s,rqA g7 x,blk g8 (.cells (Value.agg #[.int .i64 0,.int .i64 0,.slice none 0 0]).cells 37 (0,0))]
 ·exact zc0
 refine zX99 ?_<;>intros
 apply Ye _ Yxl
 exact za
 exact rfl
 exactλ_ hw=>(pl (hin.mono zc0) (hrs.mono zc0) (hx.mono zc0) (hw))
 rintro _ _ ⟨s',ok,P,rfl,ho1,ho2,rfl⟩
 cases ok with
 |false=>
  rw[show JY n.net x.rq.1 x.rq.2 s.sch=none from ho2 rfl]
  refine zX26 ?_<;>intros
  apply Yq T (H2:=cels none 0 []::H);(iterate 3 exact rfl);(focus exact zc2);exact rfl;exact rfl
  ·intro w hw
   have h5:St B w0 [many H] w:=by
    revert w
    exact zc0
   exact zc53
  exact UU 18 rfl rfl
 |true=>
 obtain⟨h1,h2⟩:=ho1 rfl
 rw[show JY n.net x.rq.1 x.rq.2 s.sch=some s'.sch from h1]
 have e3:s'.sch.cells=s'.cells:=rfl
 dsimp only
 rw[e3]
 by_cases h512:512<s'.cells.length
 ·rw[Tn h512]
  refine YnV ?_<;>intros
  apply Yq T (H2:=cels none 0 []::H);(iterate 3 exact rfl);(focus exact zc2);exact rfl;exact rfl
  ·intro w hw
   have h5:St B w0 [many H] w:=by
    revert w
    exact zc0
   exact zc53
  exact UU 8 rfl rfl
 rw[Tf h512]
 refine YnV ?_<;>intros
 apply Ye _ Yf2
 exact za
 exact rfl
 exactλ_ hw=>(JC s'.cells (by omega) (h2.mono zc0) (hw))
 rintro _ _ ⟨A2,c2,rfl,rfl⟩
 refine zX2 ?_
 apply Yq T (H2:=cels A2 c2 s'.cells::H);(iterate 3 exact rfl);(focus exact zc2);exact rfl;exact rfl
 ·intro w hw
  have h5:St B w0 (cels A2 c2 s'.cells::[many H]) w:=by
   revert w
   exact zc0
  exact Yn1
 exact⟨A2,c2,rfl,rfl⟩
end Go.Proofs.YtaholidehobiiaaGreatDoor
namespace Go.Eng
open Go.RowKit
variable {B:Nat}{w0:World}{H:List HP}
theorem Wa{P:Program}{env:Env}{n:Nat}(T:Tab P){fn:Func}{Φ:Value->List HP->Prop}{p g k u s rt:Nat}{x y:Value}{cs:Array Value}{tt:TypeId}{fr:Nat×Nat}(hr:fn.results=#[.cell p rt,.tmp u,.tmp s])(hp:get env p=some (.pointer (some ⟨g,0,none⟩)))(hu:get env u=some x)(hs:get env s=some y)
 (hm:blk g (.cells cs tt fr)∈H) (ht:look T.ag rt=some k) (hk:cs.size=k) {H2:List HP}(hH:∀w,St B w0 H w->St B w0 H2 w) (h:Φ (.tuple #[.agg cs,x,y]) H2):VQ ⟨n,[],none⟩ B w0 (bodyPost P fn (Post B w0 Φ)) .ret env H:=by
 refine⟨λa w ha hw=>bodyPost_ret (v:=.tuple #[.agg cs,x,y]) ?_ ha.defers ⟨_,H2,rfl,hH w hw,h⟩⟩
 have hp':=ha.slot p _ hp
 simp[results,hr,Array.getD_eq_getD_getElem?,hp',ha.slot u _ hu,ha.slot s _ hs,asAddr,V2 T (hw.blk hm).1 ht hk]
end Go.Eng
namespace Go.Proofs.YtaholidehobiiaaGreatDoor
open Go.RowKit Go.Eng Go.Nw Go.Rt
def Jl(A:Option Addr)(cap:Nat)(l:List Int):HP:=sl 3 1 A l.length cap (l.flatMap numF)
def OutA(H:List HP)(R:(Sch×List Int)×Int)(v:Value)(K:List HP):Prop:=∃A cap A2 cap2,v=.tuple #[.agg #[.int .i64 R.1.1.len,.int .i64 R.1.1.off,.slice A R.1.1.cells.length cap],.slice A2 R.1.2.length cap2,.int .i64 R.2]/\K=cels A cap R.1.1.cells::Jl A2 cap2 R.1.2::H
variable {H:List HP}
theorem YcP{R:(Sch×List Int)×Int}{v:Value}(e:Int)(hR:R=((ZD,[]),e))(hv:v=.tuple #[.agg #[.int .i64 0,.int .i64 0,.slice none 0 0],.slice none 0 0,.int .i64 e]):OutA H R v (cels none 0 []::Jl none 0 []::H):=⟨none,0,none,0,by rw[hR];exact hv,by rw[hR];rfl⟩
variable {B cap:Nat}{w0 w:World}
theorem nilA(h:St B w0 H w):St B w0 (cels none 0 []::Jl none 0 []::H) w:=(h.nilSlice _ _).nilSlice _ _
variable {A:Option Addr}
theorem UW{l:List Cel}(h:cels A cap l∈H):Rd B w0 H A (l.flatMap celF):=Rd.sl h
theorem YhS{l:List RqM}(h:rqs A cap l∈H):Rd B w0 H A (l.flatMap rqF):=Rd.sl h
theorem YlA(A:Option Addr)(cap:Nat)(l:List Int)(x:Int):sl 3 1 A (l.length+1) cap (l.flatMap numF++#[Value.int .i64 x].toList)=Jl A cap (l++[x]):=by
 grind [Jl,numF]
theorem Yor(y:RqM)(len:Int)(g:Nat)(hl:0<=len)(hp:1<=y.f.2.2.2.1)(hm:intA g len∈H)(hw:St B w0 H w):
 CX B w0 246 [rqV y,.pointer (some ⟨g,0,none⟩)] w λv K=>v=.bool (decide (len.tmod y.f.2.2.2.1≠0))/\K=H:=by
 refine Yc Tryz.func246 Tryz.ntmps246 rfl rfl hw ?_
 unfold rqV
 rw[RE hl]
 by_cases h:len%y.f.2.2.2.1=0
 ·have h2:decide (len%y.f.2.2.2.1≠0)=false:=Ti (λe=>e h)
  rw[h2]
  refine zX48 ?_<;>intros
  all_goals(apply Yi H;((intro w hw;refine hw.perm ?_;focus exact zc3));exact zc11)
 ·have h2:decide (len%y.f.2.2.2.1≠0)=true:=Td h
  rw[h2]
  refine zX48 ?_<;>intros
  all_goals(apply Yi H;((intro w hw;refine hw.perm ?_;focus exact zc3));exact zc11)
theorem Ymc{n:NetM}{q:List RqM}(h:(rqsE n.net (q.map RqM.rq)).2=0):q.length<=16/\∀x∈q,1<=x.f.2.2.2.1:=by
 have h1:=(Ut h).2.1
 refine⟨?_,λx hx=>?_⟩
 ·grind [Yu,Y0]
 ·have hfx:Xx n.net.nodes x.f=0:=Vf h1 (TC.2 ⟨x.rq,TC.2 ⟨x,hx,rfl⟩,rfl⟩)
  obtain⟨-,hper,-⟩:=XK hfx
  omega
structure AlM where
 k:Nat
 s:SchM
 iA:Option Addr
 icap:Nat
 inn:List RqM
 oA:Option Addr
 ocap:Nat
 at_:List Int
theorem Yp7(n:NetM)(q:List RqM)(len off:Int)(h24:len<=24\/512<len)(ht:TabsB B w0)(hin:n.In B w0 H)(hq:QIn B w0 H A q)(hw:St B w0 H w):
 CX B w0 156 [n.val,.slice A q.length cap,.int .i64 len,.int .i64 off] w (OutA H (XB n.net (q.map RqM.rq) len off)):=by
 refine Yc Tryz.func156 Tryz.ntmps156 rfl rfl hw ?_
 have hop:∀w,St B w0 [many H] w->St B w0 H w:=λw hw=>hw.perm (.openT H)
 have hin:=hin.mono hop
 have hq:=hq.mono hop
 have p1:=λ{H':List HP}{w:World}(hin:n.In B w0 H') (hw:St B w0 H' w)=>Xb n hin hw
 have p2:=λ{H':List HP}{w:World}(hin:n.In B w0 H') (hq:QIn B w0 H' A q) (hw:St B w0 H' w)=>Yb6 n q (cap:=cap) ht hin hq hw
 have pa:=λ(z:AlM) (x:RqM) (hz:z.s.len<=24) (hzl:z.s.cells.length<=1000000000000) {H':List HP}{w:World}(hin:n.In B w0 H') (hq:QIn B w0 H' z.iA z.inn) (hrs:Rd B w0 H' z.s.A (z.s.cells.flatMap celF)) (hx:x.In B w0 H') (hw:St B w0 H' w)=>YcW n z.inn z.s x hz (cap:=z.icap) ht hin hq hrs hzl hx hw
 unfold NetM.val SchM.val rqV at*
 refine ZW [many H] (λw hw=>hw.perm (.closeT H)) ?_
 have hnil:∀{w:World},St B w0 [many H] w->St B w0 (cels none 0 []::Jl none 0 []::H) w:=λh=>nilA (h.perm (.openT H))
 by_cases hck:Yo n.net=0
 rotate_left
 ·have hno:(if Yo n.net=0 then(0:Int)else 1)=1:=Tf hck
  refine O9 ?_<;>intros
  first|apply Ya en82|apply Yb en82
  exact za
  exact rfl
  exactλ_ hw=>(p1 hin.cons.cons.cons hw)
  refine zX0 ?_<;>intros
  apply Wa T (H2:=cels none 0 []::Jl none 0 []::H);(iterate 4 exact rfl);(focus exact zc2);exact rfl;exact rfl
  ·intro w hw
   refine hnil ?_
   revert w
   exact zc0
  exact YcP 1 (by rw[XB,Tn (.inl hck)]) rfl
 have hf2:=Ygc (q:=q.map RqM.rq) hck
 rw[hf2]at p2
 clear hf2
 by_cases hrq:(rqsE n.net (q.map RqM.rq)).2=0
 rotate_left
 ·have hd:decide ((rqsE n.net (q.map RqM.rq)).2≠0)=true:=Td hrq
  rw[hd]at p2
  rw[hck]at p1
  refine O9 ?_<;>intros
  first|apply Ya en82|apply Yb en82
  exact za
  exact rfl
  exactλ_ hw=>(p1 hin.cons.cons.cons hw)
  refine zX1 ?_<;>intros
  first|apply Ya Yf1|apply Yb Yf1
  exact za
  exact rfl
  exactλ_ hw=>(p2 hin.cons.cons.cons hq.cons.cons.cons hw)
  refine zX2 ?_
  apply Wa T (H2:=cels none 0 []::Jl none 0 []::H);(iterate 4 exact rfl);(focus exact zc2);exact rfl;exact rfl
  ·intro w hw
   refine hnil ?_
   revert w
   exact zc0
  exact YcP 1 (by rw[XB,Tn (.inr hrq)]) rfl
 have hd:decide ((rqsE n.net (q.map RqM.rq)).2≠0)=false:=Ti (λe=>e hrq)
 rw[hd]at p2
 rw[hck]at p1
 have hadm:XB n.net (q.map RqM.rq) len off=if len<1\/512<len\/off<1\/16<off then((ZD,[]),2)
  else if((q.map RqM.rq).any λx=>decide (len.tmod x.1.2.2.2.1≠0))=true then((ZD,[]),11)else(((Ob n.net (q.map RqM.rq) len off (q.map RqM.rq).length).s,(Ob n.net (q.map RqM.rq) len off (q.map RqM.rq).length).at_),0):=by
  rw[XB,Tf]
  rintro(h|h)
  ·exact h hck
  ·exact h hrq
 rw[hadm]
 refine O9 ?_<;>intros
 rename_i g4 g6 g8
 first|apply Ya en82|apply Yb en82
 exact za
 exact rfl
 exactλ_ hw=>(p1 hin.cons.cons.cons hw)
 refine zX1 ?_<;>intros
 first|apply Ya Yf1|apply Yb Yf1
 exact za
 exact rfl
 exactλ_ hw=>(p2 hin.cons.cons.cons hq.cons.cons.cons hw)
 by_cases hr:len<1\/512<len\/off<1\/16<off
 ·rw[Tn hr]
  repeat'(first|refine zgd ?_|(refine zgf ?_ ?_<;>intro _<;>try exact zo)|fail)
  all_goals try exact zo
  all_goals(
   apply Wa T (H2:=cels none 0 []::Jl none 0 []::H);(iterate 4 exact rfl);exact zm;exact rfl;exact rfl
   ·intro w hw
    refine hnil ?_
    revert w
    exact zk
   exact YcP 2 rfl rfl)
 rw[Tf hr]
 have hl:=Ymc hrq
 refine Yvn ?_<;>intros
 all_goals try exact zo
 first|apply Ya Ym9|apply Yb Ym9
 exact za
 exact rfl
 exactλ_ hw=>(OD (λy=>decide (len.tmod y.f.2.2.2.1≠0)) q 246 [.pointer (some ⟨g6,0,none⟩)] Yxq (by omega) (hq.rd.mono zc0) (λa ha w hw=>Yor a len g6 (by omega) (hl.2 a ha) (by(focus exact zc2)) hw) hw)
 have hhas:(q.any λy=>decide (len.tmod y.f.2.2.2.1≠0))=(q.map RqM.rq).any λx=>decide (len.tmod x.1.2.2.2.1≠0):=by
  rw[List.any_map];rfl
 rw[hhas]
 cases hh:(q.map RqM.rq).any λx=>decide (len.tmod x.1.2.2.2.1≠0)with
 |true=>
  rw[Tn rfl]
  refine zX2 ?_
  apply Wa T (H2:=cels none 0 []::Jl none 0 []::H);(iterate 4 exact rfl);(focus exact zc2);exact rfl;exact rfl
  ·intro w hw
   refine hnil ?_
   revert w
   exact zc0
  exact YcP 11 rfl rfl
 |false=>
 rw[Tf (by decide)]
 refine zX26 ?_<;>intros
 rename_i g11
 refine Yg (λz:AlM=>[(54,.int .i64 (z.k:Nat)),(53,.int .i64 q.length),(52,.slice A q.length cap),(13,.slice z.oA z.at_.length z.ocap),(12,.slice z.iA z.inn.length z.icap),(11,.pointer (some ⟨g11,0,none⟩)),(10,.int .i64 0),(9,.slice none 0 0),(8,.pointer (some ⟨g8,0,none⟩)),(4,.pointer (some ⟨g4,0,none⟩))])
  (λz=>schA g11 z.s::cels z.s.A z.s.cap z.s.cells::rqs z.iA z.icap z.inn::Jl z.oA z.ocap z.at_::blk g8 (.cells (Value.agg #[.int .i64 0,.int .i64 0,.slice none 0 0]).cells 37 (0,0))::netA g4 n::[many H])
  (λz=>z.k<=q.length/\(∀y∈z.inn,y∈q)/\(⟨z.s.sch,z.inn.map RqM.rq,z.at_⟩:AllS)=Ob n.net (q.map RqM.rq) len off z.k) (λz=>q.length-z.k) ⟨0,⟨len,off,none,0,[]⟩,none,0,[],none,0,[]⟩ ⟨Tm _,(λy hy=>by cases hy),rfl⟩ ?_ ?_ ?_
 ·exact zc1
 ·intro w hw
  have h5:St B w0 (blk g11 (.cells #[.int .i64 len,.int .i64 off,.slice none 0 0] 37 (0,0))::blk g8 (.cells (Value.agg #[.int .i64 0,.int .i64 0,.slice none 0 0]).cells 37 (0,0))::netA g4 n::[many H]) w:=by
   revert w
   exact zc0
  have h6:=((h5.nilSlice 3 1).nilSlice 86 7).nilSlice 64 5
  clear h5 hw
  have h7:St B w0 (blk g11 (.cells #[.int .i64 len,.int .i64 off,.slice none 0 0] 37 (0,0))::sl 64 5 none 0 0 []::sl 86 7 none 0 0 []::sl 3 1 none 0 0 []::blk g8 (.cells (Value.agg #[.int .i64 0,.int .i64 0,.slice none 0 0]).cells 37 (0,0))::netA g4 n::[many H]) w:=by
   revert w
   exact zc0
  exact h7
 rintro⟨k,s,iA,icap,inn,oA,ocap,at_⟩ ⟨hk,hmem,hall⟩ K hK
 dsimp only at hk hmem hall⊢
 have hor:1<=off/\off<=16:=by omega
 have hlr:1<=len/\len<=512:=by omega
 have hinv:=YcH hrq hlr hor k (by rw[TB];exact hk)
 rw[<-hall]at hinv
 have hs24:s.len<=24:=by have:s.len=len:=hinv.len;omega
 have hfew:inn.length<=k:=by have:=hinv.few;exact Yn5
 have hsl:s.cells.length<=512:=(ZV.1 (XT.1 (XC.1 hinv.ok).1)).frm.few
 have hcnt:at_.length=inn.length:=by have:=hinv.cnt;exact Yn5
 have hqI:QIn B w0 (schA g11 s::cels s.A s.cap s.cells::rqs iA icap inn::Jl oA ocap at_::blk g8 (.cells (Value.agg #[.int .i64 0,.int .i64 0,.slice none 0 0]).cells 37 (0,0))::netA g4 n::[many H]) iA inn:=
  ⟨YhS (cap:=icap) (by(focus exact zc2)),λy hy=>((((((hq.x y (hmem y hy)).cons).cons).cons).cons).cons).cons,by omega⟩
 by_cases hlt:k<q.length
 rotate_left
 ·obtain rfl:k=q.length:=by omega
  clear hK
  have hall2:Ob n.net (q.map RqM.rq) len off (q.map RqM.rq).length=⟨s.sch,inn.map RqM.rq,at_⟩:=by rw[TB];exact hall.symm
  rw[hall2]
  refine zX1 ?_<;>intros
  apply Wa T (H2:=cels s.A s.cap s.cells::Jl oA ocap at_::H);(iterate 4 exact rfl);(focus exact zc2);exact rfl;exact rfl
  ·intro w hw
   have h5:St B w0 (cels s.A s.cap s.cells::Jl oA ocap at_::[many H]) w:=by
    revert w
    exact zc0
   exact zc76
  exact⟨s.A,s.cap,oA,ocap,rfl,rfl⟩
 have hqrd:=hq.rd
 obtain⟨x,hx⟩:∃x,q[k]? =some x:=⟨_,Ta hlt⟩
 have hxm:=Tc hx
 have hrx:rqAt (q.map RqM.rq) k=x.rq:=by
  unfold rqAt
  rw[Tu,TR,hx];rfl
 have hstep:Ob n.net (q.map RqM.rq) len off (k+1)=YcG n.net ⟨s.sch,inn.map RqM.rq,at_⟩ k x.rq:=by
  rw[Ob,hall,hrx]
 have pz:=λ{H':List HP}{w:World}=>pa ⟨k,s,iA,icap,inn,oA,ocap,at_⟩ x hs24 (by show s.cells.length<=_;omega) (H':=H') (w:=w)
 dsimp only at pz
 clear pa
 unfold YcG at hstep
 dsimp only at hstep
 have hsn:(⟨k,s,iA,icap,inn,oA,ocap,at_⟩:AlM).s.sch=s.sch:=rfl
 generalize XQ n.net (inn.map RqM.rq) s.sch x.rq=R at pz hstep
 obtain⟨t,e⟩:=R
 unfold OutS at pz
 dsimp only at pz hstep
 refine zX48 ?_<;>intros
 rename_i g15
 apply Ye _ en99
 exact za
 exact rfl
 exactλ_ hw=>(pz (hin.mono zc0) (hqI.mono zc0) (UW (cap:=s.cap) (by(focus exact zc2))) ((hq.x x hxm).mono zc0) (hw))
 rintro _ _ ⟨A2,c2,rfl,rfl⟩
 by_cases he:e=0
 rotate_left
 ·rw[Tf he]at hstep
  refine O8 ?_<;>intros
  apply hK ⟨k+1,s,iA,icap,inn,oA,ocap,at_⟩
  ·exact⟨by show k+1<=_;omega,hmem,hstep.symm⟩
  ·exact zc39
  ·exact zc1
  ·exact zc0
 subst he
 rw[Tn rfl]at hstep
 unfold rqs Jl
 refine O8 ?_<;>intros
 apply ZN (.n1 0 (.n1 1 (.n1 2 (.n1 5 (.n1 6 (.n2 3 (.n2 4 (.n1 7 (.n1 8 (.n1 9 (.n1 10 (.n1 11 .done))))) 7 (.n1 4 (.n1 8 (.n1 9 (.n1 10 (.n1 11 .done)))))) 7 (.n1 3 (.n1 4 (.n1 8 (.n1 9 (.n1 10 (.n1 11 .done)))))))))))) [] [true,false,true]
 kernel_rfl
 kernel_rfl
 exact zy
 exact rfl
 repeat'(first|(apply Yl;try exact zl)|apply(zs91 ?_ ?_)|(apply YG;try exact zl)|refine zgd ?_|(refine zgh ?_;intro _)|(refine zgi ?_;intro _ _)|fail)
 all_goals(
  first|(rename_i A3 c3 gb A4 c4;guard_hyp A3:Option Addr;guard_hyp gb:Nat)|rename_i A3 c3 A4 c4
  apply hK ⟨k+1,⟨t.len,t.off,A2,c2,t.cells⟩,A3,c3,inn++[x],A4,c4,at_++[(k:Int)]⟩
  ·refine⟨by show k+1<=_;omega,λy hy=>?_,?_⟩
   ·rcases TI.1 hy with hy|hy
    ·exact hmem y hy
    ·rw[TG.1 hy];exact hxm
   ·show(⟨t,(inn++[x]).map RqM.rq,at_++[(k:Int)]⟩:AllS)=_
    rw[hstep,Rb];rfl
  ·dsimp only;omega
  ·rw[To,To]
   exact zu
  ·intro w hw
   dsimp only
   rw[<-Qs,<-YlA]
   revert w
   exact zk)
end Go.Proofs.YtaholidehobiiaaGreatDoor
