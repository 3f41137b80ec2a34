/- Lemmas. -/
import Derived.LoopN
import Derived.StillTailTactics
import Derived.Test.YtambgjgljcadlaaGreatDoorQ16
import Derived.Test.YtambgjgljcadlaaGreatDoorQ17
set_option maxRecDepth 100000
set_option maxHeartbeats 8000000
set_option linter.all false
namespace Go.Proofs.YtambgjgljcadlaaGreatDoor
open Go.RowKit Go.Eng Go.Nw Go.Rt
variable {B:Nat}{w0 w:World}{H:List HP}
theorem Ybb(n:NetM)(q:List RqM)(s:SchM){A:Option Addr}{cap:Nat}(ht:TabsB B w0)(hin:n.In B w0 H)(hq:QIn B w0 H A q)(hrs:Rd B w0 H s.A (s.cells.flatMap celF))(hsl:s.cells.length<=1000000000000)(hw:St B w0 H w):
 CX B w0 144 [n.val,.slice A q.length cap,s.val] w λv K=>v=.bool (decide ((YS n.net (q.map RqM.rq) s.sch).2.2=0))/\K=H:=by
 refine Ya Tryz.func144 Tryz.ntmps144 rfl rfl hw ?_
 have p1:=λ{H':List HP}{w:World}(hin:n.In B w0 H') (hq:QIn B w0 H' A q) (hrs:Rd B w0 H' s.A (s.cells.flatMap celF)) (hw:St B w0 H' w)=>UG n q s (cap:=cap) ht hin hq hrs hsl hw
 unfold OutC NetM.val SchM.val at p1
 obtain⟨⟨RC,ri,re⟩,hR⟩:∃R,YS n.net (q.map RqM.rq) s.sch=R:=⟨_,rfl⟩
 rw[hR]at p1⊢
 dsimp only at p1⊢
 unfold NetM.val SchM.val
 refine zX97 ?_<;>intros
 apply Ye _ en38
 exact za
 exact rfl
 exactλ_ hw=>(p1 hin.cons.cons hq.cons.cons hrs.cons.cons (hw))
 rintro _ _ ⟨A2,cap2,C,rfl,hC,hCl,rfl⟩
 by_cases h0:re=0
 ·rw[Ti h0]
  refine zX0 ?_<;>intros
  apply Yg H
  ·exact zc0
  apply Yf;exact rfl;exact rfl;grind
 ·rw[Tn h0]
  refine zX0 ?_<;>intros
  apply Yg H
  ·exact zc0
  exact zc13
theorem YrL(s:SchM)(id:Int)(hf:Y5 s.sch=true):QA s.sch id=(⟨s.len,s.off,s.cells.filter λc=>!(decide (Y7 c=id))⟩,0):=by
 unfold QA
 rw[Tf (by simp_all)]
 unfold YsN
 have h2:(λc:Cel=>decide (Y7 c≠id))=λc=>!(decide (Y7 c=id)):=by
  simp_all
 rw[h2]
 exact rfl
theorem Ymr(s:SchM)(id:Int)(ht:TabsB B w0)(hr:Rd B w0 H s.A (s.cells.flatMap celF))(hl:s.cells.length<=1000000000000)(hw:St B w0 H w):
 CX B w0 92 [s.val,.int .i64 id] w (OutS H (QA s.sch id)):=by
 refine Ya Tryz.func92 Tryz.ntmps92 rfl rfl hw ?_
 have p1:=λ{H':List HP}{w:World}(hr:Rd B w0 H' s.A (s.cells.flatMap celF)) (hw:St B w0 H' w)=>VO s ht hr hl hw
 unfold SchM.val at p1⊢
 repeat'(first|(apply zg23;first|(refine zs52 ?_;intro _)|(refine zs53 ?_;intro _))|refine zgb ?_|(refine zgh ?_;intro _)|fail)
 first|apply Yb en85|apply Yc en85
 exact za
 exact rfl
 exactλ_ hw=>(p1 hr.cons.cons.cons hw)
 cases hf:Y5 s.sch with
 |false=>
  rw[show(Xs s.sch).2=1 by unfold Xs;rw[hf,Tj rfl]]
  repeat'(first|refine zgd ?_|(refine zge ?_ ?_<;>intro _<;>try exact zo)|fail)
  apply Yw T (H2:=cels none 0 []::H);(iterate 3 exact rfl);exact zm;exact rfl;exact rfl;(intro w hw;refine St.nilSlice (H:=H) ?_ _ _;revert w;exact zk)
  exact Uj 1 (by rw[QA,Tj hf]) rfl
 |true=>
  rw[show(Xs s.sch).2=0 by unfold Xs;rw[hf,Tf (by decide)]]
  have hle:s.cells.length<=512:=(Zt.1 hf).few
  repeat'(first|refine zgc ?_|(refine zge ?_ ?_<;>intro _<;>try exact zo)|fail)
  rename_i g2 g3 g4
  apply Ye _ YeD
  exact za
  exact rfl
  exactλ_ hw=>(Z7 s.cells (by omega) hr.cons.cons.cons (hw))
  rintro _ _ ⟨A1,c1,rfl,rfl⟩
  repeat'(first|(apply zg29;(apply Yo;exact za;exact rfl))|fail)
  apply Ye _ Ylv
  exact za
  exact rfl
  exactλ_ hw=>(V8 (λc=>decide (Y7 c=id)) s.cells 163 [.pointer (some ⟨g2,0,none⟩)] YvX (by omega) (λc _ X w hw=>YjT c id g2 (TZ _ zm) hw) (hw))
  rintro _ _ ⟨rfl,rfl⟩
  have hd:=YrL s id hf
  repeat'(first|refine zgd ?_|fail)
  apply Yw T (H2:=cels A1 c1 (s.cells.filter λc=>!(decide (Y7 c=id)))::H);(iterate 3 exact rfl);exact zm;exact rfl;exact rfl;exact zk
  rw[hd]
  exact⟨A1,c1,rfl,rfl⟩
def rqs(A:Option Addr)(cap:Nat)(l:List RqM):HP:=sl 56 7 A l.length cap (l.flatMap rqF)
theorem Yas(A:Option Addr)(cap:Nat)(l:List RqM)(x:RqM):sl 56 7 A (l.length+1) cap (l.flatMap rqF++#[Value.int .i64 x.f.1,.int .i64 x.f.2.1,.int .i64 x.f.2.2.1,.int .i64 x.f.2.2.2.1,.int .i64 x.f.2.2.2.2.1,.int .i64 x.f.2.2.2.2.2,.slice x.A x.rows.length x.cap].toList)=rqs A cap (l++[x]):=by
 grind [rqs,rqF]
variable {A:Option Addr}{cap B k gv:Nat}{w0 w:World}{H:List HP}
theorem WK(l:List RqM)(hlen:l.length<=1000000)(hr:Rd B w0 H A (l.flatMap rqF))(hw:St B w0 H w):
 CX B w0 91 [.slice A l.length cap] w λv K=>∃A' cap',v=.slice A' l.length cap'/\K=rqs A' cap' l::H:=by
 cases A with
 |none=>
  have hl:l=[]:=by
   cases l with
   |nil=>rfl
   |cons x l=>
    exact zc33
  subst hl
  refine Ya Tryz.func91 Tryz.ntmps91 rfl rfl hw ?_
  refine zX6 ?_
  apply X5 56 7;exact zc40
 |some a=>
  refine Ya Tryz.func91 Tryz.ntmps91 rfl rfl hw ?_
  repeat'(first|(apply Ze;(iterate 3 exact rfl))|(apply Xn T;exact rfl;exact rfl;intro g2)|refine zgb ?_|fail)
  apply XN T (f:=rqF) (l2:=l) (e:=56) (size:=7) (xs:=[]);(iterate 3 exact rfl);exact hr.cons;exact(λ_=>rfl);exact(λ_=>rfl);exact rfl;(intro _ _;exact zd);omega;intro A' cap'
  exact zc59
section
variable {m:Eng.Mode}{n:Shp}{B d:Nat}{w0:World}{ops:Array Oper}{Q:Exit->Act->World->Prop}{rest:List Oper}{env:Env}{H:List HP}{ty:TypeId}{pos:String}{after:Array Edge}{x y lo:Operand}
variable {gv k cap:Nat}
theorem YfM{g o la ca lb cb:Nat}{tt:TypeId}{cs:Array Value}{xs:List Value}{tys:Array TypeId}(hx:evo env x=some (.slice (some ⟨gv,0,none⟩) la ca))(hy:evo env y=some (.slice (subA (some ⟨g,0,none⟩) o cap 7) lb cb))(hm1:Eng.blk gv (.cells cs tt (0,0))∈H)(hm2:sl 56 7 (some ⟨g,0,none⟩) k cap xs∈H)
 (hne:∀w,St B w0 H w->gv≠g) (hc:0<cap/\cap≠o) (hn:Nat.ble (d+1) n.k=true) (h:VL Tryz.prog none n B w0 ops Q rest ((d,.bool false)::env) H):
 VL Tryz.prog none n B w0 ops Q (⟨some d,.call ⟨.value (.func 215),#[x,y],tys⟩,ty,pos,after,none⟩::rest) env H:=by
 have hsub:subA (some ⟨g,0,none⟩) o cap 7=some ⟨g,o*7,none⟩:=by
  simp_all [subA,Go.Addr.add_lit]
 rw[hsub]at hy
 refine Xj (λu K'=>u=.bool false/\K'=H) rfl rfl hn (λa w ha hw=>⟨.bool false,H,w,?_,hw,rfl,rfl⟩) zc51
 have hb:=(hw.blk hm1).1
 rcases ZK (hw.sl hm2)with⟨h0,_⟩|⟨g',cur,e0,g1,_,_,g4,_⟩
 ·cases h0
 injection e0 with e0
 injection e0 with e0
 subst e0
 obtain⟨bb,htl⟩:∃bb,Eng.look T.sl 27=some (56,7,bb):=⟨_,rfl⟩
 obtain⟨_,inf,_,hi,_,_,hsi,_⟩:=YH (T.slic htl)
 have hr:=run_callFunc_extern (P:=Tryz.prog) Tryz.func215 (by kernel_rfl) (by kernel_rfl) (by kernel_rfl) (e:=Extern.SlicesOverlaps.overlaps #[27,27] #[4]) (by kernel_rfl) #[.slice (some ⟨gv,0,none⟩) la ca,.slice (some ⟨g,o*7,none⟩) lb cb] w
 have hov:=Lib.run_overlaps_apart (P:=Tryz.prog) w 27 4 56 Tryz.underlying27 7 (λw=>by simp[sizeOf,typeInfo,hi,hsi]) ⟨gv,0,none⟩ ⟨g,o*7,none⟩ la ca lb cb (hne w hw) tt 56 cs.size cur.size (by simp[World.shape?,hb]) (by simp[World.shape?,g1]) (by rw[g4];omega) (by simp[World.frozen?,hb]) (by simp[World.frozen?,hb])
 have he:a.eval (.func 215)=.func (.func 215) #[] #[]:=rfl
 simp[execOp,resolve,invoke,ha.eval hx,ha.eval hy,he,Deferred.ofValue,hr,hov,Result.andThen]
end
theorem YrW(l:List RqM)(c:RqM)(i:Nat)(hk:k=1):(l.take i).take i++[c].take k++(l.take i).drop (i+k)=l.take i++[c]:=by
 grind [Rk]
theorem YrX(l:List RqM)(c:RqM)(i:Nat)(hi:i<=l.length)(hk:k=l.length-i):(l.take i++[c]).take (i+1)++(l.drop i).take k++(l.take i++[c]).drop (i+1+k)=l.take i++c::l.drop i:=by
 simp_all [List.take_of_length_le]
theorem YrY(l:List RqM)(i:Nat)(hi:i<=l.length)(hk:k=l.length-i):l.take (i+1)++(l.drop i).take k++l.drop (i+1+k)=l.take (i+1)++l.drop i:=by
 grind [Rk,Ro]
theorem YrZ(l:List RqM)(c:RqM)(i:Nat)(hi:i<l.length)(hk:k=1):(l.take (i+1)++l.drop i).take i++[c].take k++(l.take (i+1)++l.drop i).drop (i+k)=l.take i++c::l.drop i:=by
 grind
theorem Yal(l:List RqM)(c:RqM)(i:Nat)(hi:i<=l.length):(l.take i++c::l.drop i).length=l.length+1:=by
 grind
theorem Ygf(l:List RqM)(i:Nat)(c:RqM)(hi:i<=l.length)(hlen:l.length<=1000)(hw:St B w0 (rqs A cap l::blk gv (.cells #[.int .i64 c.f.1,.int .i64 c.f.2.1,.int .i64 c.f.2.2.1,.int .i64 c.f.2.2.2.1,.int .i64 c.f.2.2.2.2.1,.int .i64 c.f.2.2.2.2.2,.slice c.A c.rows.length c.cap] 56 (0,0))::H) w):
 CX B w0 127 [.slice A l.length cap,.int .i64 i,.slice (some ⟨gv,0,none⟩) 1 1] w λv K=>∃A' cap',v=.slice A' (l.take i++c::l.drop i).length cap'/\K=rqs A' cap' (l.take i++c::l.drop i)::H:=by
 refine Ya Tryz.func127 Tryz.ntmps127 rfl rfl hw ?_
 unfold rqs
 refine Qg (k:=l.length) (cap:=cap) (by(focus exact zc2)) λhcap=>?_
 have hli:=Yal l c i hi
 have hrv:∀{L:List HP},blk gv (.cells #[.int .i64 c.f.1,.int .i64 c.f.2.1,.int .i64 c.f.2.2.1,.int .i64 c.f.2.2.2.1,.int .i64 c.f.2.2.2.2.1,.int .i64 c.f.2.2.2.2.2,.slice c.A c.rows.length c.cap] 56 (0,0))∈L->Rd B w0 L (some ⟨gv,0,none⟩) (([c]:List RqM).flatMap rqF):=λh=>by
  have h1:=Rd.blk (B:=B) (w0:=w0) (cs:=(rqF c).toArray) h
  rw[show([c]:List RqM).flatMap rqF=(rqF c).toArray.toList by simp]
  exact h1
 have hq7:∀c:RqM,(rqF c).length=7:=λ_=>rfl
 have ho7:∀c:RqM,Jj (rqF c)=true:=λ_=>rfl
 refine zX4 ?_
 apply YO T i (l.length-i);(iterate 5 exact rfl);exact hi;exact rfl
 by_cases hin:i=l.length
 ·have e1:l.take i++c::l.drop i=l++[c]:=by rw[hin,TP,SH]
  rw[e1]
  repeat'(first|refine zgc ?_|(refine zge ?_ ?_<;>intro _<;>try exact zo)|(refine zgi ?_;intro _ _)|fail)
  rename_i A' cap'
  apply Yg (rqs A' cap' (l++[c])::H)
  ·intro w hw
   rw[<-Yas]
   revert w
   exact zc0
  exact YtR
 have hlt:i<l.length:=by omega
 have hrs:∀{L:List HP}{g:Nat},sl 56 7 (some ⟨g,0,none⟩) l.length cap (l.flatMap rqF)∈L->Rd B w0 L (subA (some ⟨g,0,none⟩) i cap 7) ((l.drop i).flatMap rqF):=λh=>by
  have h1:=Rd.sub (B:=B) (w0:=w0) (q:=7) (o:=i) (k:=l.length-i) (cap:=cap) hq7 (Rd.sl h) hcap
  exact Yt7
 apply YfO (k:=l.length) (by(focus exact zc2)) (by omega)
 rintro g rfl
 have hA:∃g',(some ⟨g,0,none⟩:Option Addr)=some ⟨g',0,none⟩:=⟨g,rfl⟩
 repeat'(first|(apply Yk6 T;(iterate 3 exact rfl))|refine zgc ?_|(refine zgf ?_ ?_<;>intro _<;>try exact zo)|fail)
 ·apply Vd T (n':=i);(iterate 4 exact rfl);omega;omega;exact hA
  refine zX2 ?_
  rw[show(l.length:Int)+((1:Nat):Int)-(i:Int)=((l.length+1-i:Nat):Int) by omega]
  apply YaC T (e:=56) (size:=7) (k:=l.length) (xs:=l.flatMap rqF);exact rfl;exact rfl;(focus exact zc2);exact rfl;kernel_rfl;exact rfl;kernel_rfl;omega;intro g2 c2 hc2
  rw[show i+(l.length+1-i)=l.length+1 by omega]at hc2⊢
  have e2:sl 56 7 (some ⟨g2,0,none⟩) i c2 ((l.flatMap rqF).take (i*7))=sl 56 7 (some ⟨g2,0,none⟩) (l.take i).length c2 ((l.take i).flatMap rqF):=by
   rw[Xz hq7,TX,S9 hi]
  rw[e2]
  have hA2:∃g',(some ⟨g2,0,none⟩:Option Addr)=some ⟨g',0,none⟩:=⟨g2,rfl⟩
  have htl:(l.take i).length=i:=Yfy
  refine zX4 ?_
  apply YO T i (l.length+1-i);(iterate 5 exact rfl);omega;exact rfl
  refine zX4 ?_
  apply JV T (l.take i) [c] (l.take i++[c]) (f:=rqF) (o:=i) (cap:=c2);exact rfl;exact rfl;exact hrv (by(focus exact zc2));exact hq7;exact ho7;exact rfl;exact rfl;exact hA2;(simp only[TL];omega);exact YrW l c i (by omega);exact zd
  refine zX4 ?_
  apply YD [0,1,2,3,4,5,6,7] [8] [true,true,true]
  kernel_rfl
  kernel_rfl
  exact zy
  (simp only[Yd,nthO];rfl)
  (simp only[Yd,nthO];rfl)
  refine zX9 ?_
  apply YO T (i+1) (l.length+1-(i+1));(iterate 4 exact rfl);omega;omega;exact rfl
  refine zX4 ?_
  apply YO T i (l.length-i);(iterate 5 exact rfl);omega;exact rfl
  refine zX2 ?_
  apply JV T (l.take i++[c]) (l.drop i) (l.take i++c::l.drop i) (f:=rqF) (o:=i+1) (cap:=c2);exact rfl;exact rfl;exact hrs (by(focus exact zc2));exact hq7;exact ho7;exact rfl;exact rfl;exact hA2;(simp only[To,TX,TL,Ro];omega);exact YrX l c i hi (by omega);exact zd
  refine zX2 ?_
  apply Yg (rqs (some ⟨g2,0,none⟩) c2 (l.take i++c::l.drop i)::H)
  ·unfold rqs
   exact zc0
  exact Yue
 ·apply Vd T (n':=l.length+1);(iterate 4 exact rfl);omega;omega;exact hA
  refine zX9 ?_
  apply YO T (i+1) (l.length+1-(i+1));(iterate 4 exact rfl);omega;omega;exact rfl
  apply YfM (gv:=gv) (g:=g) (o:=i+1) (cap:=cap) (k:=l.length) (xs:=l.flatMap rqF);exact rfl;exact rfl;(focus exact zc2);(focus exact zc2);exactλw hw=>Yep (hw.perm (.swap _ _ _));omega;exact rfl
  refine zX2 ?_
  apply YD [0,1,2,3,4,5,6,7] [8] [true,true]
  kernel_rfl
  kernel_rfl
  exact zy
  (simp only[Yd,nthO];rfl)
  (simp only[Yd,nthO];rfl)
  refine zX9 ?_
  apply YO T (i+1) (l.length+1-(i+1));(iterate 4 exact rfl);omega;omega;exact rfl
  refine zX4 ?_
  apply YO T i (l.length+1-i);(iterate 5 exact rfl);omega;exact rfl
  refine zX2 ?_
  apply JV T l (l.drop i) (l.take (i+1)++l.drop i) (f:=rqF) (o:=i+1) (cap:=cap);exact rfl;exact rfl;exact hrs (by(focus exact zc2));exact hq7;exact ho7;exact rfl;exact rfl;exact hA;(simp only[Ro];omega);exact YrY l i hi (by omega);exact zd
  refine zX2 ?_
  apply YO T i (l.length+1-i);(iterate 5 exact rfl);omega;exact rfl
  refine zX4 ?_
  apply JV T (l.take (i+1)++l.drop i) [c] (l.take i++c::l.drop i) (f:=rqF) (o:=i) (cap:=cap);exact rfl;exact rfl;exact hrv (by(focus exact zc2));exact hq7;exact ho7;exact rfl;exact rfl;exact hA;(simp only[To,TX,TL,Ro];omega);exact YrZ l c i hlt (by omega);exact zd
  refine zX7 ?_
  apply Yg (rqs (some ⟨g,0,none⟩) cap (l.take i++c::l.drop i)::H)
  ·unfold rqs
   exact zc0
  exact Yub
theorem Yi5{id:Int}:∀{q:List Rqs}{k:Nat},k<=q.length->(∀i (x:Rqs),i<k->q[i]? =some x->x.1.1<id)->(∀x:Rqs,q[k]? =some x->¬x.1.1<id)->posQ q id=k
 |[],k,hk,_,_=>by
  have:k=0:=by simp_all
  subst this;rfl
 |y::q,0,_,_,h2=>by
  simp_all [posQ]
 |y::q,k+1,hk,h1,h2=>by
  have ih:=Yi5 (id:=id) (q:=q) (k:=k) (by grind) (λi x hi hx=>h1 (i+1) x (by omega) hx) λx hx=>h2 x hx
  unfold posQ at ih⊢
  rw[Nz,Tj (Ti (h1 0 y (by omega) rfl)),TS,ih]
theorem YeX(a b:RqM)(hw:St B w0 H w):
 CX B w0 266 [rqV a,rqV b] w λv K=>v=.int .i64 (cmpI a.f.1 b.f.1)/\K=H:=by
 refine Ya Tryz.func266 Tryz.ntmps266 rfl rfl hw ?_
 unfold rqV
 repeat'(first|((first|apply Yb en49|apply Yc en49);exact za;exact rfl;exactλ_ hw=>(WL _ _ hw))|refine zgb ?_|(refine zgh ?_;intro _)|fail)
 apply Yg H
 ·exact zk
 apply Yf;exact rfl;exact rfl
 exact⟨rfl,rfl⟩
theorem Ylk{a b:Int}:cmpI a b<0↔a<b:=by
 unfold cmpI
 omega
def Yor(l:List RqM):Prop:=∀(i j:Nat) (x y:RqM),i<j->l[i]? =some x->l[j]? =some y->x.f.1<y.f.1
theorem YgM(l:List RqM)(c:RqM)(ho:Yor l)(hlen:l.length<=1000000000)(hr:Rd B w0 H A (l.flatMap rqF))(hw:St B w0 H w):
 CX B w0 265 [.slice A l.length cap,rqV c,.func (.func 266) #[] #[]] w λv K=>
  ∃b,v=.tuple #[.int .i64 (posQ (l.map RqM.rq) c.f.1:Nat),.bool b]/\K=H:=by
 refine Ya Tryz.func265 Tryz.ntmps265 rfl rfl hw ?_
 (apply Xm;apply YY;apply YV;exact rfl;exact rfl;intro g)
 refine zX9 ?_
 have hr:=hr.cons (X:=blk g (.cells (rqF c).toArray 56 (0,0)))
 refine Qh (λ(lo hi:Nat)=>[(9,.int .i64 lo),(10,.int .i64 hi),(8,.int .i64 l.length),(0,.slice A l.length cap),(2,.func (.func 266) #[] #[]),(4,.pointer (some ⟨g,0,none⟩))]) (λ_ _=>blk g (.cells (rqF c).toArray 56 (0,0))::H)
  (λlo hi=>lo<=hi/\hi<=l.length/\(∀i x,i<lo->l[i]? =some x->x.f.1<c.f.1)/\(∀i x,hi<=i->l[i]? =some x->¬x.f.1<c.f.1)) (λlo hi=>hi-lo) 0 l.length ⟨by omega,by omega,λj x hj=>by omega,λj x h1 h2=>by simp_all⟩ ?_ (λw hw=>hw) ?_
 ·exact zc1
 rintro lo hi ⟨h1,h2,h3,h4⟩ K hK
 by_cases hlt:lo<hi
 ·obtain⟨b,hb⟩:∃b,l[(((lo:Int)+hi)/2).toNat]? =some b:=⟨_,Ta (by omega)⟩
  have hm:(((lo:Int)+hi)/2).toNat=(lo+hi)/2:=by omega
  have hb2:l[(lo+hi)/2]? =some b:=by grind
  repeat'(first|((first|apply YU (cs:=[])|apply Xa (cs:=[]));exact rfl;exact Ys4;exact za;exact rfl;exactλ_ hw=>(YeX b c hw))|(apply zg28;refine zs84 ?_)|refine zgd ?_|(refine zge ?_ ?_<;>intro _<;>try exact zo)|fail)
  ·rename_i hc
   rw[Ylk]at hc
   apply hK ((lo+hi)/2+1) hi
   ·refine⟨by omega,by omega,λj x hj hx=>?_,h4⟩
    by_cases e:j=(lo+hi)/2
    ·exact YqV
    ·exact Int.lt_trans (ho j _ x b (by omega) hx hb2) hc
   ·omega
   ·exact zc1
   exact zc19
  ·rename_i hc
   have hc:¬b.f.1<c.f.1:=λh=>by have:=Ylk.2 h;omega
   apply hK lo ((lo+hi)/2)
   ·refine⟨by omega,by omega,h3,λj x hj hx=>?_⟩
    by_cases e:j=(lo+hi)/2
    ·exact YqV
    ·exactλh=>hc (Int.lt_trans (ho _ j b x (by omega) hb2 hx) h)
   ·omega
   ·exact zc1
   exact zc19
 ·obtain rfl:lo=hi:=by omega
  have hpe:posQ (l.map RqM.rq) c.f.1=lo:=Yi5 (by rw[Tv];exact h2) (λi x hi hx=>by
   rw[TM]at hx
   cases hl:l[i]? with
   |none=>rw[hl]at hx;cases hx
   |some y=>rw[hl]at hx;cases hx;exact h3 i y hi hl) λx hx=>by
   rw[TM]at hx
   cases hl:l[lo]? with
   |none=>rw[hl]at hx;cases hx
   |some y=>rw[hl]at hx;cases hx;exact h4 lo y (TI _) hl
  rw[hpe]
  by_cases hl:lo<l.length
  ·obtain⟨b,hb⟩:∃b,l[lo]? =some b:=⟨_,Ta hl⟩
   repeat'(first|((first|apply YU (cs:=[])|apply Xa (cs:=[]));exact rfl;exact Ys4;exact za;exact rfl;exactλ_ hw=>(YeX b c hw))|(apply zg28;refine zs84 ?_)|refine zgd ?_|(refine zge ?_ ?_<;>intro _<;>try exact zo)|fail)
   all_goals(apply Yn;apply YL;(iterate 3 exact rfl);exact⟨_,rfl,rfl⟩)
  ·refine zX19 ?_<;>intros
   apply Yn;exact zc96
theorem Yd3(q:List RqM)(x:RqM)(ho:Yor q)(hlen:q.length<=1000)(hr:Rd B w0 H A (q.flatMap rqF))(hw:St B w0 H w):
 CX B w0 212 [.slice A q.length cap,rqV x] w λv K=>∃A' cap',v=.slice A' (q.length+1) cap'/\
  K=rqs A' cap' (q.take (posQ (q.map RqM.rq) x.f.1)++x::q.drop (posQ (q.map RqM.rq) x.f.1))::H:=by
 refine Ya Tryz.func212 Tryz.ntmps212 rfl rfl hw ?_
 have hp:posQ (q.map RqM.rq) x.f.1<=q.length:=zc84
 generalize hP:posQ (q.map RqM.rq) x.f.1=k at hp
 have p1:=λ{H':List HP}{w:World}(hr:Rd B w0 H' A (q.flatMap rqF)) (hw:St B w0 H' w)=>YgM q x ho (by omega) (cap:=cap) hr hw
 rw[hP]at p1
 have p2:=λ{A':Option Addr}{cap' gv:Nat}{H':List HP}{w:World}(hw:St B w0 (rqs A' cap' q::rqA gv x::H') w)=>Ygf q k x hp hlen hw
 rw[Yal q x k hp]at p2
 have hr:Rd B w0 [many H] A (q.flatMap rqF):=hr.mono λw hw=>hw.perm (.openT H)
 have hrx:∀{L:List HP},(∀w,St B w0 L w->St B w0 [many H] w)->Rd B w0 L A (q.flatMap rqF):=λh=>hr.mono h
 refine XM [many H] (λw hw=>hw.perm (.closeT H)) ?_
 unfold rqV at p1⊢
 (apply Xm;apply YY;apply YV;exact rfl;exact rfl;intro g)
 refine zX7 ?_
 apply Ye _ Ywj
 exact za
 exact rfl
 exactλ_ hw=>(p1 hr.cons (hw))
 rintro _ _ ⟨b,rfl,rfl⟩
 refine zX9 ?_
 apply Qi (.p1 0 (.p1 2 (.p1 3 (.d2 1 (.d1 4 (.d1 5 (.d1 6 .done))) 4 (.d1 1 (.d1 5 (.d1 6 .done))))))) [] [true,true]
 kernel_rfl
 kernel_rfl
 exact zy
 exact rfl
 repeat'(first|((apply Ye _ en91);exact za;exact rfl;exactλ_ hw=>WK q (by omega) (hrx zk) hw;rintro _ _ ⟨A1,cap1,rfl,rfl⟩)|(apply Vy T T2;(iterate 7 exact rfl);intro gv)|(apply Xt [rqs A1 cap1 q,rqA gv x] _ YvN;exact za;try exact zl;exact zp;exact rfl;exactλ_ hw=>p2 hw;rintro _ _ ⟨A2,cap2,rfl,rfl⟩)|(apply Ylf;(simp only[nthO];rfl))|(apply Yld;(simp only[nthO];rfl);exact zp)|(apply Yle;(simp only[nthO];rfl);(simp only[nthO];rfl);exact zp)|(apply Qm;try exact zl)|refine zgd ?_|fail)
 all_goals(
  apply Yg (rqs A2 cap2 (q.take k++x::q.drop k)::H)
  ·intro w hw
   have h5:St B w0 (rqs A2 cap2 (q.take k++x::q.drop k)::[many H]) w:=by
    revert w
    exact zk
   exact h5.perm (.cons _ (.openT H))
  apply Yf;exact rfl;exact rfl
  exact⟨A2,cap2,rfl,rfl⟩)
variable {A:Option Addr}{cap B:Nat}{w0 w:World}{H:List HP}
theorem YcQ(p:RqM->Bool)(l:List RqM)(f:Nat)(cs:List Value)(hen:∀xs w,(callFunc f xs).run Tryz.prog w=.ok (.enter f xs) w)(hlen:l.length<=100000000)(hr:Rd B w0 H A (l.flatMap rqF))
 (hp:∀a∈l,∀w,St B w0 H w->Calls Tryz.prog f ([rqV a]++cs).toArray w (Post B w0 λv K=>v=.bool (p a)/\K=H)) (hw:St B w0 H w):
 CX B w0 88 [.slice A l.length cap,.func (.func f) #[] cs.toArray] w λv K=>v=.int .i64 (Yi p l 0)/\K=H:=by
 refine Ya Tryz.func88 Tryz.ntmps88 rfl rfl hw ?_
 refine zX9 ?_
 refine Yh (λ(k:Nat)=>[(8,.int .i64 k),(7,.int .i64 l.length),(0,.slice A l.length cap),(1,.func (.func f) #[] cs.toArray)]) (λ_=>H) (λk=>k<=l.length/\Yi p l 0=Yi p (l.drop k) k) (λk=>l.length-k) 0 ⟨Tm _,by simp⟩ ?_ (λw hw=>hw) ?_
 ·exact zc1
 rintro k ⟨hk,hi⟩ K hK
 by_cases hlt:k<l.length
 ·obtain⟨a,ha⟩:∃a,l[k]? =some a:=⟨_,Ta hlt⟩
  have hpa:=hp a (Tc ha)
  rw[Zu p l ha]at hi
  refine zX10 ?_<;>intros
  cases hpv:p a
  ·rw[hpv]at hi
   refine zX9 ?_
   apply hK (k+1)
   ·grind
   ·omega
   ·exact zc1
   exact zc19
  exact zc8
 exact zc4
theorem WO(p:RqM->Bool)(l:List RqM)(f:Nat)(cs:List Value)(hen:∀xs w,(callFunc f xs).run Tryz.prog w=.ok (.enter f xs) w)(hlen:l.length<=100000000)(hr:Rd B w0 H A (l.flatMap rqF))
 (hp:∀a∈l,∀w,St B w0 H w->Calls Tryz.prog f ([rqV a]++cs).toArray w (Post B w0 λv K=>v=.bool (p a)/\K=H)) (hw:St B w0 H w):
 CX B w0 209 [.slice A l.length cap,.func (.func f) #[] cs.toArray] w λv K=>v=.bool (l.any p)/\K=H:=by
 refine Ya Tryz.func209 Tryz.ntmps209 rfl rfl hw ?_
 rw[<-WV]
 refine zX4 ?_
 first|apply Yb en88|apply Yc en88
 exact za
 exact rfl
 exactλ_ hw=>(YcQ p l f cs hen hlen hr hp hw)
 exact zc10
theorem Yqx(n:Net)(l:List Flw):(schE n l Zd).2≠0:=by
 have h:Zf n l Zd≠0:=by
  unfold Zf
  split
  ·decide
  split
  ·decide
  rw[Tj (by decide)];decide
 simp_all [schE]
def Yf7(n:Net)(q:List Rqs):Bool:=decide (¬(YS n q Zd).2.2=1\/0<=(YS n q Zd).2.1)
variable {n:Net}{q:List Rqs}
theorem YeP(h:Yp n=0):Yf7 n q=decide ((rqsE n q).2≠0):=by
 unfold Yf7 YS
 by_cases h1:(rqsE n q).2=0
 ·rw[Tf (λe=>e h1),Tj (Yqx n _)]
  simp_all
 ·have h3:decide ((rqsE n q).2≠0)=true:=Ti h1
  rw[Tj h1,h3]
  refine Ti ?_
  have hff:∀{f:Nat->Int}{r:Nat},(YT f r 0).2≠0->0<=(YT f r 0).1:=λ{f r} hne=>by
   have aux:∀{r i:Nat},(YT f r i).2≠0->0<=(YT f r i).1:=by
    intro r
    induction r with
    |zero=>intro i h;exact absurd rfl h
    |succ r ih=>
     intro i h
     unfold YT at h⊢
     split
     ·split at h
      ·exact ih h
      ·contradiction
     ·omega
   exact aux hne
  unfold rqsE at h1⊢
  rw[Tf (λe=>e h)]at h1⊢
  by_cases h2:(Yz n.nodes (Y6 q)).2=0
  ·rw[Tf (λe=>e h2)]at h1⊢
   exact .inr (hff h1)
  ·rw[Tj h2]at h1⊢
   unfold Yz at h2⊢
   split at h2
   ·rw[Tj (by assumption)];decide
   rw[Tf (by assumption)]
   split at h2
   ·rw[Tj (by assumption)];decide
   rw[Tf (by assumption)]
   exact .inr (hff h2)
theorem YaS(n:NetM)(q:List RqM)(ht:TabsB B w0)(hin:n.In B w0 H)(hq:QIn B w0 H A q)(hw:St B w0 H w):
 CX B w0 211 [n.val,.slice A q.length cap] w λv K=>v=.bool (Yf7 n.net (q.map RqM.rq))/\K=H:=by
 refine Ya Tryz.func211 Tryz.ntmps211 rfl rfl hw ?_
 have p1:=λ{H':List HP}{w:World}(hin:n.In B w0 H') (hq:QIn B w0 H' A q) (hw:St B w0 H' w)=>UG n q ⟨0,0,none,0,[]⟩ (cap:=cap) ht hin hq (.nil) (by decide) hw
 unfold OutC NetM.val SchM.val at p1
 have hz:(⟨0,0,none,0,[]⟩:SchM).sch=Zd:=rfl
 rw[hz]at p1
 unfold Yf7
 obtain⟨⟨RC,ri,re⟩,hR⟩:∃R,YS n.net (q.map RqM.rq) Zd=R:=⟨_,rfl⟩
 rw[hR]at p1⊢
 dsimp only at p1⊢
 unfold NetM.val
 refine zX23 ?_<;>intros
 apply Ye _ en38
 exact za
 exact rfl
 exactλ_ hw=>(p1 hin.cons hq.cons (hw))
 rintro _ _ ⟨A2,cap2,C,rfl,hC,hCl,rfl⟩
 by_cases h0:re=1
 ·by_cases h1:0<=ri
  ·rw[Ti (.inr h1)]
   refine zX40 ?_<;>intros
   all_goals(apply Yg H;((intro w hw;refine hw.perm ?_;focus exact zc3));exact zc91)
  ·rw[Tn (by rintro(h|h);exact h h0;exact h1 h)]
   refine zX40 ?_<;>intros
   all_goals(apply Yg H;((intro w hw;refine hw.perm ?_;focus exact zc3));exact zc91)
 ·rw[Ti (.inl h0)]
  refine zX0 ?_<;>intros
  all_goals(apply Yg H;((intro w hw;refine hw.perm ?_;focus exact zc3));exact zc91)
theorem YmI(y x:RqM)(g:Nat)(hm:rqA g x∈H)(hw:St B w0 H w):
 CX B w0 210 [rqV y,.pointer (some ⟨g,0,none⟩)] w λv K=>v=.bool (decide (y.f.1=x.f.1))/\K=H:=by
 refine Ya Tryz.func210 Tryz.ntmps210 rfl rfl hw ?_
 unfold rqV
 by_cases h:y.f.1=x.f.1
 ·rw[Ti h]
  refine zX43 ?_<;>intros
  all_goals(apply Yg H;((intro w hw;refine hw.perm ?_;focus exact zc3));exact zc13)
 ·rw[Tn h]
  refine zX43 ?_<;>intros
  all_goals(apply Yg H;((intro w hw;refine hw.perm ?_;focus exact zc3));exact zc13)
theorem YmJ{s:Sch}{x:Rqs}(hc:(YS n q s).2.2=0)(hx:(rqsE n (insQ q x)).2=0)(hm:s.len.tmod x.1.2.2.2.1=0):
 Sm n (Y6 (insQ q x)) s/\YX n.nodes x.1=0/\(∀r∈x.2,(∀y∈Yq n r,LkOk n (Y6 (insQ q x)) y.1 y.2.1 x.1.1)/\(∀i,i+1<r.length->0<=Yy n (r.getD i 0) (r.getD (i+1) 0))/\1<=r.length/\r.length<=9):=by
 obtain⟨h1,h2⟩:=Zo.1 hc
 have hsem:=Vo.1 (ZW.1 h1)
 obtain⟨-,hfl,hrt⟩:=Uq hx
 have hxm:x∈insQ q x:=by simp[JY]
 have hrx:=hrt x hxm
 have hfx:YX n.nodes x.1=0:=Vt hfl (TE.2 ⟨x,hxm,rfl⟩)
 obtain⟨hib,-⟩:=Zs hfx
 have hsm:Sm n (Y6 (insQ q x)) s:=by
  have h0:=hsem.sm
  refine⟨h0.ck,hfl,λf hf=>?_,h0.sized,h0.formed,h0.ord,λc hcm=>⟨(h0.good c hcm).1,?_⟩,h0.once,h0.clear⟩
  ·obtain⟨y,hy,rfl⟩:=TE.1 hf
   rcases JY.1 hy with rfl|hy
   ·exact hm
   ·exact h0.per _ (TE.2 ⟨y,hy,rfl⟩)
  ·obtain⟨f,hf,e⟩:=Vs.1 (h0.good c hcm).2
   obtain⟨y,hy,rfl⟩:=TE.1 hf
   exact Vs.2 ⟨y.1,TE.2 ⟨y,JY.2 (.inr hy),rfl⟩,e⟩
 have hfi:0<=Zi (Y6 (insQ q x)) x.1.1:=Vs.2 ⟨x.1,TE.2 ⟨x,hxm,rfl⟩,rfl⟩
 refine⟨hsm,hfx,λr hr=>?_⟩
 have hck:=JL hrx r hr
 obtain⟨-,hlen,hg⟩:=Zp hck
 refine⟨λy hy=>⟨YcZ hck y hy,hfi,hib⟩,λi hi=>?_,by omega,hlen.2⟩
 have:=hg i hi
 unfold Y3 at this
 rw[Tq]at this
 exact Rn this.1
theorem QIn.insert{A':Option Addr}{cap':Nat}{q:List RqM}{x:RqM}(h:QIn B w0 H A q)(hx:x.In B w0 H)(hl:q.length<=1000)(k:Nat)(hk:k<=q.length):QIn B w0 (rqs A' cap' (q.take k++x::q.drop k)::H) A' (q.take k++x::q.drop k):=
 ⟨.sl TB,λy hy=>by
  rcases TF.1 hy with hy|hy
  ·exact(h.x y (SC hy)).cons
  ·rcases TV.1 hy with rfl|hy
   ·exact hx.cons
   ·exact(h.x y (List.mem_of_mem_drop hy)).cons,by grind⟩
theorem Yr0(q:List RqM)(x:RqM):(q.take (posQ (q.map RqM.rq) x.f.1)++x::q.drop (posQ (q.map RqM.rq) x.f.1)).map RqM.rq=insQ (q.map RqM.rq) x.rq:=by
 rw[Rb,Rh,List.map_take,List.map_drop];rfl
theorem YuZ{q:List RqM}(h:(rqsE n (q.map RqM.rq)).2=0):Yor q:=λi j x y hij hi hj=>by
 have hl:=(Td.1 hj).1
 have:=Yqu h hij (by simp_all)
 unfold rqAt at this
 rw[Tu,Tu,TM,TM,hi,hj]at this
 exact this
theorem Yjr(n:NetM)(q:List RqM)(s:SchM)(x:RqM)(h24:s.len<=24){A:Option Addr}{cap B:Nat}{w0:World}{H:List HP}{w:World}(ht:TabsB B w0)(hin:n.In B w0 H)(hq:QIn B w0 H A q)(hrs:Rd B w0 H s.A (s.cells.flatMap celF))(hsl:s.cells.length<=1000000000000)(hx:x.In B w0 H)(hw:St B w0 H w):
 CX B w0 125 [n.val,.slice A q.length cap,s.val,rqV x] w (OutS H (JD n.net (q.map RqM.rq) s.sch x.rq)):=by
 refine Ya Tryz.func125 Tryz.ntmps125 rfl rfl hw ?_
 have p1:=λ{H':List HP}{w:World}(hin:n.In B w0 H') (hq:QIn B w0 H' A q) (hrs:Rd B w0 H' s.A (s.cells.flatMap celF)) (hw:St B w0 H' w)=>Ybb n q s (cap:=cap) ht hin hq hrs hsl hw
 have pf:=λ{A':Option Addr}{cap':Nat}{q':List RqM}{H':List HP}{w:World}(hin:n.In B w0 H') (hq:QIn B w0 H' A' q') (hw:St B w0 H' w)=>YaS n q' (cap:=cap') ht hin hq hw
 have pp:=λ(hsm:Sm n.net (Y6 (insQ (q.map RqM.rq) x.rq)) s.sch) (hrow:∀r∈x.rows,Yov n (Y6 (insQ (q.map RqM.rq) x.rq)) x.f.1 r) (hf:YX n.net.nodes x.f=0) {H':List HP}{w:World}(hin:n.In B w0 H') (hr:Rd B w0 H' s.A (s.cells.flatMap celF)) (hx:x.In B w0 H') (hw:St B w0 H' w)=>YiG n _ s x hsm h24 hrow hf hin hr hx hw
 have hn1:n.val=.agg #[.int .i64 n.nodes,.slice n.pA n.rows.length n.pcap,.int .i64 n.noise,.int .i64 n.thr,.slice n.lA n.links.length n.lcap,.slice n.mA n.margin.length n.mcap]:=rfl
 unfold NetM.val SchM.val rqV at*
 clear hn1
 have hlenS:s.sch.len=s.len:=rfl
 have hxf:x.rq.1=x.f:=rfl
 have hop:∀w,St B w0 [many H] w->St B w0 H w:=λw hw=>hw.perm (.openT H)
 have hin:=hin.mono hop
 have hq:=hq.mono hop
 have hrs:=hrs.mono hop
 have hx:=hx.mono hop
 refine XM [many H] (λw hw=>hw.perm (.closeT H)) ?_
 refine zX97 ?_<;>intros
 rename_i g4 g6 g7 g8
 first|apply Yb Ylq|apply Yc Ylq
 exact za
 exact rfl
 exactλ_ hw=>(p1 hin.cons.cons.cons.cons hq.cons.cons.cons.cons hrs.cons.cons.cons.cons hw)
 by_cases hc:(YS n.net (q.map RqM.rq) s.sch).2.2=0
 rotate_left
 ·rw[Tn hc]
  refine zX2 ?_
  apply Yw T (H2:=cels none 0 []::H);(iterate 3 exact rfl);(focus exact zc2);exact rfl;exact rfl
  ·intro w hw
   have h5:St B w0 [many H] w:=by
    revert w
    exact zc0
   exact zc57
  exact Uj 1 (by rw[JD,Tj hc]) rfl
 rw[Ti hc]
 have hrq:(rqsE n.net (q.map RqM.rq)).2=0:=RE.1 λh1=>by
  unfold YS at hc;rw[Tj h1]at hc;exact h1 hc
 have hck:=(Uq hrq).1
 have hql:q.length<=16:=by
  have h1:=(Uq hrq).2.1
  unfold Yz at h1
  split at h1
  ·cases h1
  split at h1
  ·cases h1
  rename_i h2
  unfold Y6 at h2
  rw[Tv,Tv]at h2
  omega
 have hord:=YuZ hrq
 repeat'(first|(apply zg29;(apply Yo;exact za;exact rfl))|refine zgd ?_|fail)
 first|apply Yb YlC|apply Yc YlC
 exact za
 exact rfl
 exactλ_ hw=>(WO (λy=>decide (y.f.1=x.f.1)) q 210 [.pointer (some ⟨g7,0,none⟩)] Yv8 (by omega) hq.rd.cons.cons.cons.cons (λa _ w hw=>YmI a x g7 (by(focus exact zc2)) hw) hw)
 have hhas:(q.any λy=>decide (y.f.1=x.f.1))=hasQ (q.map RqM.rq) x.f.1:=by
  unfold hasQ;rw[List.any_map];rfl
 rw[hhas]
 cases hh:hasQ (q.map RqM.rq) x.f.1 with
 |true=>
  refine zX2 ?_
  apply Yw T (H2:=cels none 0 []::H);(iterate 3 exact rfl);(focus exact zc2);exact rfl;exact rfl
  ·intro w hw
   have h5:St B w0 [many H] w:=by
    revert w
    exact zc0
   exact zc57
  exact Uj 6 (by rw[JD,Tf (λe=>e hc),Tj (show hasQ (q.map RqM.rq) x.rq.1.1=true from hh)]) rfl
 |false=>
 have hadm:JD n.net (q.map RqM.rq) s.sch x.rq=(if(rqsE n.net (insQ (q.map RqM.rq) x.rq)).2≠0 then(Zd,1)
  else if s.sch.len.tmod x.rq.1.2.2.2.1≠0 then(Zd,11)else match Js n.net x.rq.1 x.rq.2 s.sch with
   |none=>(Zd,18)
   |some t=>if 512<t.cells.length then(Zd,8)else(t,0):Sch×Int):=by
  have hh2:¬hasQ (q.map RqM.rq) x.rq.1.1=true:=λh=>by rw[show hasQ (q.map RqM.rq) x.rq.1.1=false from hh]at h;cases h
  unfold JD
  rw[Tf (λe=>e hc),Tf hh2]
  rfl
 rw[hadm]
 have pi:=λ{H':List HP}{w:World}(hr:Rd B w0 H' A (q.flatMap rqF)) (hw:St B w0 H' w)=>Yd3 q x hord (by omega) (cap:=cap) hr hw
 have hkl:posQ (q.map RqM.rq) x.f.1<=q.length:=zc84
 have hmap:=Yr0 q x
 have hins:=Yal q x _ hkl
 generalize posQ (q.map RqM.rq) x.f.1=k at*
 unfold rqV at pi
 refine zX4 ?_
 apply YD [0,1,2,3,4,5] [] [true,true,true,true,true]
 kernel_rfl
 kernel_rfl
 exact zy
 (simp only[Yd,nthO];rfl)
 exact rfl
 refine zX2 ?_
 apply Ye _ Yv9
 exact za
 exact rfl
 exactλ_ hw=>(pi hq.rd.cons.cons.cons.cons (hw))
 rintro _ _ ⟨A1,cap1,rfl,rfl⟩
 rw[<-hins]
 have hqi:=hq.insert (A':=A1) (cap':=cap1) hx (by omega) k hkl
 refine zX18 ?_
 first|apply Yb YeH|apply Yc YeH
 exact za
 exact rfl
 exactλ_ hw=>(pf (hin.mono zc0) (hqi.mono zc0) hw)
 rw[hmap,YeP hck]
 by_cases hrx:(rqsE n.net (insQ (q.map RqM.rq) x.rq)).2=0
 rotate_left
 ·rw[Ti hrx]
  refine zX18 ?_
  apply Yw T (H2:=cels none 0 []::H);(iterate 3 exact rfl);(focus exact zc2);exact rfl;exact rfl
  ·intro w hw
   have h5:St B w0 [many H] w:=by
    revert w
    exact zc0
   exact zc57
  exact Uj 1 (by rw[Tj hrx]) rfl
 have hdf:decide ((rqsE n.net (insQ (q.map RqM.rq) x.rq)).2≠0)=false:=Tn (λe=>e hrx)
 rw[hdf,Tf (λe=>e hrx)]
 have hxm:x.rq∈insQ (q.map RqM.rq) x.rq:=JY.2 (.inl rfl)
 have hfx:YX n.net.nodes x.f=0:=Vt (Uq hrx).2.1 (TE.2 ⟨x.rq,hxm,rfl⟩)
 obtain⟨-,hper,hph,-,hd⟩:=Zs hfx
 have hl1:1<=s.len:=by
  have h0:=(Vo.1 (ZW.1 (Zo.1 hc).1)).frm.sized
  unfold Zy at h0
  exact(Rn h0).1
 have hmm:s.len.tmod x.f.2.2.2.1=s.len%x.f.2.2.2.1:=Rq (by omega)
 by_cases hm:s.len%x.f.2.2.2.1=0
 rotate_left
 ·rw[Tj (show s.sch.len.tmod x.rq.1.2.2.2.1≠0 fromλe=>hm (hmm.symm.trans e))]
  refine zX94 ?_<;>intros
  apply Yw T (H2:=cels none 0 []::H);(iterate 3 exact rfl);(focus exact zc2);exact rfl;exact rfl
  ·intro w hw
   have h5:St B w0 [many H] w:=by
    revert w
    exact zc0
   exact zc57
  exact Uj 11 rfl rfl
 rw[Tf (show¬s.sch.len.tmod x.rq.1.2.2.2.1≠0 fromλe=>e (hmm.trans hm))]
 obtain⟨hsm,-,hrd⟩:=YmJ hc hrx (hmm.trans hm)
 have hrow:∀r∈x.rows,Yov n (Y6 (insQ (q.map RqM.rq) x.rq)) x.f.1 r:=λr hr=>by
  obtain⟨h1,h2,h3⟩:=hrd r.xs (TE.2 ⟨r,hr,rfl⟩)
  exact⟨h1,h2,h3⟩
 have pl:=λ{H':List HP}{w:World}=>@pp hsm hrow hfx H' w
 clear pp
 apply Xv [many H,netA g4 n,schA g6 s,rqA g7 x,blk g8 (.cells (Value.agg #[.int .i64 0,.int .i64 0,.slice none 0 0]).cells 30 (0,0))]
 ·exact zc0
 refine zX94 ?_<;>intros
 apply Ye _ Ywa
 exact za
 exact rfl
 exactλ_ hw=>(pl (hin.mono zc0) (hrs.mono zc0) (hx.mono zc0) (hw))
 rintro _ _ ⟨s',ok,P,rfl,ho1,ho2,rfl⟩
 cases ok with
 |false=>
  rw[show Js n.net x.rq.1 x.rq.2 s.sch=none from ho2 rfl]
  refine zX23 ?_<;>intros
  apply Yw T (H2:=cels none 0 []::H);(iterate 3 exact rfl);(focus exact zc2);exact rfl;exact rfl
  ·intro w hw
   have h5:St B w0 [many H] w:=by
    revert w
    exact zc0
   exact zc57
  exact Uj 18 rfl rfl
 |true=>
 obtain⟨h1,h2⟩:=ho1 rfl
 rw[show Js n.net x.rq.1 x.rq.2 s.sch=some s'.sch from h1]
 have e3:s'.sch.cells=s'.cells:=rfl
 dsimp only
 rw[e3]
 by_cases h512:512<s'.cells.length
 ·rw[Tj h512]
  refine YqR ?_<;>intros
  apply Yw T (H2:=cels none 0 []::H);(iterate 3 exact rfl);(focus exact zc2);exact rfl;exact rfl
  ·intro w hw
   have h5:St B w0 [many H] w:=by
    revert w
    exact zc0
   exact zc57
  exact Uj 8 rfl rfl
 rw[Tf h512]
 refine YqR ?_<;>intros
 apply Ye _ YeD
 exact za
 exact rfl
 exactλ_ hw=>(Z7 s'.cells (by omega) (h2.mono zc0) (hw))
 rintro _ _ ⟨A2,c2,rfl,rfl⟩
 refine zX2 ?_
 apply Yw T (H2:=cels A2 c2 s'.cells::H);(iterate 3 exact rfl);(focus exact zc2);exact rfl;exact rfl
 ·intro w hw
  have h5:St B w0 (cels A2 c2 s'.cells::[many H]) w:=by
   revert w
   exact zc0
  exact Yjm
 exact⟨A2,c2,rfl,rfl⟩
end Go.Proofs.YtambgjgljcadlaaGreatDoor
namespace Go.Eng
open Go.RowKit
variable {B:Nat}{w0:World}{H:List HP}
theorem Ut{P:Program}{env:Env}{n:Nat}(T:Tab P){fn:Func}{Φ:Value->List HP->Prop}{p g k u s rt:Nat}{x y:Value}{cs:Array Value}{tt:TypeId}{fr:Nat×Nat}(hr:fn.results=#[.cell p rt,.tmp u,.tmp s])(hp:get env p=some (.pointer (some ⟨g,0,none⟩)))(hu:get env u=some x)(hs:get env s=some y)
 (hm:blk g (.cells cs tt fr)∈H) (ht:look T.ag rt=some k) (hk:cs.size=k) {H2:List HP}(hH:∀w,St B w0 H w->St B w0 H2 w) (h:Φ (.tuple #[.agg cs,x,y]) H2):VQ ⟨n,[],none⟩ B w0 (bodyPost P fn (Post B w0 Φ)) .ret env H:=by
 refine⟨λa w ha hw=>bodyPost_ret (v:=.tuple #[.agg cs,x,y]) ?_ ha.defers ⟨_,H2,rfl,hH w hw,h⟩⟩
 have hp':=ha.slot p _ hp
 simp[results,hr,Array.getD_eq_getD_getElem?,hp',ha.slot u _ hu,ha.slot s _ hs,asAddr,Vn T (hw.blk hm).1 ht hk]
end Go.Eng
namespace Go.Proofs.YtambgjgljcadlaaGreatDoor
open Go.RowKit Go.Eng Go.Nw Go.Rt
def ZN(A:Option Addr)(cap:Nat)(l:List Int):HP:=sl 3 1 A l.length cap (l.flatMap numF)
def OutA(H:List HP)(R:(Sch×List Int)×Int)(v:Value)(K:List HP):Prop:=∃A cap A2 cap2,v=.tuple #[.agg #[.int .i64 R.1.1.len,.int .i64 R.1.1.off,.slice A R.1.1.cells.length cap],.slice A2 R.1.2.length cap2,.int .i64 R.2]/\K=cels A cap R.1.1.cells::ZN A2 cap2 R.1.2::H
variable {H:List HP}
theorem YbD{R:(Sch×List Int)×Int}{v:Value}(e:Int)(hR:R=((Zd,[]),e))(hv:v=.tuple #[.agg #[.int .i64 0,.int .i64 0,.slice none 0 0],.slice none 0 0,.int .i64 e]):OutA H R v (cels none 0 []::ZN none 0 []::H):=⟨none,0,none,0,by rw[hR];exact hv,by rw[hR];rfl⟩
variable {B cap:Nat}{w0 w:World}
theorem nilA(h:St B w0 H w):St B w0 (cels none 0 []::ZN none 0 []::H) w:=(h.nilSlice _ _).nilSlice _ _
variable {A:Option Addr}
theorem Wf{l:List Cel}(h:cels A cap l∈H):Rd B w0 H A (l.flatMap celF):=Rd.sl h
theorem YkA{l:List RqM}(h:rqs A cap l∈H):Rd B w0 H A (l.flatMap rqF):=Rd.sl h
theorem Yj7(A:Option Addr)(cap:Nat)(l:List Int)(x:Int):sl 3 1 A (l.length+1) cap (l.flatMap numF++#[Value.int .i64 x].toList)=ZN A cap (l++[x]):=by
 grind [ZN,numF]
theorem YmM(y:RqM)(len:Int)(g:Nat)(hl:0<=len)(hp:1<=y.f.2.2.2.1)(hm:intA g len∈H)(hw:St B w0 H w):
 CX B w0 223 [rqV y,.pointer (some ⟨g,0,none⟩)] w λv K=>v=.bool (decide (len.tmod y.f.2.2.2.1≠0))/\K=H:=by
 refine Ya Tryz.func223 Tryz.ntmps223 rfl rfl hw ?_
 unfold rqV
 rw[Rq hl]
 by_cases h:len%y.f.2.2.2.1=0
 ·have h2:decide (len%y.f.2.2.2.1≠0)=false:=Tn (λe=>e h)
  rw[h2]
  refine zX44 ?_<;>intros
  all_goals(apply Yg H;((intro w hw;refine hw.perm ?_;focus exact zc3));exact zc13)
 ·have h2:decide (len%y.f.2.2.2.1≠0)=true:=Ti h
  rw[h2]
  refine zX44 ?_<;>intros
  all_goals(apply Yg H;((intro w hw;refine hw.perm ?_;focus exact zc3));exact zc13)
theorem YkJ{n:NetM}{q:List RqM}(h:(rqsE n.net (q.map RqM.rq)).2=0):q.length<=16/\∀x∈q,1<=x.f.2.2.2.1:=by
 have h1:=(Uq h).2.1
 refine⟨?_,λx hx=>?_⟩
 ·grind [Yz,Y6]
 ·have hfx:YX n.net.nodes x.f=0:=Vt h1 (TE.2 ⟨x.rq,TE.2 ⟨x,hx,rfl⟩,rfl⟩)
  obtain⟨-,hper,-⟩:=Zs hfx
  omega
structure AlM where
 k:Nat
 s:SchM
 iA:Option Addr
 icap:Nat
 inn:List RqM
 oA:Option Addr
 ocap:Nat
 at_:List Int
theorem Yop(n:NetM)(q:List RqM)(len off:Int)(h24:len<=24\/512<len)(ht:TabsB B w0)(hin:n.In B w0 H)(hq:QIn B w0 H A q)(hw:St B w0 H w):
 CX B w0 142 [n.val,.slice A q.length cap,.int .i64 len,.int .i64 off] w (OutA H (Xo n.net (q.map RqM.rq) len off)):=by
 refine Ya Tryz.func142 Tryz.ntmps142 rfl rfl hw ?_
 have hop:∀w,St B w0 [many H] w->St B w0 H w:=λw hw=>hw.perm (.openT H)
 have hin:=hin.mono hop
 have hq:=hq.mono hop
 have p1:=λ{H':List HP}{w:World}(hin:n.In B w0 H') (hw:St B w0 H' w)=>Y1 n hin hw
 have p2:=λ{H':List HP}{w:World}(hin:n.In B w0 H') (hq:QIn B w0 H' A q) (hw:St B w0 H' w)=>YaS n q (cap:=cap) ht hin hq hw
 have pa:=λ(z:AlM) (x:RqM) (hz:z.s.len<=24) (hzl:z.s.cells.length<=1000000000000) {H':List HP}{w:World}(hin:n.In B w0 H') (hq:QIn B w0 H' z.iA z.inn) (hrs:Rd B w0 H' z.s.A (z.s.cells.flatMap celF)) (hx:x.In B w0 H') (hw:St B w0 H' w)=>Yjr n z.inn z.s x hz (cap:=z.icap) ht hin hq hrs hzl hx hw
 unfold NetM.val SchM.val rqV at*
 refine XM [many H] (λw hw=>hw.perm (.closeT H)) ?_
 have hnil:∀{w:World},St B w0 [many H] w->St B w0 (cels none 0 []::ZN none 0 []::H) w:=λh=>nilA (h.perm (.openT H))
 by_cases hck:Yp n.net=0
 rotate_left
 ·have hno:(if Yp n.net=0 then(0:Int)else 1)=1:=Tf hck
  refine Yjj ?_<;>intros
  first|apply Yb en44|apply Yc en44
  exact za
  exact rfl
  exactλ_ hw=>(p1 hin.cons.cons.cons hw)
  refine zX1 ?_<;>intros
  apply Ut T (H2:=cels none 0 []::ZN none 0 []::H);(iterate 4 exact rfl);(focus exact zc2);exact rfl;exact rfl
  ·intro w hw
   refine hnil ?_
   revert w
   exact zc0
  exact YbD 1 (by rw[Xo,Tj (.inl hck)]) rfl
 have hf2:=YeP (q:=q.map RqM.rq) hck
 rw[hf2]at p2
 clear hf2
 by_cases hrq:(rqsE n.net (q.map RqM.rq)).2=0
 rotate_left
 ·have hd:decide ((rqsE n.net (q.map RqM.rq)).2≠0)=true:=Ti hrq
  rw[hd]at p2
  rw[hck]at p1
  refine Yjj ?_<;>intros
  first|apply Yb en44|apply Yc en44
  exact za
  exact rfl
  exactλ_ hw=>(p1 hin.cons.cons.cons hw)
  refine zX98 ?_<;>intros
  first|apply Yb YeH|apply Yc YeH
  exact za
  exact rfl
  exactλ_ hw=>(p2 hin.cons.cons.cons hq.cons.cons.cons hw)
  refine zX2 ?_
  apply Ut T (H2:=cels none 0 []::ZN none 0 []::H);(iterate 4 exact rfl);(focus exact zc2);exact rfl;exact rfl
  ·intro w hw
   refine hnil ?_
   revert w
   exact zc0
  exact YbD 1 (by rw[Xo,Tj (.inr hrq)]) rfl
 have hd:decide ((rqsE n.net (q.map RqM.rq)).2≠0)=false:=Tn (λe=>e hrq)
 rw[hd]at p2
 rw[hck]at p1
 have hadm:Xo n.net (q.map RqM.rq) len off=if len<1\/512<len\/off<1\/16<off then((Zd,[]),2)
  else if((q.map RqM.rq).any λx=>decide (len.tmod x.1.2.2.2.1≠0))=true then((Zd,[]),11)else(((Wp n.net (q.map RqM.rq) len off (q.map RqM.rq).length).s,(Wp n.net (q.map RqM.rq) len off (q.map RqM.rq).length).at_),0):=by
  rw[Xo,Tf]
  rintro(h|h)
  ·exact h hck
  ·exact h hrq
 rw[hadm]
 refine Yjj ?_<;>intros
 rename_i g4 g6 g8
 first|apply Yb en44|apply Yc en44
 exact za
 exact rfl
 exactλ_ hw=>(p1 hin.cons.cons.cons hw)
 refine zX98 ?_<;>intros
 first|apply Yb YeH|apply Yc YeH
 exact za
 exact rfl
 exactλ_ hw=>(p2 hin.cons.cons.cons hq.cons.cons.cons hw)
 by_cases hr:len<1\/512<len\/off<1\/16<off
 ·rw[Tj hr]
  repeat'(first|refine zgd ?_|(refine zgf ?_ ?_<;>intro _<;>try exact zo)|fail)
  all_goals try exact zo
  all_goals(
   apply Ut T (H2:=cels none 0 []::ZN none 0 []::H);(iterate 4 exact rfl);exact zm;exact rfl;exact rfl
   ·intro w hw
    refine hnil ?_
    revert w
    exact zk
   exact YbD 2 rfl rfl)
 rw[Tf hr]
 have hl:=YkJ hrq
 repeat'(first|(apply zg29;(apply Yo;exact za;exact rfl))|refine zgc ?_|(refine zgf ?_ ?_<;>intro _<;>try exact zo)|fail)
 all_goals try exact zo
 first|apply Yb YlC|apply Yc YlC
 exact za
 exact rfl
 exactλ_ hw=>(WO (λy=>decide (len.tmod y.f.2.2.2.1≠0)) q 223 [.pointer (some ⟨g6,0,none⟩)] Ywc (by omega) (hq.rd.mono zc0) (λa ha w hw=>YmM a len g6 (by omega) (hl.2 a ha) (by(focus exact zc2)) hw) hw)
 have hhas:(q.any λy=>decide (len.tmod y.f.2.2.2.1≠0))=(q.map RqM.rq).any λx=>decide (len.tmod x.1.2.2.2.1≠0):=by
  rw[List.any_map];rfl
 rw[hhas]
 cases hh:(q.map RqM.rq).any λx=>decide (len.tmod x.1.2.2.2.1≠0)with
 |true=>
  rw[Tj rfl]
  refine zX2 ?_
  apply Ut T (H2:=cels none 0 []::ZN none 0 []::H);(iterate 4 exact rfl);(focus exact zc2);exact rfl;exact rfl
  ·intro w hw
   refine hnil ?_
   revert w
   exact zc0
  exact YbD 11 rfl rfl
 |false=>
 rw[Tf (by decide)]
 refine zX23 ?_<;>intros
 rename_i g11
 refine Yh (λz:AlM=>[(54,.int .i64 (z.k:Nat)),(53,.int .i64 q.length),(52,.slice A q.length cap),(13,.slice z.oA z.at_.length z.ocap),(12,.slice z.iA z.inn.length z.icap),(11,.pointer (some ⟨g11,0,none⟩)),(10,.int .i64 0),(9,.slice none 0 0),(8,.pointer (some ⟨g8,0,none⟩)),(4,.pointer (some ⟨g4,0,none⟩))])
  (λz=>schA g11 z.s::cels z.s.A z.s.cap z.s.cells::rqs z.iA z.icap z.inn::ZN z.oA z.ocap z.at_::blk g8 (.cells (Value.agg #[.int .i64 0,.int .i64 0,.slice none 0 0]).cells 30 (0,0))::netA g4 n::[many H])
  (λz=>z.k<=q.length/\(∀y∈z.inn,y∈q)/\(⟨z.s.sch,z.inn.map RqM.rq,z.at_⟩:AllS)=Wp n.net (q.map RqM.rq) len off z.k) (λz=>q.length-z.k) ⟨0,⟨len,off,none,0,[]⟩,none,0,[],none,0,[]⟩ ⟨Tm _,(λy hy=>by cases hy),rfl⟩ ?_ ?_ ?_
 ·exact zc1
 ·intro w hw
  have h5:St B w0 (blk g11 (.cells #[.int .i64 len,.int .i64 off,.slice none 0 0] 30 (0,0))::blk g8 (.cells (Value.agg #[.int .i64 0,.int .i64 0,.slice none 0 0]).cells 30 (0,0))::netA g4 n::[many H]) w:=by
   revert w
   exact zc0
  have h6:=((h5.nilSlice 3 1).nilSlice 56 7).nilSlice 117 5
  clear h5 hw
  have h7:St B w0 (blk g11 (.cells #[.int .i64 len,.int .i64 off,.slice none 0 0] 30 (0,0))::sl 117 5 none 0 0 []::sl 56 7 none 0 0 []::sl 3 1 none 0 0 []::blk g8 (.cells (Value.agg #[.int .i64 0,.int .i64 0,.slice none 0 0]).cells 30 (0,0))::netA g4 n::[many H]) w:=by
   revert w
   exact zc0
  exact h7
 rintro⟨k,s,iA,icap,inn,oA,ocap,at_⟩ ⟨hk,hmem,hall⟩ K hK
 dsimp only at hk hmem hall⊢
 have hor:1<=off/\off<=16:=by omega
 have hlr:1<=len/\len<=512:=by omega
 have hinv:=Ybu hrq hlr hor k (by rw[Tv];exact hk)
 rw[<-hall]at hinv
 have hs24:s.len<=24:=by have:s.len=len:=hinv.len;omega
 have hfew:inn.length<=k:=by have:=hinv.few;rwa [Tv]at this
 have hsl:s.cells.length<=512:=(Vo.1 (ZW.1 (Zo.1 hinv.ok).1)).frm.few
 have hcnt:at_.length=inn.length:=by have:=hinv.cnt;rwa [Tv]at this
 have hqI:QIn B w0 (schA g11 s::cels s.A s.cap s.cells::rqs iA icap inn::ZN oA ocap at_::blk g8 (.cells (Value.agg #[.int .i64 0,.int .i64 0,.slice none 0 0]).cells 30 (0,0))::netA g4 n::[many H]) iA inn:=
  ⟨YkA (cap:=icap) (by(focus exact zc2)),λy hy=>((((((hq.x y (hmem y hy)).cons).cons).cons).cons).cons).cons,by omega⟩
 by_cases hlt:k<q.length
 rotate_left
 ·obtain rfl:k=q.length:=by omega
  clear hK
  have hall2:Wp n.net (q.map RqM.rq) len off (q.map RqM.rq).length=⟨s.sch,inn.map RqM.rq,at_⟩:=by rw[Tv];exact hall.symm
  rw[hall2]
  refine zX0 ?_<;>intros
  apply Ut T (H2:=cels s.A s.cap s.cells::ZN oA ocap at_::H);(iterate 4 exact rfl);(focus exact zc2);exact rfl;exact rfl
  ·intro w hw
   have h5:St B w0 (cels s.A s.cap s.cells::ZN oA ocap at_::[many H]) w:=by
    revert w
    exact zc0
   exact zc83
  exact⟨s.A,s.cap,oA,ocap,rfl,rfl⟩
 have hqrd:=hq.rd
 obtain⟨x,hx⟩:∃x,q[k]? =some x:=⟨_,Ta hlt⟩
 have hxm:=Tc hx
 have hrx:rqAt (q.map RqM.rq) k=x.rq:=by
  unfold rqAt
  rw[Tu,TM,hx];rfl
 have hstep:Wp n.net (q.map RqM.rq) len off (k+1)=Ybt n.net ⟨s.sch,inn.map RqM.rq,at_⟩ k x.rq:=by
  rw[Wp,hall,hrx]
 have pz:=λ{H':List HP}{w:World}=>pa ⟨k,s,iA,icap,inn,oA,ocap,at_⟩ x hs24 (by show s.cells.length<=_;omega) (H':=H') (w:=w)
 dsimp only at pz
 clear pa
 unfold Ybt at hstep
 dsimp only at hstep
 have hsn:(⟨k,s,iA,icap,inn,oA,ocap,at_⟩:AlM).s.sch=s.sch:=rfl
 generalize JD n.net (inn.map RqM.rq) s.sch x.rq=R at pz hstep
 obtain⟨t,e⟩:=R
 unfold OutS at pz
 dsimp only at pz hstep
 refine zX44 ?_<;>intros
 rename_i g15
 apply Ye _ YvM
 exact za
 exact rfl
 exactλ_ hw=>(pz (hin.mono zc0) (hqI.mono zc0) (Wf (cap:=s.cap) (by(focus exact zc2))) ((hq.x x hxm).mono zc0) (hw))
 rintro _ _ ⟨A2,c2,rfl,rfl⟩
 by_cases he:e=0
 rotate_left
 ·rw[Tf he]at hstep
  refine Yji ?_<;>intros
  apply hK ⟨k+1,s,iA,icap,inn,oA,ocap,at_⟩
  ·exact⟨by exact Yjp,hmem,hstep.symm⟩
  ·exact zc36
  ·exact zc1
  ·exact zc0
 subst he
 rw[Tj rfl]at hstep
 unfold rqs ZN
 refine Yji ?_<;>intros
 apply Je (.n1 0 (.n1 1 (.n1 2 (.n1 5 (.n1 6 (.n2 3 (.n2 4 (.n1 7 (.n1 8 (.n1 9 (.n1 10 (.n1 11 .done))))) 7 (.n1 4 (.n1 8 (.n1 9 (.n1 10 (.n1 11 .done)))))) 7 (.n1 3 (.n1 4 (.n1 8 (.n1 9 (.n1 10 (.n1 11 .done)))))))))))) [] [true,false,true]
 kernel_rfl
 kernel_rfl
 exact zy
 exact rfl
 repeat'(first|(apply Yj;try exact zl)|apply(zs91 ?_ ?_)|(apply YW;try exact zl)|refine zgd ?_|(refine zgh ?_;intro _)|(refine zgi ?_;intro _ _)|fail)
 all_goals(
  first|(rename_i A3 c3 gb A4 c4;guard_hyp A3:Option Addr;guard_hyp gb:Nat)|rename_i A3 c3 A4 c4
  apply hK ⟨k+1,⟨t.len,t.off,A2,c2,t.cells⟩,A3,c3,inn++[x],A4,c4,at_++[(k:Int)]⟩
  ·refine⟨by show k+1<=_;omega,λy hy=>?_,?_⟩
   ·rcases TF.1 hy with hy|hy
    ·exact hmem y hy
    ·rw[TO.1 hy];exact hxm
   ·show(⟨t,(inn++[x]).map RqM.rq,at_++[(k:Int)]⟩:AllS)=_
    rw[hstep,Rb];rfl
  ·dsimp only;omega
  ·rw[To,To]
   exact zu
  ·intro w hw
   dsimp only
   rw[<-Yas,<-Yj7]
   revert w
   exact zk)
def Xh:List Cel->List Cel
 |[]=>[]
 |[a]=>[a]
 |a::b::l=>if a=b then Xh (b::l)else a::Xh (b::l)
theorem Yci:∀{l:List Cel}{c:Cel},c∈Xh l↔c∈l
 |[],_=>Iff.rfl
 |[_],_=>Iff.rfl
 |a::b::l,c=>by
  have ih:=Yci (l:=b::l) (c:=c)
  unfold Xh
  by_cases h:a=b
  ·rw[Tj h,ih,TV (b:=a)]
   constructor
   ·exact .inr
   ·rintro(rfl|h2)
    ·rw[h];exact TB
    ·exact h2
  ·rw[Tf h,TV,TV,ih]
abbrev OrdW(l:List Cel):Prop:=l.Pairwise λa b=>Xb b a=false
theorem YhH:∀{l:List Cel},OrdW l->Ord (Xh l)
 |[],_=>.nil
 |[_],_=>.cons (λ_ h=>by cases h) .nil
 |a::b::l,h=>by
  obtain⟨h1,h2⟩:=Nb.1 h
  have ih:=YhH h2
  unfold Xh
  by_cases he:a=b
  ·rw[Tj he];exact ih
  rw[Tf he]
  refine .cons (λc hc=>?_) ih
  have hc:=Yci.1 hc
  have hca:=h1 c hc
  cases hac:Xb a c with
  |true=>rfl
  |false=>
   have e:=Qt hac hca
   subst e
   rcases TV.1 hc with e|hcl
   ·exact absurd e he
   ·have h3:=(Nb.1 h2).1 a hcl
    exact absurd (Qt h3 (h1 b TB)) he
theorem Yl7:∀{l m:List Cel},Ord l->Ord m->(∀c,c∈l↔c∈m)->l=m
 |[],[],_,_,_=>rfl
 |[],b::m,_,_,h=>by have:=(h b).2 TB;cases this
 |a::l,[],_,_,h=>by have:=(h a).1 TB;cases this
 |a::l,b::m,hl,hm,h=>by
  obtain⟨h1,h2⟩:=Nb.1 hl
  obtain⟨h3,h4⟩:=Nb.1 hm
  have e:a=b:=by
   rcases TV.1 ((h a).1 TB)with e|ha
   ·exact e
   rcases TV.1 ((h b).2 TB)with e|hb
   ·exact e.symm
   have:=Z6 (h1 b hb) (h3 a ha)
   rw[JG]at this;cases this
  subst e
  refine TC (a::·) (Yl7 h2 h4 λc=>?_)
  have hc:=h c
  constructor
  ·intro hcl
   rcases TV.1 (hc.1 (TJ _ hcl))with rfl|h5
   ·have:=h1 _ hcl;rw[JG]at this;cases this
   ·exact h5
  ·intro hcm
   rcases TV.1 (hc.2 (TJ _ hcm))with rfl|h5
   ·have:=h3 _ hcm;rw[JG]at this;cases this
   ·exact h5
def YcS(n:Net)(s:Sch)(q:List Rqs):List Cel:=q.flatMap λx=>s.cells.filter (OQ n s x)
theorem Ynx{n:Net}{s:Sch}{q:List Rqs}{l:List Cel}(ho:Ord s.cells)(hp:l.Perm (YcS n s q))(hs:OrdW l):Xh l=s.cells.filter (Yja n s q):=by
 refine Yl7 (YhH hs) (ho.sublist Ny) λc=>?_
 rw[Yci,hp.mem_iff,Rr]
 unfold YcS Yja
 rw[SQ,Re]
 constructor
 ·rintro⟨x,hx,hc⟩
  obtain⟨h1,h2⟩:=Rr.1 hc
  exact⟨h1,x,hx,h2⟩
 ·rintro⟨h1,x,hx,h2⟩
  exact⟨x,hx,Rr.2 ⟨h1,h2⟩⟩
theorem Yic(n:Net)(s:Sch):∀q:List Rqs,(YcS n s q).length<=q.length*s.cells.length
 |[]=>Tm _
 |x::q=>by
  have ih:=Yic n s q
  unfold YcS at ih⊢
  rw[TR,To,TS,SA,Nat.one_mul]
  have:=RB (OQ n s x) s.cells
  omega
structure Pln where
 n:Net
 q:List Rqs
 s:Sch
 c:List Clm
 f:List Int
noncomputable def VX(n:Net)(f:Flw):Rqs×Int:=
 if(ZR n f.2.1 f.2.2.1).2≠0 then(Ymp,(ZR n f.2.1 f.2.2.1).2)else((f,[(ZR n f.2.1 f.2.2.1).1]),0)
noncomputable def VM(n:Net)(f:Flw):Option (List Int×List Int)×Int:=(Wz 100000 n f.2.1 f.2.2.1).getD (none,0)
noncomputable def reqE(n:Net)(f:Flw):Rqs×Int:=
 match(VM n f).1 with
 |some pq=>((f,[pq.1,pq.2]),0)
 |none=>VX n f
noncomputable def Ydf(n:Net)(l:List Flw):Int×Int:=YT (λi=>(reqE n (Xk l i)).2) l.length 0
noncomputable def VW(n:Net)(l:List Flw):List Rqs×(Int×Int):=
 if Yp n≠0 then([],(-1,1))else if(Yz n.nodes l).2≠0 then([],Yz n.nodes l)
 else if(Ydf n l).2≠0 then([],Ydf n l)else(l.map λf=>(reqE n f).1,(-1,0))
def Xx(a b:Int):Int:=if a=0 then b else a
def Yf9(n:Net)(q:List Rqs)(s:Sch)(e:Int):Int:=if e≠0 then e else Xx (YS n q s).2.2 (Jm s).2
def finE(n:Net)(q:List Rqs)(s:Sch)(e:Int):Option Pln×Int:=
 if Yf9 n q s e≠0 then(none,Yf9 n q s e)else(some ⟨n,q,s,(YS n q s).1,(Jm s).1⟩,0)
noncomputable def lowQ(n:Net)(at_:List Int)(q:List Rqs)(i:Nat):Rqs:=if(i:Int)∈at_ then rqAt q i else(VX n (rqAt q i).1).1
noncomputable def lowL(n:Net)(at_:List Int)(q:List Rqs):List Rqs:=(List.range q.length).map (lowQ n at_ q)
noncomputable def lowB(n:Net)(at_:List Int)(q:List Rqs):Bool:=(List.range q.length).all λi=>decide ((i:Int)∈at_)||decide ((VX n (rqAt q i).1).2=0)
def fin2(n:Net)(q:List Rqs)(s:Sch)(e:Int):Option Pln×Int:=
 if e=0 then finE n q (YdB n q s).1 (YdB n q s).2 else(none,e)
noncomputable def fin3(n:Net)(q:List Rqs)(len off e:Int):Option Pln×Int:=
 if(Xo n q len off).1.2.length=q.length then fin2 n q (Xo n q len off).1.1 (Xx e (Xo n q len off).2)
 else(none,Xx (Xx e (Xo n q len off).2) 18)
noncomputable def YfY(n:Net)(q:List Rqs)(len off:Int):Option Pln×Int:=
 if(Xo n q len off).1.2.length=q.length then fin2 n q (Xo n q len off).1.1 (Xo n q len off).2
 else if lowB n (Xo n q len off).1.2 q=false then(none,Xx (Xo n q len off).2 18)
 else fin3 n (lowL n (Xo n q len off).1.2 q) len off (Xo n q len off).2
def perB(l:List Flw)(len:Int):Bool:=l.any λf=>decide (len.tmod f.2.2.2.1≠0)
noncomputable def Yl3(n:Net)(l:List Flw)(len off:Int):Option Pln×Int:=
 if Yp n≠0\/(Yz n.nodes l).2≠0 then(none,1)else if len<1\/512<len\/off<1\/16<off then(none,2)
 else if perB l len=true then(none,11)else if(VW n l).2.2≠0 then(none,(VW n l).2.2)
 else YfY n (VW n l).1 len off
def chkP(p:Pln):Int:=
 if Yp p.n≠0 then 1 else if(YS p.n p.q p.s).2.2=15\/(YS p.n p.q p.s).2.2=1/\(YS p.n p.q p.s).2.1<0 then 18
 else if(YS p.n p.q p.s).2.2≠0 then 1 else if(chkE p.n p.q p.s p.c).2≠0 then 20
 else if(Jm p.s).2≠0\/(Jm p.s).1≠p.f then 11 else 0
def idQ(q:List Rqs)(id:Int):Int:=Yi (λx:Rqs=>decide (x.1.1=id)) q 0
def delQ(q:List Rqs)(i:Nat):List Rqs:=q.take i++q.drop (i+1)
def wdrP(p:Pln)(id:Int):Option Pln×Int:=
 if chkP p≠0 then(none,1)else if idQ p.q id<0 then(none,7)else finE p.n (delQ p.q (idQ p.q id).toNat) (QA p.s id).1 (QA p.s id).2
theorem YnR{n:Net}{f:Flw}(h:Wz 100000 n f.2.1 f.2.2.1=some (VM n f)):((VM n f).1=none/\(VM n f).2≠0)\/∃p q,VM n f=(some (p,q),0):=by
 generalize VM n f=R at h⊢
 unfold Wz at h
 by_cases he:Z8 n f.2.1 f.2.2.1=0
 rotate_left
 ·rw[Tj he]at h
  rw[<-Tz h]
  exact .inl ⟨rfl,he⟩
 rw[Tf (λe=>e he)]at h
 split at h
 ·cases h
 ·rw[<-Tz h];exact .inl ⟨rfl,by decide⟩
 ·rename_i pq _
  split at h
  ·rw[<-Tz h];exact .inl ⟨rfl,by decide⟩
  ·rw[<-Tz h];exact .inr ⟨pq.1,pq.2,rfl⟩
theorem Yvi(n:Net)(s t:Int):(ZR n s t).1.length<=9:=by
 unfold ZR
 repeat' split
 all_goals(first|(simp;done)|(simp only;omega))
variable {B:Nat}{w0 w:World}{H:List HP}
theorem Wm(n:NetM)(hin:n.In B w0 H)(hw:St B w0 H w):
 CX B w0 37 [n.val] w λv K=>v=.bool (decide (Yp n.net=0))/\K=H:=by
 refine Ya Tryz.func37 Tryz.ntmps37 rfl rfl hw ?_
 have p1:=λ{H':List HP}{w:World}(hin:n.In B w0 H') (hw:St B w0 H' w)=>Ymq n [] (A:=none) (cap:=0) hin .nil (by decide) (by decide) hw
 have hc:(YgZ n.net []).2=if Yp n.net≠0 then 1 else 9:=by
  unfold YgZ
  by_cases h:Yp n.net=0
  ·rw[Tf (show¬Yp n.net≠0 fromλe=>e h),Tf (show¬Yp n.net≠0 fromλe=>e h)];rfl
  simp_all
 unfold NetM.val at p1⊢
 by_cases h:Yp n.net=0
 ·rw[Tf (λe=>e h)]at hc
  rw[hc]at p1
  rw[Ti h]
  refine zX97 ?_<;>intros
  first|apply Yb en95|apply Yc en95
  exact za
  exact rfl
  exactλ_ hw=>(p1 hin.cons hw)
  refine zX0 ?_<;>intros
  apply Yg H
  ·exact zc0
  exact zc13
 ·rw[Tj h]at hc
  rw[hc]at p1
  rw[Tn h]
  refine zX97 ?_<;>intros
  first|apply Yb en95|apply Yc en95
  exact za
  exact rfl
  exactλ_ hw=>(p1 hin.cons hw)
  refine zX0 ?_<;>intros
  apply Yg H
  ·exact zc0
  exact zc5
def rqQ(x:RqM):HP:=many [sl 64 1 x.A x.rows.length x.cap (x.rows.flatMap rowF),many (x.rows.map rowQ)]
def RqM.lens(x:RqM):Prop:=x.rows.length<=1000/\∀r∈x.rows,r.xs.length<=1000/\r.xs.length<=r.cap
theorem Yve{x:RqM}(hm:rqQ x∈H)(hl:x.lens):x.In B w0 H:=by
 have hb:∀w,St B w0 H w->St B w0 [sl 64 1 x.A x.rows.length x.cap (x.rows.flatMap rowF),many (x.rows.map rowQ)] w:=λw hw=>hw.inM hm
 refine RqM.In.mono ⟨.sl (.head _),λr hr=>?_,TU hl.1 (by decide),λr hr=>⟨TU (hl.2 r hr).1 (by decide),(hl.2 r hr).2⟩⟩ hb
 exact Rd.many (L:=x.rows.map rowQ) (.tail _ (.head _)) (RX hr)
def Yjq:RqM:=⟨(0,0,0,0,0,0),none,0,[]⟩
theorem YwI(h:St B w0 H w):St B w0 (rqQ Yjq::H) w:=by
 exact((h.perm (.noMany H)).nilSlice 64 1).perm (.close [_,_] H)
def OutQ(H:List HP)(R:Rqs×Int)(v:Value)(K:List HP):Prop:=∃x:RqM,v=.tuple #[rqV x,.int .i64 R.2]/\x.rq=R.1/\x.lens/\K=rqQ x::H
theorem Yso{R:Rqs×Int}{v:Value}(e:Int)(hR:R=(Ymp,e))(hv:v=.tuple #[rqV Yjq,.int .i64 e]):OutQ H R v (rqQ Yjq::H):=⟨Yjq,by simp_all,by rw[hR];rfl,⟨Tm _,λr hr=>by cases hr⟩,rfl⟩
theorem OP(n:NetM)(f:Flw)(hin:n.In B w0 H)(hw:St B w0 H w):
 CX B w0 126 [n.val,flwV f] w (OutQ H (VX n.net f)):=by
 refine Ya Tryz.func126 Tryz.ntmps126 rfl rfl hw ?_
 have p1:=λ{H':List HP}{w:World}(hin:n.In B w0 H') (hw:St B w0 H' w)=>Yec n f.2.1 f.2.2.1 hin hw
 have hl9:=Yvi n.net f.2.1 f.2.2.1
 have hsing:VX n.net f=if(ZR n.net f.2.1 f.2.2.1).2≠0 then(Ymp,(ZR n.net f.2.1 f.2.2.1).2)else((f,[(ZR n.net f.2.1 f.2.2.1).1]),0):=rfl
 rw[hsing]
 clear hsing
 generalize ZR n.net f.2.1 f.2.2.1=R at*
 unfold NetM.val at p1⊢
 unfold flwV
 refine zX97 ?_<;>intros
 apply Ye _ Ywb
 exact za
 exact rfl
 exactλ_ hw=>(p1 hin.cons.cons.cons (hw))
 rintro _ _ ⟨A,cap,rfl,-,-,rfl⟩
 apply UP (e:=3) (size:=1) (k:=R.1.length) (cap:=cap) (A:=A) (xs:=R.1.flatMap numF) (by(focus exact zc2))
 intro hcap
 obtain⟨r,e⟩:=R
 dsimp only at hl9 hcap⊢
 by_cases he:e=0
 ·rw[Tf (λh=>h he)]
  refine zX44 ?_<;>intros
  rename_i gL
  apply Yw T (H2:=rqQ ⟨f,some ⟨gL,0,none⟩,1,[⟨A,cap,r⟩]⟩::H);(iterate 3 exact rfl);(focus exact zc2);exact rfl;exact rfl
  ·intro w hw
   have h5:St B w0 (blk gL (.cells #[.slice A r.length cap] 64 (0,0))::ints A cap r::H) w:=by
    revert w
    exact zc0
   have h6:=h5.blk_sl (cs:=[Value.slice A r.length cap]) (len:=1) (size:=1) rfl (by omega)
   exact(h6.perm (.cons _ (.close [_] H))).perm (.close [_,_] H)
  refine⟨_,rfl,rfl,⟨T0 rfl,λx hx=>?_⟩,rfl⟩
  rw[TO.1 hx]
  exact⟨by show r.length<=_;omega,hcap⟩
 ·rw[Tj he]
  refine zX1 ?_<;>intros
  apply Yw T (H2:=rqQ Yjq::H);(iterate 3 exact rfl);(focus exact zc2);exact rfl;exact rfl
  ·intro w hw
   have h5:St B w0 H w:=by
    revert w
    exact zc0
   exact YwI h5
  exact Yso e rfl rfl
theorem Ydg(n:NetM)(f:Flw)(hrun:Wz 100000 n.net f.2.1 f.2.2.1=some (VM n.net f))(hin:n.In B w0 H)(hw:St B w0 H w):
 CX B w0 141 [n.val,flwV f] w (OutQ H (reqE n.net f)):=by
 refine Ya Tryz.func141 Tryz.ntmps141 rfl rfl hw ?_
 have p1:=λ{H':List HP}{w:World}(hin:n.In B w0 H') (hw:St B w0 H' w)=>Ymt n f.2.1 f.2.2.1 100000 (VM n.net f) (TI _) hrun hin hw
 have p2:=λ{H':List HP}{w:World}(hin:n.In B w0 H') (hw:St B w0 H' w)=>OP n f hin hw
 have hreq:reqE n.net f=match(VM n.net f).1 with|some pq=>((f,[pq.1,pq.2]),0)|none=>VX n.net f:=rfl
 rw[hreq]
 clear hreq
 unfold NetM.val flwV at p2
 unfold NetM.val at p1⊢
 unfold flwV
 rcases YnR hrun with⟨h1,h2⟩|⟨a,b,h1⟩
 ·generalize VM n.net f=R at*
  obtain⟨o,e⟩:=R
  dsimp only at h1 h2
  subst h1
  dsimp only at p1⊢
  refine zX97 ?_<;>intros
  first|apply Yb Yps|apply Yc Yps
  exact za
  exact rfl
  exactλ_ hw=>(p1 hin.cons.cons.cons hw)
  refine zX0 ?_<;>intros
  apply Ye _ YsS
  exact za
  exact rfl
  exactλ_ hw=>(p2 hin.cons.cons.cons (hw))
  rintro _ _ ⟨x,rfl,hx,hxl,rfl⟩
  unfold rqV
  refine zX9 ?_
  apply Yw T (H2:=rqQ x::H);(iterate 3 exact rfl);(focus exact zc2);exact rfl;exact rfl
  ·exact zc0
  exact⟨x,rfl,hx,hxl,rfl⟩
 ·rw[h1]at p1⊢
  dsimp only at p1⊢
  refine zX97 ?_<;>intros
  apply Ye _ Yps
  exact za
  exact rfl
  exactλ_ hw=>(p1 hin.cons.cons.cons (hw))
  rintro _ _ ⟨g,A1,c1,A2,c2,rfl,⟨l1,l2,l3⟩,-,rfl⟩
  apply UP (e:=3) (size:=1) (k:=a.length) (cap:=c1) (A:=A1) (xs:=a.flatMap numF) (by(focus exact zc2))
  intro hc1
  apply UP (e:=3) (size:=1) (k:=b.length) (cap:=c2) (A:=A2) (xs:=b.flatMap numF) (by(focus exact zc2))
  intro hc2
  try dsimp only at l1 l2 l3
  refine zX1 ?_<;>intros
  apply Yw T (H2:=rqQ ⟨f,some ⟨g,0,none⟩,2,[⟨A1,c1,a⟩,⟨A2,c2,b⟩]⟩::H);(iterate 3 exact rfl);(focus exact zc2);exact rfl;exact rfl
  ·intro w hw
   have h5:St B w0 (sl 64 1 (some ⟨g,0,none⟩) 2 2 ([⟨A1,c1,a⟩,⟨A2,c2,b⟩].flatMap rowF)::ints A1 c1 a::ints A2 c2 b::H) w:=by
    revert w
    exact zc0
   exact(h5.perm (.cons _ (.close [_,_] H))).perm (.close [_,_] H)
  refine⟨_,rfl,rfl,⟨T0 rfl,λx hx=>?_⟩,rfl⟩
  simp only[TV,RJ,N4]at hx
  rcases hx with rfl|rfl
  ·exact⟨by show a.length<=_;omega,hc1⟩
  ·exact⟨by show b.length<=_;omega,hc2⟩
theorem Yc3(q:List RqM)(x:RqM)(H:List HP):Perm (rqQ x::many (q.map rqQ)::H) (many ((q++[x]).map rqQ)::H):=by
 have:=Perm.push (rqQ x) (q.map rqQ) [] H
 simp_all
def Yot(H:List HP)(R:List Rqs×(Int×Int))(v:Value)(K:List HP):Prop:=∃A cap q,v=.tuple #[.slice A (q:List RqM).length cap,.int .i64 R.2.1,.int .i64 R.2.2]/\q.map RqM.rq=R.1/\(∀x∈q,x.lens)/\K=rqs A cap q::many (q.map rqQ)::H
variable {B:Nat}{w0 w:World}{H:List HP}
theorem Ygk(h:St B w0 H w):St B w0 (rqs none 0 []::many (([]:List RqM).map rqQ)::H) w:=(h.perm (.noMany H)).nilSlice 56 7
theorem Yqg{R:List Rqs×(Int×Int)}{v:Value}(i e:Int)(hR:R=([],(i,e)))(hv:v=.tuple #[.slice none 0 0,.int .i64 i,.int .i64 e]):Yot H R v (rqs none 0 []::many (([]:List RqM).map rqQ)::H):=
 ⟨none,0,[],by simp_all,by simp_all,(λx hx=>by cases hx),rfl⟩
theorem Yl8{q:List RqM}{x:RqM}(hm:many (q.map rqQ)∈H)(hx:x∈q)(hl:x.lens):x.In B w0 H:=
 RqM.In.mono (H:=q.map rqQ) (Yve (RX hx) hl) λ_ hw=>hw.inM hm
structure RtM where
 i:Nat
 A:Option Addr
 cap:Nat
 q:List RqM
theorem Yd8(n:NetM)(l:List Flw)(hll:l.length<=1000000000000)(hrun:∀f∈l,Wz 100000 n.net f.2.1 f.2.2.1=some (VM n.net f)){A:Option Addr}{cap:Nat}(hin:n.In B w0 H)(hr:Rd B w0 H A (l.flatMap flwF))(hw:St B w0 H w):
 CX B w0 77 [n.val,.slice A l.length cap] w (Yot H (VW n.net l)):=by
 refine Ya Tryz.func77 Tryz.ntmps77 rfl rfl hw ?_
 have p1:=λ{H':List HP}{w:World}(hin:n.In B w0 H') (hw:St B w0 H' w)=>Wm n hin hw
 have p2:=λ{H':List HP}{w:World}(hr:Rd B w0 H' A (l.flatMap flwF)) (hw:St B w0 H' w)=>Y9 n.nodes l (TU hll (by decide)) (cap:=cap) hr hw
 have p3:=λ(f:Flw) (hf:f∈l) {H':List HP}{w:World}(hin:n.In B w0 H') (hw:St B w0 H' w)=>Ydg n f (hrun f hf) hin hw
 have hop:∀w,St B w0 [many H] w->St B w0 H w:=λw hw=>hw.perm (.openT H)
 have hin:=hin.mono hop
 have hr:=hr.mono hop
 unfold NetM.val flwV at p3
 unfold NetM.val at p1⊢
 refine XM [many H] (λw hw=>hw.perm (.closeT H)) ?_
 unfold VW
 by_cases hck:Yp n.net=0
 rotate_left
 ·rw[Tj hck]
  rw[Tn hck]at p1
  refine zX97 ?_<;>intros
  first|apply Yb en37|apply Yc en37
  exact za
  exact rfl
  exactλ_ hw=>(p1 hin.cons hw)
  refine zX2 ?_
  apply Yg (rqs none 0 []::many (([]:List RqM).map rqQ)::H)
  ·intro w hw
   have h5:St B w0 [many H] w:=by
    revert w
    exact zc0
   exact Ygk (hop w h5)
  exact zc76
 rw[Tf (λe=>e hck)]
 rw[Ti hck]at p1
 have hnd:n.net.nodes=n.nodes:=rfl
 rw[hnd]
 obtain⟨⟨fi,fe⟩,hF⟩:∃R,Yz n.nodes l=R:=⟨_,rfl⟩
 rw[hF]at p2⊢
 dsimp only at p2⊢
 refine zX97 ?_<;>intros
 first|apply Yb en37|apply Yc en37
 exact za
 exact rfl
 exactλ_ hw=>(p1 hin.cons hw)
 refine zX2 ?_
 first|apply Yb en74|apply Yc en74
 exact za
 exact rfl
 exactλ_ hw=>(p2 hr.cons hw)
 by_cases hfe:fe=0
 rotate_left
 ·rw[Tj hfe]
  refine zX0 ?_<;>intros
  apply Yg (rqs none 0 []::many (([]:List RqM).map rqQ)::H)
  ·intro w hw
   have h5:St B w0 [many H] w:=by
    revert w
    exact zc0
   exact Ygk (hop w h5)
  exact zc76
 subst hfe
 rw[Tf (λe=>e rfl)]
 have hl16:l.length<=16:=by
  unfold Yz at hF
  split at hF
  ·cases hF
  split at hF
  ·cases hF
  ·omega
 obtain⟨F,hFd⟩:∃F,(λi=>(reqE n.net (Xk l i)).2)=F:=⟨_,rfl⟩
 have hFv:∀{i:Nat}{f:Flw},l[i]? =some f->F i=(reqE n.net f).2:=λ{i f} h=>by
  rw[<-hFd]
  show(reqE n.net (Xk l i)).2=_
  unfold Xk
  rw[Tu,h];rfl
 unfold Ydf
 rw[hFd]
 refine zX0 ?_<;>intros
 rename_i g2 _
 refine Yh (λz:RtM=>[(30,.int .i64 (z.i:Nat)),(29,.int .i64 l.length),(28,.slice A l.length cap),(9,.slice z.A z.q.length z.cap),(2,.pointer (some ⟨g2,0,none⟩))]) (λz=>rqs z.A z.cap z.q::many (z.q.map rqQ)::netA g2 n::[many H])
  (λz=>z.i<=l.length/\z.q.map RqM.rq=(l.take z.i).map (λf=>(reqE n.net f).1)/\(∀x∈z.q,x.lens)/\∀j,0<=j->j<z.i->F j=0) (λz=>l.length-z.i) ⟨0,none,0,[]⟩ ⟨Tm _,rfl,(λx hx=>by cases hx),λj _ h=>absurd h (RP _)⟩ ?_ ?_ ?_
 ·exact zc1
 ·intro w hw
  have h5:St B w0 (netA g2 n::[many H]) w:=by
   revert w
   exact zc0
  exact Ygk h5
 rintro⟨i,A1,c1,q⟩ ⟨hi,hq,hql,hz⟩ K hK
 dsimp only at hi hq hql hz⊢
 have hqn:q.length=i:=by
  have:=TC List.length hq
  exact Yui
 by_cases hlt:i<l.length
 rotate_left
 ·obtain rfl:i=l.length:=by omega
  have hfe:=Z9 (f:=F) (r:=l.length) (i0:=0) λj h1 h2=>hz j h1 (by omega)
  rw[hfe,Tf (λe=>e rfl)]
  rw[TP]at hq
  clear hK
  refine zX0 ?_<;>intros
  apply Yg (rqs A1 c1 q::many (q.map rqQ)::H)
  ·intro w hw
   have h5:St B w0 (rqs A1 c1 q::many (q.map rqQ)::[many H]) w:=by
    revert w
    exact zc0
   exact zc83
  apply UT;(iterate 4 exact rfl)
  exact⟨A1,c1,q,rfl,hq,hql,rfl⟩
 obtain⟨f,hf⟩:∃f,l[i]? =some f:=⟨_,Ta hlt⟩
 have hr2:Rd B w0 (rqs A1 c1 q::many (q.map rqQ)::netA g2 n::[many H]) A (l.flatMap flwF):=hr.cons.cons.cons
 have hFi:=hFv hf
 have hst:(l.take (i+1)).map (λf=>(reqE n.net f).1)=(l.take i).map (λf=>(reqE n.net f).1)++[(reqE n.net f).1]:=by
  rw[TG,hf,Rb];rfl
 have p4:=λ{H':List HP}{w:World}(hin:n.In B w0 H') (hw:St B w0 H' w)=>p3 f (Tc hf) (H':=H') (w:=w) hin hw
 clear p3
 generalize reqE n.net f=RQ at p4 hFi hst
 obtain⟨rq,re⟩:=RQ
 dsimp only at hFi hst
 refine zX44 ?_<;>intros
 apply Ye _ YvO
 exact za
 exact rfl
 exactλ_ hw=>(p4 (hin.mono zc0) (hw))
 rintro _ _ ⟨x,rfl,hx,hxl,rfl⟩
 dsimp only at hx⊢
 by_cases he:re=0
 rotate_left
 ·have hfe:=ZE (f:=F) (r:=l.length) (i0:=0) (i:=i) (λj h1 h2=>hz j h1 h2) (Tm _) (by omega) (by rw[hFi];exact he)
  rw[hfe,Tj (by rw[hFi];exact he),hFi]
  clear hK
  refine zX44 ?_<;>intros
  apply Yg (rqs none 0 []::many (([]:List RqM).map rqQ)::H)
  ·intro w hw
   have h5:St B w0 [many H] w:=by
    revert w
    exact zc0
   exact Ygk (hop w h5)
  exact zc76
 subst he
 unfold rqV rqs
 refine Ymk ?_<;>intros
 rename_i A2 c2
 apply hK ⟨i+1,A2,c2,q++[x]⟩
 ·refine⟨by exact zc71,?_,λy hy=>?_,λj h1 h2=>?_⟩
  ·show(q++[x]).map RqM.rq=_
   rw[Rb,hq,hst]
   exact TC _ (TC (λz=>[z]) hx)
  ·rcases TF.1 hy with hy|hy
   ·exact hql y hy
   ·rw[TO.1 hy];exact hxl
  ·rcases RN.1 h2 with h|rfl
   ·exact hz j h1 h
   ·exact hFi
 ·exact zc36
 ·rw[To]
  exact zc1
 ·intro w hw
  have h5:St B w0 (rqQ x::many (q.map rqQ)::rqs A2 c2 (q++[x])::netA g2 n::[many H]) w:=by
   rw[<-Yas]
   revert w
   exact zc0
  have h6:=h5.perm (Yc3 q x _)
  exact h6.perm (.swap _ _ _)
open Go.RowKit Go.Eng Go.Nw Go.Rt Go.Sort Go.Shelf Go.Proofs
theorem Ysl(a b c d e:Int)(g:Nat)(W:World)(h0:W.cell? ⟨g,0,none⟩=some (.int .i64 a))(h1:W.cell? ⟨g,1,none⟩=some (.int .i64 b))(h2:W.cell? ⟨g,2,none⟩=some (.int .i64 c))(h3:W.cell? ⟨g,3,none⟩=some (.int .i64 d))(h4:W.cell? ⟨g,4,none⟩=some (.int .i64 e)):
 Calls Tryz.prog 48 #[.slice (some ⟨g,0,none⟩) 5 5] W λr w'=>r=.returned (.int .i64 (YJ [a,b,c,d,e]))/\w'=W:=by
 go_enter Tryz.func48,Tryz.ntmps48
 go_wp2
 refine wp_loop_rounds 6 ?_
 rw[rounds_succ]
 go_wp2
 ·rename_i hx
  have hx:a≠0:=by simpa using hx
  go_ret
  exact⟨by simp only[YJ];rw[Tj hx];rfl,rfl⟩
 rename_i ha
 have ha:a=0:=by simpa using ha
 rw[rounds_succ]
 go_wp2
 ·rename_i hx
  have hx:b≠0:=by simpa using hx
  go_ret
  exact⟨by simp only[YJ];rw[Tf (by omega)];rw[Tj hx];rfl,rfl⟩
 rename_i hb
 have hb:b=0:=by simpa using hb
 rw[rounds_succ]
 go_wp2
 ·rename_i hx
  have hx:c≠0:=by simpa using hx
  go_ret
  exact⟨by simp only[YJ];rw[Tf (by omega)];rw[Tf (by omega)];rw[Tj hx];rfl,rfl⟩
 rename_i hc
 have hc:c=0:=by simpa using hc
 rw[rounds_succ]
 go_wp2
 ·rename_i hx
  have hx:d≠0:=by simpa using hx
  go_ret
  exact⟨by simp only[YJ];rw[Tf (by omega)];rw[Tf (by omega)];rw[Tf (by omega)];rw[Tj hx];rfl,rfl⟩
 rename_i hd
 have hd:d=0:=by simpa using hd
 rw[rounds_succ]
 go_wp2
 ·rename_i hx
  have hx:e≠0:=by simpa using hx
  go_ret
  exact⟨by simp only[YJ];rw[Tf (by omega)];rw[Tf (by omega)];rw[Tf (by omega)];rw[Tf (by omega)];rw[Tj hx];rfl,rfl⟩
 rename_i he
 have he:e=0:=by simpa using he
 rw[rounds_succ]
 go_wp2
 go_ret
 exact⟨by simp only[YJ];rw[Tf (by omega),Tf (by omega),Tf (by omega),Tf (by omega),Tf (by omega)];rfl,rfl⟩
def cfC(x y:Cel):Int:=YJ [Lib.compareInt x.1 y.1,Lib.compareInt x.2.1 y.2.1,Lib.compareInt x.2.2.1 y.2.2.1,Lib.compareInt x.2.2.2.1 y.2.2.2.1,Lib.compareInt x.2.2.2.2 y.2.2.2.2]
theorem YuW(x y:Cel)(W:World):Calls Tryz.prog 147 #[.agg #[.int .i64 x.1,.int .i64 x.2.1,.int .i64 x.2.2.1,.int .i64 x.2.2.2.1,.int .i64 x.2.2.2.2],.agg #[.int .i64 y.1,.int .i64 y.2.1,.int .i64 y.2.2.1,.int .i64 y.2.2.2.1,.int .i64 y.2.2.2.2]] W λe w'=>e=.returned (.int .i64 (cfC x y))/\∃q os',w'=grow (W.drewN q) os':=by
 have c1:=λW'=>Tryz.cmp_Compare_int x.1 y.1 W'
 have c2:=λW'=>Tryz.cmp_Compare_int x.2.1 y.2.1 W'
 have c3:=λW'=>Tryz.cmp_Compare_int x.2.2.1 y.2.2.1 W'
 have c4:=λW'=>Tryz.cmp_Compare_int x.2.2.2.1 y.2.2.2.1 W'
 have c5:=λW'=>Tryz.cmp_Compare_int x.2.2.2.2 y.2.2.2.2 W'
 unfold cfC
 generalize Lib.compareInt x.1 y.1=r1 at c1⊢
 generalize Lib.compareInt x.2.1 y.2.1=r2 at c2⊢
 generalize Lib.compareInt x.2.2.1 y.2.2.1=r3 at c3⊢
 generalize Lib.compareInt x.2.2.2.1 y.2.2.2.1=r4 at c4⊢
 generalize Lib.compareInt x.2.2.2.2 y.2.2.2.2=r5 at c5⊢
 go_enter Tryz.func147,Tryz.ntmps147
 go_wp2
 generalize hw1:(W.alloc (.cells #[.int .i64 x.1,.int .i64 x.2.1,.int .i64 x.2.2.1,.int .i64 x.2.2.2.1,.int .i64 x.2.2.2.2] 117)).alloc (.cells #[.int .i64 y.1,.int .i64 y.2.1,.int .i64 y.2.2.1,.int .i64 y.2.2.2.1,.int .i64 y.2.2.2.2] 117)=w1
 have hg:grow W #[.cells #[.int .i64 x.1,.int .i64 x.2.1,.int .i64 x.2.2.1,.int .i64 x.2.2.2.1,.int .i64 x.2.2.2.2] 117 (0,0),.cells #[.int .i64 y.1,.int .i64 y.2.1,.int .i64 y.2.2.1,.int .i64 y.2.2.2.1,.int .i64 y.2.2.2.2] 117 (0,0)]=w1:=by
  rw[<-hw1,alloc_eq_grow,alloc_eq_grow,grow_grow];rfl
 have x0:w1.drew.cell? ⟨W.heap.size,0,none⟩=some (.int .i64 x.1):=by rw[<-hw1];simp
 have x1:w1.drew.cell? ⟨W.heap.size,1,none⟩=some (.int .i64 x.2.1):=by rw[<-hw1];simp
 have x2:w1.drew.cell? ⟨W.heap.size,2,none⟩=some (.int .i64 x.2.2.1):=by rw[<-hw1];simp
 have x3:w1.drew.cell? ⟨W.heap.size,3,none⟩=some (.int .i64 x.2.2.2.1):=by rw[<-hw1];simp
 have x4:w1.drew.cell? ⟨W.heap.size,4,none⟩=some (.int .i64 x.2.2.2.2):=by rw[<-hw1];simp
 have y0:w1.drew.cell? ⟨W.heap.size+1,0,none⟩=some (.int .i64 y.1):=by rw[<-hw1];simp
 have y1:w1.drew.cell? ⟨W.heap.size+1,1,none⟩=some (.int .i64 y.2.1):=by rw[<-hw1];simp
 have y2:w1.drew.cell? ⟨W.heap.size+1,2,none⟩=some (.int .i64 y.2.2.1):=by rw[<-hw1];simp
 have y3:w1.drew.cell? ⟨W.heap.size+1,3,none⟩=some (.int .i64 y.2.2.2.1):=by rw[<-hw1];simp
 have y4:w1.drew.cell? ⟨W.heap.size+1,4,none⟩=some (.int .i64 y.2.2.2.2):=by rw[<-hw1];simp
 refine wp_region_still_tail 25 (by kernel_rfl) (by kernel_rfl) ?_
 have e9:({w1 with drawn:=w1.drawn+1}:World)=w1.drew:=rfl
 rw[e9]
 clear e9
 generalize hw2:w1.drew=w2 at x0 x1 x2 x3 x4 y0 y1 y2 y3 y4⊢
 simp only[List.take_succ_cons,Sr,List.drop_succ_cons,N6]
 repeat still_step
 still_call (c1 _)
 repeat still_step
 still_call (c2 _)
 repeat still_step
 still_call (c3 _)
 repeat still_step
 still_call (c4 _)
 repeat still_step
 still_call (c5 _)
 refine wpStill_nil ?_
 clear c1 c2 c3 c4 c5
 have hor:Calls Tryz.prog 48 #[.slice (some ⟨w2.heap.size,0,none⟩) 5 5] (w2.alloc (.cells #[.int .i64 r1,.int .i64 r2,.int .i64 r3,.int .i64 r4,.int .i64 r5] 3)) λe w'=>e=.returned (.int .i64 (YJ [r1,r2,r3,r4,r5]))/\w'=w2.alloc (.cells #[.int .i64 r1,.int .i64 r2,.int .i64 r3,.int .i64 r4,.int .i64 r5] 3):=
  Ysl r1 r2 r3 r4 r5 w2.heap.size _ (by simp) (by simp) (by simp) (by simp) (by simp)
 generalize YJ [r1,r2,r3,r4,r5]=r at hor⊢
 clear x0 x1 x2 x3 x4 y0 y1 y2 y3 y4
 go_wp2_with (go_at_call 48;refine hor.mono ?_;rintro e w' ⟨rfl,rfl⟩)
 go_ret
 refine⟨by first|rfl|kernel_rfl|simp,1,#[.cells #[.int .i64 x.1,.int .i64 x.2.1,.int .i64 x.2.2.1,.int .i64 x.2.2.2.1,.int .i64 x.2.2.2.2] 117 (0,0),.cells #[.int .i64 y.1,.int .i64 y.2.1,.int .i64 y.2.2.1,.int .i64 y.2.2.2.1,.int .i64 y.2.2.2.2] 117 (0,0),.cells #[.int .i64 r1,.int .i64 r2,.int .i64 r3,.int .i64 r4,.int .i64 r5] 3 (0,0)],?_⟩
 rw[<-hw2,<-hw1,alloc_eq_grow]
 rfl
theorem YuS(x y:Cel):cfC x y=cmpV (nums x) (nums y):=Ykm (nums x) (nums y) rfl
theorem Yl2(x y:Cel):ltOf cfC x y=Xb x y:=by
 rw[SV]
 unfold ltOf
 rw[Tt,YuS,Yad]
theorem swoC:SWO (ltOf cfC) where
 irrefl x:=by rw[Yl2];exact JG x
 trans x y z h1 h2:=by rw[Yl2]at*;exact Z6 h1 h2
 ntrans x y z h1 h2:=by
  rw[Yl2]at*
  cases h:Xb x z with
  |false=>rfl
  |true=>
   cases h3:Xb z y with
   |true=>rw[Z6 h h3]at h1;cases h1
   |false=>rw[Qt h2 h3]at h1;rw[h]at h1;cases h1
theorem YgQ(l:List Cel)(hl:l.length<=100000000){A:Option Addr}{cap B:Nat}{w0:World}{H:List HP}{w:World}(hw:St B w0 (cels A cap l::H) w):
 CX B w0 146 [.slice A l.length cap,.func (.func 147) #[] #[]] w λv K=>v=.tuple #[]/\∃l',l'.Perm l/\OrdW l'/\K=cels A cap l'::H:=by
 by_cases h0:l.length=0
 ·have hl0:l=[]:=R7 h0
  rw[h0]
  refine(AnyF.slices_SortFunc_none Tryz.sortCels A cap (.func (.func 147) #[] #[]) w).mono ?_
  rintro e w' ⟨rfl,rfl⟩
  exact⟨_,_,rfl,hw,rfl,l,List.Perm.refl _,by rw[hl0];exact .nil,rfl⟩
 have ho:=hw.sl (TB)
 obtain⟨g,rfl⟩:∃g,A=some ⟨g,0,none⟩:=by
  rcases ho.2 with⟨h1,h2⟩|⟨g,c,cur,h1,h2,h3,h4,h5,h6,h7⟩
  ·omega
  ·injection h1 with e1 e2 e3
   exact⟨g,e1⟩
 obtain⟨hH,hg,hst⟩:=Yay (enc:=celF) (λ_=>rfl) (by decide) (Tm _) hw
 have eg:∀args w,(callFunc 147 args).run Tryz.prog w=.ok (.enter 147 args) w:=Ypn
 rw[N6,NS]at hH
 have hsz:l.toArray.size=l.length:=by simp
 have hcon:=AnyQ.slices_SortFunc Tryz.sortCels 5 Tryz.isAgg117 Tryz.sizeOf117 celF (λ_=>rfl) (λx v hv=>by simp[celF]at hv;rcases hv with rfl|rfl|rfl|rfl|rfl<;>rfl) cfC swoC 147 #[] g 0 cap l.toArray w eg (λ_ _ _ _ x y=>YuW x y _) hH hg (by rw[hsz];omega)
 rw[hsz]at hcon
 refine hcon.mono ?_
 rintro e w' ⟨rfl,d',n,os,hp,hs,rfl⟩
 have hp:d'.toList.Perm l:=O8 (d:=l.toArray) (by rw[hsz];exact hp)
 have h5:=hst d'.toList n os (by rw[hp.length_eq];rfl)
 rw[Array.toArray_toList,NS,Sr,TD]at h5
 refine⟨_,_,rfl,h5,rfl,d'.toList,hp,?_,?_⟩
 ·have hdl:d'.toList.length=l.length:=hp.length_eq
  rw[OrdW,TY]
  intro i j hi hj hij
  have h6:=hs i j (Tm _) hij (by omega)
  rw[Yl2,getElem!_pos d' j (by simpa using hj),getElem!_pos d' i (by simpa using hi)]at h6
  simpa using h6
 ·unfold cels
  rw[hp.length_eq]
structure BuM where
 n:NetM
 qA:Option Addr
 qcap:Nat
 q:List RqM
 s:SchM
 cA:Option Addr
 ccap:Nat
 c:List ClM
 fA:Option Addr
 fcap:Nat
 f:List Int
 e:Int
abbrev bldA(g:Nat)(b:BuM):HP:=blk g (.cells #[.int .i64 b.n.nodes,.slice b.n.pA b.n.rows.length b.n.pcap,.int .i64 b.n.noise,.int .i64 b.n.thr,.slice b.n.lA b.n.links.length b.n.lcap,.slice b.n.mA b.n.margin.length b.n.mcap,.slice b.qA b.q.length b.qcap,.int .i64 b.s.len,.int .i64 b.s.off,.slice b.s.A b.s.cells.length b.s.cap,.slice b.cA b.c.length b.ccap,.slice b.fA b.f.length b.fcap,.int .i64 b.e] 164 (0,0))
def BuM.fail(b:BuM)(e:Int):BuM:={b with e:=Xx b.e e}
theorem Ub(b:BuM)(g:Nat)(e:Int){B:Nat}{w0:World}{H:List HP}{w:World}(hw:St B w0 (bldA g b::H) w):
 CX B w0 80 [.pointer (some ⟨g,0,none⟩),.int .i64 e] w λv K=>v=.tuple #[]/\K=bldA g (b.fail e)::H:=by
 refine Ya Tryz.func80 Tryz.ntmps80 rfl rfl hw ?_
 unfold BuM.fail Xx
 by_cases h:b.e=0
 ·rw[Tj h]
  refine zX1 ?_<;>intros
  all_goals first|(exfalso;contradiction)|skip
  exact Yjn
 ·rw[Tf h]
  refine zX1 ?_<;>intros
  all_goals first|(exfalso;contradiction)|skip
  exact Yjn
theorem Ylm:∀(a:Cel) (l:List Cel),Xh (a::l)=a::(Xh (a::l)).drop 1
 |_,[]=>rfl
 |a,b::l=>by
  have ih:=Ylm b l
  unfold Xh
  grind
variable {l:List Cel}{m:Nat}{a:Cel}
theorem Oo(h:l[m]? =some a):l.drop m=a::l.drop (m+1):=Yq3
theorem Yex(h:l[m]? =some a)(h2:l[m+1]? =some a):Xh (l.drop m)=Xh (l.drop (m+1)):=by
 simp_all [Oo,Xh]
theorem Yew{b:Cel}(h:l[m]? =some a)(h2:l[m+1]? =some b)(hne:a≠b):Xh (l.drop m)=a::Xh (l.drop (m+1)):=by
 simp_all [Oo,Xh]
theorem Yll(h:l[m]? =some a):Xh (l.drop m)=a::(Xh (l.drop m)).drop 1:=by
 rw[Oo h];exact Ylm _ _
structure CpM where
 i:Nat
 j:Nat
 M:List Cel
theorem YdW(l:List Cel)(hlen:l.length<=100000){A:Option Addr}{cap B:Nat}{w0:World}{H:List HP}{w:World}(hw:St B w0 (cels A cap l::H) w):
 CX B w0 148 [.slice A l.length cap] w λv K=>v=.slice A (Xh l).length cap/\K=cels A cap (Xh l)::H:=by
 refine Ya Tryz.func148 Tryz.ntmps148 rfl rfl hw ?_
 refine Qg (e:=117) (size:=5) (A:=A) (xs:=l.flatMap celF) (k:=l.length) (cap:=cap) TB λhcap=>?_
 by_cases hl2:l.length<2
 ·have e:Xh l=l:=by
   match l,hl2 with
   |[],_=>rfl
   |[_],_=>rfl
  rw[e]
  refine zX0 ?_<;>intros
  exact zc13
 refine zX0 ?_<;>intros
 refine Yh (λk:Nat=>[(3,.int .i64 k),(0,.slice A l.length cap)]) (λ_=>cels A cap l::H) (λk=>1<=k/\k<=l.length/\Xh l=l.take (k-1)++Xh (l.drop (k-1))) (λk=>l.length-k) 1 ⟨TI _,by omega,by simp⟩ ?_ (λw hw=>hw) ?_
 ·exact zc1
 rintro k ⟨hk1,hk,hce⟩ K hK
 by_cases hlt:k<l.length
 rotate_left
 ·obtain rfl:k=l.length:=by omega
  obtain⟨a,ha⟩:∃a,l[l.length-1]? =some a:=⟨_,Ta (by omega)⟩
  have e:Xh l=l:=by
   rw[hce,Oo ha,Rk (by omega)]
   show l.take (l.length-1)++[a]=l
   conv=>rhs;rw[<-RG (l.length-1) l,Oo ha,Rk (show l.length<=l.length-1+1 by omega)]
  rw[e]
  refine zX0 ?_<;>intros
  exact zc5
 obtain⟨m,rfl⟩:∃m,k=m+1:=⟨k-1,by omega⟩
 rw[SB]at hce
 obtain⟨a,ha⟩:∃a,l[m]? =some a:=⟨_,Ta (by omega)⟩
 obtain⟨b,hb⟩:∃b,l[m+1]? =some b:=⟨_,Ta hlt⟩
 have hm1:(((m+1:Nat):Int)-1).toNat=m:=by omega
 have ha2:l[(((m+1:Nat):Int)-1).toNat]? =some a:=by rw[hm1];exact ha
 have hr0:Rd B w0 (cels A cap l::H) A (l.flatMap celF):=.sl TB
 repeat'(first|(apply Yrg b a;(iterate 3 exact rfl);all_goals intro hca)|refine zgd ?_|(refine zge ?_ ?_<;>intro _<;>try exact zo)|fail)
 rotate_left
 ·apply hK (m+1+1)
  ·refine⟨by omega,by omega,?_⟩
   rw[SB,TG,ha,hce,Yew ha hb (λe=>hca e.symm)]
   simp
  ·omega
  ·exact zc1
  exact zc19
 obtain rfl:=hca
 clear hK
 obtain⟨N,hN⟩:∃N,l.length=m+1+N:=⟨l.length-(m+1),by omega⟩
 apply X0 T (n':=(l.drop (m+1)).length);(iterate 4 exact rfl);omega;(rw[Ro];omega)
 rw[Rx]
 refine zX7 ?_
 refine Yh (λz:CpM=>[(5,.int .i64 z.j),(3,.int .i64 z.i),(4,.slice (subA A (m+1) cap 5) (z.M.drop (m+1)).length (cap-(m+1))),(0,.slice A z.M.length cap)]) (λz=>cels A cap z.M::H)
  (λz=>z.M.length=l.length/\(1<=z.j/\z.j<=N)/\z.i<=m+z.j/\Xh l=z.M.take z.i++(Xh (l.drop (m+z.j))).drop 1/\∀i,m+z.j<=i->z.M[i]? =l[i]?) (λz=>N-z.j) ⟨m+1,1,l⟩ ⟨rfl,⟨TI _,by show 1<=N;omega⟩,TI _,?_,λ_ _=>rfl⟩ ?_ (λw hw=>hw) ?_
 ·show Xh l=l.take (m+1)++(Xh (l.drop (m+1))).drop 1
  rw[TG,ha,hce,Yex ha hb,Yll hb]
  simp
 ·exact zc1
 rintro⟨i,j,M⟩ ⟨hM,⟨hj1,hj⟩,hi,hco,hsame⟩ K hK
 dsimp only at hM hj1 hj hi hco hsame⊢
 have hdl:(M.drop (m+1)).length=N:=by rw[Ro];omega
 by_cases hjl:j<N
 ·obtain⟨x,hx⟩:∃x,l[m+j]? =some x:=⟨_,Ta (by omega)⟩
  obtain⟨y,hy⟩:∃y,l[m+1+j]? =some y:=⟨_,Ta (by omega)⟩
  have hj3:((j:Int)-1).toNat=j-1:=by omega
  have hx2:(M.drop (m+1))[((j:Int)-1).toNat]? =some x:=by
   rw[hj3,RS,show m+1+(j-1)=m+j by omega,hsame _ (TI _)];exact hx
  have hy2:(M.drop (m+1))[j]? =some y:=by
   rw[RS,hsame _ (by omega)];exact hy
  have hy3:l[m+j+1]? =some y:=by rw[show m+j+1=m+1+j by omega];exact hy
  have hs2:Rd B w0 (cels A cap M::H) (subA A (m+1) cap 5) ((M.drop (m+1)).flatMap celF):=by
   have h1:=Rd.sub (B:=B) (w0:=w0) (H:=cels A cap M::H) (q:=5) (f:=celF) (l:=M) (o:=m+1) (k:=M.length) (cap:=cap) (A:=A) (λ_=>rfl) (.sl TB) (by omega)
   rwa [Rl (by rw[Ro];omega)]at h1
  unfold cels at hs2⊢
  have hMl:(M.set i y).length=M.length:=TT
  have hMd:((M.set i y).drop (m+1)).length=(M.drop (m+1)).length:=by rw[Ro,Ro,hMl]
  repeat'(first|(apply Yrh y x;(iterate 3 exact rfl);all_goals intro hca)|(apply Xw T (f:=celF) (l:=M) (i:=i) (a:=y);(iterate 3 exact rfl);exact zd;exactλ_=>rfl;(iterate 3 exact rfl);omega)|refine zgd ?_|(refine zge ?_ ?_<;>intro _<;>try exact zo)|fail)
  ·apply hK ⟨i+1,j+1,M.set i y⟩
   ·refine⟨hMl.trans hM,⟨by show 1<=j+1;omega,hjl⟩,by show i+1<=m+(j+1);omega,?_,λt ht=>?_⟩
    ·show Xh l=(M.set i y).take (i+1)++(Xh (l.drop (m+(j+1)))).drop 1
     rw[hco,Yew hx hy3 (λe=>hca e.symm),List.drop_one,List.tail_cons,TG,Si (by omega),List.take_set_of_le (TI _),show m+(j+1)=m+j+1 by omega,Yll hy3]
     simp
    ·dsimp only at ht⊢
     rw[S7 (by omega)]
     exact hsame t (by omega)
   ·exact zc36
   ·dsimp only
    rw[hMl,hMd]
    exact zc1
   ·unfold cels
    dsimp only
    rw[hMl]
    exact YfB
  ·apply hK ⟨i,j+1,M⟩
   ·refine⟨hM,⟨by show 1<=j+1;omega,hjl⟩,by show i<=m+(j+1);omega,?_,λt ht=>hsame t (by dsimp only at ht;omega)⟩
    show Xh l=M.take i++(Xh (l.drop (m+(j+1)))).drop 1
    rw[hco,Yex hx (by rw[hy3,hca]),show m+(j+1)=m+j+1 by omega]
   ·exact zc36
   ·exact zc1
   exact zc19
 ·obtain rfl:j=N:=by omega
  clear hK
  have hce2:Xh l=M.take i:=by
   obtain⟨x,hx⟩:∃x,l[m+j]? =some x:=⟨_,Ta (by omega)⟩
   have hd:l.drop (m+j+1)=[]:=Rk (by omega)
   rw[hco,Oo hx,hd]
   exact Ri _
  have hil:(Xh l).length=i:=by rw[hce2,TX];omega
  have hfl:(M.flatMap celF).take (i*5)=(Xh l).flatMap celF:=by rw[<-Xz (q:=5) (λ_=>rfl),hce2]
  unfold cels
  refine zX29 ?_<;>intros
  rw[Rx]
  apply Xv (sl 117 5 A i cap ((Xh l).flatMap celF)::H)
  ·exact zc74
  apply Qj T T2 (e:=117) (size:=5) (k:=i) (xs:=(Xh l).flatMap celF);exact rfl;exact TB;(iterate 3 exact rfl);omega
  repeat'(first|(apply Jh T (l:=M) (n':=i);(iterate 4 exact rfl);omega;omega;omega)|refine zgd ?_|fail)
  exact YtL
variable {A:Option Addr}{cap B:Nat}{w0 w:World}{H:List HP}
theorem Ycg(l:List RowM)(hlen:l.length<=1000)(hr:Rd B w0 H A (l.flatMap rowF))(hw:St B w0 H w):
 CX B w0 152 [.slice A l.length cap] w λv K=>∃A' cap',v=.slice A' l.length cap'/\K=sl 64 1 A' l.length cap' (l.flatMap rowF)::H:=by
 cases A with
 |none=>
  have hl:l=[]:=by
   cases l with
   |nil=>rfl
   |cons x l=>
    exact zc33
  subst hl
  refine Ya Tryz.func152 Tryz.ntmps152 rfl rfl hw ?_
  refine zX6 ?_
  apply X5 64 1;exact zc40
 |some a=>
  refine Ya Tryz.func152 Tryz.ntmps152 rfl rfl hw ?_
  repeat'(first|(apply Ze;(iterate 3 exact rfl))|(apply Xn T;exact rfl;exact rfl;intro g2)|refine zgb ?_|fail)
  apply XN T (f:=rowF) (l2:=l) (e:=64) (size:=1) (xs:=[]);(iterate 3 exact rfl);exact hr.cons;exact(λ_=>rfl);exact(λ_=>rfl);exact rfl;(intro _ _;exact zd);omega;intro A' cap'
  exact zc23
theorem Ycf(l:List Lk)(hlen:l.length<=1000)(hr:Rd B w0 H A (l.flatMap lkF))(hw:St B w0 H w):
 CX B w0 149 [.slice A l.length cap] w λv K=>∃A' cap',v=.slice A' l.length cap'/\K=sl 124 3 A' l.length cap' (l.flatMap lkF)::H:=by
 cases A with
 |none=>
  have hl:l=[]:=by
   cases l with
   |nil=>rfl
   |cons x l=>
    exact zc33
  subst hl
  refine Ya Tryz.func149 Tryz.ntmps149 rfl rfl hw ?_
  refine zX6 ?_
  apply X5 124 3;exact zc40
 |some a=>
  refine Ya Tryz.func149 Tryz.ntmps149 rfl rfl hw ?_
  repeat'(first|(apply Ze;(iterate 3 exact rfl))|(apply Xn T;exact rfl;exact rfl;intro g2)|refine zgb ?_|fail)
  apply XN T (f:=lkF) (l2:=l) (e:=124) (size:=3) (xs:=[]);(iterate 3 exact rfl);exact hr.cons;exact(λ_=>rfl);exact(λ_=>rfl);exact rfl;(intro _ _;exact zd);omega;intro A' cap'
  exact zc23
structure PnM where
 n:NetM
 qA:Option Addr
 qcap:Nat
 q:List RqM
 s:SchM
 cA:Option Addr
 ccap:Nat
 c:List ClM
 fA:Option Addr
 fcap:Nat
 f:List Int
def PnM.val(p:PnM):Value:=.agg #[.int .i64 p.n.nodes,.slice p.n.pA p.n.rows.length p.n.pcap,.int .i64 p.n.noise,.int .i64 p.n.thr,.slice p.n.lA p.n.links.length p.n.lcap,.slice p.n.mA p.n.margin.length p.n.mcap,.slice p.qA p.q.length p.qcap,.int .i64 p.s.len,.int .i64 p.s.off,.slice p.s.A p.s.cells.length p.s.cap,.slice p.cA p.c.length p.ccap,.slice p.fA p.f.length p.fcap]
def PnM.pln(p:PnM):Pln:=⟨p.n.net,p.q.map RqM.rq,p.s.sch,p.c.map ClM.clm,p.f⟩
structure PnM.In(B:Nat)(w0:World)(H:List HP)(p:PnM):Prop where
 n:p.n.In B w0 H
 q:QIn B w0 H p.qA p.q
 s:Rd B w0 H p.s.A (p.s.cells.flatMap celF)
 sl:p.s.cells.length<=1000000000000
 c:CIn B w0 H p.cA p.c
 f:Rd B w0 H p.fA (p.f.flatMap numF)
 fl:p.f.length<=1000000000000
variable {p:PnM}
theorem PnM.In.mono{H':List HP}(h:p.In B w0 H)(hH:∀w,St B w0 H' w->St B w0 H w):p.In B w0 H':=⟨h.n.mono hH,h.q.mono hH,h.s.mono hH,h.sl,h.c.mono hH,h.f.mono hH,h.fl⟩
theorem PnM.In.cons{X:HP}(h:p.In B w0 H):p.In B w0 (X::H):=h.mono λ_ hw=>hw.tail
def zeroPnV:Value:=.agg #[.int .i64 0,.slice none 0 0,.int .i64 0,.int .i64 0,.slice none 0 0,.slice none 0 0,.slice none 0 0,.int .i64 0,.int .i64 0,.slice none 0 0,.slice none 0 0,.slice none 0 0]
def Yk4(B:Nat)(w0:World)(H:List HP)(R:Option Pln×Int)(v:Value)(K:List HP):Prop:=
 (R.1=none/\v=.tuple #[zeroPnV,.int .i64 R.2]/\K=H)\/∃(p:PnM) (X:List HP),R.1=some p.pln/\v=.tuple #[p.val,.int .i64 R.2]/\p.In B w0 [many X]/\K=many X::H
def Yvy(B:Nat)(w0:World)(H:List HP)(s:SchM)(R:Option Pln×Int)(v:Value)(K:List HP):Prop:=
 (R.1=none/\v=.tuple #[zeroPnV,.int .i64 R.2]/\K=H)\/∃(p:PnM) (X:List HP),R.1=some p.pln/\v=.tuple #[p.val,.int .i64 R.2]/\(∀H',Rd B w0 H' s.A (s.cells.flatMap celF)->p.In B w0 (many X::H'))/\K=many X::H
end Go.Proofs.YtambgjgljcadlaaGreatDoor
