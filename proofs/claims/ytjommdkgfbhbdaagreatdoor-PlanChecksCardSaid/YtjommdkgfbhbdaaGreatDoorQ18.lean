/- Lemmas. -/
import Derived.Test.YtjommdkgfbhbdaaGreatDoorQ16
import Derived.Test.YtjommdkgfbhbdaaGreatDoorQ17
set_option maxRecDepth 100000
set_option maxHeartbeats 8000000
set_option linter.all false
namespace Go.Proofs.YtjommdkgfbhbdaaGreatDoor
open Go.RowKit Go.Eng Go.Nw Go.Rt
def rqs(A:Option Addr)(cap:Nat)(l:List RqM):HP:=sl 93 7 A l.length cap (l.flatMap rqF)
theorem Ya0(A:Option Addr)(cap:Nat)(l:List RqM)(x:RqM):sl 93 7 A (l.length+1) cap (l.flatMap rqF++#[Value.int .i64 x.f.1,.int .i64 x.f.2.1,.int .i64 x.f.2.2.1,.int .i64 x.f.2.2.2.1,.int .i64 x.f.2.2.2.2.1,.int .i64 x.f.2.2.2.2.2,.slice x.A x.rows.length x.cap].toList)=rqs A cap (l++[x]):=by
 grind [rqs,rqF]
variable {A:Option Addr}{cap B k gv:Nat}{w0 w:World}{H:List HP}
theorem WX(l:List RqM)(hlen:l.length<=1000000)(hr:Rd B w0 H A (l.flatMap rqF))(hw:St B w0 H w):
 CX B w0 69 [.slice A l.length cap] w λv K=>∃A' cap',v=.slice A' l.length cap'/\K=rqs A' cap' l::H:=by
 cases A with
 |none=>
  have hl:l=[]:=by
   cases l with
   |nil=>rfl
   |cons x l=>
    exact zc46
  subst hl
  refine Ya Tryz.func69 Tryz.ntmps69 rfl rfl hw ?_
  refine zX6 ?_
  apply ZQ 93 7;exact zc59
 |some a=>
  refine Ya Tryz.func69 Tryz.ntmps69 rfl rfl hw ?_
  repeat'(first|(apply Js;(iterate 3 exact rfl))|(apply YK T;exact rfl;exact rfl;intro g2)|refine zgb ?_|fail)
  apply Xt T (f:=rqF) (l2:=l) (e:=93) (size:=7) (xs:=[]);(iterate 3 exact rfl);exact hr.cons;exact(λ_=>rfl);exact(λ_=>rfl);exact rfl;(intro _ _;exact zd);omega;intro A' cap'
  exact zc73
section
variable {m:Eng.Mode}{n:Shp}{B d:Nat}{w0:World}{ops:Array Oper}{Q:Exit->Act->World->Prop}{rest:List Oper}{env:Env}{H:List HP}{ty:TypeId}{pos:String}{after:Array Edge}{x y lo:Operand}
variable {gv k cap:Nat}
theorem Yf0{g o la ca lb cb:Nat}{tt:TypeId}{cs:Array Value}{xs:List Value}{tys:Array TypeId}(hx:evo env x=some (.slice (some ⟨gv,0,none⟩) la ca))(hy:evo env y=some (.slice (subA (some ⟨g,0,none⟩) o cap 7) lb cb))(hm1:Eng.blk gv (.cells cs tt (0,0))∈H)(hm2:sl 93 7 (some ⟨g,0,none⟩) k cap xs∈H)
 (hne:∀w,St B w0 H w->gv≠g) (hc:0<cap/\cap≠o) (hn:Nat.ble (d+1) n.k=true) (h:VL Tryz.prog none n B w0 ops Q rest ((d,.bool false)::env) H):
 VL Tryz.prog none n B w0 ops Q (⟨some d,.call ⟨.value (.func 157),#[x,y],tys⟩,ty,pos,after,none⟩::rest) env H:=by
 have hsub:subA (some ⟨g,0,none⟩) o cap 7=some ⟨g,o*7,none⟩:=by
  simp_all [subA,Go.Addr.add_lit]
 rw[hsub]at hy
 refine XA (λu K'=>u=.bool false/\K'=H) rfl rfl hn (λa w ha hw=>⟨.bool false,H,w,?_,hw,rfl,rfl⟩) zc63
 have hb:=(hw.blk hm1).1
 rcases Jf (hw.sl hm2)with⟨h0,_⟩|⟨g',cur,e0,g1,_,_,g4,_⟩
 ·cases h0
 injection e0 with e0
 injection e0 with e0
 subst e0
 obtain⟨bb,htl⟩:∃bb,Eng.look T.sl 30=some (93,7,bb):=⟨_,rfl⟩
 obtain⟨_,inf,_,hi,_,_,hsi,_⟩:=YG (T.slic htl)
 have hr:=run_callFunc_extern (P:=Tryz.prog) Tryz.func157 (by kernel_rfl) (by kernel_rfl) (by kernel_rfl) (e:=Extern.SlicesOverlaps.overlaps #[30,30] #[4]) (by kernel_rfl) #[.slice (some ⟨gv,0,none⟩) la ca,.slice (some ⟨g,o*7,none⟩) lb cb] w
 have hov:=Lib.run_overlaps_apart (P:=Tryz.prog) w 30 4 93 Tryz.underlying30 7 (λw=>by simp[sizeOf,typeInfo,hi,hsi]) ⟨gv,0,none⟩ ⟨g,o*7,none⟩ la ca lb cb (hne w hw) tt 93 cs.size cur.size (by simp[World.shape?,hb]) (by simp[World.shape?,g1]) (by rw[g4];omega) YfP YfP
 have he:a.eval (.func 157)=.func (.func 157) #[] #[]:=rfl
 simp[execOp,resolve,invoke,ha.eval hx,ha.eval hy,he,Deferred.ofValue,hr,hov,Result.andThen]
end
theorem YrJ(l:List RqM)(c:RqM)(i:Nat)(hk:k=1):(l.take i).take i++[c].take k++(l.take i).drop (i+k)=l.take i++[c]:=by
 grind [Rb]
theorem YrK(l:List RqM)(c:RqM)(i:Nat)(hi:i<=l.length)(hk:k=l.length-i):(l.take i++[c]).take (i+1)++(l.drop i).take k++(l.take i++[c]).drop (i+1+k)=l.take i++c::l.drop i:=by
 simp_all [List.take_of_length_le]
theorem YrL(l:List RqM)(i:Nat)(hi:i<=l.length)(hk:k=l.length-i):l.take (i+1)++(l.drop i).take k++l.drop (i+1+k)=l.take (i+1)++l.drop i:=by
 grind [Rb,TY]
theorem YrM(l:List RqM)(c:RqM)(i:Nat)(hi:i<l.length)(hk:k=1):(l.take (i+1)++l.drop i).take i++[c].take k++(l.take (i+1)++l.drop i).drop (i+k)=l.take i++c::l.drop i:=by
 grind
theorem YaP(l:List RqM)(c:RqM)(i:Nat)(hi:i<=l.length):(l.take i++c::l.drop i).length=l.length+1:=by
 grind
theorem Ygs(l:List RqM)(i:Nat)(c:RqM)(hi:i<=l.length)(hlen:l.length<=1000)(hw:St B w0 (rqs A cap l::blk gv (.cells #[.int .i64 c.f.1,.int .i64 c.f.2.1,.int .i64 c.f.2.2.1,.int .i64 c.f.2.2.2.1,.int .i64 c.f.2.2.2.2.1,.int .i64 c.f.2.2.2.2.2,.slice c.A c.rows.length c.cap] 93 (0,0))::H) w):
 CX B w0 68 [.slice A l.length cap,.int .i64 i,.slice (some ⟨gv,0,none⟩) 1 1] w λv K=>∃A' cap',v=.slice A' (l.take i++c::l.drop i).length cap'/\K=rqs A' cap' (l.take i++c::l.drop i)::H:=by
 refine Ya Tryz.func68 Tryz.ntmps68 rfl rfl hw ?_
 unfold rqs
 refine OA (k:=l.length) (cap:=cap) (by(focus exact zc2)) λhcap=>?_
 have hli:=YaP l c i hi
 have hrv:∀{L:List HP},blk gv (.cells #[.int .i64 c.f.1,.int .i64 c.f.2.1,.int .i64 c.f.2.2.1,.int .i64 c.f.2.2.2.1,.int .i64 c.f.2.2.2.2.1,.int .i64 c.f.2.2.2.2.2,.slice c.A c.rows.length c.cap] 93 (0,0))∈L->Rd B w0 L (some ⟨gv,0,none⟩) (([c]:List RqM).flatMap rqF):=λh=>by
  have h1:=Rd.blk (B:=B) (w0:=w0) (cs:=(rqF c).toArray) h
  rw[show([c]:List RqM).flatMap rqF=(rqF c).toArray.toList by simp]
  exact h1
 have hq7:∀c:RqM,(rqF c).length=7:=λ_=>rfl
 have ho7:∀c:RqM,Ji (rqF c)=true:=λ_=>rfl
 refine zX2 ?_
 apply YU T i (l.length-i);(iterate 5 exact rfl);exact hi;exact rfl
 by_cases hin:i=l.length
 ·have e1:l.take i++c::l.drop i=l++[c]:=by rw[hin,TI,SB]
  rw[e1]
  repeat'(first|refine zgb ?_|(refine zgf ?_ ?_<;>intro _<;>try exact zo)|(refine zgi ?_;intro _ _)|fail)
  rename_i A' cap'
  apply Yf (rqs A' cap' (l++[c])::H)
  ·intro w hw
   rw[<-Ya0]
   revert w
   exact zc0
  exact Yua
 have hlt:i<l.length:=by omega
 have hrs:∀{L:List HP}{g:Nat},sl 93 7 (some ⟨g,0,none⟩) l.length cap (l.flatMap rqF)∈L->Rd B w0 L (subA (some ⟨g,0,none⟩) i cap 7) ((l.drop i).flatMap rqF):=λh=>by
  have h1:=Rd.sub (B:=B) (w0:=w0) (q:=7) (o:=i) (k:=l.length-i) (cap:=cap) hq7 (Rd.sl h) hcap
  exact Yur
 apply Yf3 (k:=l.length) (by(focus exact zc2)) (by omega)
 rintro g rfl
 have hA:∃g',(some ⟨g,0,none⟩:Option Addr)=some ⟨g',0,none⟩:=⟨g,rfl⟩
 repeat'(first|(apply Yln T;(iterate 3 exact rfl))|refine zgc ?_|(refine zgf ?_ ?_<;>intro _<;>try exact zo)|fail)
 ·apply Vu T (n':=i);(iterate 4 exact rfl);omega;omega;exact hA
  refine zX3 ?_
  rw[show(l.length:Int)+((1:Nat):Int)-(i:Int)=((l.length+1-i:Nat):Int) by omega]
  apply Ya8 T (e:=93) (size:=7) (k:=l.length) (xs:=l.flatMap rqF);exact rfl;exact rfl;(focus exact zc2);exact rfl;kernel_rfl;exact rfl;kernel_rfl;omega;intro g2 c2 hc2
  rw[show i+(l.length+1-i)=l.length+1 by omega]at hc2⊢
  have e2:sl 93 7 (some ⟨g2,0,none⟩) i c2 ((l.flatMap rqF).take (i*7))=sl 93 7 (some ⟨g2,0,none⟩) (l.take i).length c2 ((l.take i).flatMap rqF):=by
   rw[X0 hq7,TU,S8 hi]
  rw[e2]
  have hA2:∃g',(some ⟨g2,0,none⟩:Option Addr)=some ⟨g',0,none⟩:=⟨g2,rfl⟩
  have htl:(l.take i).length=i:=Yem
  refine zX2 ?_
  apply YU T i (l.length+1-i);(iterate 5 exact rfl);omega;exact rfl
  refine zX2 ?_
  apply Vd T (l.take i) [c] (l.take i++[c]) (f:=rqF) (o:=i) (cap:=c2);exact rfl;exact rfl;exact hrv (by(focus exact zc2));exact hq7;exact ho7;exact rfl;exact rfl;exact hA2;(simp only[T9];omega);exact YrJ l c i (by omega);exact zd
  refine zX2 ?_
  apply YA [0,1,2,3,4,5,6,7] [8] [true,true,true]
  kernel_rfl
  kernel_rfl
  exact zy
  (simp only[Yc,nthO];rfl)
  (simp only[Yc,nthO];rfl)
  refine zX10 ?_
  apply YU T (i+1) (l.length+1-(i+1));(iterate 4 exact rfl);omega;omega;exact rfl
  refine zX2 ?_
  apply YU T i (l.length-i);(iterate 5 exact rfl);omega;exact rfl
  refine zX3 ?_
  apply Vd T (l.take i++[c]) (l.drop i) (l.take i++c::l.drop i) (f:=rqF) (o:=i+1) (cap:=c2);exact rfl;exact rfl;exact hrs (by(focus exact zc2));exact hq7;exact ho7;exact rfl;exact rfl;exact hA2;(simp only[Tt,TU,T9,TY];omega);exact YrK l c i hi (by omega);exact zd
  refine zX3 ?_
  apply Yf (rqs (some ⟨g2,0,none⟩) c2 (l.take i++c::l.drop i)::H)
  ·unfold rqs
   exact zc0
  exact Yuv
 ·apply Vu T (n':=l.length+1);(iterate 4 exact rfl);omega;omega;exact hA
  refine zX10 ?_
  apply YU T (i+1) (l.length+1-(i+1));(iterate 4 exact rfl);omega;omega;exact rfl
  apply Yf0 (gv:=gv) (g:=g) (o:=i+1) (cap:=cap) (k:=l.length) (xs:=l.flatMap rqF);exact rfl;exact rfl;(focus exact zc2);(focus exact zc2);exactλw hw=>Ye3 (hw.perm (.swap _ _ _));omega;exact rfl
  refine zX3 ?_
  apply YA [0,1,2,3,4,5,6,7] [8] [true,true]
  kernel_rfl
  kernel_rfl
  exact zy
  (simp only[Yc,nthO];rfl)
  (simp only[Yc,nthO];rfl)
  refine zX10 ?_
  apply YU T (i+1) (l.length+1-(i+1));(iterate 4 exact rfl);omega;omega;exact rfl
  refine zX2 ?_
  apply YU T i (l.length+1-i);(iterate 5 exact rfl);omega;exact rfl
  refine zX3 ?_
  apply Vd T l (l.drop i) (l.take (i+1)++l.drop i) (f:=rqF) (o:=i+1) (cap:=cap);exact rfl;exact rfl;exact hrs (by(focus exact zc2));exact hq7;exact ho7;exact rfl;exact rfl;exact hA;(simp only[TY];omega);exact YrL l i hi (by omega);exact zd
  refine zX3 ?_
  apply YU T i (l.length+1-i);(iterate 5 exact rfl);omega;exact rfl
  refine zX2 ?_
  apply Vd T (l.take (i+1)++l.drop i) [c] (l.take i++c::l.drop i) (f:=rqF) (o:=i) (cap:=cap);exact rfl;exact rfl;exact hrv (by(focus exact zc2));exact hq7;exact ho7;exact rfl;exact rfl;exact hA;(simp only[Tt,TU,T9,TY];omega);exact YrM l c i hlt (by omega);exact zd
  refine zX7 ?_
  apply Yf (rqs (some ⟨g,0,none⟩) cap (l.take i++c::l.drop i)::H)
  ·unfold rqs
   exact zc0
  exact Yut
theorem Yjg{id:Int}:∀{q:List Rqs}{k:Nat},k<=q.length->(∀i (x:Rqs),i<k->q[i]? =some x->x.1.1<id)->(∀x:Rqs,q[k]? =some x->¬x.1.1<id)->posQ q id=k
 |[],k,hk,_,_=>by
  have:k=0:=by simp_all
  subst this;rfl
 |y::q,0,_,_,h2=>by
  simp_all [posQ]
 |y::q,k+1,hk,h1,h2=>by
  have ih:=Yjg (id:=id) (q:=q) (k:=k) (by grind) (λi x hi hx=>h1 (i+1) x (by omega) hx) λx hx=>h2 x hx
  unfold posQ at ih⊢
  rw[List.takeWhile_cons,Tn (Tf (h1 0 y (by omega) rfl)),Ro,ih]
theorem Yfn(a b:RqM)(hw:St B w0 H w):
 CX B w0 234 [rqV a,rqV b] w λv K=>v=.int .i64 (cmpI a.f.1 b.f.1)/\K=H:=by
 refine Ya Tryz.func234 Tryz.ntmps234 rfl rfl hw ?_
 unfold rqV
 repeat'(first|((apply Yb Yph);exact za;exact rfl;exactλ_ hw=>(WY _ _ hw))|refine zgb ?_|(refine zgh ?_;intro _)|fail)
 apply Yf H
 ·exact zk
 apply Yd;exact rfl;exact rfl
 exact⟨rfl,rfl⟩
theorem YlA{a b:Int}:cmpI a b<0↔a<b:=by
 unfold cmpI
 omega
def Yom(l:List RqM):Prop:=∀(i j:Nat) (x y:RqM),i<j->l[i]? =some x->l[j]? =some y->x.f.1<y.f.1
theorem YgS(l:List RqM)(c:RqM)(ho:Yom l)(hlen:l.length<=1000000000)(hr:Rd B w0 H A (l.flatMap rqF))(hw:St B w0 H w):
 CX B w0 233 [.slice A l.length cap,rqV c,.func (.func 234) #[] #[]] w λv K=>
  ∃b,v=.tuple #[.int .i64 (posQ (l.map RqM.rq) c.f.1:Nat),.bool b]/\K=H:=by
 refine Ya Tryz.func233 Tryz.ntmps233 rfl rfl hw ?_
 (apply Xc;apply YW;apply YR;exact rfl;exact rfl;intro g)
 refine zX7 ?_
 have hr:=hr.cons (X:=blk g (.cells (rqF c).toArray 93 (0,0)))
 refine Yci (λ(lo hi:Nat)=>[(9,.int .i64 lo),(10,.int .i64 hi),(8,.int .i64 l.length),(0,.slice A l.length cap),(2,.func (.func 234) #[] #[]),(4,.pointer (some ⟨g,0,none⟩))]) (λ_ _=>blk g (.cells (rqF c).toArray 93 (0,0))::H)
  (λlo hi=>lo<=hi/\hi<=l.length/\(∀i x,i<lo->l[i]? =some x->x.f.1<c.f.1)/\(∀i x,hi<=i->l[i]? =some x->¬x.f.1<c.f.1)) (λlo hi=>hi-lo) 0 l.length ⟨by omega,by omega,λj x hj=>by omega,λj x h1 h2=>by simp_all⟩ ?_ (λw hw=>hw) ?_
 ·exact zc1
 rintro lo hi ⟨h1,h2,h3,h4⟩ K hK
 by_cases hlt:lo<hi
 ·obtain⟨b,hb⟩:∃b,l[(((lo:Int)+hi)/2).toNat]? =some b:=⟨_,Ta (by omega)⟩
  have hm:(((lo:Int)+hi)/2).toNat=(lo+hi)/2:=by omega
  have hb2:l[(lo+hi)/2]? =some b:=by grind
  repeat'(first|((apply Jq (cs:=[]));exact rfl;exact YsV;exact za;exact rfl;exactλ_ hw=>(Yfn b c hw))|(apply zg28;refine zs84 ?_)|refine zgd ?_|(refine zge ?_ ?_<;>intro _<;>try exact zo)|fail)
  ·rename_i hc
   rw[YlA]at hc
   apply hK ((lo+hi)/2+1) hi
   ·refine⟨by omega,by omega,λj x hj hx=>?_,h4⟩
    by_cases e:j=(lo+hi)/2
    ·exact YqR
    ·exact Int.lt_trans (ho j _ x b (by omega) hx hb2) hc
   ·omega
   ·exact zc1
   exact zc21
  ·rename_i hc
   have hc:¬b.f.1<c.f.1:=λh=>by have:=YlA.2 h;omega
   apply hK lo ((lo+hi)/2)
   ·refine⟨by omega,by omega,h3,λj x hj hx=>?_⟩
    by_cases e:j=(lo+hi)/2
    ·exact YqR
    ·exactλh=>hc (Int.lt_trans (ho _ j b x (by omega) hb2 hx) h)
   ·omega
   ·exact zc1
   exact zc21
 ·obtain rfl:lo=hi:=by omega
  have hpe:posQ (l.map RqM.rq) c.f.1=lo:=Yjg (by rw[To];exact h2) (λi x hi hx=>by
   rw[TN]at hx
   cases hl:l[i]? with
   |none=>rw[hl]at hx;cases hx
   |some y=>rw[hl]at hx;cases hx;exact h3 i y hi hl) λx hx=>by
   rw[TN]at hx
   cases hl:l[lo]? with
   |none=>rw[hl]at hx;cases hx
   |some y=>rw[hl]at hx;cases hx;exact h4 lo y (TK _) hl
  rw[hpe]
  by_cases hl:lo<l.length
  ·obtain⟨b,hb⟩:∃b,l[lo]? =some b:=⟨_,Ta hl⟩
   repeat'(first|((apply Jq (cs:=[]));exact rfl;exact YsV;exact za;exact rfl;exactλ_ hw=>(Yfn b c hw))|(apply zg28;refine zs84 ?_)|refine zgd ?_|(refine zgf ?_ ?_<;>intro _<;>try exact zo)|fail)
   all_goals(apply Yi;apply YH;(iterate 3 exact rfl);exact⟨_,rfl,rfl⟩)
  ·refine zX17 ?_<;>intros
   apply Yi;exact YqN
theorem YeC(q:List RqM)(x:RqM)(ho:Yom q)(hlen:q.length<=1000)(hr:Rd B w0 H A (q.flatMap rqF))(hw:St B w0 H w):
 CX B w0 153 [.slice A q.length cap,rqV x] w λv K=>∃A' cap',v=.slice A' (q.length+1) cap'/\
  K=rqs A' cap' (q.take (posQ (q.map RqM.rq) x.f.1)++x::q.drop (posQ (q.map RqM.rq) x.f.1))::H:=by
 refine Ya Tryz.func153 Tryz.ntmps153 rfl rfl hw ?_
 have hp:posQ (q.map RqM.rq) x.f.1<=q.length:=zc95
 generalize hP:posQ (q.map RqM.rq) x.f.1=k at hp
 have p1:=λ{H':List HP}{w:World}(hr:Rd B w0 H' A (q.flatMap rqF)) (hw:St B w0 H' w)=>YgS q x ho (by omega) (cap:=cap) hr hw
 rw[hP]at p1
 have p2:=λ{A':Option Addr}{cap' gv:Nat}{H':List HP}{w:World}(hw:St B w0 (rqs A' cap' q::rqA gv x::H') w)=>Ygs q k x hp hlen hw
 rw[YaP q x k hp]at p2
 have hr:Rd B w0 [many H] A (q.flatMap rqF):=hr.mono λw hw=>hw.perm (.openT H)
 have hrx:∀{L:List HP},(∀w,St B w0 L w->St B w0 [many H] w)->Rd B w0 L A (q.flatMap rqF):=λh=>hr.mono h
 refine Y6 [many H] (λw hw=>hw.perm (.closeT H)) ?_
 unfold rqV at p1⊢
 (apply Xc;apply YW;apply YR;exact rfl;exact rfl;intro g)
 refine zX7 ?_
 apply Yg _ Ywi
 exact za
 exact rfl
 exactλ_ hw=>(p1 hr.cons (hw))
 rintro _ _ ⟨b,rfl,rfl⟩
 refine zX10 ?_
 apply Qz (.p1 0 (.p1 2 (.p1 3 (.d2 1 (.d1 4 (.d1 5 (.d1 6 .done))) 4 (.d1 1 (.d1 5 (.d1 6 .done))))))) [] [true,true]
 kernel_rfl
 kernel_rfl
 exact zy
 exact rfl
 repeat'(first|((apply Yg _ en69);exact za;exact rfl;exactλ_ hw=>WX q (by omega) (hrx zk) hw;rintro _ _ ⟨A1,cap1,rfl,rfl⟩)|(apply VN T T2;(iterate 7 exact rfl);intro gv)|(apply XD [rqs A1 cap1 q,rqA gv x] _ en68;exact za;try exact zl;exact zp;exact rfl;exactλ_ hw=>p2 hw;rintro _ _ ⟨A2,cap2,rfl,rfl⟩)|(apply Ylu;(simp only[nthO];rfl))|(apply Yls;(simp only[nthO];rfl);exact zp)|(apply Ylt;(simp only[nthO];rfl);(simp only[nthO];rfl);exact zp)|(apply QF;try exact zl)|refine zgd ?_|fail)
 all_goals(
  apply Yf (rqs A2 cap2 (q.take k++x::q.drop k)::H)
  ·intro w hw
   have h5:St B w0 (rqs A2 cap2 (q.take k++x::q.drop k)::[many H]) w:=by
    revert w
    exact zk
   exact h5.perm (.cons _ (.openT H))
  apply Yd;exact rfl;exact rfl
  exact⟨A2,cap2,rfl,rfl⟩)
variable {A:Option Addr}{cap B:Nat}{w0 w:World}{H:List HP}
theorem Ydp(p:RqM->Bool)(l:List RqM)(f:Nat)(cs:List Value)(hen:∀xs w,(callFunc f xs).run Tryz.prog w=.ok (.enter f xs) w)(hlen:l.length<=100000000)(hr:Rd B w0 H A (l.flatMap rqF))
 (hp:∀a∈l,∀w,St B w0 H w->Calls Tryz.prog f ([rqV a]++cs).toArray w (Post B w0 λv K=>v=.bool (p a)/\K=H)) (hw:St B w0 H w):
 CX B w0 75 [.slice A l.length cap,.func (.func f) #[] cs.toArray] w λv K=>v=.int .i64 (Ym p l 0)/\K=H:=by
 refine Ya Tryz.func75 Tryz.ntmps75 rfl rfl hw ?_
 refine zX7 ?_
 refine Ye (λ(k:Nat)=>[(8,.int .i64 k),(7,.int .i64 l.length),(0,.slice A l.length cap),(1,.func (.func f) #[] cs.toArray)]) (λ_=>H) (λk=>k<=l.length/\Ym p l 0=Ym p (l.drop k) k) (λk=>l.length-k) 0 ⟨Td _,by simp⟩ ?_ (λw hw=>hw) ?_
 ·exact zc1
 rintro k ⟨hk,hi⟩ K hK
 by_cases hlt:k<l.length
 ·obtain⟨a,ha⟩:∃a,l[k]? =some a:=⟨_,Ta hlt⟩
  have hpa:=hp a (Tc ha)
  rw[Z9 p l ha]at hi
  refine zX9 ?_<;>intros
  cases hpv:p a
  ·rw[hpv]at hi
   refine zX10 ?_
   apply hK (k+1)
   ·grind
   ·omega
   ·exact zc1
   exact zc21
  exact zc11
 exact zc6
theorem W4(p:RqM->Bool)(l:List RqM)(f:Nat)(cs:List Value)(hen:∀xs w,(callFunc f xs).run Tryz.prog w=.ok (.enter f xs) w)(hlen:l.length<=100000000)(hr:Rd B w0 H A (l.flatMap rqF))
 (hp:∀a∈l,∀w,St B w0 H w->Calls Tryz.prog f ([rqV a]++cs).toArray w (Post B w0 λv K=>v=.bool (p a)/\K=H)) (hw:St B w0 H w):
 CX B w0 150 [.slice A l.length cap,.func (.func f) #[] cs.toArray] w λv K=>v=.bool (l.any p)/\K=H:=by
 refine Ya Tryz.func150 Tryz.ntmps150 rfl rfl hw ?_
 rw[<-Ydm]
 refine zX2 ?_
 apply Yb en75
 exact za
 exact rfl
 exactλ_ hw=>(Ydp p l f cs hen hlen hr hp hw)
 by_cases h0:0<=Ym p l 0
 ·exact zc16
 ·exact zc16
theorem Yqu(n:Net)(l:List Flw):(schE n l ZC).2≠0:=by
 have h:XC n l ZC≠0:=by
  unfold XC
  split
  ·decide
  split
  ·decide
  rw[Tn (by decide)];decide
 simp_all [schE]
def Ygj(n:Net)(q:List Rqs):Bool:=decide (¬(YJ n q ZC).2.2=1\/0<=(YJ n q ZC).2.1)
variable {n:Net}{q:List Rqs}
theorem Yfg(h:Yl n=0):Ygj n q=decide ((rqsE n q).2≠0):=by
 unfold Ygj YJ
 by_cases h1:(rqsE n q).2=0
 ·rw[Tj (λe=>e h1),Tn (Yqu n _)]
  simp_all
 ·have h3:decide ((rqsE n q).2≠0)=true:=Tf h1
  rw[Tn h1,h3]
  refine Tf ?_
  have hff:∀{f:Nat->Int}{r:Nat},(YD f r 0).2≠0->0<=(YD f r 0).1:=λ{f r} hne=>by
   have aux:∀{r i:Nat},(YD f r i).2≠0->0<=(YD f r i).1:=by
    intro r
    induction r with
    |zero=>intro i h;exact absurd rfl h
    |succ r ih=>
     intro i h
     unfold YD at h⊢
     split
     ·split at h
      ·exact ih h
      ·contradiction
     ·omega
   exact aux hne
  unfold rqsE at h1⊢
  rw[Tj (λe=>e h)]at h1⊢
  by_cases h2:(YB n.nodes (Y8 q)).2=0
  ·rw[Tj (λe=>e h2)]at h1⊢
   exact .inr (hff h1)
  ·rw[Tn h2]at h1⊢
   unfold YB at h2⊢
   split at h2
   ·rw[Tn (by assumption)];decide
   rw[Tj (by assumption)]
   split at h2
   ·rw[Tn (by assumption)];decide
   rw[Tj (by assumption)]
   exact .inr (hff h2)
theorem Ybn(n:NetM)(q:List RqM)(ht:TabsB B w0)(hin:n.In B w0 H)(hq:QIn B w0 H A q)(hw:St B w0 H w):
 CX B w0 152 [n.val,.slice A q.length cap] w λv K=>v=.bool (Ygj n.net (q.map RqM.rq))/\K=H:=by
 refine Ya Tryz.func152 Tryz.ntmps152 rfl rfl hw ?_
 have p1:=λ{H':List HP}{w:World}(hin:n.In B w0 H') (hq:QIn B w0 H' A q) (hw:St B w0 H' w)=>UY n q ⟨0,0,none,0,[]⟩ (cap:=cap) ht hin hq (.nil) (by decide) hw
 unfold OutC NetM.val SchM.val at p1
 have hz:(⟨0,0,none,0,[]⟩:SchM).sch=ZC:=rfl
 rw[hz]at p1
 unfold Ygj
 obtain⟨⟨RC,ri,re⟩,hR⟩:∃R,YJ n.net (q.map RqM.rq) ZC=R:=⟨_,rfl⟩
 rw[hR]at p1⊢
 dsimp only at p1⊢
 unfold NetM.val
 refine zX26 ?_<;>intros
 apply Yg _ en90
 exact za
 exact rfl
 exactλ_ hw=>(p1 hin.cons hq.cons (hw))
 rintro _ _ ⟨A2,cap2,C,rfl,hC,hCl,rfl⟩
 by_cases h0:re=1
 ·by_cases h1:0<=ri
  ·rw[Tf (.inr h1)]
   refine Yaw ?_<;>intros
   all_goals(apply Yf H;((intro w hw;refine hw.perm ?_;focus exact zc4));exact YqM)
  ·rw[Ti (by rintro(h|h);exact h h0;exact h1 h)]
   refine Yaw ?_<;>intros
   all_goals(apply Yf H;((intro w hw;refine hw.perm ?_;focus exact zc4));exact YqM)
 ·rw[Tf (.inl h0)]
  refine zX50 ?_<;>intros
  all_goals(apply Yf H;((intro w hw;refine hw.perm ?_;focus exact zc4));exact YqM)
theorem YmR(y x:RqM)(g:Nat)(hm:rqA g x∈H)(hw:St B w0 H w):
 CX B w0 151 [rqV y,.pointer (some ⟨g,0,none⟩)] w λv K=>v=.bool (decide (y.f.1=x.f.1))/\K=H:=by
 refine Ya Tryz.func151 Tryz.ntmps151 rfl rfl hw ?_
 unfold rqV
 by_cases h:y.f.1=x.f.1
 ·rw[Tf h]
  refine zX45 ?_<;>intros
  all_goals(apply Yf H;((intro w hw;refine hw.perm ?_;focus exact zc4));exact zc10)
 ·rw[Ti h]
  refine zX45 ?_<;>intros
  all_goals(apply Yf H;((intro w hw;refine hw.perm ?_;focus exact zc4));exact zc10)
theorem YmS{s:Sch}{x:Rqs}(hc:(YJ n q s).2.2=0)(hx:(rqsE n (insQ q x)).2=0)(hm:s.len.tmod x.1.2.2.2.1=0):
 Sm n (Y8 (insQ q x)) s/\Xi n.nodes x.1=0/\(∀r∈x.2,(∀y∈Yp n r,LkOk n (Y8 (insQ q x)) y.1 y.2.1 x.1.1)/\(∀i,i+1<r.length->0<=Yq n (r.getD i 0) (r.getD (i+1) 0))/\1<=r.length/\r.length<=9):=by
 obtain⟨h1,h2⟩:=Z7.1 hc
 have hsem:=Vb.1 (Jh.1 h1)
 obtain⟨-,hfl,hrt⟩:=UA hx
 have hxm:x∈insQ q x:=by simp[Vi]
 have hrx:=hrt x hxm
 have hfx:Xi n.nodes x.1=0:=VH hfl (TD.2 ⟨x,hxm,rfl⟩)
 obtain⟨hib,-⟩:=ZS hfx
 have hsm:Sm n (Y8 (insQ q x)) s:=by
  have h0:=hsem.sm
  refine⟨h0.ck,hfl,λf hf=>?_,h0.sized,h0.formed,h0.ord,λc hcm=>⟨(h0.good c hcm).1,?_⟩,h0.once,h0.clear⟩
  ·obtain⟨y,hy,rfl⟩:=TD.1 hf
   rcases Vi.1 hy with rfl|hy
   ·exact hm
   ·exact h0.per _ (TD.2 ⟨y,hy,rfl⟩)
  ·obtain⟨f,hf,e⟩:=VG.1 (h0.good c hcm).2
   obtain⟨y,hy,rfl⟩:=TD.1 hf
   exact VG.2 ⟨y.1,TD.2 ⟨y,Vi.2 (.inr hy),rfl⟩,e⟩
 have hfi:0<=ZB (Y8 (insQ q x)) x.1.1:=VG.2 ⟨x.1,TD.2 ⟨x,hxm,rfl⟩,rfl⟩
 refine⟨hsm,hfx,λr hr=>?_⟩
 have hck:=J2 hrx r hr
 obtain⟨-,hlen,hg⟩:=JV hck
 refine⟨λy hy=>⟨Ydx hck y hy,hfi,hib⟩,λi hi=>?_,by omega,hlen.2⟩
 have:=hg i hi
 unfold YX at this
 rw[Tq]at this
 exact TT this.1
theorem QIn.insert{A':Option Addr}{cap':Nat}{q:List RqM}{x:RqM}(h:QIn B w0 H A q)(hx:x.In B w0 H)(hl:q.length<=1000)(k:Nat)(hk:k<=q.length):QIn B w0 (rqs A' cap' (q.take k++x::q.drop k)::H) A' (q.take k++x::q.drop k):=
 ⟨.sl TG,λy hy=>by
  rcases Rl.1 hy with hy|hy
  ·exact(h.x y (RY hy)).cons
  ·rcases RA.1 hy with rfl|hy
   ·exact hx.cons
   ·exact(h.x y (List.mem_of_mem_drop hy)).cons,by grind⟩
theorem YrN(q:List RqM)(x:RqM):(q.take (posQ (q.map RqM.rq) x.f.1)++x::q.drop (posQ (q.map RqM.rq) x.f.1)).map RqM.rq=insQ (q.map RqM.rq) x.rq:=by
 rw[Rf,Rx,NG,NA];rfl
theorem Yu7{q:List RqM}(h:(rqsE n (q.map RqM.rq)).2=0):Yom q:=λi j x y hij hi hj=>by
 have hl:=(Tu.1 hj).1
 have:=Yqr h hij (by simp_all)
 unfold rqAt at this
 rw[Tz,Tz,TN,TN,hi,hj]at this
 exact this
theorem YjA(n:NetM)(q:List RqM)(s:SchM)(x:RqM)(h24:s.len<=24){A:Option Addr}{cap B:Nat}{w0:World}{H:List HP}{w:World}(ht:TabsB B w0)(hin:n.In B w0 H)(hq:QIn B w0 H A q)(hrs:Rd B w0 H s.A (s.cells.flatMap celF))(hsl:s.cells.length<=1000000000000)(hx:x.In B w0 H)(hw:St B w0 H w):
 CX B w0 66 [n.val,.slice A q.length cap,s.val,rqV x] w (OutS H (JT n.net (q.map RqM.rq) s.sch x.rq)):=by
 refine Ya Tryz.func66 Tryz.ntmps66 rfl rfl hw ?_
 have p1:=λ{H':List HP}{w:World}(hin:n.In B w0 H') (hq:QIn B w0 H' A q) (hrs:Rd B w0 H' s.A (s.cells.flatMap celF)) (hw:St B w0 H' w)=>YbE n q s (cap:=cap) ht hin hq hrs hsl hw
 have pf:=λ{A':Option Addr}{cap':Nat}{q':List RqM}{H':List HP}{w:World}(hin:n.In B w0 H') (hq:QIn B w0 H' A' q') (hw:St B w0 H' w)=>Ybn n q' (cap:=cap') ht hin hq hw
 have pp:=λ(hsm:Sm n.net (Y8 (insQ (q.map RqM.rq) x.rq)) s.sch) (hrow:∀r∈x.rows,Yoq n (Y8 (insQ (q.map RqM.rq) x.rq)) x.f.1 r) (hf:Xi n.net.nodes x.f=0) {H':List HP}{w:World}(hin:n.In B w0 H') (hr:Rd B w0 H' s.A (s.cells.flatMap celF)) (hx:x.In B w0 H') (hw:St B w0 H' w)=>YiK n _ s x hsm h24 hrow hf hin hr hx hw
 have hn1:n.val=.agg #[.int .i64 n.nodes,.slice n.pA n.rows.length n.pcap,.int .i64 n.noise,.int .i64 n.thr,.slice n.lA n.links.length n.lcap,.slice n.mA n.margin.length n.mcap]:=rfl
 unfold NetM.val SchM.val rqV at*
 clear hn1
 have hlenS:s.sch.len=s.len:=rfl
 have hxf:x.rq.1=x.f:=rfl
 have hop:∀w,St B w0 [many H] w->St B w0 H w:=λw hw=>hw.perm (.openT H)
 have hin:=hin.mono hop
 have hq:=hq.mono hop
 have hrs:=hrs.mono hop
 have hx:=hx.mono hop
 refine Y6 [many H] (λw hw=>hw.perm (.closeT H)) ?_
 refine zX73 ?_<;>intros
 rename_i g4 g6 g7 g8
 apply Yb Ysy
 exact za
 exact rfl
 exactλ_ hw=>(p1 hin.cons.cons.cons.cons hq.cons.cons.cons.cons hrs.cons.cons.cons.cons hw)
 by_cases hc:(YJ n.net (q.map RqM.rq) s.sch).2.2=0
 rotate_left
 ·rw[Ti hc]
  refine zX3 ?_
  apply Yy T (H2:=cels none 0 []::H);(iterate 3 exact rfl);(focus exact zc2);exact rfl;exact rfl
  ·intro w hw
   have h5:St B w0 [many H] w:=by
    revert w
    exact zc0
   exact zc70
  exact Ur 1 (by rw[JT,Tn hc]) rfl
 rw[Tf hc]
 have hrq:(rqsE n.net (q.map RqM.rq)).2=0:=Rw.1 λh1=>by
  unfold YJ at hc;rw[Tn h1]at hc;exact h1 hc
 have hck:=(UA hrq).1
 have hql:q.length<=16:=by
  have h1:=(UA hrq).2.1
  unfold YB at h1
  split at h1
  ·cases h1
  split at h1
  ·cases h1
  rename_i h2
  unfold Y8 at h2
  rw[To,To]at h2
  omega
 have hord:=Yu7 hrq
 repeat'(first|(apply zg29;(apply Ys;exact za;exact rfl))|refine zgc ?_|fail)
 apply Yb YsC
 exact za
 exact rfl
 exactλ_ hw=>(W4 (λy=>decide (y.f.1=x.f.1)) q 151 [.pointer (some ⟨g7,0,none⟩)] YvU (by omega) hq.rd.cons.cons.cons.cons (λa _ w hw=>YmR a x g7 (by(focus exact zc2)) hw) hw)
 have hhas:(q.any λy=>decide (y.f.1=x.f.1))=hasQ (q.map RqM.rq) x.f.1:=by
  unfold hasQ;rw[List.any_map];rfl
 rw[hhas]
 cases hh:hasQ (q.map RqM.rq) x.f.1 with
 |true=>
  refine zX3 ?_
  apply Yy T (H2:=cels none 0 []::H);(iterate 3 exact rfl);(focus exact zc2);exact rfl;exact rfl
  ·intro w hw
   have h5:St B w0 [many H] w:=by
    revert w
    exact zc0
   exact zc70
  exact Ur 6 (by rw[JT,Tj (λe=>e hc),Tn (show hasQ (q.map RqM.rq) x.rq.1.1=true from hh)]) rfl
 |false=>
 have hadm:JT n.net (q.map RqM.rq) s.sch x.rq=(if(rqsE n.net (insQ (q.map RqM.rq) x.rq)).2≠0 then(ZC,1)
  else if s.sch.len.tmod x.rq.1.2.2.2.1≠0 then(ZC,11)else match JG n.net x.rq.1 x.rq.2 s.sch with
   |none=>(ZC,18)
   |some t=>if 512<t.cells.length then(ZC,8)else(t,0):Sch×Int):=by
  have hh2:¬hasQ (q.map RqM.rq) x.rq.1.1=true:=λh=>by rw[show hasQ (q.map RqM.rq) x.rq.1.1=false from hh]at h;cases h
  unfold JT
  rw[Tj (λe=>e hc),Tj hh2]
  rfl
 rw[hadm]
 have pi:=λ{H':List HP}{w:World}(hr:Rd B w0 H' A (q.flatMap rqF)) (hw:St B w0 H' w)=>YeC q x hord (by omega) (cap:=cap) hr hw
 have hkl:posQ (q.map RqM.rq) x.f.1<=q.length:=zc95
 have hmap:=YrN q x
 have hins:=YaP q x _ hkl
 generalize posQ (q.map RqM.rq) x.f.1=k at*
 unfold rqV at pi
 refine zX2 ?_
 apply YA [0,1,2,3,4,5] [] [true,true,true,true,true]
 kernel_rfl
 kernel_rfl
 exact zy
 (simp only[Yc,nthO];rfl)
 exact rfl
 refine zX3 ?_
 apply Yg _ YvV
 exact za
 exact rfl
 exactλ_ hw=>(pi hq.rd.cons.cons.cons.cons (hw))
 rintro _ _ ⟨A1,cap1,rfl,rfl⟩
 rw[<-hins]
 have hqi:=hq.insert (A':=A1) (cap':=cap1) hx (by omega) k hkl
 refine zX16 ?_
 apply Yb Ypi
 exact za
 exact rfl
 exactλ_ hw=>(pf (hin.mono zc0) (hqi.mono zc0) hw)
 rw[hmap,Yfg hck]
 by_cases hrx:(rqsE n.net (insQ (q.map RqM.rq) x.rq)).2=0
 rotate_left
 ·rw[Tf hrx]
  refine zX16 ?_
  apply Yy T (H2:=cels none 0 []::H);(iterate 3 exact rfl);(focus exact zc2);exact rfl;exact rfl
  ·intro w hw
   have h5:St B w0 [many H] w:=by
    revert w
    exact zc0
   exact zc70
  exact Ur 1 (by rw[Tn hrx]) rfl
 have hdf:decide ((rqsE n.net (insQ (q.map RqM.rq) x.rq)).2≠0)=false:=Ti (λe=>e hrx)
 rw[hdf,Tj (λe=>e hrx)]
 have hxm:x.rq∈insQ (q.map RqM.rq) x.rq:=Vi.2 (.inl rfl)
 have hfx:Xi n.net.nodes x.f=0:=VH (UA hrx).2.1 (TD.2 ⟨x.rq,hxm,rfl⟩)
 obtain⟨-,hper,hph,-,hd⟩:=ZS hfx
 have hl1:1<=s.len:=by
  have h0:=(Vb.1 (Jh.1 (Z7.1 hc).1)).frm.sized
  unfold Zw at h0
  exact(TT h0).1
 have hmm:s.len.tmod x.f.2.2.2.1=s.len%x.f.2.2.2.1:=Rh (by omega)
 by_cases hm:s.len%x.f.2.2.2.1=0
 rotate_left
 ·rw[Tn (show s.sch.len.tmod x.rq.1.2.2.2.1≠0 fromλe=>hm (hmm.symm.trans e))]
  refine zX95 ?_<;>intros
  apply Yy T (H2:=cels none 0 []::H);(iterate 3 exact rfl);(focus exact zc2);exact rfl;exact rfl
  ·intro w hw
   have h5:St B w0 [many H] w:=by
    revert w
    exact zc0
   exact zc70
  exact Ur 11 rfl rfl
 rw[Tj (show¬s.sch.len.tmod x.rq.1.2.2.2.1≠0 fromλe=>e (hmm.trans hm))]
 obtain⟨hsm,-,hrd⟩:=YmS hc hrx (hmm.trans hm)
 have hrow:∀r∈x.rows,Yoq n (Y8 (insQ (q.map RqM.rq) x.rq)) x.f.1 r:=λr hr=>by
  obtain⟨h1,h2,h3⟩:=hrd r.xs (TD.2 ⟨r,hr,rfl⟩)
  exact⟨h1,h2,h3⟩
 have pl:=λ{H':List HP}{w:World}=>@pp hsm hrow hfx H' w
 clear pp
 apply Zh [many H,netA g4 n,schA g6 s,rqA g7 x,blk g8 (.cells (Value.agg #[.int .i64 0,.int .i64 0,.slice none 0 0]).cells 33 (0,0))]
 ·exact zc0
 refine zX95 ?_<;>intros
 apply Yg _ YvW
 exact za
 exact rfl
 exactλ_ hw=>(pl (hin.mono zc0) (hrs.mono zc0) (hx.mono zc0) (hw))
 rintro _ _ ⟨s',ok,P,rfl,ho1,ho2,rfl⟩
 cases ok with
 |false=>
  rw[show JG n.net x.rq.1 x.rq.2 s.sch=none from ho2 rfl]
  refine zX26 ?_<;>intros
  apply Yy T (H2:=cels none 0 []::H);(iterate 3 exact rfl);(focus exact zc2);exact rfl;exact rfl
  ·intro w hw
   have h5:St B w0 [many H] w:=by
    revert w
    exact zc0
   exact zc70
  exact Ur 18 rfl rfl
 |true=>
 obtain⟨h1,h2⟩:=ho1 rfl
 rw[show JG n.net x.rq.1 x.rq.2 s.sch=some s'.sch from h1]
 have e3:s'.sch.cells=s'.cells:=rfl
 dsimp only
 rw[e3]
 by_cases h512:512<s'.cells.length
 ·rw[Tn h512]
  refine zX46 ?_<;>intros
  apply Yy T (H2:=cels none 0 []::H);(iterate 3 exact rfl);(focus exact zc2);exact rfl;exact rfl
  ·intro w hw
   have h5:St B w0 [many H] w:=by
    revert w
    exact zc0
   exact zc70
  exact Ur 8 rfl rfl
 rw[Tj h512]
 refine YfO ?_<;>intros
 apply Yg _ Yfa
 exact za
 exact rfl
 exactλ_ hw=>(Jv s'.cells (by omega) (h2.mono zc0) (hw))
 rintro _ _ ⟨A2,c2,rfl,rfl⟩
 refine zX3 ?_
 apply Yy T (H2:=cels A2 c2 s'.cells::H);(iterate 3 exact rfl);(focus exact zc2);exact rfl;exact rfl
 ·intro w hw
  have h5:St B w0 (cels A2 c2 s'.cells::[many H]) w:=by
   revert w
   exact zc0
  exact zc69
 exact⟨A2,c2,rfl,rfl⟩
def hopC(len a:Int)(cs' cs:List Cel)(f k:Nat):List Int:=(Xs len a cs' k++hopP len cs f (k-(Xs len a cs' k).length) (a+1)).map Prod.snd
theorem YpF(len a:Int)(cs:List Cel)(f k:Nat):hopC len a cs cs f k=(hopP len cs (f+1) k a).map Prod.snd:=rfl
theorem YpG(len a:Int)(cs:List Cel)(f k:Nat):hopC len a [] cs f k=(hopP len cs f k (a+1)).map Prod.snd:=by simp[hopC,Xs]
variable {a:Int}{c:Cel}{cs' cs:List Cel}{f k B:Nat}
theorem YpH{len:Int}(h:c.1=a.tmod len)(hk:k≠0):hopC len a (c::cs') cs f k=a::hopC len a cs' cs f (k-1):=by
 have h1:Xs len a (c::cs') k=(c,a)::Xs len a cs' (k-1):=by rw[Xs,Tn ⟨h,hk⟩]
 grind [hopC]
theorem YrH{len:Int}(h:¬(c.1=a.tmod len/\k≠0)):hopC len a (c::cs') cs f k=hopC len a cs' cs f k:=by
 unfold hopC
 rw[Xs,Tj h]
structure HpM where
 i:Nat
 A:Option Addr
 cap:Nat
 out:List Int
variable {w0 w:World}{H:List HP}
theorem YpI(s:SchM)(f:Flw)(fr dn nd:Int)(need:Nat)(a last:Int)(hnd:nd=(need:Nat))(hn:need<=1000)(hlen:1<=s.len/\s.len<=1000000)(ha:0<=a/\a<=1000000)(hla:a<=last+1/\last<=1000000)(hsl:s.cells.length<=1000000000000)(hrs:Rd B w0 H s.A (s.cells.flatMap celF))(hw:St B w0 H w):
 CX B w0 310 [s.val,flwV f,.int .i64 fr,.int .i64 dn,.int .i64 nd,.int .i64 a,.int .i64 last] w λv K=>∃A cap,v=.tuple #[.slice A ((hopP s.len (s.cells.filter (onP f.1 fr dn)) (last+1-a).toNat need a).map Prod.snd).length cap,.bool (decide (((hopP s.len (s.cells.filter (onP f.1 fr dn)) (last+1-a).toNat need a).map Prod.snd).length=need))]/\K=nrs A cap ((hopP s.len (s.cells.filter (onP f.1 fr dn)) (last+1-a).toNat need a).map Prod.snd)::H:=by
 refine Ya Tryz.func310 Tryz.ntmps310 rfl rfl hw ?_
 subst hnd
 obtain⟨cs,hcs⟩:∃cs,s.cells.filter (onP f.1 fr dn)=cs:=⟨_,rfl⟩
 obtain⟨F,hF⟩:∃F,(last+1-a).toNat=F:=⟨_,rfl⟩
 rw[hcs,hF]
 obtain⟨L,hL⟩:∃L,(hopP s.len cs F need a).map Prod.snd=L:=⟨_,rfl⟩
 rw[hL]
 have hLn:L.length<=need:=by rw[<-hL,To];exact OK _ _ _ _ _
 unfold SchM.val flwV
 repeat'(first|(apply YK T;exact rfl;exact rfl;intro g2)|refine zgb ?_|(refine zgh ?_;intro _)|fail)
 rename_i g7 g8
 refine Ye (λz:HpM=>[(17,.int .i64 (a+(z.i:Nat))),(16,.slice z.A z.out.length z.cap),(7,.pointer (some ⟨g7,0,none⟩)),(8,.pointer (some ⟨g8,0,none⟩)),(2,.int .i64 fr),(3,.int .i64 dn),(4,.int .i64 (need:Nat)),(6,.int .i64 last)]) (λz=>nrs z.A z.cap z.out::flwB g8 f::schA g7 s::H)
  (λz=>z.i<=F/\z.out.length<=need/\z.out++(hopP s.len cs (F-z.i) (need-z.out.length) (a+(z.i:Nat))).map Prod.snd=L) (λz=>F-z.i) ⟨0,some ⟨g2,0,none⟩,0,[]⟩ ⟨Td _,Td _,by simpa using hL⟩ ?_ (λw hw=>hw) ?_
 ·dsimp only
  exact zc1
 rintro⟨i,A,cap,out⟩ ⟨hi,hol,hout⟩ K hK
 dsimp only at hi hol hout⊢
 by_cases hgo:i<F/\out.length<need
 rotate_left
 ·have hoL:out=L:=by
   rw[<-hout]
   rcases Nh i F with h1|h1
   ·rw[show need-out.length=0 by omega,Ydj];simp
   ·rw[show F-i=0 by omega];simp[hopP]
  subst hoL
  clear hK
  by_cases hnd:out.length=need
  ·rw[Tf hnd]
   by_cases hiF:i<F
   all_goals(
    repeat'(first|refine zgd ?_|(refine zgf ?_ ?_<;>intro _<;>try exact zo)|fail)
    apply Yf (nrs A cap out::H)
    ·exact zk
    apply YH;(iterate 3 exact rfl)
    exact⟨A,cap,rfl,rfl⟩)
  ·rw[Ti hnd]
   have hiF:¬i<F:=λh=>hgo ⟨h,by omega⟩
   refine zX25 ?_<;>intros
   apply Yf (nrs A cap out::H)
   ·exact zc0
   exact zc99
 obtain⟨hiF,hon⟩:=hgo
 refine Yaw ?_<;>intros
 refine Ye (λy:HpM=>[(18,.int .i64 (y.i:Nat)),(17,.int .i64 (a+(i:Nat))),(16,.slice y.A y.out.length y.cap),(7,.pointer (some ⟨g7,0,none⟩)),(8,.pointer (some ⟨g8,0,none⟩)),(2,.int .i64 fr),(3,.int .i64 dn),(4,.int .i64 (need:Nat)),(6,.int .i64 last)]) (λy=>nrs y.A y.cap y.out::flwB g8 f::schA g7 s::H)
  (λy=>y.i<=s.cells.length/\y.out.length<=need/\y.out++hopC s.len (a+(i:Nat)) ((s.cells.drop y.i).filter (onP f.1 fr dn)) cs (F-(i+1)) (need-y.out.length)=L) (λy=>s.cells.length-y.i) ⟨0,A,cap,out⟩ ⟨Td _,hol,?_⟩ ?_ (λw hw=>hw) ?_
 ·show out++hopC s.len (a+(i:Nat)) ((s.cells.drop 0).filter (onP f.1 fr dn)) cs (F-(i+1)) (need-out.length)=L
  rw[List.drop_zero,hcs,YpF,show F-(i+1)+1=F-i by omega]
  exact hout
 ·exact zc1
 clear hout hol hon
 rintro⟨j,A,cap,out⟩ ⟨hj,hol,hout⟩ K2 hK2
 dsimp only at hj hol hout⊢
 have hrs2:Rd B w0 (nrs A cap out::flwB g8 f::schA g7 s::H) s.A (s.cells.flatMap celF):=hrs.cons.cons.cons
 by_cases hlt:j<s.cells.length
 rotate_left
 ·obtain rfl:j=s.cells.length:=by omega
  rw[SB,List.filter_nil,YpG]at hout
  clear hK2
  refine zX0 ?_<;>intros
  apply hK ⟨i+1,A,cap,out⟩
  ·refine⟨by show i+1<=F;omega,hol,?_⟩
   show out++(hopP s.len cs (F-(i+1)) (need-out.length) (a+((i+1:Nat):Int))).map Prod.snd=L
   rw[show a+((i+1:Nat):Int)=a+(i:Nat)+1 by omega]
   exact hout
  ·exact zc50
  ·dsimp only
   exact zc1
  ·exact zc0
 obtain⟨c,hc⟩:∃c,s.cells[j]? =some c:=⟨_,Ta hlt⟩
 have hdr:s.cells.drop j=c::s.cells.drop (j+1):=by
  obtain⟨h1,h2⟩:=Tu.1 hc
  rw[<-h2,List.getElem_cons_drop]
 rw[hdr]at hout
 clear hK
 have htm:(a+(i:Nat)).tmod s.len=(a+(i:Nat))%s.len:=Rh (by omega)
 by_cases hm:c.1=(a+(i:Nat))%s.len/\c.2.2.2.2=f.1/\c.2.2.1=fr/\c.2.2.2.1=dn/\out.length<need
 ·obtain⟨m1,m2,m3,m4,m5⟩:=hm
  have hon:onP f.1 fr dn c=true:=Tf ⟨m2,m3,m4⟩
  rw[List.filter_cons_of_pos hon,YpH (by rw[htm];exact m1) (by omega)]at hout
  refine YqJ ?_<;>intros
  rename_i A' cap'
  rw[Vl,show out.length+1=(out++[a+(i:Nat)]).length by simp]
  apply hK2 ⟨j+1,A',cap',out++[a+(i:Nat)]⟩
  ·refine⟨by exact Yjy,by show(out++[a+(i:Nat)]).length<=need;rw[Tt];show out.length+1<=need;omega,?_⟩
   show(out++[a+(i:Nat)])++hopC _ _ _ _ _ (need-(out++[a+(i:Nat)]).length)=L
   rw[TV,Tt,show need-(out.length+[a+(i:Nat)].length)=need-out.length-1 by show need-(out.length+1)=_;omega]
   exact hout
  ·exact zc50
  ·exact zc1
  ·exact zc0
 ·have hout2:out++hopC s.len (a+(i:Nat)) ((s.cells.drop (j+1)).filter (onP f.1 fr dn)) cs (F-(i+1)) (need-out.length)=L:=by
   cases hb:onP f.1 fr dn c with
   |false=>rw[List.filter_cons_of_neg (by rw[hb];decide)]at hout;exact hout
   |true=>
    have h2:XE c=f.1/\YF c=fr/\toC c=dn:=TT hb
    rw[List.filter_cons_of_pos hb,YrH (λh=>hm ⟨by rw[<-htm];exact h.1,h2.1,h2.2.1,h2.2.2,by omega⟩)]at hout
    exact hout
  repeat'(first|refine zgd ?_|(refine zgf ?_ ?_<;>intro _<;>try exact zo)|(refine zgh ?_;intro _)|fail)
  all_goals(
   apply hK2 ⟨j+1,A,cap,out⟩
   ·exact⟨by show j+1<=_;omega,hol,hout2⟩
   ·dsimp only;omega
   ·exact zu
   ·exact zk)
theorem YeF(l:List Int)(a:Int)(hl:l.length<=1000000000000)(hb:∀z∈l,-1000000000<=z/\z<=1000000000)(ha:0<=a/\a<=1000000000){A:Option Addr}{cap:Nat}(hr:Rd B w0 H A (l.flatMap numF))(hw:St B w0 H w):
 CX B w0 366 [.slice A l.length cap,.int .i64 a] w λv K=>∃A2 cap2,v=.slice A2 (l.map λz=>z-a).length cap2/\K=nrs A2 cap2 (l.map λz=>z-a)::H:=by
 refine Ya Tryz.func366 Tryz.ntmps366 rfl rfl hw ?_
 repeat'(first|(apply YK T;exact rfl;exact rfl;intro g2)|refine zgb ?_|fail)
 refine Ye (λz:FlM=>[(6,.int .i64 (z.i:Nat)),(5,.slice z.A ((l.take z.i).map λz=>z-a).length z.cap),(0,.slice A l.length cap),(1,.int .i64 a)]) (λz=>nrs z.A z.cap ((l.take z.i).map λz=>z-a)::H) (λz=>z.i<=l.length) (λz=>l.length-z.i) ⟨0,some ⟨g2,0,none⟩,0⟩ (Td _) ?_ (λw hw=>hw) ?_
 ·exact zc1
 rintro⟨i,A2,cap2⟩ hi K hK
 dsimp only at hi⊢
 have hlen:((l.take i).map λz=>z-a).length=i:=by simp_all
 by_cases hlt:i<l.length
 ·obtain⟨x,hx⟩:∃x,l[i]? =some x:=⟨_,Ta hlt⟩
  have hxb:=hb x (Tc hx)
  have hst:(l.take (i+1)).map (λz=>z-a)=(l.take i).map (λz=>z-a)++[x-a]:=zc76
  have hr':=hr.cons (X:=nrs A2 cap2 ((l.take i).map λz=>z-a))
  obtain⟨M,hM⟩:∃M,(l.take i).map (λz=>z-a)=M:=⟨_,rfl⟩
  rw[hM]at hlen hst hr'⊢
  refine YtE ?_<;>intros
  rename_i A' cap'
  rw[Vl,<-hst,show M.length+1=((l.take (i+1)).map λz=>z-a).length by simp_all]
  apply hK ⟨i+1,A',cap'⟩
  ·grind
  ·grind
  ·exact zc1
  ·exact zc0
 ·obtain rfl:i=l.length:=by omega
  rw[TI]
  refine zX0 ?_<;>intros
  apply Yd;exact rfl;exact rfl
  exact⟨A2,cap2,rfl,rfl⟩
end Go.Proofs.YtjommdkgfbhbdaaGreatDoor
namespace Go.Eng
open Go.RowKit
variable {B:Nat}{w0:World}{H:List HP}
theorem UD{P:Program}{env:Env}{n:Nat}(T:Tab P){fn:Func}{Φ:Value->List HP->Prop}{p g k u s rt:Nat}{x y:Value}{cs:Array Value}{tt:TypeId}{fr:Nat×Nat}(hr:fn.results=#[.cell p rt,.tmp u,.tmp s])(hp:get env p=some (.pointer (some ⟨g,0,none⟩)))(hu:get env u=some x)(hs:get env s=some y)
 (hm:blk g (.cells cs tt fr)∈H) (ht:look T.ag rt=some k) (hk:cs.size=k) {H2:List HP}(hH:∀w,St B w0 H w->St B w0 H2 w) (h:Φ (.tuple #[.agg cs,x,y]) H2):VQ ⟨n,[],none⟩ B w0 (bodyPost P fn (Post B w0 Φ)) .ret env H:=by
 refine⟨λa w ha hw=>bodyPost_ret (v:=.tuple #[.agg cs,x,y]) ?_ ha.defers ⟨_,H2,rfl,hH w hw,h⟩⟩
 have hp':=ha.slot p _ hp
 simp[results,hr,Array.getD_eq_getD_getElem?,hp',ha.slot u _ hu,ha.slot s _ hs,asAddr,VE T (hw.blk hm).1 ht hk]
end Go.Eng
namespace Go.Proofs.YtjommdkgfbhbdaaGreatDoor
open Go.RowKit Go.Eng Go.Nw Go.Rt
def Z1(A:Option Addr)(cap:Nat)(l:List Int):HP:=sl 3 1 A l.length cap (l.flatMap numF)
def OutA(H:List HP)(R:(Sch×List Int)×Int)(v:Value)(K:List HP):Prop:=∃A cap A2 cap2,v=.tuple #[.agg #[.int .i64 R.1.1.len,.int .i64 R.1.1.off,.slice A R.1.1.cells.length cap],.slice A2 R.1.2.length cap2,.int .i64 R.2]/\K=cels A cap R.1.1.cells::Z1 A2 cap2 R.1.2::H
variable {H:List HP}
theorem Yb8{R:(Sch×List Int)×Int}{v:Value}(e:Int)(hR:R=((ZC,[]),e))(hv:v=.tuple #[.agg #[.int .i64 0,.int .i64 0,.slice none 0 0],.slice none 0 0,.int .i64 e]):OutA H R v (cels none 0 []::Z1 none 0 []::H):=⟨none,0,none,0,by rw[hR];exact hv,by rw[hR];rfl⟩
variable {B cap:Nat}{w0 w:World}
theorem nilA(h:St B w0 H w):St B w0 (cels none 0 []::Z1 none 0 []::H) w:=(h.nilSlice _ _).nilSlice _ _
variable {A:Option Addr}
theorem Wq{l:List Cel}(h:cels A cap l∈H):Rd B w0 H A (l.flatMap celF):=Rd.sl h
theorem YkN{l:List RqM}(h:rqs A cap l∈H):Rd B w0 H A (l.flatMap rqF):=Rd.sl h
theorem Ykn(A:Option Addr)(cap:Nat)(l:List Int)(x:Int):sl 3 1 A (l.length+1) cap (l.flatMap numF++#[Value.int .i64 x].toList)=Z1 A cap (l++[x]):=by
 grind [Z1,numF]
theorem YmV(y:RqM)(len:Int)(g:Nat)(hl:0<=len)(hp:1<=y.f.2.2.2.1)(hm:intA g len∈H)(hw:St B w0 H w):
 CX B w0 214 [rqV y,.pointer (some ⟨g,0,none⟩)] w λv K=>v=.bool (decide (len.tmod y.f.2.2.2.1≠0))/\K=H:=by
 refine Ya Tryz.func214 Tryz.ntmps214 rfl rfl hw ?_
 unfold rqV
 rw[Rh hl]
 by_cases h:len%y.f.2.2.2.1=0
 ·have h2:decide (len%y.f.2.2.2.1≠0)=false:=Ti (λe=>e h)
  rw[h2]
  refine zX46 ?_<;>intros
  all_goals(apply Yf H;((intro w hw;refine hw.perm ?_;focus exact zc4));exact zc10)
 ·have h2:decide (len%y.f.2.2.2.1≠0)=true:=Tf h
  rw[h2]
  refine zX46 ?_<;>intros
  all_goals(apply Yf H;((intro w hw;refine hw.perm ?_;focus exact zc4));exact zc10)
theorem YkX{n:NetM}{q:List RqM}(h:(rqsE n.net (q.map RqM.rq)).2=0):q.length<=16/\∀x∈q,1<=x.f.2.2.2.1:=by
 have h1:=(UA h).2.1
 refine⟨?_,λx hx=>?_⟩
 ·grind [YB,Y8]
 ·have hfx:Xi n.net.nodes x.f=0:=VH h1 (TD.2 ⟨x.rq,TD.2 ⟨x,hx,rfl⟩,rfl⟩)
  obtain⟨-,hper,-⟩:=ZS hfx
  omega
structure AlM where
 k:Nat
 s:SchM
 iA:Option Addr
 icap:Nat
 inn:List RqM
 oA:Option Addr
 ocap:Nat
 at_:List Int
theorem Yok(n:NetM)(q:List RqM)(len off:Int)(h24:len<=24\/512<len)(ht:TabsB B w0)(hin:n.In B w0 H)(hq:QIn B w0 H A q)(hw:St B w0 H w):
 CX B w0 121 [n.val,.slice A q.length cap,.int .i64 len,.int .i64 off] w (OutA H (Xv n.net (q.map RqM.rq) len off)):=by
 refine Ya Tryz.func121 Tryz.ntmps121 rfl rfl hw ?_
 have hop:∀w,St B w0 [many H] w->St B w0 H w:=λw hw=>hw.perm (.openT H)
 have hin:=hin.mono hop
 have hq:=hq.mono hop
 have p1:=λ{H':List HP}{w:World}(hin:n.In B w0 H') (hw:St B w0 H' w)=>Y4 n hin hw
 have p2:=λ{H':List HP}{w:World}(hin:n.In B w0 H') (hq:QIn B w0 H' A q) (hw:St B w0 H' w)=>Ybn n q (cap:=cap) ht hin hq hw
 have pa:=λ(z:AlM) (x:RqM) (hz:z.s.len<=24) (hzl:z.s.cells.length<=1000000000000) {H':List HP}{w:World}(hin:n.In B w0 H') (hq:QIn B w0 H' z.iA z.inn) (hrs:Rd B w0 H' z.s.A (z.s.cells.flatMap celF)) (hx:x.In B w0 H') (hw:St B w0 H' w)=>YjA n z.inn z.s x hz (cap:=z.icap) ht hin hq hrs hzl hx hw
 unfold NetM.val SchM.val rqV at*
 refine Y6 [many H] (λw hw=>hw.perm (.closeT H)) ?_
 have hnil:∀{w:World},St B w0 [many H] w->St B w0 (cels none 0 []::Z1 none 0 []::H) w:=λh=>nilA (h.perm (.openT H))
 by_cases hck:Yl n.net=0
 rotate_left
 ·have hno:(if Yl n.net=0 then(0:Int)else 1)=1:=Tj hck
  refine Yjr ?_<;>intros
  apply Yb XM
  exact za
  exact rfl
  exactλ_ hw=>(p1 hin.cons.cons.cons hw)
  refine zX50 ?_<;>intros
  apply UD T (H2:=cels none 0 []::Z1 none 0 []::H);(iterate 4 exact rfl);(focus exact zc2);exact rfl;exact rfl
  ·intro w hw
   refine hnil ?_
   revert w
   exact zc0
  exact Yb8 1 (by rw[Xv,Tn (.inl hck)]) rfl
 have hf2:=Yfg (q:=q.map RqM.rq) hck
 rw[hf2]at p2
 clear hf2
 by_cases hrq:(rqsE n.net (q.map RqM.rq)).2=0
 rotate_left
 ·have hd:decide ((rqsE n.net (q.map RqM.rq)).2≠0)=true:=Tf hrq
  rw[hd]at p2
  rw[hck]at p1
  refine Yjr ?_<;>intros
  apply Yb XM
  exact za
  exact rfl
  exactλ_ hw=>(p1 hin.cons.cons.cons hw)
  refine zX0 ?_<;>intros
  apply Yb Ypi
  exact za
  exact rfl
  exactλ_ hw=>(p2 hin.cons.cons.cons hq.cons.cons.cons hw)
  refine zX3 ?_
  apply UD T (H2:=cels none 0 []::Z1 none 0 []::H);(iterate 4 exact rfl);(focus exact zc2);exact rfl;exact rfl
  ·intro w hw
   refine hnil ?_
   revert w
   exact zc0
  exact Yb8 1 (by rw[Xv,Tn (.inr hrq)]) rfl
 have hd:decide ((rqsE n.net (q.map RqM.rq)).2≠0)=false:=Ti (λe=>e hrq)
 rw[hd]at p2
 rw[hck]at p1
 have hadm:Xv n.net (q.map RqM.rq) len off=if len<1\/512<len\/off<1\/16<off then((ZC,[]),2)
  else if((q.map RqM.rq).any λx=>decide (len.tmod x.1.2.2.2.1≠0))=true then((ZC,[]),11)else(((WE n.net (q.map RqM.rq) len off (q.map RqM.rq).length).s,(WE n.net (q.map RqM.rq) len off (q.map RqM.rq).length).at_),0):=by
  rw[Xv,Tj]
  rintro(h|h)
  ·exact h hck
  ·exact h hrq
 rw[hadm]
 refine Yjr ?_<;>intros
 rename_i g4 g6 g8
 apply Yb XM
 exact za
 exact rfl
 exactλ_ hw=>(p1 hin.cons.cons.cons hw)
 refine zX0 ?_<;>intros
 apply Yb Ypi
 exact za
 exact rfl
 exactλ_ hw=>(p2 hin.cons.cons.cons hq.cons.cons.cons hw)
 by_cases hr:len<1\/512<len\/off<1\/16<off
 ·rw[Tn hr]
  repeat'(first|refine zgd ?_|(refine zge ?_ ?_<;>intro _<;>try exact zo)|fail)
  all_goals try exact zo
  all_goals(
   apply UD T (H2:=cels none 0 []::Z1 none 0 []::H);(iterate 4 exact rfl);exact zm;exact rfl;exact rfl
   ·intro w hw
    refine hnil ?_
    revert w
    exact zk
   exact Yb8 2 rfl rfl)
 rw[Tj hr]
 have hl:=YkX hrq
 repeat'(first|(apply zg29;(apply Ys;exact za;exact rfl))|refine zgc ?_|(refine zge ?_ ?_<;>intro _<;>try exact zo)|fail)
 all_goals try exact zo
 apply Yb YsC
 exact za
 exact rfl
 exactλ_ hw=>(W4 (λy=>decide (len.tmod y.f.2.2.2.1≠0)) q 214 [.pointer (some ⟨g6,0,none⟩)] Ywb (by omega) (hq.rd.mono zc0) (λa ha w hw=>YmV a len g6 (by omega) (hl.2 a ha) (by(focus exact zc2)) hw) hw)
 have hhas:(q.any λy=>decide (len.tmod y.f.2.2.2.1≠0))=(q.map RqM.rq).any λx=>decide (len.tmod x.1.2.2.2.1≠0):=by
  rw[List.any_map];rfl
 rw[hhas]
 cases hh:(q.map RqM.rq).any λx=>decide (len.tmod x.1.2.2.2.1≠0)with
 |true=>
  rw[Tn rfl]
  refine zX3 ?_
  apply UD T (H2:=cels none 0 []::Z1 none 0 []::H);(iterate 4 exact rfl);(focus exact zc2);exact rfl;exact rfl
  ·intro w hw
   refine hnil ?_
   revert w
   exact zc0
  exact Yb8 11 rfl rfl
 |false=>
 rw[Tj (by decide)]
 refine zX26 ?_<;>intros
 rename_i g11
 refine Ye (λz:AlM=>[(54,.int .i64 (z.k:Nat)),(53,.int .i64 q.length),(52,.slice A q.length cap),(13,.slice z.oA z.at_.length z.ocap),(12,.slice z.iA z.inn.length z.icap),(11,.pointer (some ⟨g11,0,none⟩)),(10,.int .i64 0),(9,.slice none 0 0),(8,.pointer (some ⟨g8,0,none⟩)),(4,.pointer (some ⟨g4,0,none⟩))])
  (λz=>schA g11 z.s::cels z.s.A z.s.cap z.s.cells::rqs z.iA z.icap z.inn::Z1 z.oA z.ocap z.at_::blk g8 (.cells (Value.agg #[.int .i64 0,.int .i64 0,.slice none 0 0]).cells 33 (0,0))::netA g4 n::[many H])
  (λz=>z.k<=q.length/\(∀y∈z.inn,y∈q)/\(⟨z.s.sch,z.inn.map RqM.rq,z.at_⟩:AllS)=WE n.net (q.map RqM.rq) len off z.k) (λz=>q.length-z.k) ⟨0,⟨len,off,none,0,[]⟩,none,0,[],none,0,[]⟩ ⟨Td _,(λy hy=>by cases hy),rfl⟩ ?_ ?_ ?_
 ·exact zc1
 ·intro w hw
  have h5:St B w0 (blk g11 (.cells #[.int .i64 len,.int .i64 off,.slice none 0 0] 33 (0,0))::blk g8 (.cells (Value.agg #[.int .i64 0,.int .i64 0,.slice none 0 0]).cells 33 (0,0))::netA g4 n::[many H]) w:=by
   revert w
   exact zc0
  have h6:=((h5.nilSlice 3 1).nilSlice 93 7).nilSlice 162 5
  clear h5 hw
  have h7:St B w0 (blk g11 (.cells #[.int .i64 len,.int .i64 off,.slice none 0 0] 33 (0,0))::sl 162 5 none 0 0 []::sl 93 7 none 0 0 []::sl 3 1 none 0 0 []::blk g8 (.cells (Value.agg #[.int .i64 0,.int .i64 0,.slice none 0 0]).cells 33 (0,0))::netA g4 n::[many H]) w:=by
   revert w
   exact zc0
  exact h7
 rintro⟨k,s,iA,icap,inn,oA,ocap,at_⟩ ⟨hk,hmem,hall⟩ K hK
 dsimp only at hk hmem hall⊢
 have hor:1<=off/\off<=16:=by omega
 have hlr:1<=len/\len<=512:=by omega
 have hinv:=Yb1 hrq hlr hor k (by rw[To];exact hk)
 rw[<-hall]at hinv
 have hs24:s.len<=24:=by have:s.len=len:=hinv.len;omega
 have hfew:inn.length<=k:=by have:=hinv.few;rwa [To]at this
 have hsl:s.cells.length<=512:=(Vb.1 (Jh.1 (Z7.1 hinv.ok).1)).frm.few
 have hcnt:at_.length=inn.length:=by have:=hinv.cnt;rwa [To]at this
 have hqI:QIn B w0 (schA g11 s::cels s.A s.cap s.cells::rqs iA icap inn::Z1 oA ocap at_::blk g8 (.cells (Value.agg #[.int .i64 0,.int .i64 0,.slice none 0 0]).cells 33 (0,0))::netA g4 n::[many H]) iA inn:=
  ⟨YkN (cap:=icap) (by(focus exact zc2)),λy hy=>((((((hq.x y (hmem y hy)).cons).cons).cons).cons).cons).cons,by omega⟩
 by_cases hlt:k<q.length
 rotate_left
 ·obtain rfl:k=q.length:=by omega
  clear hK
  have hall2:WE n.net (q.map RqM.rq) len off (q.map RqM.rq).length=⟨s.sch,inn.map RqM.rq,at_⟩:=by rw[To];exact hall.symm
  rw[hall2]
  refine zX0 ?_<;>intros
  apply UD T (H2:=cels s.A s.cap s.cells::Z1 oA ocap at_::H);(iterate 4 exact rfl);(focus exact zc2);exact rfl;exact rfl
  ·intro w hw
   have h5:St B w0 (cels s.A s.cap s.cells::Z1 oA ocap at_::[many H]) w:=by
    revert w
    exact zc0
   exact Ymr
  exact⟨s.A,s.cap,oA,ocap,rfl,rfl⟩
 have hqrd:=hq.rd
 obtain⟨x,hx⟩:∃x,q[k]? =some x:=⟨_,Ta hlt⟩
 have hxm:=Tc hx
 have hrx:rqAt (q.map RqM.rq) k=x.rq:=by
  unfold rqAt
  rw[Tz,TN,hx];rfl
 have hstep:WE n.net (q.map RqM.rq) len off (k+1)=Yb0 n.net ⟨s.sch,inn.map RqM.rq,at_⟩ k x.rq:=by
  rw[WE,hall,hrx]
 have pz:=λ{H':List HP}{w:World}=>pa ⟨k,s,iA,icap,inn,oA,ocap,at_⟩ x hs24 (by show s.cells.length<=_;omega) (H':=H') (w:=w)
 dsimp only at pz
 clear pa
 unfold Yb0 at hstep
 dsimp only at hstep
 have hsn:(⟨k,s,iA,icap,inn,oA,ocap,at_⟩:AlM).s.sch=s.sch:=rfl
 generalize JT n.net (inn.map RqM.rq) s.sch x.rq=R at pz hstep
 obtain⟨t,e⟩:=R
 unfold OutS at pz
 dsimp only at pz hstep
 refine zX46 ?_<;>intros
 rename_i g15
 apply Yg _ en66
 exact za
 exact rfl
 exactλ_ hw=>(pz (hin.mono zc0) (hqI.mono zc0) (Wq (cap:=s.cap) (by(focus exact zc2))) ((hq.x x hxm).mono zc0) (hw))
 rintro _ _ ⟨A2,c2,rfl,rfl⟩
 by_cases he:e=0
 rotate_left
 ·rw[Tj he]at hstep
  refine YfO ?_<;>intros
  apply hK ⟨k+1,s,iA,icap,inn,oA,ocap,at_⟩
  ·exact⟨by show k+1<=_;omega,hmem,hstep.symm⟩
  ·exact zc50
  ·exact zc1
  ·exact zc0
 subst he
 rw[Tn rfl]at hstep
 unfold rqs Z1
 refine YfO ?_<;>intros
 apply Jb (.n1 0 (.n1 1 (.n1 2 (.n1 5 (.n1 6 (.n2 3 (.n2 4 (.n1 7 (.n1 8 (.n1 9 (.n1 10 (.n1 11 .done))))) 7 (.n1 4 (.n1 8 (.n1 9 (.n1 10 (.n1 11 .done)))))) 7 (.n1 3 (.n1 4 (.n1 8 (.n1 9 (.n1 10 (.n1 11 .done)))))))))))) [] [true,false,true]
 kernel_rfl
 kernel_rfl
 exact zy
 exact rfl
 repeat'(first|(apply Yh;try exact zl)|apply(zs91 ?_ ?_)|(apply Xf;try exact zl)|refine zgd ?_|(refine zgh ?_;intro _)|(refine zgi ?_;intro _ _)|fail)
 all_goals(
  first|(rename_i A3 c3 gb A4 c4;guard_hyp A3:Option Addr;guard_hyp gb:Nat)|rename_i A3 c3 A4 c4
  apply hK ⟨k+1,⟨t.len,t.off,A2,c2,t.cells⟩,A3,c3,inn++[x],A4,c4,at_++[(k:Int)]⟩
  ·refine⟨by show k+1<=_;omega,λy hy=>?_,?_⟩
   ·rcases Rl.1 hy with hy|hy
    ·exact hmem y hy
    ·rw[Ru.1 hy];exact hxm
   ·show(⟨t,(inn++[x]).map RqM.rq,at_++[(k:Int)]⟩:AllS)=_
    rw[hstep,Rf];rfl
  ·dsimp only;omega
  ·rw[Tt,Tt]
   exact zu
  ·intro w hw
   dsimp only
   rw[<-Ya0,<-Ykn]
   revert w
   exact zk)
def Xk:List Cel->List Cel
 |[]=>[]
 |[a]=>[a]
 |a::b::l=>if a=b then Xk (b::l)else a::Xk (b::l)
theorem YcM:∀{l:List Cel}{c:Cel},c∈Xk l↔c∈l
 |[],_=>Iff.rfl
 |[_],_=>Iff.rfl
 |a::b::l,c=>by
  have ih:=YcM (l:=b::l) (c:=c)
  unfold Xk
  grind
abbrev OrdW(l:List Cel):Prop:=l.Pairwise λa b=>Xg b a=false
theorem YhE:∀{l:List Cel},OrdW l->Ord (Xk l)
 |[],_=>.nil
 |[_],_=>.cons (λ_ h=>by cases h) .nil
 |a::b::l,h=>by
  obtain⟨h1,h2⟩:=SY.1 h
  have ih:=YhE h2
  unfold Xk
  by_cases he:a=b
  ·simp_all
  grind [YcM,Yb4,SY]
theorem Yl8:∀{l m:List Cel},Ord l->Ord m->(∀c,c∈l↔c∈m)->l=m
 |[],[],_,_,_=>rfl
 |[],b::m,_,_,h=>by grind [TG]
 |a::l,[],_,_,h=>by grind [TG]
 |a::l,b::m,hl,hm,h=>by
  obtain⟨h1,h2⟩:=SY.1 hl
  obtain⟨h3,h4⟩:=SY.1 hm
  have e:a=b:=by
   rcases RA.1 ((h a).1 TG)with e|ha
   ·exact e
   rcases RA.1 ((h b).2 TG)with e|hb
   ·simp_all
   grind [Ju,VS]
  subst e
  refine TF (a::·) (Yl8 h2 h4 λc=>?_)
  grind [VS]
def Yds(n:Net)(s:Sch)(q:List Rqs):List Cel:=q.flatMap λx=>s.cells.filter (Yav n s x)
theorem YnB{n:Net}{s:Sch}{q:List Rqs}{l:List Cel}(ho:Ord s.cells)(hp:l.Perm (Yds n s q))(hs:OrdW l):Xk l=s.cells.filter (Yjk n s q):=by
 refine Yl8 (YhE hs) (ho.sublist SO) λc=>?_
 rw[YcM,hp.mem_iff,RU]
 unfold Yds Yjk
 grind
theorem Yig(n:Net)(s:Sch):∀q:List Rqs,(Yds n s q).length<=q.length*s.cells.length
 |[]=>Td _
 |x::q=>by
  have ih:=Yig n s q
  unfold Yds at ih⊢
  rw[Re,Tt,Ro,SL,Nat.one_mul]
  grind
variable {x:WayM}
theorem YnE(hok:Ve x){i:Nat}(hi:i+1<x.r.length):(XS x.n.net x.r i).1=x.r.getD i 0/\(XS x.n.net x.r i).2.1=x.r.getD (i+1) 0:=
 Oa (VI (hok.good i hi))
def relO(R:Option (List Int)):List Int:=R.getD []
variable {a:Int}
theorem YjO{h:List (Cel×Int)}(hne:h≠[]):XB h a=Zk (h.map Prod.snd)+1:=by
 grind [XB,Zk,List.length_pos_iff]
variable {l:List Int}
theorem Yij(h:1<=l.length):l[((l.length:Int)-1).toNat]? =some (Zk l):=by
 rw[show((l.length:Int)-1).toNat=l.length-1 by omega]
 grind [Zk]
structure SlM2 where
 k:Nat
 at_:Int
 A:Option Addr
 cap:Nat
 out:List Int
variable {B:Nat}{w0 w:World}{H:List HP}
theorem YiY(x:WayM)(hok:Ve x)(rel:Int)(hrel:0<=rel/\rel<=100000)(hi:x.In B w0 H)(hw:St B w0 H w):
 CX B w0 365 [x.n.val,x.s.val,flwV x.f,.slice x.A x.r.length x.cap,.int .i64 rel,.int .i64 0] w λv K=>∃A cap,v=.tuple #[.slice A (relO (Zx x.n.net x.s.sch x.f x.r rel)).length cap,.bool (Zx x.n.net x.s.sch x.f x.r rel).isSome]/\K=nrs A cap (relO (Zx x.n.net x.s.sch x.f x.r rel))::H:=by
 refine Ya Tryz.func365 Tryz.ntmps365 rfl rfl hw ?_
 have hop:∀w,St B w0 [many H] w->St B w0 H w:=λw hw=>hw.perm (.openT H)
 have hi:=hi.mono hop
 refine Y6 [many H] (λw hw=>hw.perm (.closeT H)) ?_
 have hper:=hok.per
 have hsl:=hok.slen
 have hrl:=hok.len
 have hr:=hi.r
 have hLl:=@JY x.n.net x.r
 obtain⟨R,hR⟩:∃R,Zx x.n.net x.s.sch x.f x.r rel=R:=⟨_,rfl⟩
 rw[hR]
 unfold Zx at hR
 obtain⟨LL,hLL⟩:∃LL,Yp x.n.net x.r=LL:=⟨_,rfl⟩
 rw[hLL]at hR hLl
 obtain⟨CC,hCC⟩:∃CC,XT x.s.sch x.f.1=CC:=⟨_,rfl⟩
 rw[hCC,show x.s.sch.len=x.s.len from rfl]at hR
 have p1:=λ{a b:Int}(hg:YX x.n.net a b=true) {H':List HP}{w:World}(hin:x.n.In B w0 H') (hw:St B w0 H' w)=>YnF x.n a b hg hin hw
 have p2:=λ(fr dn nd:Int) (need:Nat) (a:Int) (hnd:nd=(need:Nat)) (hn:need<=1000) (ha:rel<=a/\a<=rel+x.f.2.2.2.1) {H':List HP}{w:World}(hrs:Rd B w0 H' x.s.A (x.s.cells.flatMap celF)) (hw:St B w0 H' w)=>YpI x.s x.f fr dn nd need a (rel+x.f.2.2.2.1-1) hnd hn (by omega) (by omega) (by omega) hi.sl hrs hw
 unfold NetM.val SchM.val flwV
 unfold NetM.val at p1
 unfold SchM.val flwV at p2
 repeat'(first|(apply YK T;exact rfl;exact rfl;intro gO)|refine zgb ?_|(refine zgh ?_;intro _)|fail)
 rename_i g6 g7 g8
 refine Ye (λz:SlM2=>[(16,.int .i64 ((z.k+1:Nat):Int)),(15,.int .i64 z.at_),(14,.slice z.A z.out.length z.cap),(3,.slice x.A x.r.length x.cap),(4,.int .i64 rel),(5,.int .i64 0),(6,.pointer (some ⟨g6,0,none⟩)),(7,.pointer (some ⟨g7,0,none⟩)),(8,.pointer (some ⟨g8,0,none⟩))]) (λz=>nrs z.A z.cap z.out::flwB g8 x.f::schA g7 x.s::netA g6 x.n::[many H])
  (λz=>z.k+1<=x.r.length/\z.out.length<=8*z.k/\(rel<=z.at_/\z.at_<=rel+x.f.2.2.2.1)/\(runR x.s.len CC (rel+x.f.2.2.2.1) (LL.drop z.k) z.at_).map (λy=>z.out++y)=R) (λz=>x.r.length-z.k) ⟨0,rel,some ⟨gO,0,none⟩,0,[]⟩ ⟨by show 0+1<=x.r.length;omega,Td _,by show rel<=rel/\rel<=rel+x.f.2.2.2.1;omega,?_⟩ ?_ (λw hw=>hw) ?_
 ·show(runR x.s.len CC (rel+x.f.2.2.2.1) (LL.drop 0) rel).map (λy=>[]++y)=R
  rw[List.drop_zero,hR];simp
 ·dsimp only
  exact zc1
 rintro⟨k,at_,A,cap,out⟩ ⟨hk,hol,hat,hrun⟩ K hK
 dsimp only at hk hol hat hrun⊢
 have hr2:Rd B w0 (nrs A cap out::flwB g8 x.f::schA g7 x.s::netA g6 x.n::[many H]) x.A (x.r.flatMap numF):=hr.cons.cons.cons.cons
 by_cases hlt:k+1<x.r.length
 rotate_left
 ·rw[List.drop_of_length_le (by omega)]at hrun
  have hRv:R=some out:=by rw[<-hrun];simp[runR]
  subst hRv
  clear hK
  refine zX0 ?_<;>intros
  apply Yf (nrs A cap out::H)
  ·intro w hw
   have h5:St B w0 (nrs A cap out::[many H]) w:=by
    revert w
    exact zc0
   exact zc69
  exact zc99
 have hg:=hok.good k hlt
 obtain⟨e1,e2⟩:=YnE hok hlt
 have hlk:LL[k]? =some (XS x.n.net x.r k):=by rw[<-hLL];exact Wm hlt
 have hbd:=Oc hok (by rw[hLL];exact hlk)
 have hlo:Q9 x.n.net (x.r.getD k 0) (x.r.getD (k+1) 0)=(XS x.n.net x.r k).2.2:=rfl
 have hdr:LL.drop k=XS x.n.net x.r k::LL.drop (k+1):=by
  obtain⟨h1,h2⟩:=Tu.1 hlk
  rw[<-h2,List.getElem_cons_drop]
 obtain⟨l,hl⟩:∃l,XS x.n.net x.r k=l:=⟨_,rfl⟩
 rw[hl]at e1 e2 hbd hlo hdr
 obtain⟨fr,hfr⟩:∃v,x.r.getD k 0=v:=⟨_,rfl⟩
 obtain⟨dn,hto⟩:∃v,x.r.getD (k+1) 0=v:=⟨_,rfl⟩
 rw[hfr]at hg e1 hlo
 rw[hto]at hg e2 hlo
 have hx0:x.r[(((k+1:Nat):Int)-1).toNat]? =some fr:=by
  rw[show(((k+1:Nat):Int)-1).toNat=k by omega,<-hfr,Tz,Ta (by omega)];rfl
 have hx1:x.r[k+1]? =some dn:=by
  rw[<-hto,Tz,Ta (by omega)];rfl
 rw[hdr]at hrun
 unfold runR at hrun
 have hCl:CC l=x.s.cells.filter (onP x.f.1 fr dn):=by rw[<-hCC,<-e1,<-e2];rfl
 have hneed:l.2.2+1+0=((Y2 l:Nat):Int):=by unfold Y2;omega
 have hn8:Y2 l<=8/\1<=Y2 l:=by unfold Y2;omega
 have p3:=λ{H':List HP}{w:World}(hin:x.n.In B w0 H') (hw:St B w0 H' w)=>p1 hg hin hw
 have p4:=λ{H':List HP}{w:World}(hrs:Rd B w0 H' x.s.A (x.s.cells.flatMap celF)) (hw:St B w0 H' w)=>p2 fr dn (l.2.2+1+0) (Y2 l) at_ hneed (by omega) hat hrs hw
 rw[hlo]at p3
 rw[<-hCl,show rel+x.f.2.2.2.1-1+1-at_=rel+x.f.2.2.2.1-at_ by omega]at p4
 obtain⟨hp,hhp⟩:∃h,hopP x.s.len (CC l) (rel+x.f.2.2.2.1-at_).toNat (Y2 l) at_=h:=⟨_,rfl⟩
 have hpl:hp.length<=Y2 l:=by rw[<-hhp];exact OK _ _ _ _ _
 have hps:∀z∈hp,at_<=z.2/\z.2<rel+x.f.2.2.2.1:=λz hz=>by
  rw[<-hhp]at hz
  have:=Ygq hz
  omega
 rw[hhp]at p4 hrun
 have hab:=Yht hps (by omega)
 rw[To]at p4
 clear hhp hneed
 refine zX1 ?_<;>intros
 apply YV [0,1,2,3,4,5,6,7,8,9,10,11,12,13,14,15,16,17,18,19,20,23,25,26,27,28,29,30,21,22,24,31,32,33,34,35,36] []
 kernel_rfl
 kernel_rfl
 (simp only[Yc,nthO];rfl)
 exact rfl
 refine zX3 ?_
 apply Yb YwA
 exact za
 exact rfl
 exactλ_ hw=>(p3 (hi.n.mono zc0) hw)
 refine zX16 ?_
 apply Yg _ YwB
 exact za
 exact rfl
 exactλ_ hw=>(p4 (hi.s.mono zc0) (hw))
 rintro _ _ ⟨A2,cap2,rfl,rfl⟩
 by_cases hsh:hp.length<Y2 l
 ·rw[Tn hsh]at hrun
  rw[Ti (by omega)]
  have hRv:R=none:=by rw[<-hrun];rfl
  subst hRv
  clear hK
  refine zX16 ?_
  apply Yf (nrs none 0 []::H)
  ·intro w hw
   have h5:St B w0 [many H] w:=by
    revert w
    exact zc0
   exact(hop w h5).nilSlice _ _
  apply YH;(iterate 3 exact rfl)
  exact⟨none,0,rfl,rfl⟩
 rw[Tj hsh]at hrun
 rw[Tf (by omega)]
 have hne:hp≠[]:=λe=>by rw[e]at hsh;exact hsh (by show 0<_;omega)
 have hla:=YjO (a:=at_) hne
 have hml:1<=(hp.map Prod.snd).length:=by rw[To];omega
 have hlg:=Yij hml
 have hhl:hp.length=Y2 l:=by omega
 have hrun2:(runR x.s.len CC (rel+x.f.2.2.2.1) (LL.drop (k+1)) (XB hp at_)).map (λy=>(out++hp.map Prod.snd)++y)=R:=by
  rw[<-hrun,Option.map_map]
  congr 1
  funext y
  simp
 rw[hla]at hab hrun2
 obtain⟨M,hM⟩:∃M,hp.map Prod.snd=M:=⟨_,rfl⟩
 have hMl:M.length=Y2 l:=by rw[<-hM,To,hhl]
 rw[hM]at hab hrun2 hml hlg⊢
 rw[show hp.length=M.length by omega]
 refine zX16 ?_
 repeat'(first|(apply Xt T (f:=numF) (l2:=M) (e:=3) (size:=1) (xs:=out.flatMap numF);(iterate 3 exact rfl);exact Rd.sl zm;exact(λ_=>rfl);exact(λ_=>rfl);exact rfl;(intro _ _;exact zd);omega;intro A' cap')|refine zgd ?_|fail)
 rename_i A' cap'
 apply hK ⟨k+1,Zk M+1,A',cap',out++M⟩
 ·refine⟨by show k+1+1<=_;omega,by show(out++M).length<=8*(k+1);rw[Tt];omega,by show rel<=Zk M+1/\Zk M+1<=rel+x.f.2.2.2.1;omega,hrun2⟩
 ·exact zc50
 ·dsimp only
  rw[Tt]
  exact zc1
 ·have e9:sl 3 1 A' (out.length+M.length) cap' (out.flatMap numF++M.flatMap numF)=nrs A' cap' (out++M):=by
   unfold nrs
   rw[Tt,RB]
  dsimp only
  rw[<-e9]
  exact zc0
theorem Yn2(hok:Ve x)(_ha:0<=a/\a<=100000)(h:Zx x.n.net x.s.sch x.f x.r a=some l):(1<=l.length/\l.length<=72)/\(a<=Zk l/\Zk l<a+x.f.2.2.2.1)/\∀z∈l,a<=z/\z<a+x.f.2.2.2.1:=by
 have h1:=Yja hok h
 have hrl:=hok.len
 rw[OX]at h
 split at h
 ·cases h
 obtain rfl:=TJ h
 have h2:(runW x a).length<=Zq (Yp x.n.net x.r):=Ycb _ _ _ _ _
 have h3:=Yaa hok (Yp x.n.net x.r).length
 rw[TI,JY]at h3
 rw[To]at h1⊢
 refine⟨by omega,h1.2,λz hz=>?_⟩
 obtain⟨y,hy,rfl⟩:=TD.1 hz
 exact Ycc (by omega) hy
theorem YkT(x:WayM)(hok:Ve x)(hi:x.In B w0 H)(hw:St B w0 H w):
 CX B w0 309 [x.n.val,x.s.val,flwV x.f,.slice x.A x.r.length x.cap,.int .i64 0] w λv K=>∃A cap,v=.tuple #[.int .i64 (Z3 x).1,.int .i64 (Z3 x).2.1,.slice A (Z3 x).2.2.1.length cap,.bool (Z3 x).2.2.2]/\K=nrs A cap (Z3 x).2.2.1::H:=by
 refine Ya Tryz.func309 Tryz.ntmps309 rfl rfl hw ?_
 have hop:∀w,St B w0 [many H] w->St B w0 H w:=λw hw=>hw.perm (.openT H)
 have hi:=hi.mono hop
 refine Y6 [many H] (λw hw=>hw.perm (.closeT H)) ?_
 have hper:=hok.per
 have hph:=hok.ph
 have hsl:=hok.slen
 obtain⟨R,hR⟩:∃R,JC x.n.net x.s.sch x.f x.r=R:=⟨_,rfl⟩
 have hO:Z3 x=Wc R:=by unfold Z3;rw[hR]
 rw[hO]
 unfold JC at hR
 rw[show x.s.sch.len=x.s.len from rfl]at hR
 have hsb:=λ{a:Int}{l:List Int}(ha:0<=a/\a<=100000) (h:Zx x.n.net x.s.sch x.f x.r a=some l)=>Yn2 hok ha h
 have hrl:=λ(a:Int) (ha:0<=a/\a<=100000) {H':List HP}{w:World}(hi:x.In B w0 H') (hw:St B w0 H' w)=>YiY x hok a ha hi hw
 obtain⟨S,hS⟩:∃S,Zx x.n.net x.s.sch x.f x.r=S:=⟨_,rfl⟩
 rw[hS]at hR hrl hsb
 have p3:=λ(l:List Int) (a:Int) (hl:l.length<=72) (hb:∀z∈l,-1000000000<=z/\z<=1000000000) (ha:0<=a/\a<=1000000000) {A:Option Addr}{cap:Nat}{H':List HP}{w:World}(hr:Rd B w0 H' A (l.flatMap numF)) (hw:St B w0 H' w)=>YeF l a (by omega) hb ha (cap:=cap) hr hw
 unfold NetM.val SchM.val flwV
 unfold NetM.val SchM.val flwV at hrl
 repeat'(first|(apply YK T;exact rfl;exact rfl;intro gO)|refine zgb ?_|(refine zgh ?_;intro _)|fail)
 rename_i g5 g6 g7
 refine Ye (λz:BdM=>[(17,.int .i64 z.rel),(16,.slice z.A z.b.2.2.length z.cap),(15,.int .i64 z.b.2.1),(14,.int .i64 z.b.1),(3,.slice x.A x.r.length x.cap),(4,.int .i64 0),(5,.pointer (some ⟨g5,0,none⟩)),(6,.pointer (some ⟨g6,0,none⟩)),(7,.pointer (some ⟨g7,0,none⟩))]) (λz=>nrs z.A z.cap z.b.2.2::flwB g7 x.f::schA g6 x.s::netA g5 x.n::[many H])
  (λz=>UI S x.s.len x.f.2.2.2.1 z.k z.rel z.b=R/\x.s.len-z.rel<=z.k/\0<=z.rel/\z.rel<=2000/\0<=z.b.1/\z.b.1<=2000) (λz=>z.k) ⟨x.s.len.toNat,x.f.2.2.2.2.1,(0,0,[]),some ⟨gO,0,none⟩,0⟩ ⟨hR,by exact Yuy,hph.1,by show x.f.2.2.2.2.1<=2000;omega,SK _,by show(0:Int)<=2000;decide⟩ ?_ (λw hw=>hw) ?_
 ·exact zc1
 rintro⟨k,rel,⟨b1,b2,bl⟩,A,cap⟩ ⟨hb,hk,h0,h1,hb0,hb1⟩ K hK
 dsimp only at hb hk h0 h1 hb0 hb1⊢
 by_cases hge:x.s.len<=rel
 ·have hRe:R=some (b1,b2,bl):=by
   rw[<-hb]
   cases k with
   |zero=>rfl
   |succ k=>unfold UI;rw[Tn hge]
  rw[hRe]
  clear hK
  refine zX0 ?_<;>intros
  apply Yf (nrs A cap bl::H)
  ·intro w hw
   have h5:St B w0 (nrs A cap bl::[many H]) w:=by
    revert w
    exact zc0
   exact zc69
  exact Yt9
 obtain⟨k,rfl⟩:∃k',k=k'+1:=⟨k-1,by omega⟩
 unfold UI at hb
 rw[Tj hge]at hb
 have hrr:=λ{H':List HP}{w:World}(hi:x.In B w0 H') (hw:St B w0 H' w)=>hrl rel (by omega) hi hw
 cases hSr:S rel with
 |none=>
  rw[hSr]at hb hrr
  dsimp only[relO,Option.getD_none,Option.isSome_none]at hb hrr
  rw[<-hb]
  clear hK
  refine zX1 ?_<;>intros
  apply Yg _ Ypq
  exact za
  exact rfl
  exactλ_ hw=>(hrr (hi.mono zc0) (hw))
  rintro _ _ ⟨A2,cap2,rfl,rfl⟩
  refine zX3 ?_
  apply Yf (nrs none 0 []::H)
  ·intro w hw
   have h5:St B w0 [many H] w:=by
    revert w
    exact zc0
   exact(hop w h5).nilSlice _ _
  exact zc37
 |some l=>
  rw[hSr]at hb hrr
  dsimp only[relO,Option.getD_some,Option.isSome_some]at hb hrr
  obtain⟨hl1,hl2,hl3⟩:=hsb (a:=rel) (l:=l) (by omega) hSr
  have hlg:=Yij hl1.1
  have p4:=λ{A:Option Addr}{cap:Nat}{H':List HP}{w:World}(hr:Rd B w0 H' A (l.flatMap numF)) (hw:St B w0 H' w)=>p3 l rel hl1.2 (λz hz=>by have:=hl3 z hz;omega) (by omega) (cap:=cap) hr hw
  obtain⟨m,hm⟩:∃m,Zk l-rel+1=m:=⟨_,rfl⟩
  rw[hm]at hb
  by_cases hgt:b1<m
  ·rw[Tn hgt]at hb
   refine zX1 ?_<;>intros
   apply Yg _ Ypq
   exact za
   exact rfl
   exactλ_ hw=>(hrr (hi.mono zc0) (hw))
   rintro _ _ ⟨A2,cap2,rfl,rfl⟩
   refine zX50 ?_<;>intros
   apply YV [0,1,2,3,4,5,6,7,8,9,10,11,12,13,14,15] []
   kernel_rfl
   kernel_rfl
   (simp only[Yc,nthO];rfl)
   exact rfl
   refine zX3 ?_
   apply Yg _ YwW
   exact za
   exact rfl
   exactλ_ hw=>(p4 (Rd.sl (by(focus exact zc2))) (hw))
   rintro _ _ ⟨A3,cap3,rfl,rfl⟩
   refine zX16 ?_
   rw[hm]
   apply hK ⟨k,rel+x.f.2.2.2.1,(m,rel,l.map λz=>z-rel),A3,cap3⟩
   ·exact⟨hb,by exact YuC,by show 0<=rel+x.f.2.2.2.1;omega,by show rel+x.f.2.2.2.1<=2000;omega,by show 0<=m;omega,by show m<=2000;omega⟩
   ·exact zc50
   ·exact zc1
   ·exact zc0
  ·rw[Tj hgt]at hb
   refine zX1 ?_<;>intros
   apply Yg _ Ypq
   exact za
   exact rfl
   exactλ_ hw=>(hrr (hi.mono zc0) (hw))
   rintro _ _ ⟨A2,cap2,rfl,rfl⟩
   refine zX50 ?_<;>intros
   apply hK ⟨k,rel+x.f.2.2.2.1,(b1,b2,bl),A,cap⟩
   ·exact zc83
   ·exact zc50
   ·exact zc1
   ·exact zc0
structure Pln where
 n:Net
 q:List Rqs
 s:Sch
 c:List Clm
 f:List Int
noncomputable def Ua(n:Net)(f:Flw):Rqs×Int:=
 if(Z5 n f.2.1 f.2.2.1).2≠0 then(Ymz,(Z5 n f.2.1 f.2.2.1).2)else((f,[(Z5 n f.2.1 f.2.2.1).1]),0)
noncomputable def WL(n:Net)(f:Flw):Option (List Int×List Int)×Int:=(Yop 100000 n f.2.1 f.2.2.1).getD (none,0)
noncomputable def reqE(n:Net)(f:Flw):Rqs×Int:=
 match(WL n f).1 with
 |some pq=>((f,[pq.1,pq.2]),0)
 |none=>Ua n f
noncomputable def YdO(n:Net)(l:List Flw):Int×Int:=YD (λi=>(reqE n (Xa l i)).2) l.length 0
noncomputable def V8(n:Net)(l:List Flw):List Rqs×(Int×Int):=
 if Yl n≠0 then([],(-1,1))else if(YB n.nodes l).2≠0 then([],YB n.nodes l)
 else if(YdO n l).2≠0 then([],YdO n l)else(l.map λf=>(reqE n f).1,(-1,0))
def XN(a b:Int):Int:=if a=0 then b else a
def Ygl(n:Net)(q:List Rqs)(s:Sch)(e:Int):Int:=if e≠0 then e else XN (YJ n q s).2.2 (XP s).2
def finE(n:Net)(q:List Rqs)(s:Sch)(e:Int):Option Pln×Int:=
 if Ygl n q s e≠0 then(none,Ygl n q s e)else(some ⟨n,q,s,(YJ n q s).1,(XP s).1⟩,0)
noncomputable def lowQ(n:Net)(at_:List Int)(q:List Rqs)(i:Nat):Rqs:=if(i:Int)∈at_ then rqAt q i else(Ua n (rqAt q i).1).1
noncomputable def lowL(n:Net)(at_:List Int)(q:List Rqs):List Rqs:=(List.range q.length).map (lowQ n at_ q)
noncomputable def lowB(n:Net)(at_:List Int)(q:List Rqs):Bool:=(List.range q.length).all λi=>decide ((i:Int)∈at_)||decide ((Ua n (rqAt q i).1).2=0)
def fin2(n:Net)(q:List Rqs)(s:Sch)(e:Int):Option Pln×Int:=
 if e=0 then finE n q (Yee n q s).1 (Yee n q s).2 else(none,e)
noncomputable def fin3(n:Net)(q:List Rqs)(len off e:Int):Option Pln×Int:=
 if(Xv n q len off).1.2.length=q.length then fin2 n q (Xv n q len off).1.1 (XN e (Xv n q len off).2)
 else(none,XN (XN e (Xv n q len off).2) 18)
noncomputable def Ygb(n:Net)(q:List Rqs)(len off:Int):Option Pln×Int:=
 if(Xv n q len off).1.2.length=q.length then fin2 n q (Xv n q len off).1.1 (Xv n q len off).2
 else if lowB n (Xv n q len off).1.2 q=false then(none,XN (Xv n q len off).2 18)
 else fin3 n (lowL n (Xv n q len off).1.2 q) len off (Xv n q len off).2
def perB(l:List Flw)(len:Int):Bool:=l.any λf=>decide (len.tmod f.2.2.2.1≠0)
noncomputable def Yl5(n:Net)(l:List Flw)(len off:Int):Option Pln×Int:=
 if Yl n≠0\/(YB n.nodes l).2≠0 then(none,1)else if len<1\/512<len\/off<1\/16<off then(none,2)
 else if perB l len=true then(none,11)else if(V8 n l).2.2≠0 then(none,(V8 n l).2.2)
 else Ygb n (V8 n l).1 len off
def chkP(p:Pln):Int:=
 if Yl p.n≠0 then 1 else if(YJ p.n p.q p.s).2.2=15\/(YJ p.n p.q p.s).2.2=1/\(YJ p.n p.q p.s).2.1<0 then 18
 else if(YJ p.n p.q p.s).2.2≠0 then 1 else if(chkE p.n p.q p.s p.c).2≠0 then 20
 else if(XP p.s).2≠0\/(XP p.s).1≠p.f then 11 else 0
def idQ(q:List Rqs)(id:Int):Int:=Ym (λx:Rqs=>decide (x.1.1=id)) q 0
def delQ(q:List Rqs)(i:Nat):List Rqs:=q.take i++q.drop (i+1)
def wdrP(p:Pln)(id:Int):Option Pln×Int:=
 if chkP p≠0 then(none,1)else if idQ p.q id<0 then(none,7)else finE p.n (delQ p.q (idQ p.q id).toNat) (QW p.s id).1 (QW p.s id).2
theorem Yvp(n:Net)(s t:Int):(Z5 n s t).1.length<=9:=by
 grind [Z5]
variable {B:Nat}{w0 w:World}{H:List HP}
theorem WA(n:NetM)(hin:n.In B w0 H)(hw:St B w0 H w):
 CX B w0 38 [n.val] w λv K=>v=.bool (decide (Yl n.net=0))/\K=H:=by
 refine Ya Tryz.func38 Tryz.ntmps38 rfl rfl hw ?_
 have p1:=λ{H':List HP}{w:World}(hin:n.In B w0 H') (hw:St B w0 H' w)=>YmA n [] (A:=none) (cap:=0) hin .nil (by decide) (by decide) hw
 have hc:(YgZ n.net []).2=if Yl n.net≠0 then 1 else 9:=by
  unfold YgZ
  by_cases h:Yl n.net=0
  ·rw[Tj (show¬Yl n.net≠0 fromλe=>e h),Tj (show¬Yl n.net≠0 fromλe=>e h)];rfl
  simp_all
 unfold NetM.val at p1⊢
 by_cases h:Yl n.net=0
 ·rw[Tj (λe=>e h)]at hc
  rw[hc]at p1
  rw[Tf h]
  refine zX73 ?_<;>intros
  apply Yb Ysv
  exact za
  exact rfl
  exactλ_ hw=>(p1 hin.cons hw)
  refine zX0 ?_<;>intros
  apply Yf H
  ·exact zc0
  exact zc10
 ·rw[Tn h]at hc
  rw[hc]at p1
  rw[Ti h]
  refine zX73 ?_<;>intros
  apply Yb Ysv
  exact za
  exact rfl
  exactλ_ hw=>(p1 hin.cons hw)
  refine zX0 ?_<;>intros
  apply Yf H
  ·exact zc0
  exact zc3
def rqQ(x:RqM):HP:=many [sl 127 1 x.A x.rows.length x.cap (x.rows.flatMap rowF),many (x.rows.map rowQ)]
def RqM.lens(x:RqM):Prop:=x.rows.length<=1000/\∀r∈x.rows,r.xs.length<=1000/\r.xs.length<=r.cap
theorem Yvm{x:RqM}(hm:rqQ x∈H)(hl:x.lens):x.In B w0 H:=by
 have hb:∀w,St B w0 H w->St B w0 [sl 127 1 x.A x.rows.length x.cap (x.rows.flatMap rowF),many (x.rows.map rowQ)] w:=λw hw=>hw.inM hm
 refine RqM.In.mono ⟨.sl (.head _),λr hr=>?_,TX hl.1 (by decide),λr hr=>⟨TX (hl.2 r hr).1 (by decide),(hl.2 r hr).2⟩⟩ hb
 exact Rd.many (L:=x.rows.map rowQ) (.tail _ (.head _)) (RJ hr)
def Yjz:RqM:=⟨(0,0,0,0,0,0),none,0,[]⟩
theorem Yxo(h:St B w0 H w):St B w0 (rqQ Yjz::H) w:=by
 exact((h.perm (.noMany H)).nilSlice 127 1).perm (.close [_,_] H)
def OutQ(H:List HP)(R:Rqs×Int)(v:Value)(K:List HP):Prop:=∃x:RqM,v=.tuple #[rqV x,.int .i64 R.2]/\x.rq=R.1/\x.lens/\K=rqQ x::H
theorem Yr6{R:Rqs×Int}{v:Value}(e:Int)(hR:R=(Ymz,e))(hv:v=.tuple #[rqV Yjz,.int .i64 e]):OutQ H R v (rqQ Yjz::H):=⟨Yjz,by simp_all,by rw[hR];rfl,⟨Td _,λr hr=>by cases hr⟩,rfl⟩
theorem Qd(n:NetM)(f:Flw)(hin:n.In B w0 H)(hw:St B w0 H w):
 CX B w0 67 [n.val,flwV f] w (OutQ H (Ua n.net f)):=by
 refine Ya Tryz.func67 Tryz.ntmps67 rfl rfl hw ?_
 have p1:=λ{H':List HP}{w:World}(hin:n.In B w0 H') (hw:St B w0 H' w)=>YeR n f.2.1 f.2.2.1 hin hw
 have hl9:=Yvp n.net f.2.1 f.2.2.1
 have hsing:Ua n.net f=if(Z5 n.net f.2.1 f.2.2.1).2≠0 then(Ymz,(Z5 n.net f.2.1 f.2.2.1).2)else((f,[(Z5 n.net f.2.1 f.2.2.1).1]),0):=rfl
 rw[hsing]
 clear hsing
 generalize Z5 n.net f.2.1 f.2.2.1=R at*
 unfold NetM.val at p1⊢
 unfold flwV
 refine zX73 ?_<;>intros
 apply Yg _ YvX
 exact za
 exact rfl
 exactλ_ hw=>(p1 hin.cons.cons.cons (hw))
 rintro _ _ ⟨A,cap,rfl,-,-,rfl⟩
 apply YbX (e:=3) (size:=1) (k:=R.1.length) (cap:=cap) (A:=A) (xs:=R.1.flatMap numF) (by(focus exact zc2))
 intro hcap
 obtain⟨r,e⟩:=R
 dsimp only at hl9 hcap⊢
 by_cases he:e=0
 ·rw[Tj (λh=>h he)]
  refine zX46 ?_<;>intros
  rename_i gL
  apply Yy T (H2:=rqQ ⟨f,some ⟨gL,0,none⟩,1,[⟨A,cap,r⟩]⟩::H);(iterate 3 exact rfl);(focus exact zc2);exact rfl;exact rfl
  ·intro w hw
   have h5:St B w0 (blk gL (.cells #[.slice A r.length cap] 127 (0,0))::ints A cap r::H) w:=by
    revert w
    exact zc0
   have h6:=h5.blk_sl (cs:=[Value.slice A r.length cap]) (len:=1) (size:=1) rfl (by omega)
   exact(h6.perm (.cons _ (.close [_] H))).perm (.close [_,_] H)
  refine⟨_,rfl,rfl,⟨TR rfl,λx hx=>?_⟩,rfl⟩
  rw[Ru.1 hx]
  exact⟨by show r.length<=_;omega,hcap⟩
 ·rw[Tn he]
  refine zX50 ?_<;>intros
  apply Yy T (H2:=rqQ Yjz::H);(iterate 3 exact rfl);(focus exact zc2);exact rfl;exact rfl
  ·intro w hw
   have h5:St B w0 H w:=by
    revert w
    exact zc0
   exact Yxo h5
  exact Yr6 e rfl rfl
structure Ylj(n:NetM)(f:Flw):Prop where
 err:((WL n.net f).1=none/\(WL n.net f).2≠0)\/∃p q,WL n.net f=(some (p,q),0)
 run:∀{B:Nat}{w0:World}{H:List HP}{w:World},n.In B w0 H->St B w0 H w->CX B w0 213 [n.val,.int .i64 f.2.1,.int .i64 f.2.2.1] w λv K=>match(WL n.net f).1 with
  |none=>v=.tuple #[.slice none 0 0,.int .i64 (WL n.net f).2]/\K=H
  |some pq=>∃g A1 c1 A2 c2,v=.tuple #[.slice (some ⟨g,0,none⟩) 2 2,.int .i64 (WL n.net f).2]/\(2<=pq.1.length/\pq.1.length<=9/\pq.2.length<=9)/\WayV A2 pq.2/\K=sl 127 1 (some ⟨g,0,none⟩) 2 2 ([⟨A1,c1,pq.1⟩,⟨A2,c2,pq.2⟩].flatMap rowF)::ints A1 c1 pq.1::ints A2 c2 pq.2::H
theorem YkI(n:NetM)(f:Flw)(he:Zp n.net f.2.1 f.2.2.1=0)(hq:WL n.net f=(none,17))(hbo:(QM 100000 n.net.nodes.toNat (JO n.net) f.2.1 f.2.1 f.2.2.1 (λ_=>false)).map (λr=>r.2.1)=some false):Ylj n f where
 err:=.inl (by rw[hq];exact⟨rfl,by decide⟩)
 run:=by
  rw[hq]
  exactλhin hw=>YjC n f.2.1 f.2.2.1 he hbo hin hw
theorem YdP(n:NetM)(f:Flw)(hrun:Ylj n f)(hin:n.In B w0 H)(hw:St B w0 H w):
 CX B w0 120 [n.val,flwV f] w (OutQ H (reqE n.net f)):=by
 refine Ya Tryz.func120 Tryz.ntmps120 rfl rfl hw ?_
 have p1:=λ{H':List HP}{w:World}(hin:n.In B w0 H') (hw:St B w0 H' w)=>hrun.run hin hw
 have p2:=λ{H':List HP}{w:World}(hin:n.In B w0 H') (hw:St B w0 H' w)=>Qd n f hin hw
 have hreq:reqE n.net f=match(WL n.net f).1 with|some pq=>((f,[pq.1,pq.2]),0)|none=>Ua n.net f:=rfl
 rw[hreq]
 clear hreq
 unfold NetM.val flwV at p2
 unfold NetM.val at p1⊢
 unfold flwV
 rcases hrun.err with⟨h1,h2⟩|⟨a,b,h1⟩
 ·generalize WL n.net f=R at*
  obtain⟨o,e⟩:=R
  dsimp only at h1 h2
  subst h1
  dsimp only at p1⊢
  repeat'(first|refine zgb ?_|(refine zgh ?_;intro _)|fail)
  apply Yb YsQ
  exact za
  exact rfl
  exactλ_ hw=>(p1 hin.cons.cons.cons hw)
  repeat'(first|refine zgc ?_|(refine zgf ?_ ?_<;>intro _<;>try exact zo)|fail)
  apply Yg _ en67
  exact za
  exact rfl
  exactλ_ hw=>(p2 hin.cons.cons.cons (hw))
  rintro _ _ ⟨x,rfl,hx,hxl,rfl⟩
  unfold rqV
  repeat'(first|refine zgc ?_|fail)
  apply Yy T (H2:=rqQ x::H);(iterate 3 exact rfl);exact zm;exact rfl;exact rfl
  ·exact zk
  exact⟨x,rfl,hx,hxl,rfl⟩
 ·rw[h1]at p1⊢
  dsimp only at p1⊢
  repeat'(first|refine zgb ?_|(refine zgh ?_;intro _)|fail)
  apply Yg _ YsQ
  exact za
  exact rfl
  exactλ_ hw=>(p1 hin.cons.cons.cons (hw))
  rintro _ _ ⟨g,A1,c1,A2,c2,rfl,⟨l1,l2,l3⟩,-,rfl⟩
  apply YbX (e:=3) (size:=1) (k:=a.length) (cap:=c1) (A:=A1) (xs:=a.flatMap numF) zm
  intro hc1
  apply YbX (e:=3) (size:=1) (k:=b.length) (cap:=c2) (A:=A2) (xs:=b.flatMap numF) zm
  intro hc2
  try dsimp only at l1 l2 l3
  repeat'(first|refine zgd ?_|(refine zgf ?_ ?_<;>intro _<;>try exact zo)|fail)
  apply Yy T (H2:=rqQ ⟨f,some ⟨g,0,none⟩,2,[⟨A1,c1,a⟩,⟨A2,c2,b⟩]⟩::H);(iterate 3 exact rfl);exact zm;exact rfl;exact rfl
  ·intro w hw
   have h5:St B w0 (sl 127 1 (some ⟨g,0,none⟩) 2 2 ([⟨A1,c1,a⟩,⟨A2,c2,b⟩].flatMap rowF)::ints A1 c1 a::ints A2 c2 b::H) w:=by
    revert w
    exact zk
   exact(h5.perm (.cons _ (.close [_,_] H))).perm (.close [_,_] H)
  refine⟨_,rfl,rfl,⟨TR rfl,λx hx=>?_⟩,rfl⟩
  simp only[RA,SJ,or_false]at hx
  rcases hx with rfl|rfl
  ·exact⟨by show a.length<=_;omega,hc1⟩
  ·exact⟨by show b.length<=_;omega,hc2⟩
theorem YdB(q:List RqM)(x:RqM)(H:List HP):Perm (rqQ x::many (q.map rqQ)::H) (many ((q++[x]).map rqQ)::H):=by
 have:=Perm.push (rqQ x) (q.map rqQ) [] H
 simp_all
def Yoo(H:List HP)(R:List Rqs×(Int×Int))(v:Value)(K:List HP):Prop:=∃A cap q,v=.tuple #[.slice A (q:List RqM).length cap,.int .i64 R.2.1,.int .i64 R.2.2]/\q.map RqM.rq=R.1/\(∀x∈q,x.lens)/\K=rqs A cap q::many (q.map rqQ)::H
variable {B:Nat}{w0 w:World}{H:List HP}
theorem Ygu(h:St B w0 H w):St B w0 (rqs none 0 []::many (([]:List RqM).map rqQ)::H) w:=(h.perm (.noMany H)).nilSlice 93 7
theorem YdH{R:List Rqs×(Int×Int)}{v:Value}(i e:Int)(hR:R=([],(i,e)))(hv:v=.tuple #[.slice none 0 0,.int .i64 i,.int .i64 e]):Yoo H R v (rqs none 0 []::many (([]:List RqM).map rqQ)::H):=
 ⟨none,0,[],by simp_all,by simp_all,(λx hx=>by cases hx),rfl⟩
theorem Yma{q:List RqM}{x:RqM}(hm:many (q.map rqQ)∈H)(hx:x∈q)(hl:x.lens):x.In B w0 H:=
 RqM.In.mono (H:=q.map rqQ) (Yvm (RJ hx) hl) λ_ hw=>hw.inM hm
structure RtM where
 i:Nat
 A:Option Addr
 cap:Nat
 q:List RqM
theorem YeK(n:NetM)(l:List Flw)(hll:l.length<=1000000000000)(hrun:∀f∈l,Ylj n f){A:Option Addr}{cap:Nat}(hin:n.In B w0 H)(hr:Rd B w0 H A (l.flatMap flwF))(hw:St B w0 H w):
 CX B w0 42 [n.val,.slice A l.length cap] w (Yoo H (V8 n.net l)):=by
 refine Ya Tryz.func42 Tryz.ntmps42 rfl rfl hw ?_
 have p1:=λ{H':List HP}{w:World}(hin:n.In B w0 H') (hw:St B w0 H' w)=>WA n hin hw
 have p2:=λ{H':List HP}{w:World}(hr:Rd B w0 H' A (l.flatMap flwF)) (hw:St B w0 H' w)=>Xw n.nodes l (TX hll (by decide)) (cap:=cap) hr hw
 have p3:=λ(f:Flw) (hf:f∈l) {H':List HP}{w:World}(hin:n.In B w0 H') (hw:St B w0 H' w)=>YdP n f (hrun f hf) hin hw
 have hop:∀w,St B w0 [many H] w->St B w0 H w:=λw hw=>hw.perm (.openT H)
 have hin:=hin.mono hop
 have hr:=hr.mono hop
 unfold NetM.val flwV at p3
 unfold NetM.val at p1⊢
 refine Y6 [many H] (λw hw=>hw.perm (.closeT H)) ?_
 unfold V8
 by_cases hck:Yl n.net=0
 rotate_left
 ·rw[Tn hck]
  rw[Ti hck]at p1
  repeat'(first|refine zgb ?_|(refine zgh ?_;intro _)|fail)
  apply Yb en38
  exact za
  exact rfl
  exactλ_ hw=>(p1 hin.cons hw)
  repeat'(first|refine zgd ?_|fail)
  apply Yf (rqs none 0 []::many (([]:List RqM).map rqQ)::H)
  ·intro w hw
   have h5:St B w0 [many H] w:=by
    revert w
    exact zk
   exact Ygu (hop w h5)
  apply J7;(iterate 4 exact rfl)
  exact YdH _ _ rfl rfl
 rw[Tj (λe=>e hck)]
 rw[Tf hck]at p1
 have hnd:n.net.nodes=n.nodes:=rfl
 rw[hnd]
 obtain⟨⟨fi,fe⟩,hF⟩:∃R,YB n.nodes l=R:=⟨_,rfl⟩
 rw[hF]at p2⊢
 dsimp only at p2⊢
 repeat'(first|refine zgb ?_|(refine zgh ?_;intro _)|fail)
 apply Yb en38
 exact za
 exact rfl
 exactλ_ hw=>(p1 hin.cons hw)
 repeat'(first|refine zgc ?_|fail)
 apply Yb en39
 exact za
 exact rfl
 exactλ_ hw=>(p2 hr.cons hw)
 by_cases hfe:fe=0
 rotate_left
 ·rw[Tn hfe]
  repeat'(first|refine zgc ?_|(refine zge ?_ ?_<;>intro _<;>try exact zo)|fail)
  apply Yf (rqs none 0 []::many (([]:List RqM).map rqQ)::H)
  ·intro w hw
   have h5:St B w0 [many H] w:=by
    revert w
    exact zk
   exact Ygu (hop w h5)
  apply J7;(iterate 4 exact rfl)
  exact YdH _ _ rfl rfl
 subst hfe
 rw[Tj (λe=>e rfl)]
 have hl16:l.length<=16:=by
  unfold YB at hF
  split at hF
  ·cases hF
  split at hF
  ·cases hF
  ·omega
 obtain⟨F,hFd⟩:∃F,(λi=>(reqE n.net (Xa l i)).2)=F:=⟨_,rfl⟩
 have hFv:∀{i:Nat}{f:Flw},l[i]? =some f->F i=(reqE n.net f).2:=λ{i f} h=>by
  rw[<-hFd]
  show(reqE n.net (Xa l i)).2=_
  unfold Xa
  rw[Tz,h];rfl
 unfold YdO
 rw[hFd]
 repeat'(first|refine zgc ?_|(refine zge ?_ ?_<;>intro _<;>try exact zo)|fail)
 rename_i g2 _
 refine Ye (λz:RtM=>[(30,.int .i64 (z.i:Nat)),(29,.int .i64 l.length),(28,.slice A l.length cap),(9,.slice z.A z.q.length z.cap),(2,.pointer (some ⟨g2,0,none⟩))]) (λz=>rqs z.A z.cap z.q::many (z.q.map rqQ)::netA g2 n::[many H])
  (λz=>z.i<=l.length/\z.q.map RqM.rq=(l.take z.i).map (λf=>(reqE n.net f).1)/\(∀x∈z.q,x.lens)/\∀j,0<=j->j<z.i->F j=0) (λz=>l.length-z.i) ⟨0,none,0,[]⟩ ⟨Td _,rfl,(λx hx=>by cases hx),λj _ h=>absurd h (TZ _)⟩ ?_ ?_ ?_
 ·exact zu
 ·intro w hw
  have h5:St B w0 (netA g2 n::[many H]) w:=by
   revert w
   exact zk
  exact Ygu h5
 rintro⟨i,A1,c1,q⟩ ⟨hi,hq,hql,hz⟩ K hK
 dsimp only at hi hq hql hz⊢
 have hqn:q.length=i:=by
  have:=TF List.length hq
  rw[To,To,TU]at this
  omega
 by_cases hlt:i<l.length
 rotate_left
 ·obtain rfl:i=l.length:=by omega
  have hfe:=Xy (f:=F) (r:=l.length) (i0:=0) λj h1 h2=>hz j h1 (by omega)
  rw[hfe,Tj (λe=>e rfl)]
  rw[TI]at hq
  clear hK
  repeat'(first|refine zgc ?_|(refine zge ?_ ?_<;>intro _<;>try exact zo)|fail)
  apply Yf (rqs A1 c1 q::many (q.map rqQ)::H)
  ·intro w hw
   have h5:St B w0 (rqs A1 c1 q::many (q.map rqQ)::[many H]) w:=by
    revert w
    exact zk
   exact h5.perm (.cons _ (.cons _ (.openT H)))
  apply J7;(iterate 4 exact rfl)
  exact⟨A1,c1,q,rfl,hq,hql,rfl⟩
 obtain⟨f,hf⟩:∃f,l[i]? =some f:=⟨_,Ta hlt⟩
 have hr2:Rd B w0 (rqs A1 c1 q::many (q.map rqQ)::netA g2 n::[many H]) A (l.flatMap flwF):=hr.cons.cons.cons
 have hFi:=hFv hf
 have hst:(l.take (i+1)).map (λf=>(reqE n.net f).1)=(l.take i).map (λf=>(reqE n.net f).1)++[(reqE n.net f).1]:=by
  rw[TB,hf,Rf];rfl
 have p4:=λ{H':List HP}{w:World}(hin:n.In B w0 H') (hw:St B w0 H' w)=>p3 f (Tc hf) (H':=H') (w:=w) hin hw
 clear p3
 generalize reqE n.net f=RQ at p4 hFi hst
 obtain⟨rq,re⟩:=RQ
 dsimp only at hFi hst
 repeat'(first|refine zgd ?_|(refine zge ?_ ?_<;>intro _<;>try exact zo)|(refine zgh ?_;intro _)|fail)
 apply Yg _ YvL
 exact za
 exact rfl
 exactλ_ hw=>(p4 (hin.mono zk) (hw))
 rintro _ _ ⟨x,rfl,hx,hxl,rfl⟩
 dsimp only at hx⊢
 by_cases he:re=0
 rotate_left
 ·have hfe:=Xh (f:=F) (r:=l.length) (i0:=0) (i:=i) (λj h1 h2=>hz j h1 h2) (Td _) (by omega) (by rw[hFi];exact he)
  rw[hfe,Tn (by rw[hFi];exact he),hFi]
  clear hK
  repeat'(first|refine zgd ?_|(refine zge ?_ ?_<;>intro _<;>try exact zo)|(refine zgh ?_;intro _)|fail)
  apply Yf (rqs none 0 []::many (([]:List RqM).map rqQ)::H)
  ·intro w hw
   have h5:St B w0 [many H] w:=by
    revert w
    exact zk
   exact Ygu (hop w h5)
  apply J7;(iterate 4 exact rfl)
  exact YdH _ _ rfl rfl
 subst he
 unfold rqV rqs
 repeat'(first|refine zgc ?_|(refine zge ?_ ?_<;>intro _<;>try exact zo)|(refine zgh ?_;intro _)|(refine zgi ?_;intro _ _)|fail)
 rename_i A2 c2
 apply hK ⟨i+1,A2,c2,q++[x]⟩
 ·refine⟨by show i+1<=_;omega,?_,λy hy=>?_,λj h1 h2=>?_⟩
  ·show(q++[x]).map RqM.rq=_
   rw[Rf,hq,hst]
   exact TF _ (TF (λz=>[z]) hx)
  ·rcases Rl.1 hy with hy|hy
   ·exact hql y hy
   ·rw[Ru.1 hy];exact hxl
  ·rcases Rk.1 h2 with h|rfl
   ·exact hz j h1 h
   ·exact hFi
 ·dsimp only;omega
 ·rw[Tt]
  exact zu
 ·intro w hw
  have h5:St B w0 (rqQ x::many (q.map rqQ)::rqs A2 c2 (q++[x])::netA g2 n::[many H]) w:=by
   rw[<-Ya0]
   revert w
   exact zk
  have h6:=h5.perm (YdB q x _)
  exact h6.perm (.swap _ _ _)
end Go.Proofs.YtjommdkgfbhbdaaGreatDoor
