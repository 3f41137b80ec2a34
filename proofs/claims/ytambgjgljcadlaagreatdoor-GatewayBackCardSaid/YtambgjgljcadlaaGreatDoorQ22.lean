/- Lemmas. -/
import Derived.Test.YtambgjgljcadlaaGreatDoorQ20
import Derived.Test.YtambgjgljcadlaaGreatDoorQ21
set_option maxRecDepth 100000
set_option maxHeartbeats 8000000
set_option linter.all false
namespace Go.Proofs.YtambgjgljcadlaaGreatDoor
open Go.RowKit Go.Eng Go.Nw Go.Rt
variable {A:Option Addr}{cap B k gv:Nat}{w0 w:World}{H:List HP}
theorem Yi3(q:List RqM)(hl:q.length<=1000000000000)(hr:Rd B w0 H A (q.flatMap rqF))(hw:St B w0 H w):
 CX B w0 124 [.slice A q.length cap] w λv K=>∃A2 cap2,v=.slice A2 (RqM.fl q).length cap2/\K=flws A2 cap2 (RqM.fl q)::H:=by
 refine Yc Tryz.func124 Tryz.ntmps124 rfl rfl hw ?_
 repeat'(first|refine zgb ?_|fail)
 refine XT 53 6 ?_
 refine Yj (λz:FlM=>[(8,.int .i64 (z.i:Nat)),(7,.int .i64 q.length),(6,.slice A q.length cap),(3,.slice z.A (RqM.fl (q.take z.i)).length z.cap)]) (λz=>flws z.A z.cap (RqM.fl (q.take z.i))::H) (λz=>z.i<=q.length) (λz=>q.length-z.i) ⟨0,none,0⟩ (Tj _) ?_ (λw hw=>hw) ?_
 ·exact zu
 rintro⟨i,A2,cap2⟩ hi K hK
 dsimp only at hi⊢
 have hlen:(RqM.fl (q.take i)).length=i:=by grind [Go.Proofs.YtambgjgljcadlaaGreatDoor.RqM.fl]
 have hr':=hr.cons (X:=flws A2 cap2 (RqM.fl (q.take i)))
 by_cases hlt:i<q.length
 ·obtain⟨x,hx⟩:∃x,q[i]? =some x:=⟨_,Ta hlt⟩
  have hst:RqM.fl (q.take (i+1))=RqM.fl (q.take i)++[x.f]:=by grind [Go.Proofs.YtambgjgljcadlaaGreatDoor.RqM.fl,TM]
  repeat'(first|(apply Ye T;exact rfl;exact zm;exact rfl;exact zv;exact rfl;exact rfl)|refine zgd ?_|(refine zge ?_ ?_<;>intro _<;>try exact zo)|(refine zgh ?_;intro _)|(refine zgi ?_;intro _ _)|fail)
  rename_i A' cap'
  rw[O2,<-hst,show(RqM.fl (q.take i)).length+1=(RqM.fl (q.take (i+1))).length from by rw[hst];simp]
  apply hK ⟨i+1,A',cap'⟩
  ·show i+1<=_
   omega
  ·dsimp only;omega
  ·exact zu
  ·exact zk
 ·obtain rfl:i=q.length:=by omega
  rw[TQ]
  repeat'(first|refine zgc ?_|(refine zge ?_ ?_<;>intro _<;>try exact zo)|fail)
  apply Yd;exact rfl;exact rfl
  exact⟨A2,cap2,rfl,rfl⟩
theorem Ye3(a:RqM)(f:Flw)(hw:St B w0 H w):
 CX B w0 122 [rqV a,flwV f] w λv K=>v=.int .i64 (cmpI a.f.1 f.1)/\K=H:=by
 refine Yc Tryz.func122 Tryz.ntmps122 rfl rfl hw ?_
 unfold rqV flwV
 repeat'(first|((first|apply Ya en49|apply Yb en49);exact za;exact rfl;exactλ_ hw=>(Vk _ _ hw))|refine zgb ?_|(refine zgh ?_;intro _)|fail)
 apply Yi H
 ·exact zk
 apply Yd;exact rfl;exact rfl
 exact⟨rfl,rfl⟩
theorem cmpI_zero{a b:Int}:cmpI a b=0↔a=b:=by
 unfold cmpI
 omega
theorem Yg6(l:List RqM)(c:Flw)(ho:Ylm l)(hlen:l.length<=1000000000)(hr:Rd B w0 H A (l.flatMap rqF))(hw:St B w0 H w):
 CX B w0 121 [.slice A l.length cap,flwV c,.func (.func 122) #[] #[]] w λv K=>
  v=.tuple #[.int .i64 (posQ (l.map RqM.rq) c.1:Nat),.bool (hasQ (l.map RqM.rq) c.1)]/\K=H:=by
 refine Yc Tryz.func121 Tryz.ntmps121 rfl rfl hw ?_
 (apply Xi;apply YU;apply YB;exact rfl;exact rfl;intro g)
 refine zX7 ?_
 have hr:=hr.cons (X:=blk g (.cells (flwF c).toArray 53 (0,0)))
 refine W8 (λ(lo hi:Nat)=>[(9,.int .i64 lo),(10,.int .i64 hi),(8,.int .i64 l.length),(0,.slice A l.length cap),(2,.func (.func 122) #[] #[]),(4,.pointer (some ⟨g,0,none⟩))]) (λ_ _=>blk g (.cells (flwF c).toArray 53 (0,0))::H)
  (λlo hi=>lo<=hi/\hi<=l.length/\(∀i x,i<lo->l[i]? =some x->x.f.1<c.1)/\(∀i x,hi<=i->l[i]? =some x->¬x.f.1<c.1)) (λlo hi=>hi-lo) 0 l.length ⟨by omega,by omega,λj x hj=>by omega,λj x h1 h2=>by simp_all⟩ ?_ (λw hw=>hw) ?_
 ·exact zc1
 rintro lo hi ⟨h1,h2,h3,h4⟩ K hK
 by_cases hlt:lo<hi
 ·obtain⟨b,hb⟩:∃b,l[(((lo:Int)+hi)/2).toNat]? =some b:=⟨_,Ta (by omega)⟩
  have hm:(((lo:Int)+hi)/2).toNat=(lo+hi)/2:=by omega
  have hb2:l[(lo+hi)/2]? =some b:=by grind
  repeat'(first|((first|apply YV (cs:=[])|apply Y3 (cs:=[]));exact rfl;exact Ytm;exact za;exact rfl;exactλ_ hw=>(Ye3 b c hw))|(apply zg28;refine zs84 ?_)|refine zgd ?_|(refine zge ?_ ?_<;>intro _<;>try exact zo)|fail)
  ·rename_i hc
   rw[OZ]at hc
   apply hK ((lo+hi)/2+1) hi
   ·exact zc50
   ·omega
   ·exact zc1
   exact zc19
  ·rename_i hc
   have hc:¬b.f.1<c.1:=λh=>by have:=OZ.2 h;omega
   apply hK lo ((lo+hi)/2)
   ·exact zc42
   ·omega
   ·exact zc1
   exact zc19
 ·obtain rfl:lo=hi:=by omega
  have hpe:posQ (l.map RqM.rq) c.1=lo:=Yeh (by rw[TC];exact h2) (λi x hi hx=>by
   rw[TX]at hx
   cases hl:l[i]? with
   |none=>rw[hl]at hx;cases hx
   |some y=>rw[hl]at hx;cases hx;exact h3 i y hi hl) λx hx=>by
   rw[TX]at hx
   cases hl:l[lo]? with
   |none=>rw[hl]at hx;cases hx
   |some y=>exact YuQ
  rw[hpe]
  have hfd:hasQ (l.map RqM.rq) c.1=true↔∃b,l[lo]? =some b/\b.f.1=c.1:=by
   unfold hasQ
   rw[TR]
   constructor
   ·rintro⟨x,hx,he⟩
    obtain⟨b,hb,rfl⟩:=TD.1 hx
    have he:b.f.1=c.1:=TY he
    obtain⟨j,hj⟩:=TO.1 hb
    rcases SI j lo with h|rfl|h
    ·have:=h3 j b h hj;omega
    ·exact⟨b,hj,he⟩
    ·obtain⟨d,hd⟩:∃d,l[lo]? =some d:=⟨_,Ta (by have:=(Tc.1 hj).1;omega)⟩
     have:=ho lo j d b h hd hj
     have:=h4 lo d (TK _) hd
     omega
   ·rintro⟨b,hb,he⟩
    exact⟨b.rq,SC (Tf hb),Ti he⟩
  by_cases hl:lo<l.length
  ·obtain⟨b,hb⟩:∃b,l[lo]? =some b:=⟨_,Ta hl⟩
   repeat'(first|((first|apply YV (cs:=[])|apply Y3 (cs:=[]));exact rfl;exact Ytm;exact za;exact rfl;exactλ_ hw=>(Ye3 b c hw))|(apply zg28;refine zs84 ?_)|refine zgd ?_|(refine zge ?_ ?_<;>intro _<;>try exact zo)|fail)
   ·rename_i h
    apply Yl;apply Yx;(iterate 3 exact rfl)
    exact⟨by rw[hfd.2 ⟨b,hb,cmpI_zero.1 h⟩],rfl⟩
   ·rename_i h
    apply Yl;apply Yx;(iterate 3 exact rfl)
    have hf0:hasQ (l.map RqM.rq) c.1=false:=SD.2 λe=>by
     obtain⟨b',hb',he⟩:=hfd.1 e
     rw[hb]at hb'
     obtain rfl:=Tv hb'
     exact h (cmpI_zero.2 he)
    exact⟨by rw[hf0],rfl⟩
  ·refine zX17 ?_<;>intros
   apply Yl;apply Yx;(iterate 3 exact rfl)
   have hf0:hasQ (l.map RqM.rq) c.1=false:=SD.2 λe=>by
    obtain⟨b',hb',he⟩:=hfd.1 e
    exact hl (Tc.1 hb').1
   exact⟨by rw[hf0],rfl⟩
section
variable {m:Eng.Mode}{n:Shp}{B d:Nat}{w0:World}{ops:Array Oper}{Q:Exit->Act->World->Prop}{rest:List Oper}{env:Env}{H:List HP}{ty:TypeId}{pos:String}{after:Array Edge}{x y lo:Operand}
variable {gv k cap:Nat}
theorem Yf7{g o la ca lb cb:Nat}{tt:TypeId}{cs:Array Value}{xs:List Value}{tys:Array TypeId}(hx:evo env x=some (.slice (some ⟨gv,0,none⟩) la ca))(hy:evo env y=some (.slice (subA (some ⟨g,0,none⟩) o cap 6) lb cb))(hm1:Eng.blk gv (.cells cs tt (0,0))∈H)(hm2:sl 53 6 (some ⟨g,0,none⟩) k cap xs∈H)
 (hne:∀w,St B w0 H w->gv≠g) (hc:0<cap/\cap≠o) (hn:Nat.ble (d+1) n.k=true) (h:VL Tryz.prog none n B w0 ops Q rest ((d,.bool false)::env) H):
 VL Tryz.prog none n B w0 ops Q (⟨some d,.call ⟨.value (.func 207),#[x,y],tys⟩,ty,pos,after,none⟩::rest) env H:=by
 have hsub:subA (some ⟨g,0,none⟩) o cap 6=some ⟨g,o*6,none⟩:=by
  unfold subA
  rw[Td hc.2,Sv,Addr.add_lit,RH]
 rw[hsub]at hy
 refine XA (λu K'=>u=.bool false/\K'=H) rfl rfl hn (λa w ha hw=>⟨.bool false,H,w,?_,hw,rfl,rfl⟩) (by rintro _ _ ⟨rfl,rfl⟩;exact h)
 have hb:=(hw.blk hm1).1
 rcases Z5 (hw.sl hm2)with⟨h0,_⟩|⟨g',cur,e0,g1,_,_,g4,_⟩
 ·cases h0
 injection e0 with e0
 injection e0 with e0
 subst e0
 obtain⟨bb,htl⟩:∃bb,Eng.look T.sl 48=some (53,6,bb):=⟨_,rfl⟩
 obtain⟨_,inf,_,hi,_,_,hsi,_⟩:=YE (T.slic htl)
 have hr:=run_callFunc_extern (P:=Tryz.prog) Tryz.func207 (by kernel_rfl) (by kernel_rfl) (by kernel_rfl) (e:=Extern.SlicesOverlaps.overlaps #[48,48] #[4]) (by kernel_rfl) #[.slice (some ⟨gv,0,none⟩) la ca,.slice (some ⟨g,o*6,none⟩) lb cb] w
 have hov:=Lib.run_overlaps_apart (P:=Tryz.prog) w 48 4 53 Tryz.underlying48 6 (λw=>by simp[sizeOf,typeInfo,hi,hsi]) ⟨gv,0,none⟩ ⟨g,o*6,none⟩ la ca lb cb (hne w hw) tt 53 cs.size cur.size (by simp[World.shape?,hb]) (by simp[World.shape?,g1]) (by rw[g4];omega) (by simp[World.frozen?,hb]) (by simp[World.frozen?,hb])
 have he:a.eval (.func 207)=.func (.func 207) #[] #[]:=rfl
 simp[execOp,resolve,invoke,ha.eval hx,ha.eval hy,he,Deferred.ofValue,hr,hov,Result.andThen]
end
theorem Ysi(l:List Flw)(c:Flw)(i:Nat)(hk:k=1):(l.take i).take i++[c].take k++(l.take i).drop (i+k)=l.take i++[c]:=by
 grind [RI]
theorem Ysk(l:List Flw)(c:Flw)(i:Nat)(hi:i<=l.length)(hk:k=l.length-i):(l.take i++[c]).take (i+1)++(l.drop i).take k++(l.take i++[c]).drop (i+1+k)=l.take i++c::l.drop i:=Yrw
theorem Ysm(l:List Flw)(i:Nat)(hi:i<=l.length)(hk:k=l.length-i):l.take (i+1)++(l.drop i).take k++l.drop (i+1+k)=l.take (i+1)++l.drop i:=Yro
theorem Yso(l:List Flw)(c:Flw)(i:Nat)(hi:i<l.length)(hk:k=1):(l.take (i+1)++l.drop i).take i++[c].take k++(l.take (i+1)++l.drop i).drop (i+k)=l.take i++c::l.drop i:=by
 grind
theorem Yfp(l:List Flw)(c:Flw)(i:Nat)(hi:i<=l.length):(l.take i++c::l.drop i).length=l.length+1:=by
 grind
theorem YgB(l:List Flw)(i:Nat)(c:Flw)(hi:i<=l.length)(hlen:l.length<=1000)(hw:St B w0 (flws A cap l::blk gv (.cells #[.int .i64 c.1,.int .i64 c.2.1,.int .i64 c.2.2.1,.int .i64 c.2.2.2.1,.int .i64 c.2.2.2.2.1,.int .i64 c.2.2.2.2.2] 53 (0,0))::H) w):
 CX B w0 123 [.slice A l.length cap,.int .i64 i,.slice (some ⟨gv,0,none⟩) 1 1] w λv K=>∃A' cap',v=.slice A' (l.take i++c::l.drop i).length cap'/\K=flws A' cap' (l.take i++c::l.drop i)::H:=by
 refine Yc Tryz.func123 Tryz.ntmps123 rfl rfl hw ?_
 refine Wj (k:=l.length) (cap:=cap) (by(focus exact zc2)) λhcap=>?_
 have hli:=Yfp l c i hi
 have hrv:∀{L:List HP},blk gv (.cells #[.int .i64 c.1,.int .i64 c.2.1,.int .i64 c.2.2.1,.int .i64 c.2.2.2.1,.int .i64 c.2.2.2.2.1,.int .i64 c.2.2.2.2.2] 53 (0,0))∈L->Rd B w0 L (some ⟨gv,0,none⟩) (([c]:List Flw).flatMap flwF):=λh=>by
  have h1:=Rd.blk (B:=B) (w0:=w0) (cs:=(flwF c).toArray) h
  rw[show([c]:List Flw).flatMap flwF=(flwF c).toArray.toList by simp]
  exact h1
 have hq6:∀c:Flw,(flwF c).length=6:=λ_=>rfl
 have ho6:∀c:Flw,Ji (flwF c)=true:=λ_=>rfl
 refine zX4 ?_
 apply Yt T i (l.length-i);(iterate 5 exact rfl);exact hi;exact rfl
 by_cases hin:i=l.length
 ·have e1:l.take i++c::l.drop i=l++[c]:=Yrr
  rw[e1]
  refine Yri ?_<;>intros
  rename_i A' cap'
  apply Yi (flws A' cap' (l++[c])::H)
  ·intro w hw
   rw[<-O2]
   revert w
   exact zc0
  exact zc58
 have hlt:i<l.length:=by omega
 have hrs:∀{L:List HP}{g:Nat},sl 53 6 (some ⟨g,0,none⟩) l.length cap (l.flatMap flwF)∈L->Rd B w0 L (subA (some ⟨g,0,none⟩) i cap 6) ((l.drop i).flatMap flwF):=λh=>by
  have h1:=Rd.sub (B:=B) (w0:=w0) (q:=6) (o:=i) (k:=l.length-i) (cap:=cap) hq6 (Rd.sl h) hcap
  exact zc75
 apply Yb8 (k:=l.length) (by(focus exact zc2)) (by omega)
 rintro g rfl
 have hA:∃g',(some ⟨g,0,none⟩:Option Addr)=some ⟨g',0,none⟩:=⟨g,rfl⟩
 repeat'(first|(apply Wl T;(iterate 3 exact rfl))|refine zgc ?_|(refine zgf ?_ ?_<;>intro _<;>try exact zo)|fail)
 ·apply ZZ T (n':=i);(iterate 4 exact rfl);omega;omega;exact hA
  refine zX2 ?_
  rw[show(l.length:Int)+((1:Nat):Int)-(i:Int)=((l.length+1-i:Nat):Int) by omega]
  apply W9 T (e:=53) (size:=6) (k:=l.length) (xs:=l.flatMap flwF);exact rfl;exact rfl;(focus exact zc2);exact rfl;kernel_rfl;exact rfl;kernel_rfl;omega;intro g2 c2 hc2
  rw[show i+(l.length+1-i)=l.length+1 by omega]at hc2⊢
  have e2:sl 53 6 (some ⟨g2,0,none⟩) i c2 ((l.flatMap flwF).take (i*6))=sl 53 6 (some ⟨g2,0,none⟩) (l.take i).length c2 ((l.take i).flatMap flwF):=by
   rw[XQ hq6,TA,RU hi]
  rw[e2]
  have hA2:∃g',(some ⟨g2,0,none⟩:Option Addr)=some ⟨g',0,none⟩:=⟨g2,rfl⟩
  have htl:(l.take i).length=i:=zc92
  refine zX4 ?_
  apply Yt T i (l.length+1-i);(iterate 5 exact rfl);omega;exact rfl
  refine zX4 ?_
  apply Zo T (l.take i) [c] (l.take i++[c]) (f:=flwF) (o:=i) (cap:=c2);exact rfl;exact rfl;exact hrv (by(focus exact zc2));exact hq6;exact ho6;exact rfl;exact rfl;exact hA2;(simp only[TV];omega);exact Ysi l c i (by omega);exact zd
  refine zX4 ?_
  apply YK [0,1,2,3,4,5,6,7] [8] [true,true,true]
  kernel_rfl
  kernel_rfl
  exact zy
  (simp only[Yg,nthO];rfl)
  (simp only[Yg,nthO];rfl)
  refine zX9 ?_
  apply Yt T (i+1) (l.length+1-(i+1));(iterate 4 exact rfl);omega;omega;exact rfl
  refine zX4 ?_
  apply Yt T i (l.length-i);(iterate 5 exact rfl);omega;exact rfl
  refine zX2 ?_
  apply Zo T (l.take i++[c]) (l.drop i) (l.take i++c::l.drop i) (f:=flwF) (o:=i+1) (cap:=c2);exact rfl;exact rfl;exact hrs (by(focus exact zc2));exact hq6;exact ho6;exact rfl;exact rfl;exact hA2;(simp only[Tq,TA,TV,TZ];omega);exact Ysk l c i hi (by omega);exact zd
  refine zX2 ?_
  apply Yi (flws (some ⟨g2,0,none⟩) c2 (l.take i++c::l.drop i)::H)
  ·exact zc0
  exact zc86
 ·apply ZZ T (n':=l.length+1);(iterate 4 exact rfl);omega;omega;exact hA
  refine zX9 ?_
  apply Yt T (i+1) (l.length+1-(i+1));(iterate 4 exact rfl);omega;omega;exact rfl
  apply Yf7 (gv:=gv) (g:=g) (o:=i+1) (cap:=cap) (k:=l.length) (xs:=l.flatMap flwF);exact rfl;exact rfl;(focus exact zc2);(focus exact zc2);exactλw hw=>YaL (hw.perm (.swap _ _ _));omega;exact rfl
  refine zX2 ?_
  apply YK [0,1,2,3,4,5,6,7] [8] [true,true]
  kernel_rfl
  kernel_rfl
  exact zy
  (simp only[Yg,nthO];rfl)
  (simp only[Yg,nthO];rfl)
  refine zX9 ?_
  apply Yt T (i+1) (l.length+1-(i+1));(iterate 4 exact rfl);omega;omega;exact rfl
  refine zX4 ?_
  apply Yt T i (l.length+1-i);(iterate 5 exact rfl);omega;exact rfl
  refine zX2 ?_
  apply Zo T l (l.drop i) (l.take (i+1)++l.drop i) (f:=flwF) (o:=i+1) (cap:=cap);exact rfl;exact rfl;exact hrs (by(focus exact zc2));exact hq6;exact ho6;exact rfl;exact rfl;exact hA;(simp only[TZ];omega);exact Ysm l i hi (by omega);exact zd
  refine zX2 ?_
  apply Yt T i (l.length+1-i);(iterate 5 exact rfl);omega;exact rfl
  refine zX4 ?_
  apply Zo T (l.take (i+1)++l.drop i) [c] (l.take i++c::l.drop i) (f:=flwF) (o:=i) (cap:=cap);exact rfl;exact rfl;exact hrv (by(focus exact zc2));exact hq6;exact ho6;exact rfl;exact rfl;exact hA;(simp only[Tq,TA,TV,TZ];omega);exact Yso l c i hlt (by omega);exact zd
  refine zX7 ?_
  apply Yi (flws (some ⟨g,0,none⟩) cap (l.take i++c::l.drop i)::H)
  ·exact zc0
  exact zc81
end Go.Proofs.YtambgjgljcadlaaGreatDoor
namespace Go.Eng
open Go.RowKit
section
variable {P:Program}{m:Mode}{n:Shp}{B:Nat}{w0:World}{ops:Array Oper}{Q:Exit->Act->World->Prop}{rest:List Oper}{env:Env}{H:List HP}{d:Nat}{ty:TypeId}{pos:String}{after:Array Edge}{x y:Operand}
variable {k:Nat}
theorem Ybj(T:Tab P){t tn e size bytes:Nat}(hx:evo env x=some (.slice none 0 0))(hy:evo env y=some (.int .i64 (k:Int)))(ht:look T.sl t=some (e,size,bytes))(htn:YgC P tn=true)(hn:Nat.ble (d+1) n.k=true)(hb:Nat.ble bytes 1000=true)(hk:0<k/\k<=1000000)
 (h:∀g c,k<=c->VL P none n B w0 ops Q rest ((d,.slice (some ⟨g,0,none⟩) k c)::env) (sl e size (some ⟨g,0,none⟩) 0 c []::H)):VL P none n B w0 ops Q (⟨some d,.call ⟨.builtin .append,#[x,y],#[t,tn]⟩,ty,pos,after,none⟩::rest) env H:=by
 obtain⟨hu,i,z,hi,hz,hzs,hsi,hbi,_,_⟩:=YE (T.slic ht)
 obtain⟨kn,hkn⟩:=YbC htn
 have hb':=Ri hb
 refine XA (λv K=>∃g c,v=.slice (some ⟨g,0,none⟩) k c/\K=sl e size (some ⟨g,0,none⟩) 0 c []::H/\k<=c) rfl rfl hn (λa w ha hw=>?_) (by rintro _ _ ⟨g,c,rfl,rfl,hc⟩;exact h g c hc)
 have hbytes:k*i.bytes<=281474976710656:=by
  have:k*i.bytes<=k*1000:=Nat.mul_le_mul_left _ (by omega)
  omega
 have hrun:=Lib.run_append_nil_zeros (P:=P) w t tn ty e i z .i64 kn hu hkn hi hz k hk.1 (by omega) (by omega) hbytes
 have hge:=grownCap_ge w k 0 e
 have hcm:grownCap w k 0 e<=maxLen:=grownCap_le_maxLen w k 0 e (by simp only[maxLen];omega)
 refine⟨_,_,_,by simp only[execOp,resolve,invoke,builtin,ha.eval hx,ha.eval hy,NQ,Ru,Nj,Sem.run_bind,Sem.run_pure,hrun,Result.andThen_ok];rfl,?_,w.heap.size,grownCap w k 0 e,rfl,rfl,hge⟩
 have h2:=hw.drew.alloc (.cells (Builtin.zeroCells z.cells k++Builtin.zeroCells z.cells (grownCap w k 0 e-k)) e)
 refine h2.upd (Upd.here _) rfl rfl rfl (TK _) λS1 ⟨h3,h4⟩=>⟨⟨⟨by simp,.inr ⟨w.heap.size,grownCap w k 0 e,_,rfl,Tj _,h4,Tj _,hcm,?_,by simp⟩⟩,λa ha=>by cases ha;exact h3⟩,λ_ _ _=>rfl⟩
 rw[Array.size_append,size_zeroCells,size_zeroCells,hzs,<-SH,Nat.add_sub_cancel' hge]
end
end Go.Eng
namespace Go.Proofs.YtambgjgljcadlaaGreatDoor
open Go.RowKit Go.Eng Go.Nw Go.Rt
def slF{α:Type}(r:SlM α):List Value:=[.slice r.A r.xs.length r.cap]
def catS{α:Type}(rs:List (SlM α)):List α:=rs.flatMap λr=>r.xs
variable {α:Type}{k B cap:Nat}
theorem OX{rs:List (SlM α)}{r:SlM α}(h:rs[k]? =some r):catS (rs.take (k+1))=catS (rs.take k)++r.xs:=by
 unfold catS
 rw[TM,h,RY,Rw,List.flatMap_singleton]
theorem Ycc(rs:List (SlM α))(k:Nat):(catS (rs.take k)).length<=(catS rs).length:=by
 have e:catS rs=catS (rs.take k)++catS (rs.drop k):=by unfold catS;rw[<-Rw,Rk]
 rw[e,Tq];omega
variable {w0 w:World}{H:List HP}
theorem Yis(k:Nat)(hk:k<=1000000)(hw:St B w0 H w):
 CX B w0 206 [.slice none 0 0,.int .i64 k] w λv K=>∃A c,v=.slice A 0 c/\K=sl 77 7 A 0 c []::H:=by
 refine Yc Tryz.func206 Tryz.ntmps206 rfl rfl hw ?_
 by_cases h0:k=0
 ·subst h0
  repeat'(first|(apply Wl T;(iterate 3 exact rfl))|refine zgd ?_|(refine zgf ?_ ?_<;>intro _<;>try exact zo)|fail)
  apply Xk 77 7
  apply Yd;exact rfl;exact rfl
  exact⟨none,0,rfl,rfl⟩
 ·skip
  repeat'(first|(apply Wl T;(iterate 3 exact rfl))|refine zgd ?_|(refine zgf ?_ ?_<;>intro _<;>try exact zo)|fail)
  apply Y6 T (l:=([]:List Int)) (n':=0);(iterate 4 exact rfl);exact⟨Ry _,Ry _⟩;exact TK _;rfl
  rw[XY,show((k:Int)-((0:Nat)-(0:Nat)):Int)=(k:Int) by omega]
  iterate 1 (first|refine zga ?_|fail)
  apply Ybj T (k:=k);(iterate 3 exact rfl);kernel_rfl;exact rfl;exact rfl;omega;intro g c hc
  repeat'(first|(apply Y6 T (l:=List.replicate k (0:Int)) (n':=0);(rw[Rb];exact rfl);(iterate 3 exact rfl);omega;(rw[Rb];exact hc);omega)|refine zgb ?_|fail)
  rw[XY]
  repeat'(first|fail)
  apply Yd;exact rfl;exact rfl
  exact⟨some ⟨g,0,none⟩,c,rfl,rfl⟩
variable {A:Option Addr}
theorem Qi(rs:List (SlM Lop))(hrs:rs.length<=1000)(hct:(catS rs).length<=1000000)(hr:Rd B w0 H A (rs.flatMap slF))(hrr:∀r∈rs,Rd B w0 H r.A (r.xs.flatMap lopF))(hw:St B w0 H w):
 CX B w0 120 [.slice A rs.length cap] w λv K=>∃A' c,v=.slice A' (catS rs).length c/\(catS rs).length<=c/\K=sl 77 7 A' (catS rs).length c ((catS rs).flatMap lopF)::H:=by
 refine Yc Tryz.func120 Tryz.ntmps120 rfl rfl hw ?_
 repeat'(first|refine zgb ?_|fail)
 refine Yj (λ(k:Nat)=>[(11,.int .i64 k),(10,.int .i64 rs.length),(9,.slice A rs.length cap),(3,.int .i64 (catS (rs.take k)).length),(0,.slice A rs.length cap)]) (λ_=>H) (λk=>k<=rs.length) (λk=>rs.length-k) 0 (Tj _) ?_ (λw hw=>hw) ?_
 ·exact zu
 intro k hk K hK
 by_cases hlt:k<rs.length
 ·obtain⟨r,hx⟩:∃x,rs[k]? =some x:=⟨_,Ta hlt⟩
  have hst:=OX hx
  have h1:=Ycc rs (k+1)
  rw[hst,Tq]at h1
  repeat'(first|refine zgd ?_|(refine zge ?_ ?_<;>intro _<;>try exact zo)|fail)
  apply hK (k+1)
  ·omega
  ·omega
  ·rw[hst,Tq,Int.natCast_add];exact zu
  ·exactλw hw=>hw
 ·obtain rfl:k=rs.length:=by omega
  clear hK
  rw[TQ]
  repeat'(first|refine zgc ?_|(refine zge ?_ ?_<;>intro _<;>try exact zo)|fail)
  apply Yf _ Ywa
  exact za
  exact rfl
  exactλ_ hw=>(Yis (catS rs).length (by omega) (hw))
  rintro _ _ ⟨A0,c0,rfl,rfl⟩
  repeat'(first|refine zgb ?_|fail)
  refine Yj (λ(z:LsM)=>[(27,.int .i64 z.i),(26,.int .i64 rs.length),(25,.slice A rs.length cap),(6,.slice z.A (catS (rs.take z.i)).length z.cap)]) (λz=>sl 77 7 z.A (catS (rs.take z.i)).length z.cap ((catS (rs.take z.i)).flatMap lopF)::H) (λz=>z.i<=rs.length) (λz=>rs.length-z.i) ⟨0,A0,c0⟩ (Tj _) ?_ (λw hw=>hw) ?_
  ·exact zu
  rintro⟨k,A1,c1⟩ hk K hK
  simp only at hk⊢
  by_cases hlt:k<rs.length
  ·obtain⟨r,hx⟩:∃x,rs[k]? =some x:=⟨_,Ta hlt⟩
   have hst:=OX hx
   have h1:=Ycc rs (k+1)
   rw[hst,Tq]at h1
   have hrx:=hrr r (Tf hx)
   obtain⟨C,hC⟩:∃C,catS (rs.take k)=C:=⟨_,rfl⟩
   rw[hC]at hst h1⊢
   repeat'(first|refine zgd ?_|(refine zge ?_ ?_<;>intro _<;>try exact zo)|fail)
   apply Xs T (f:=lopF) (l2:=r.xs) (e:=77) (size:=7) (xs:=C.flatMap lopF);(iterate 3 exact rfl);exact hrx.cons;exact(λ_=>rfl);exact(λ_=>rfl);exact rfl;(intro _ _;exact zd);omega;intro A' cap'
   repeat'(first|refine zgc ?_|fail)
   apply hK ⟨k+1,A',cap'⟩
   ·simp only;omega
   ·simp only;omega
   ·dsimp only
    rw[hst,Tq];exact zu
   ·dsimp only
    rw[hst,Tq,Rw]
    exactλw hw=>hw
  ·obtain rfl:k=rs.length:=by omega
   clear hK
   rw[TQ]
   refine Wj (k:=(catS rs).length) (cap:=c1) zm λhcap=>?_
   repeat'(first|refine zgc ?_|(refine zge ?_ ?_<;>intro _<;>try exact zo)|fail)
   apply Yd;exact rfl;exact rfl
   exact⟨A1,c1,rfl,hcap,rfl⟩
theorem Yjy(l:List Lop)(k:Nat)(x:Lop)(hk:k<=l.length)(hl:l.length<=1000)(hc:l.length<=cap)(hr:Rd B w0 H A (l.flatMap lopF))(hw:St B w0 H w):
 CX B w0 61 [.slice A l.length cap,.int .i64 k,lopV x] w λv K=>∃A' c,v=.slice A' (Xb l k x).length c/\(Xb l k x).length<=c/\K=sl 77 7 A' (Xb l k x).length c ((Xb l k x).flatMap lopF)::H:=by
 refine Yc Tryz.func61 Tryz.ntmps61 rfl rfl hw ?_
 have hop:∀w,St B w0 [many H] w->St B w0 H w:=λw hw=>hw.perm (.openT H)
 have hM:∀{H':List HP},many H∈H'->Rd B w0 H' A (l.flatMap lopF):=λhm=>hr.mono λw hw=>hw.inM hm
 have hq:∀c:Lop,(lopF c).length=7:=λ_=>rfl
 have p1:=λ(g gs:Nat) {H':List HP}{w:World}(hm:many H∈H') (h1:blk g (.cells #[.int .i64 x.1,.int .i64 x.2.1,.int .i64 x.2.2.1,.int .i64 x.2.2.2.1,.int .i64 x.2.2.2.2.1,.int .i64 x.2.2.2.2.2.1,.int .i64 x.2.2.2.2.2.2] 77 (0,0))∈H') (h2:blk gs (.cells #[.slice A k cap,.slice (some ⟨g,0,none⟩) 1 1,.slice (subA A k cap 7) (l.length-k) (cap-k)] 72 (0,0))∈H') (hw:St B w0 H' w)=>by
  have h0:=Qi [⟨A,cap,l.take k⟩,⟨some ⟨g,0,none⟩,1,[x]⟩,⟨subA A k cap 7,cap-k,l.drop k⟩] (by simp) (by simp only[catS,TT,SB,Tq,TA,TZ,TG,Rq];omega) (A:=some ⟨gs,0,none⟩) (cap:=3) (H:=H') (by
   have h3:=Rd.blk (B:=B) (w0:=w0) h2
   simp only[slF,TT,SB,TA,TZ,TG,Rq,RU hk]
   exact h3) (λr hr=>by
   simp only[TI,RG,NB]at hr
   rcases hr with rfl|rfl|rfl
   ·exact(hM hm).take k hq
   ·have h3:=Rd.blk (B:=B) (w0:=w0) h1
    exact h3
   ·have h3:=(hM hm).sub (o:=k) (k:=l.length-k) hq hc
    rwa [TL (by rw[TZ];omega)]at h3) hw
  rw[show catS [⟨A,cap,l.take k⟩,⟨some ⟨g,0,none⟩,1,[x]⟩,⟨subA A k cap 7,cap-k,l.drop k⟩]=Xb l k x by simp[catS,Xb]]at h0
  exact h0
 unfold lopV
 refine Xf [many H] (λw hw=>hw.perm (.closeT H)) ?_
 repeat'(first|refine zga ?_|(refine zgh ?_;intro _)|fail)
 apply YK [0,1,2,3,5,6,7,4,8,9,10] [] [true,true]
 kernel_rfl
 kernel_rfl
 exact zy
 (simp only[Yg,nthO];rfl)
 exact rfl
 repeat'(first|(apply Y6 T (l:=l) (n':=k);(iterate 4 exact rfl);omega;exact hc;omega;rw[XY])|(apply Yt T k (l.length-k);(iterate 5 exact rfl);exact hk;exact rfl)|(apply Yk;try exact zl)|refine zgd ?_|(refine zgh ?_;intro _)|fail)
 rename_i g0 g gs
 apply Yf _ Ytk
 exact za
 exact rfl
 exactλ_ hw=>(p1 g gs zm zm zm (hw))
 rintro _ _ ⟨A',c,rfl,hcap,rfl⟩
 repeat'(first|(apply Yk;try exact zl)|refine zgd ?_|fail)
 apply Yi (sl 77 7 A' (Xb l k x).length c ((Xb l k x).flatMap lopF)::H)
 ·intro w hw
  have h5:St B w0 (sl 77 7 A' (Xb l k x).length c ((Xb l k x).flatMap lopF)::[many H]) w:=by
   revert w
   exact zk
  exact h5.perm (.cons _ (.openT H))
 apply Yd;exact rfl;exact rfl
 exact⟨A',c,rfl,hcap,rfl⟩
theorem YiG(l:List Lop)(k:Nat)(hk:k<l.length)(hl:l.length<=1000)(hc:l.length<=cap)(hr:Rd B w0 H A (l.flatMap lopF))(hw:St B w0 H w):
 CX B w0 67 [.slice A l.length cap,.int .i64 k] w λv K=>∃A' c,v=.slice A' (Y4 l k).length c/\(Y4 l k).length<=c/\K=sl 77 7 A' (Y4 l k).length c ((Y4 l k).flatMap lopF)::H:=by
 refine Yc Tryz.func67 Tryz.ntmps67 rfl rfl hw ?_
 have hop:∀w,St B w0 [many H] w->St B w0 H w:=λw hw=>hw.perm (.openT H)
 have hM:∀{H':List HP},many H∈H'->Rd B w0 H' A (l.flatMap lopF):=λhm=>hr.mono λw hw=>hw.inM hm
 have hq:∀c:Lop,(lopF c).length=7:=λ_=>rfl
 have p1:=λ(gs:Nat) {H':List HP}{w:World}(hm:many H∈H') (h2:blk gs (.cells #[.slice A k cap,.slice (subA A (k+1) cap 7) (l.length-(k+1)) (cap-(k+1))] 72 (0,0))∈H') (hw:St B w0 H' w)=>by
  have h0:=Qi [⟨A,cap,l.take k⟩,⟨subA A (k+1) cap 7,cap-(k+1),l.drop (k+1)⟩] (by simp) (by simp only[catS,TT,SB,Tq,TA,TZ,TG,Rq];omega) (A:=some ⟨gs,0,none⟩) (cap:=2) (H:=H') (by
   have h3:=Rd.blk (B:=B) (w0:=w0) h2
   simp only[slF,TT,SB,TA,TZ,TG,Rq,RU (Nat.le_of_lt hk)]
   exact h3) (λr hr=>by
   simp only[TI,RG,NB]at hr
   rcases hr with rfl|rfl
   ·exact(hM hm).take k hq
   ·have h3:=(hM hm).sub (o:=k+1) (k:=l.length-(k+1)) hq hc
    rwa [TL (by rw[TZ];omega)]at h3) hw
  rw[show catS [⟨A,cap,l.take k⟩,⟨subA A (k+1) cap 7,cap-(k+1),l.drop (k+1)⟩]=Y4 l k by simp[catS,Y4]]at h0
  exact h0
 refine Xf [many H] (λw hw=>hw.perm (.closeT H)) ?_
 repeat'(first|refine zga ?_|fail)
 apply YK [0,1,2,3,4,5,6,7,8,9] [] [true]
 kernel_rfl
 kernel_rfl
 exact zy
 (simp only[Yg,nthO];rfl)
 exact rfl
 repeat'(first|(apply Y6 T (l:=l) (n':=k);(iterate 4 exact rfl);omega;exact hc;omega;rw[XY])|(apply Yt T (k+1) (l.length-(k+1));(iterate 5 exact rfl);exact hk;exact rfl)|(apply Yk;try exact zl)|refine zgd ?_|(refine zgh ?_;intro _)|fail)
 rename_i gs
 apply Yf _ Ytk
 exact za
 exact rfl
 exactλ_ hw=>(p1 gs zm zm (hw))
 rintro _ _ ⟨A',c,rfl,hcap,rfl⟩
 repeat'(first|(apply Yk;try exact zl)|refine zgd ?_|fail)
 apply Yi (sl 77 7 A' (Y4 l k).length c ((Y4 l k).flatMap lopF)::H)
 ·intro w hw
  have h5:St B w0 (sl 77 7 A' (Y4 l k).length c ((Y4 l k).flatMap lopF)::[many H]) w:=by
   revert w
   exact zk
  exact h5.perm (.cons _ (.openT H))
 apply Yd;exact rfl;exact rfl
 exact⟨A',c,rfl,hcap,rfl⟩
theorem Yit(k:Nat)(hk:k<=1000000)(hw:St B w0 H w):
 CX B w0 217 [.slice none 0 0,.int .i64 k] w λv K=>∃A c,v=.slice A 0 c/\K=sl 90 2 A 0 c []::H:=by
 refine Yc Tryz.func217 Tryz.ntmps217 rfl rfl hw ?_
 by_cases h0:k=0
 ·subst h0
  repeat'(first|(apply Wl T;(iterate 3 exact rfl))|refine zgd ?_|(refine zgf ?_ ?_<;>intro _<;>try exact zo)|fail)
  apply Xk 90 2
  apply Yd;exact rfl;exact rfl
  exact⟨none,0,rfl,rfl⟩
 ·skip
  repeat'(first|(apply Wl T;(iterate 3 exact rfl))|refine zgd ?_|(refine zgf ?_ ?_<;>intro _<;>try exact zo)|fail)
  apply Y6 T (l:=([]:List Int)) (n':=0);(iterate 4 exact rfl);exact⟨Ry _,Ry _⟩;exact TK _;rfl
  rw[XY,show((k:Int)-((0:Nat)-(0:Nat)):Int)=(k:Int) by omega]
  iterate 1 (first|refine zga ?_|fail)
  apply Ybj T (k:=k);(iterate 3 exact rfl);kernel_rfl;exact rfl;exact rfl;omega;intro g c hc
  repeat'(first|(apply Y6 T (l:=List.replicate k (0:Int)) (n':=0);(rw[Rb];exact rfl);(iterate 3 exact rfl);omega;(rw[Rb];exact hc);omega)|refine zgb ?_|fail)
  rw[XY]
  repeat'(first|fail)
  apply Yd;exact rfl;exact rfl
  exact⟨some ⟨g,0,none⟩,c,rfl,rfl⟩
theorem Qj(rs:List (SlM Spl))(hrs:rs.length<=1000)(hct:(catS rs).length<=1000000)(hr:Rd B w0 H A (rs.flatMap slF))(hrr:∀r∈rs,Rd B w0 H r.A (r.xs.flatMap splF))(hw:St B w0 H w):
 CX B w0 128 [.slice A rs.length cap] w λv K=>∃A' c,v=.slice A' (catS rs).length c/\(catS rs).length<=c/\K=sl 90 2 A' (catS rs).length c ((catS rs).flatMap splF)::H:=by
 refine Yc Tryz.func128 Tryz.ntmps128 rfl rfl hw ?_
 repeat'(first|refine zgb ?_|fail)
 refine Yj (λ(k:Nat)=>[(11,.int .i64 k),(10,.int .i64 rs.length),(9,.slice A rs.length cap),(3,.int .i64 (catS (rs.take k)).length),(0,.slice A rs.length cap)]) (λ_=>H) (λk=>k<=rs.length) (λk=>rs.length-k) 0 (Tj _) ?_ (λw hw=>hw) ?_
 ·exact zu
 intro k hk K hK
 by_cases hlt:k<rs.length
 ·obtain⟨r,hx⟩:∃x,rs[k]? =some x:=⟨_,Ta hlt⟩
  have hst:=OX hx
  have h1:=Ycc rs (k+1)
  rw[hst,Tq]at h1
  repeat'(first|refine zgd ?_|(refine zge ?_ ?_<;>intro _<;>try exact zo)|fail)
  apply hK (k+1)
  ·omega
  ·omega
  ·rw[hst,Tq,Int.natCast_add];exact zu
  ·exactλw hw=>hw
 ·obtain rfl:k=rs.length:=by omega
  clear hK
  rw[TQ]
  repeat'(first|refine zgc ?_|(refine zge ?_ ?_<;>intro _<;>try exact zo)|fail)
  apply Yf _ Ywf
  exact za
  exact rfl
  exactλ_ hw=>(Yit (catS rs).length (by omega) (hw))
  rintro _ _ ⟨A0,c0,rfl,rfl⟩
  repeat'(first|refine zgb ?_|fail)
  refine Yj (λ(z:LsM)=>[(27,.int .i64 z.i),(26,.int .i64 rs.length),(25,.slice A rs.length cap),(6,.slice z.A (catS (rs.take z.i)).length z.cap)]) (λz=>sl 90 2 z.A (catS (rs.take z.i)).length z.cap ((catS (rs.take z.i)).flatMap splF)::H) (λz=>z.i<=rs.length) (λz=>rs.length-z.i) ⟨0,A0,c0⟩ (Tj _) ?_ (λw hw=>hw) ?_
  ·exact zu
  rintro⟨k,A1,c1⟩ hk K hK
  simp only at hk⊢
  by_cases hlt:k<rs.length
  ·obtain⟨r,hx⟩:∃x,rs[k]? =some x:=⟨_,Ta hlt⟩
   have hst:=OX hx
   have h1:=Ycc rs (k+1)
   rw[hst,Tq]at h1
   have hrx:=hrr r (Tf hx)
   obtain⟨C,hC⟩:∃C,catS (rs.take k)=C:=⟨_,rfl⟩
   rw[hC]at hst h1⊢
   repeat'(first|refine zgd ?_|(refine zge ?_ ?_<;>intro _<;>try exact zo)|fail)
   apply Xs T (f:=splF) (l2:=r.xs) (e:=90) (size:=2) (xs:=C.flatMap splF);(iterate 3 exact rfl);exact hrx.cons;exact(λ_=>rfl);exact(λ_=>rfl);exact rfl;(intro _ _;exact zd);omega;intro A' cap'
   repeat'(first|refine zgc ?_|fail)
   apply hK ⟨k+1,A',cap'⟩
   ·simp only;omega
   ·simp only;omega
   ·dsimp only
    rw[hst,Tq];exact zu
   ·dsimp only
    rw[hst,Tq,Rw]
    exactλw hw=>hw
  ·obtain rfl:k=rs.length:=by omega
   clear hK
   rw[TQ]
   refine Wj (k:=(catS rs).length) (cap:=c1) zm λhcap=>?_
   repeat'(first|refine zgc ?_|(refine zge ?_ ?_<;>intro _<;>try exact zo)|fail)
   apply Yd;exact rfl;exact rfl
   exact⟨A1,c1,rfl,hcap,rfl⟩
theorem Yjz(l:List Spl)(k:Nat)(x:Spl)(hk:k<=l.length)(hl:l.length<=1000)(hc:l.length<=cap)(hr:Rd B w0 H A (l.flatMap splF))(hw:St B w0 H w):
 CX B w0 66 [.slice A l.length cap,.int .i64 k,splV x] w λv K=>∃A' c,v=.slice A' (Xb l k x).length c/\(Xb l k x).length<=c/\K=sl 90 2 A' (Xb l k x).length c ((Xb l k x).flatMap splF)::H:=by
 refine Yc Tryz.func66 Tryz.ntmps66 rfl rfl hw ?_
 have hop:∀w,St B w0 [many H] w->St B w0 H w:=λw hw=>hw.perm (.openT H)
 have hM:∀{H':List HP},many H∈H'->Rd B w0 H' A (l.flatMap splF):=λhm=>hr.mono λw hw=>hw.inM hm
 have hq:∀c:Spl,(splF c).length=2:=λ_=>rfl
 have p1:=λ(g gs:Nat) {H':List HP}{w:World}(hm:many H∈H') (h1:blk g (.cells #[.int .i64 x.1,.int .i64 x.2] 90 (0,0))∈H') (h2:blk gs (.cells #[.slice A k cap,.slice (some ⟨g,0,none⟩) 1 1,.slice (subA A k cap 2) (l.length-k) (cap-k)] 73 (0,0))∈H') (hw:St B w0 H' w)=>by
  have h0:=Qj [⟨A,cap,l.take k⟩,⟨some ⟨g,0,none⟩,1,[x]⟩,⟨subA A k cap 2,cap-k,l.drop k⟩] (by simp) (by simp only[catS,TT,SB,Tq,TA,TZ,TG,Rq];omega) (A:=some ⟨gs,0,none⟩) (cap:=3) (H:=H') (by
   have h3:=Rd.blk (B:=B) (w0:=w0) h2
   simp only[slF,TT,SB,TA,TZ,TG,Rq,RU hk]
   exact h3) (λr hr=>by
   simp only[TI,RG,NB]at hr
   rcases hr with rfl|rfl|rfl
   ·exact(hM hm).take k hq
   ·have h3:=Rd.blk (B:=B) (w0:=w0) h1
    exact h3
   ·have h3:=(hM hm).sub (o:=k) (k:=l.length-k) hq hc
    rwa [TL (by rw[TZ];omega)]at h3) hw
  rw[show catS [⟨A,cap,l.take k⟩,⟨some ⟨g,0,none⟩,1,[x]⟩,⟨subA A k cap 2,cap-k,l.drop k⟩]=Xb l k x by simp[catS,Xb]]at h0
  exact h0
 unfold splV
 refine Xf [many H] (λw hw=>hw.perm (.closeT H)) ?_
 repeat'(first|refine zga ?_|(refine zgh ?_;intro _)|fail)
 apply YK [0,1,2,3,5,6,7,4,8,9,10] [] [true,true]
 kernel_rfl
 kernel_rfl
 exact zy
 (simp only[Yg,nthO];rfl)
 exact rfl
 repeat'(first|(apply Y6 T (l:=l) (n':=k);(iterate 4 exact rfl);omega;exact hc;omega;rw[XY])|(apply Yt T k (l.length-k);(iterate 5 exact rfl);exact hk;exact rfl)|(apply Yk;try exact zl)|refine zgd ?_|(refine zgh ?_;intro _)|fail)
 rename_i g0 g gs
 apply Yf _ Ytr
 exact za
 exact rfl
 exactλ_ hw=>(p1 g gs zm zm zm (hw))
 rintro _ _ ⟨A',c,rfl,hcap,rfl⟩
 repeat'(first|(apply Yk;try exact zl)|refine zgd ?_|fail)
 apply Yi (sl 90 2 A' (Xb l k x).length c ((Xb l k x).flatMap splF)::H)
 ·intro w hw
  have h5:St B w0 (sl 90 2 A' (Xb l k x).length c ((Xb l k x).flatMap splF)::[many H]) w:=by
   revert w
   exact zk
  exact h5.perm (.cons _ (.openT H))
 apply Yd;exact rfl;exact rfl
 exact⟨A',c,rfl,hcap,rfl⟩
theorem YiH(l:List Spl)(k:Nat)(hk:k<l.length)(hl:l.length<=1000)(hc:l.length<=cap)(hr:Rd B w0 H A (l.flatMap splF))(hw:St B w0 H w):
 CX B w0 68 [.slice A l.length cap,.int .i64 k] w λv K=>∃A' c,v=.slice A' (Y4 l k).length c/\(Y4 l k).length<=c/\K=sl 90 2 A' (Y4 l k).length c ((Y4 l k).flatMap splF)::H:=by
 refine Yc Tryz.func68 Tryz.ntmps68 rfl rfl hw ?_
 have hop:∀w,St B w0 [many H] w->St B w0 H w:=λw hw=>hw.perm (.openT H)
 have hM:∀{H':List HP},many H∈H'->Rd B w0 H' A (l.flatMap splF):=λhm=>hr.mono λw hw=>hw.inM hm
 have hq:∀c:Spl,(splF c).length=2:=λ_=>rfl
 have p1:=λ(gs:Nat) {H':List HP}{w:World}(hm:many H∈H') (h2:blk gs (.cells #[.slice A k cap,.slice (subA A (k+1) cap 2) (l.length-(k+1)) (cap-(k+1))] 73 (0,0))∈H') (hw:St B w0 H' w)=>by
  have h0:=Qj [⟨A,cap,l.take k⟩,⟨subA A (k+1) cap 2,cap-(k+1),l.drop (k+1)⟩] (by simp) (by simp only[catS,TT,SB,Tq,TA,TZ,TG,Rq];omega) (A:=some ⟨gs,0,none⟩) (cap:=2) (H:=H') (by
   have h3:=Rd.blk (B:=B) (w0:=w0) h2
   simp only[slF,TT,SB,TA,TZ,TG,Rq,RU (Nat.le_of_lt hk)]
   exact h3) (λr hr=>by
   simp only[TI,RG,NB]at hr
   rcases hr with rfl|rfl
   ·exact(hM hm).take k hq
   ·have h3:=(hM hm).sub (o:=k+1) (k:=l.length-(k+1)) hq hc
    rwa [TL (by rw[TZ];omega)]at h3) hw
  rw[show catS [⟨A,cap,l.take k⟩,⟨subA A (k+1) cap 2,cap-(k+1),l.drop (k+1)⟩]=Y4 l k by simp[catS,Y4]]at h0
  exact h0
 refine Xf [many H] (λw hw=>hw.perm (.closeT H)) ?_
 repeat'(first|refine zga ?_|fail)
 apply YK [0,1,2,3,4,5,6,7,8,9] [] [true]
 kernel_rfl
 kernel_rfl
 exact zy
 (simp only[Yg,nthO];rfl)
 exact rfl
 repeat'(first|(apply Y6 T (l:=l) (n':=k);(iterate 4 exact rfl);omega;exact hc;omega;rw[XY])|(apply Yt T (k+1) (l.length-(k+1));(iterate 5 exact rfl);exact hk;exact rfl)|(apply Yk;try exact zl)|refine zgd ?_|(refine zgh ?_;intro _)|fail)
 rename_i gs
 apply Yf _ Ytr
 exact za
 exact rfl
 exactλ_ hw=>(p1 gs zm zm (hw))
 rintro _ _ ⟨A',c,rfl,hcap,rfl⟩
 repeat'(first|(apply Yk;try exact zl)|refine zgd ?_|fail)
 apply Yi (sl 90 2 A' (Y4 l k).length c ((Y4 l k).flatMap splF)::H)
 ·intro w hw
  have h5:St B w0 (sl 90 2 A' (Y4 l k).length c ((Y4 l k).flatMap splF)::[many H]) w:=by
   revert w
   exact zk
  exact h5.perm (.cons _ (.openT H))
 apply Yd;exact rfl;exact rfl
 exact⟨A',c,rfl,hcap,rfl⟩
theorem Yq6{α:Type}{k:α->Int}{id:Int}:∀{l:List α}{n:Nat},n<=l.length->(∀i x,i<n->l[i]? =some x->k x<id)->(∀x,l[n]? =some x->¬k x<id)->(l.takeWhile λy=>decide (k y<id)).length=n
 |[],n,hn,_,_=>by
  have:n=0:=by simpa using hn
  subst this;rfl
 |y::l,0,_,_,h2=>by rw[List.takeWhile_cons_of_neg (by simpa using h2 y rfl)];rfl
 |y::l,n+1,hn,h1,h2=>by
  rw[List.takeWhile_cons_of_pos (by simpa using h1 0 y (by omega) rfl),TG,Yq6 (l:=l) (by simpa using hn) (λi x hi hx=>h1 (i+1) x (by omega) hx) (λx hx=>h2 x hx)]
theorem Ybw(a:Lop)(id:Int)(hw:St B w0 H w):
 CX B w0 119 [lopV a,.int .i64 id] w λv K=>v=.int .i64 (cmpI a.1 id)/\K=H:=by
 refine Yc Tryz.func119 Tryz.ntmps119 rfl rfl hw ?_
 unfold lopV
 repeat'(first|((first|apply Ya en49|apply Yb en49);exact za;exact rfl;exactλ_ hw=>(Vk _ _ hw))|refine zgb ?_|(refine zgh ?_;intro _)|fail)
 apply Yi H
 ·exact zk
 apply Yd;exact rfl;exact rfl
 exact⟨rfl,rfl⟩
theorem Yg5(l:List Lop)(id:Int)(ho:l.Pairwise λa b=>a.1<b.1)(hlen:l.length<=1000000000)(hr:Rd B w0 H A (l.flatMap lopF))(hw:St B w0 H w):
 CX B w0 118 [.slice A l.length cap,.int .i64 id,.func (.func 119) #[] #[]] w λv K=>
  v=.tuple #[.int .i64 (posL l id:Nat),.bool (hasL l id)]/\K=H:=by
 refine Yc Tryz.func118 Tryz.ntmps118 rfl rfl hw ?_
 have ho:∀(i j:Nat) (x y:Lop),i<j->l[i]? =some x->l[j]? =some y->x.1<y.1:=λi j x y hij hi hj=>by
  rw[Re]at ho
  obtain⟨a1,rfl⟩:=Tc.1 hi
  obtain⟨b1,rfl⟩:=Tc.1 hj
  exact ho i j a1 b1 hij
 repeat'(first|refine zgb ?_|fail)
 refine W8 (λ(lo hi:Nat)=>[(9,.int .i64 lo),(10,.int .i64 hi),(8,.int .i64 l.length),(0,.slice A l.length cap),(1,.int .i64 id),(2,.func (.func 119) #[] #[])]) (λ_ _=>H)
  (λlo hi=>lo<=hi/\hi<=l.length/\(∀i x,i<lo->l[i]? =some x->x.1<id)/\(∀i x,hi<=i->l[i]? =some x->¬x.1<id)) (λlo hi=>hi-lo) 0 l.length ⟨by omega,by omega,λj x hj=>by omega,λj x h1 h2=>by have:=(Tc.1 h2).1;omega⟩ ?_ (λw hw=>hw) ?_
 ·exact zu
 rintro lo hi ⟨h1,h2,h3,h4⟩ K hK
 by_cases hlt:lo<hi
 ·obtain⟨b,hb⟩:∃b,l[(((lo:Int)+hi)/2).toNat]? =some b:=⟨_,Ta (by omega)⟩
  have hm:(((lo:Int)+hi)/2).toNat=(lo+hi)/2:=by omega
  have hb2:l[(lo+hi)/2]? =some b:=by rw[<-hm];exact hb
  repeat'(first|((first|apply YV (cs:=[])|apply Y3 (cs:=[]));exact rfl;exact Ytj;exact za;exact rfl;exactλ_ hw=>(Ybw b id hw))|refine zgd ?_|(refine zge ?_ ?_<;>intro _<;>try exact zo)|fail)
  ·rename_i hc
   rw[OZ]at hc
   apply hK ((lo+hi)/2+1) hi
   ·refine⟨by omega,by omega,λj x hj hx=>?_,h4⟩
    by_cases e:j=(lo+hi)/2
    ·rw[e,hb2]at hx
     injection hx with hx;subst hx;exact hc
    ·exact Int.lt_trans (ho j _ x b (by omega) hx hb2) hc
   ·omega
   ·exact zu
   ·exactλw hw=>hw
  ·rename_i hc
   have hc:¬b.1<id:=λh=>by have:=OZ.2 h;omega
   apply hK lo ((lo+hi)/2)
   ·refine⟨by omega,by omega,h3,λj x hj hx=>?_⟩
    by_cases e:j=(lo+hi)/2
    ·rw[e,hb2]at hx
     injection hx with hx;subst hx;exact hc
    ·exactλh=>hc (Int.lt_trans (ho _ j b x (by omega) hb2 hx) h)
   ·omega
   ·exact zu
   ·exactλw hw=>hw
 ·obtain rfl:lo=hi:=by omega
  have hpe:posL l id=lo:=Yq6 h2 h3 λx hx=>h4 lo x (TK _) hx
  rw[hpe]
  have hfd:hasL l id=true↔∃b,l[lo]? =some b/\b.1=id:=by
   unfold hasL
   rw[TR]
   constructor
   ·rintro⟨b,hb,he⟩
    have he:b.1=id:=TY he
    obtain⟨j,hj⟩:=TO.1 hb
    rcases SI j lo with h|rfl|h
    ·have:=h3 j b h hj;omega
    ·exact⟨b,hj,he⟩
    ·obtain⟨d,hd⟩:∃d,l[lo]? =some d:=⟨_,Ta (by have:=(Tc.1 hj).1;omega)⟩
     have:=ho lo j d b h hd hj
     have:=h4 lo d (TK _) hd
     omega
   ·rintro⟨b,hb,he⟩
    exact⟨b,Tf hb,Ti he⟩
  by_cases hl:lo<l.length
  ·obtain⟨b,hb⟩:∃b,l[lo]? =some b:=⟨_,Ta hl⟩
   repeat'(first|((first|apply YV (cs:=[])|apply Y3 (cs:=[]));exact rfl;exact Ytj;exact za;exact rfl;exactλ_ hw=>(Ybw b id hw))|refine zgd ?_|(refine zge ?_ ?_<;>intro _<;>try exact zo)|fail)
   ·rename_i h
    apply Yx;(iterate 3 exact rfl)
    exact⟨by rw[hfd.2 ⟨b,hb,cmpI_zero.1 h⟩],rfl⟩
   ·rename_i h
    apply Yx;(iterate 3 exact rfl)
    have hf0:hasL l id=false:=SD.2 λe=>by
     obtain⟨b',hb',he⟩:=hfd.1 e
     rw[hb]at hb'
     obtain rfl:=Tv hb'
     exact h (cmpI_zero.2 he)
    exact⟨by rw[hf0],rfl⟩
  ·repeat'(first|refine zgc ?_|(refine zge ?_ ?_<;>intro _<;>try exact zo)|fail)
   apply Yx;(iterate 3 exact rfl)
   have hf0:hasL l id=false:=SD.2 λe=>by
    obtain⟨b',hb',he⟩:=hfd.1 e
    exact hl (Tc.1 hb').1
   exact⟨by rw[hf0],rfl⟩
theorem QH(l:List Lop)(id:Int)(ho:l.Pairwise λa b=>a.1<b.1)(hlen:l.length<=1000000000)(hr:Rd B w0 H A (l.flatMap lopF))(hw:St B w0 H w):
 CX B w0 60 [.slice A l.length cap,.int .i64 id] w λv K=>v=.tuple #[.int .i64 (posL l id:Nat),.bool (hasL l id)]/\K=H:=by
 refine Yc Tryz.func60 Tryz.ntmps60 rfl rfl hw ?_
 repeat'(first|((first|apply Ya Yti|apply Yb Yti);exact za;exact rfl;exactλ_ hw=>(Yg5 l id ho hlen hr hw))|refine zgc ?_|fail)
 apply Yx;(iterate 3 exact rfl)
 exact⟨rfl,rfl⟩
variable {B:Nat}{w0 w:World}{H:List HP}
theorem Yka(l m:List Int)(hlen:l.length<=9223372036854775807){A A2:Option Addr}{cap cap2:Nat}(hr:Rd B w0 H A (l.flatMap numF))(hr2:Rd B w0 H A2 (m.flatMap numF))(hw:St B w0 H w):
 CX B w0 34 [.slice A l.length cap,.slice A2 m.length cap2] w λu K=>u=.bool (decide (l=m))/\K=H:=by
 refine Yc Tryz.func34 Tryz.ntmps34 rfl rfl hw ?_
 by_cases hll:l.length=m.length
 rotate_left
 ·exact zc11
 refine zX3 ?_<;>intros
 refine Yj (λ(k:Nat)=>[(13,.int .i64 k),(12,.int .i64 l.length),(0,.slice A l.length cap),(1,.slice A2 m.length cap2)]) (λ_=>H) (λk=>k<=l.length/\l.take k=m.take k) (λk=>l.length-k) 0 ⟨Tj _,by simp⟩ ?_ (λw hw=>hw) ?_
 ·exact zc1
 rintro k ⟨hk,hi⟩ K hK
 by_cases hlt:k<l.length
 ·obtain⟨a,ha⟩:∃a,l[k]? =some a:=⟨_,Ta hlt⟩
  obtain⟨b,hb⟩:∃b,m[k]? =some b:=⟨_,Ta (by omega)⟩
  repeat'(first|refine zgd ?_|(refine zge ?_ ?_<;>intro _<;>try exact zo)|fail)
  ·exact zc48
  ·rename_i h
   apply hK (k+1)
   ·exact⟨by omega,by exact zc95⟩
   ·omega
   ·exact zc1
   exact zc19
 exact zc8
theorem VJ(p:PnM)(ht:TabsB B w0)(hp:p.In B w0 H)(hw:St B w0 H w):
 CX B w0 9 [p.val] w λv K=>v=.int .i64 (chkP p.pln)/\K=H:=by
 refine Yc Tryz.func9 Tryz.ntmps9 rfl rfl hw ?_
 obtain⟨n,qA,qcap,q,s,cA,ccap,c,fA,fcap,f⟩:=p
 obtain⟨hin,hq,hrs,hsl,hc,hf,hfl⟩:=hp
 dsimp only at hin hq hrs hsl hc hf hfl
 have p1:=λ{H':List HP}{w:World}(hin:n.In B w0 H') (hw:St B w0 H' w)=>JQ n hin hw
 have p2:=λ{H':List HP}{w:World}(hin:n.In B w0 H') (hq:QIn B w0 H' qA q) (hrs:Rd B w0 H' s.A (s.cells.flatMap celF)) (hw:St B w0 H' w)=>U9 n q s (cap:=qcap) ht hin hq hrs hsl hw
 have p3:=λ{H':List HP}{w:World}(hin:n.In B w0 H') (hq:QIn B w0 H' qA q) (hrs:Rd B w0 H' s.A (s.cells.flatMap celF)) (hc:CIn B w0 H' cA c) (hw:St B w0 H' w)=>Ygn n q s c (cap:=qcap) (cap1:=ccap) ht hin hq hrs hsl hc hw
 have p4:=λ{H':List HP}{w:World}(hrs:Rd B w0 H' s.A (s.cells.flatMap celF)) (hw:St B w0 H' w)=>YeU s ht hrs hsl hw
 unfold PnM.val
 show VC _ _ B w0 _ (bodyPost _ _ (Post B w0 λv K=>v=.int .i64 (chkP ⟨n.net,q.map RqM.rq,s.sch,c.map ClM.clm,f⟩)/\K=H)) _ _
 unfold chkP
 dsimp only
 unfold OutC at p2
 obtain⟨⟨RC,ri,re⟩,hR⟩:∃R,YM n.net (q.map RqM.rq) s.sch=R:=⟨_,rfl⟩
 obtain⟨⟨RF,fe⟩,hRF⟩:∃R,XZ s.sch=R:=⟨_,rfl⟩
 obtain⟨⟨ki,ke⟩,hRK⟩:∃R,chkE n.net (q.map RqM.rq) s.sch (c.map ClM.clm)=R:=⟨_,rfl⟩
 rw[hR]at p2⊢
 rw[hRF]at p4⊢
 rw[hRK]at p3⊢
 dsimp only at p2 p3 p4⊢
 have hFn:RF.length<=9223372036854775807:=by
  have h2:=TE (λz=>z.1.length) hRF
  dsimp only at h2
  unfold XZ at h2
  split at h2
  ·simp only[Rq]at h2;omega
  ·rename_i h0
   unfold Zp at h2
   rw[V2,Rb]at h2
   have h3:=(XV.1 (by simpa using h0)).sized
   exact YuR
 unfold NetM.val at p1
 unfold NetM.val SchM.val at p2 p3
 unfold SchM.val at p4
 clear hR hRF hRK
 by_cases hck:Yo n.net=0
 rotate_left
 ·rw[Tm hck]
  rw[Tn hck]at p1
  refine Yum ?_<;>intros
  first|apply Ya en37|apply Yb en37
  exact za
  exact rfl
  exactλ_ hw=>(p1 (hin.mono zc0) hw)
  refine OR ?_
  apply Yi H
  ·exact zc0
  exact zc5
 rw[Td (λe=>e hck)]
 rw[Ti hck]at p1
 refine Yum ?_<;>intros
 first|apply Ya en37|apply Yb en37
 exact za
 exact rfl
 exactλ_ hw=>(p1 (hin.mono zc0) hw)
 refine OR ?_
 apply Yf _ en38
 exact za
 exact rfl
 exactλ_ hw=>(p2 (hin.mono zc0) (hq.mono zc0) (hrs.mono zc0) (hw))
 rintro _ _ ⟨A2,c2,C,rfl,hC,hCl,rfl⟩
 by_cases h18:re=15\/re=1/\ri<0
 ·rw[Tm h18]
  repeat'(first|(apply Ye T;exact rfl;exact zm;exact rfl;exact zv;exact rfl;exact rfl)|refine zgd ?_|(refine zge ?_ ?_<;>intro _<;>try exact zo)|fail)
  all_goals try exact zo
  all_goals(
   apply Yi H
   ·exact zk
   apply Yd;exact rfl;exact rfl;exact⟨rfl,rfl⟩)
 rw[Td h18]
 by_cases h0:re=0
 rotate_left
 ·rw[Tm h0]
  repeat'(first|(apply Ye T;exact rfl;exact zm;exact rfl;exact zv;exact rfl;exact rfl)|refine zgd ?_|(refine zge ?_ ?_<;>intro _<;>try exact zo)|fail)
  all_goals try exact zo
  all_goals(
   apply Yi H
   ·exact zk
   apply Yd;exact rfl;exact rfl;exact⟨rfl,rfl⟩)
 rw[Td (λe=>e h0)]
 subst h0
 refine YfW ?_<;>intros
 all_goals try exact zo
 first|apply Ya en39|apply Yb en39
 exact za
 exact rfl
 exactλ_ hw=>(p3 (hin.mono zc0) (hq.mono zc0) (hrs.mono zc0) (hc.mono zc0) hw)
 by_cases hk0:ke=0
 rotate_left
 ·rw[Tm hk0]
  refine YfW ?_<;>intros
  apply Yi H
  ·exact zc0
  exact zc5
 rw[Td (λe=>e hk0)]
 refine YfW ?_<;>intros
 apply Yf _ en40
 exact za
 exact rfl
 exactλ_ hw=>(p4 (hrs.mono zc0) (hw))
 rintro _ _ ⟨A3,rfl,rfl⟩
 have p5:=λ{cap1 cap2:Nat}{H':List HP}{w:World}(h1:Rd B w0 H' A3 (RF.flatMap numF)) (h2:Rd B w0 H' fA (f.flatMap numF)) (hw:St B w0 H' w)=>Yka RF f hFn (cap:=cap1) (cap2:=cap2) h1 h2 hw
 by_cases hf0:fe=0
 rotate_left
 ·rw[Tm (.inl hf0)]
  refine YfW ?_<;>intros
  all_goals try exact zo
  all_goals(
   apply Yi H
   ·exact zc0
   exact zc5)
 by_cases hff:RF=f
 ·rw[Td (by rintro(h|h);exact h hf0;exact h hff)]
  rw[Ti hff]at p5
  refine Yun ?_<;>intros
  all_goals try exact zo
  all_goals(
   apply Yi H
   ·exact zc0
   exact zc5)
 ·rw[Tm (.inr hff)]
  rw[Tn hff]at p5
  refine Yun ?_<;>intros
  all_goals try exact zo
  all_goals(
   apply Yi H
   ·exact zc0
   exact zc5)
def Yub(f:Flw):List Int:=[f.1,f.2.1,f.2.2.1,f.2.2.2.1,f.2.2.2.2.1,f.2.2.2.2.2]
structure RqD(x:Rqs):Prop where
 f:∀n∈Yub x.1,0<=n/\n<10000
 n:x.2.length<=2
 l:∀r∈x.2,r.length<=9
 r:∀r∈x.2,∀n∈r,0<=n/\n<10000
theorem YcO{p:Pln}(h:chkP p=0):(YM p.n p.q p.s).2.2=0:=by
 unfold chkP at h
 omega
variable {n:Net}{q:List Rqs}
theorem YcL{s:Sch}(h:(YM n q s).2.2=0):(rqsE n q).2=0:=TN.1 λh1=>by
 simp_all [YM]
theorem YgZ(h:(rqsE n q).2=0):q.length<=16/\∀x∈q,RqD x:=by
 obtain⟨hck,hfl,hrt⟩:=UO h
 have hok:=YN hck
 have h32:=hok.n1
 refine⟨?_,λx hx=>?_⟩
 ·grind [Yy,Ys]
 have hfx:XD n.nodes x.1=0:=V0 hfl (TD.2 ⟨x,hx,rfl⟩)
 obtain⟨h1,h2,h3,-,h5⟩:=XL hfx
 have h6:(0<=x.1.2.1/\x.1.2.1<n.nodes)/\0<=x.1.2.2.1/\x.1.2.2.1<n.nodes:=by
  grind [XD,insE]
 have hrx:=hrt x hx
 refine⟨λz hz=>?_,?_,λr hr=>?_,λr hr z hz=>?_⟩
 ·unfold Yub at hz
  grind
 ·grind [Yaz]
 ·exact(J3 (Va hrx r hr)).2.1.2
 ·have hc:=Va hrx r hr
  unfold Zy at hc
  split at hc
  ·exact absurd hc (by assumption)
  have ho:=(Yab hc).2.1
  rw[RN]at ho
  have h8:=ho z hz
  unfold offE at h8
  simp only[Tt]at h8
  omega
variable {B:Nat}{w0 w:World}{H:List HP}
theorem NetM.In.here{n:NetM}(h:n.In B w0 H)(hw:St B w0 H w):n.In w.heap.size w []:=⟨h.pw.here hw,λr hr=>(h.rw_ r hr).here hw,h.lk.here hw,h.mg.here hw,h.s1,h.s2,h.s3,h.s4⟩
theorem QIn.here{q:List RqM}{A:Option Addr}(h:QIn B w0 H A q)(hw:St B w0 H w):QIn w.heap.size w [] A q:=⟨h.rd.here hw,λx hx=>⟨(h.x x hx).rt.here hw,λr hr=>((h.x x hx).rw_ r hr).here hw,(h.x x hx).ln,(h.x x hx).rl⟩,h.ln⟩
theorem PnM.In.here{p:PnM}(h:p.In B w0 H)(hw:St B w0 H w):p.In w.heap.size w []:=⟨h.n.here hw,h.q.here hw,h.s.here hw,h.sl,h.c.here hw,h.f.here hw,h.fl⟩
variable {B:Nat}{w0 w:World}{H:List HP}
theorem PnM.In.inX{X:List HP}{p:PnM}(h:p.In B w0 [many X])(hm:many X∈H):p.In B w0 H:=h.mono λ_ hw=>(hw.inM hm).perm (.closeT X)
theorem Yvy:∀l:List RqM,∀v∈l.flatMap rqF,v.oneCell'=true:=λl v hv=>by
 obtain⟨a,_,ha⟩:=RP.1 hv
 revert ha
 simp only[rqF,TI,RG,NB]
 rintro h
 repeat'(rcases h with rfl|h)
 all_goals(try subst h)
 all_goals rfl
theorem Ygp(l:List RqM)(i:Nat)(hi:i<l.length)(hlen:l.length<=1000){A:Option Addr}{cap:Nat}(hw:St B w0 (rqs A cap l::H) w):
 CX B w0 90 [.slice A l.length cap,.int .i64 i,.int .i64 ((i:Int)+1)] w λv K=>v=.slice A (l.eraseIdx i).length cap/\K=rqs A cap (l.eraseIdx i)::H:=by
 refine Yc Tryz.func90 Tryz.ntmps90 rfl rfl hw ?_
 unfold rqs
 refine Wj (k:=l.length) (cap:=cap) zm λhcap=>?_
 have hel:(l.eraseIdx i).length=l.length-1:=List.length_eraseIdx_of_lt hi
 have hfl:=Ybs (f:=rqF) (q:=7) (λ_=>rfl) l i hi
 have hone:=Yvy l
 repeat'(first|(apply YmS T;(iterate 6 exact rfl);omega)|refine zgb ?_|(refine zge ?_ ?_<;>intro _<;>try exact zo)|fail)
 apply YK [0,1,2,3,4,5,6,7] [] [false]
 kernel_rfl
 kernel_rfl
 exact zy
 (simp only[Yg,nthO];rfl)
 exact rfl
 repeat'(first|refine zga ?_|fail)
 apply Y6 T (l:=l) (n':=i);(iterate 4 exact rfl);omega;exact hcap;omega
 rw[XY]
 repeat'(first|refine zga ?_|fail)
 apply Jn T (n':=l.length-(i+1));(iterate 4 exact rfl);omega;omega
 rw[show((i:Int)+1).toNat=i+1 by omega]
 repeat'(first|refine zgd ?_|fail)
 apply Yf1 T (e:=56) (size:=7) (k:=l.length) (i:=i) (j:=i+1) (xs:=l.flatMap rqF);(iterate 4 exact rfl);exact zd;exact hone;omega
 rw[hfl,show i+(l.length-(i+1))=(l.eraseIdx i).length by omega]
 repeat'(first|(apply Yk;try exact zl)|refine zgd ?_|fail)
 apply Oc T (n':=1);(iterate 5 exact rfl);omega;omega
 rw[show(((l.eraseIdx i).length:Nat):Int).toNat=(l.eraseIdx i).length by omega]
 apply Yct T T2 (e:=56) (size:=7) (k:=(l.eraseIdx i).length) (xs:=(l.eraseIdx i).flatMap rqF);exact rfl;exact zm;(iterate 3 exact rfl);omega
 repeat'(first|refine zga ?_|fail)
 apply Yd;exact rfl;exact rfl;exact⟨rfl,rfl⟩
theorem Ymc{α β:Type}(g:α->β)(p:β->Bool):∀(l:List α) (k:Int),Ym p (l.map g) k=Ym (λx=>p (g x)) l k
 |[],_=>rfl
 |a::l,k=>by
  rw[Ru]
  unfold Ym
  rw[Ymc g p l (k+1)]
theorem YpY{α:Type}(p:α->Bool):∀(l:List α) (k:Int),0<=k->Ym p l k= -1\/(k<=Ym p l k/\Ym p l k<k+l.length)
 |[],k,_=>.inl rfl
 |a::l,k,h=>by
  have ih:=YpY p l (k+1) (by omega)
  grind [Ym]
theorem Yra(y:RqM)(id:Int)(g:Nat)(hm:intA g id∈H)(hw:St B w0 H w):
 CX B w0 89 [rqV y,.pointer (some ⟨g,0,none⟩)] w λv K=>v=.bool (decide (y.f.1=id))/\K=H:=by
 refine Yc Tryz.func89 Tryz.ntmps89 rfl rfl hw ?_
 unfold rqV
 by_cases h:y.f.1=id
 ·rw[Ti h]
  refine zX42 ?_<;>intros
  all_goals(apply Yi H;((intro w hw;refine hw.perm ?_;focus exact zc3));exact zc13)
 ·rw[Tn h]
  refine zX42 ?_<;>intros
  all_goals(apply Yi H;((intro w hw;refine hw.perm ?_;focus exact zc3));exact zc13)
theorem Yj7(s:Sch)(id:Int):(Qk s id).1.cells.length<=s.cells.length:=by
 unfold Qk
 split
 ·exact Yet
 ·exact RZ _ _
theorem W6(p:PnM)(id:Int)(ht:TabsB B w0)(hp:p.In B w0 H)(hw:St B w0 H w):
 CX B w0 33 [p.val,.int .i64 id] w (Ybh B w0 H (wdrP p.pln id)):=by
 refine Yc Tryz.func33 Tryz.ntmps33 rfl rfl hw ?_
 have p1:=λ{H':List HP}{w:World}(hp:p.In B w0 H') (hw:St B w0 H' w)=>VJ p ht hp hw
 have hop:∀w,St B w0 [many H] w->St B w0 H w:=λw hw=>hw.perm (.openT H)
 have hpM:∀{H':List HP},many H∈H'->p.In B w0 H':=λhm=>hp.mono λw hw=>hw.inM hm
 obtain⟨n,qA,qcap,q,s,cA,ccap,c,fA,fcap,f⟩:=p
 have hinM:∀{H':List HP},many H∈H'->n.In B w0 H':=λhm=>(hpM hm).n
 have hqM:∀{H':List HP},many H∈H'->QIn B w0 H' qA q:=λhm=>(hpM hm).q
 have hrsM:∀{H':List HP},many H∈H'->Rd B w0 H' s.A (s.cells.flatMap celF):=λhm=>(hpM hm).s
 have hsl:s.cells.length<=1000000000000:=hp.sl
 have p2:=λ{H':List HP}{w:World}(hrs:Rd B w0 H' s.A (s.cells.flatMap celF)) (hw:St B w0 H' w)=>YmE s id ht hrs hsl hw
 unfold PnM.val at p1⊢
 have hpl:(⟨n,qA,qcap,q,s,cA,ccap,c,fA,fcap,f⟩:PnM).pln=⟨n.net,q.map RqM.rq,s.sch,c.map ClM.clm,f⟩:=rfl
 rw[hpl]at p1⊢
 unfold wdrP
 dsimp only at p1⊢
 refine Xf [many H] (λw hw=>hw.perm (.closeT H)) ?_
 by_cases hk:chkP ⟨n.net,q.map RqM.rq,s.sch,c.map ClM.clm,f⟩=0
 rotate_left
 ·rw[Tm hk]
  repeat'(first|(apply zg23;first|(refine zs52 ?_;intro _)|(refine zs53 ?_;intro _))|refine zgb ?_|(refine zgh ?_;intro _)|fail)
  first|apply Ya en9|apply Yb en9
  exact za
  exact rfl
  exactλ_ hw=>(p1 (hpM zm) hw)
  repeat'(first|refine zgd ?_|(refine zge ?_ ?_<;>intro _<;>try exact zo)|fail)
  apply Yq T (H2:=H);(iterate 3 exact rfl);exact zm;exact rfl;exact rfl
  ·intro w hw
   have h5:St B w0 [many H] w:=by
    revert w
    exact zk
   exact hop w h5
  exact .inl ⟨rfl,rfl,rfl⟩
 have hq16:q.length<=16:=by
  have:=(YgZ (YcL (YcO hk))).1
  rwa [TC]at this
 rw[hk]at p1
 rw[Td (λe=>e hk)]
 have hidx:idQ (q.map RqM.rq) id=Ym (λy:RqM=>decide (y.f.1=id)) q 0:=Ymc _ _ _ _
 rw[hidx]
 repeat'(first|(apply zg23;first|(refine zs52 ?_;intro _)|(refine zs53 ?_;intro _))|refine zgb ?_|(refine zgh ?_;intro _)|fail)
 rename_i g2 g3 g4
 first|apply Ya en9|apply Yb en9
 exact za
 exact rfl
 exactλ_ hw=>(p1 (hpM zm) hw)
 repeat'(first|(apply zg29;(apply Yp;exact za;exact rfl))|refine zgb ?_|(refine zge ?_ ?_<;>intro _<;>try exact zo)|fail)
 first|apply Ya en88|apply Yb en88
 exact za
 exact rfl
 exactλ_ hw=>(Ydu (λy=>decide (y.f.1=id)) q 89 [.pointer (some ⟨g3,0,none⟩)] en89 (by omega) (hqM zm).rd (λa _ w hw=>Yra a id g3 zm hw) hw)
 have hil:=YpY (λy:RqM=>decide (y.f.1=id)) q 0 (by omega)
 generalize Ym (λy:RqM=>decide (y.f.1=id)) q 0=k at hil⊢
 by_cases hk0:k<0
 ·rw[Tm hk0]
  repeat'(first|refine zgd ?_|(refine zge ?_ ?_<;>intro _<;>try exact zo)|fail)
  apply Yq T (H2:=H);(iterate 3 exact rfl);exact zm;exact rfl;exact rfl
  ·intro w hw
   have h5:St B w0 [many H] w:=by
    revert w
    exact zk
   exact hop w h5
  exact .inl ⟨rfl,rfl,rfl⟩
 rw[Td hk0]
 obtain⟨j,rfl⟩:∃j:Nat,k=j:=⟨k.toNat,by omega⟩
 have hj:j<q.length:=by omega
 rw[RS]
 have hdel:delQ (q.map RqM.rq) j=(q.eraseIdx j).map RqM.rq:=by
  unfold delQ
  rw[List.eraseIdx_eq_take_drop_succ,Rl,List.map_take,NX]
 rw[hdel]
 have hdc:=Yj7 s.sch id
 unfold OutS SchM.val at p2
 generalize Qk s.sch id=R at p2 hdc⊢
 obtain⟨t,te⟩:=R
 dsimp only at p2 hdc⊢
 have htl:t.cells.length<=1000000000000:=Rh hdc hsl
 repeat'(first|(apply Ye T;exact rfl;exact zm;exact rfl;exact zv;exact rfl;exact rfl)|refine zga ?_|(refine zge ?_ ?_<;>intro _<;>try exact zo)|fail)
 apply YK [0,1,2,3,5,6,7,4,8,9,10,11,12] [] [true,true,true,true]
 kernel_rfl
 kernel_rfl
 exact zy
 (simp only[Yg,nthO];rfl)
 exact rfl
 repeat'(first|(apply Ye T;exact rfl;exact zm;exact rfl;exact zv;exact rfl;exact rfl)|refine zgd ?_|fail)
 apply Yf _ en91
 exact za
 exact rfl
 exactλ_ hw=>(Uu q (by omega) (hqM zm).rd (hw))
 rintro _ _ ⟨A1,c1,rfl,rfl⟩
 repeat'(first|(apply Ye T;exact rfl;exact zm;exact rfl;exact zv;exact rfl;exact rfl)|(apply Yk;try exact zl)|refine zgd ?_|fail)
 apply XI [rqs A1 c1 q] _ en90
 exact za
 try exact zl
 exact zp
 exact rfl
 exactλ_ hw=>(Ygp q j hj (by omega) hw)
 rintro _ _ ⟨rfl,rfl⟩
 repeat'(first|(apply Ye T;exact rfl;exact zm;exact rfl;exact zv;exact rfl;exact rfl)|(apply Yk;try exact zl)|refine zgd ?_|(refine zgh ?_;intro _)|fail)
 rename_i g7
 apply Yf _ en92
 exact za
 exact rfl
 exactλ_ hw=>(p2 (hrsM zm) (hw))
 rintro _ _ ⟨A4,c4,rfl,rfl⟩
 repeat'(first|(apply Ye T;exact rfl;exact zm;exact rfl;exact zv;exact rfl;exact rfl)|refine zgd ?_|fail)
 apply ZE (bldA g7 ⟨n,A1,c1,q.eraseIdx j,⟨t.len,t.off,A4,c4,t.cells⟩,none,0,[],none,0,[],te⟩::rqs A1 c1 (q.eraseIdx j)::cels A4 c4 t.cells::blk g4 (.cells zeroPnV.cells 35 (0,0))::[many H])
 ·intro w hw
  have h5:St B w0 (blk g7 (.cells #[.int .i64 n.nodes,.slice n.pA n.rows.length n.pcap,.int .i64 n.noise,.int .i64 n.thr,.slice n.lA n.links.length n.lcap,.slice n.mA n.margin.length n.mcap,.slice A1 (q.eraseIdx j).length c1,.int .i64 t.len,.int .i64 t.off,.slice A4 t.cells.length c4,.slice none 0 0,.slice none 0 0,.int .i64 te] 164 (0,0))::rqs A1 c1 (q.eraseIdx j)::cels A4 c4 t.cells::blk g4 (.cells (Value.agg #[.int .i64 0,.slice none 0 0,.int .i64 0,.int .i64 0,.slice none 0 0,.slice none 0 0,.slice none 0 0,.int .i64 0,.int .i64 0,.slice none 0 0,.slice none 0 0,.slice none 0 0]).cells 35 (0,0))::[many H]) w:=by
   revert w
   exact zk
  exact h5
 have hqe:∀{H':List HP},many H∈H'->rqs A1 c1 (q.eraseIdx j)∈H'->QIn B w0 H' A1 (q.eraseIdx j):=λh1 h2=>⟨YqF h2,λx hx=>(hqM h1).x x (List.mem_of_mem_eraseIdx hx),by have:=List.length_eraseIdx_le q j;omega⟩
 apply XI [bldA g7 ⟨n,A1,c1,q.eraseIdx j,⟨t.len,t.off,A4,c4,t.cells⟩,none,0,[],none,0,[],te⟩] _ en82
 exact za
 try exact zl
 exact zp
 exact rfl
 exactλ_ hw=>(UK ⟨n,A1,c1,q.eraseIdx j,⟨t.len,t.off,A4,c4,t.cells⟩,none,0,[],none,0,[],te⟩ g7 ht (hinM zm) (hqe zm zm) (Yci (cap:=c4) zm) htl hw)
 rintro _ _ hO
 dsimp only at hO
 rcases hO with⟨h1,rfl,rfl⟩|⟨p,X,h1,rfl,hp,rfl⟩
 ·unfold zeroPnV
  repeat'(first|refine zgc ?_|fail)
  apply Yq T (H2:=H);(iterate 3 exact rfl);exact zm;exact rfl;exact rfl
  ·intro w hw
   have h5:St B w0 [many H] w:=by
    revert w
    exact zk
   exact hop w h5
  exact .inl ⟨h1,rfl,rfl⟩
 ·unfold PnM.val
  repeat'(first|refine zgc ?_|fail)
  apply Yq T (H2:=many [many X,cels A4 c4 t.cells]::H);(iterate 3 exact rfl);exact zm;exact rfl;exact rfl
  ·intro w hw
   have h5:St B w0 (many X::cels A4 c4 t.cells::[many H]) w:=by
    revert w
    exact zk
   exact(h5.perm (.cons _ (.cons _ (.openT H)))).perm (.close [_,_] H)
  exact .inr ⟨p,_,h1,rfl,(hp _ (Yci (cap:=c4) (.head _))).mono λw hw=>(hw.perm (.open_ [_,_] [])),rfl⟩
theorem Qc{α:Type}{k:α->Int}:∀{a b:List α},(a.Pairwise λx y=>k x<k y)->(b.Pairwise λx y=>k x<k y)->(∀x,x∈a↔x∈b)->a=b
 |[],[],_,_,_=>rfl
 |[],y::b,_,_,h=>by have:=(h y).2 (by simp);cases this
 |x::a,[],_,_,h=>by have:=(h x).1 (by simp);cases this
 |x::a,y::b,ha,hb,h=>by
  obtain⟨ha1,ha2⟩:=Si.1 ha
  obtain⟨hb1,hb2⟩:=Si.1 hb
  have hxy:x=y:=by
   rcases TI.1 ((h x).1 (by simp))with e|e
   ·exact e
   rcases TI.1 ((h y).2 (by simp))with e2|e2
   ·exact e2.symm
   have:=hb1 x e
   have:=ha1 y e2
   omega
  subst hxy
  refine TE (x::·) (Qc ha2 hb2 λz=>?_)
  have hz:=h z
  rw[TI,TI]at hz
  constructor
  ·intro hm
   rcases hz.1 (.inr hm)with rfl|h2
   ·exact absurd (ha1 _ hm) (Nk _)
   ·exact h2
  ·intro hm
   rcases hz.2 (.inr hm)with rfl|h2
   ·exact absurd (hb1 _ hm) (Nk _)
   ·exact h2
theorem J6:∀{a b:List Lop}{c d:List Spl},a.length=c.length->YS (a++b) (c++d)=YS a c++YS b d
 |[],_,[],_,_=>rfl
 |x::a,b,y::c,d,h=>by
  have:=J6 (a:=a) (b:=b) (c:=c) (d:=d) (by simpa using h)
  simp only[TF,YS,this]
 |[],_,_::_,_,h=>by cases h
 |_::_,_,[],_,h=>by cases h
theorem Vi:∀{a b:List Lop}{c d:List Spl},a.length=c.length->badS (a++b) (c++d)=(badS a c||badS b d)
 |[],_,[],_,_=>by simp[badS]
 |x::a,b,y::c,d,h=>by
  have:=Vi (a:=a) (b:=b) (c:=c) (d:=d) (by simpa using h)
  simp only[TF,badS,this,Bool.or_assoc]
 |[],_,_::_,_,h=>by cases h
 |_::_,_,[],_,h=>by cases h
theorem O1:∀{a:List Lop}{c:List Spl}{f:Flw},f∈YS a c->∃l∈a,f.1=2*l.1\/f.1=2*l.1+1
 |x::a,y::c,f,h=>by
  simp only[YS,TI]at h
  rcases h with rfl|rfl|h
  ·exact⟨x,by simp,.inl rfl⟩
  ·exact⟨x,by simp,.inr rfl⟩
  ·obtain⟨l,h1,h2⟩:=O1 h
   exact⟨l,Tz _ h1,h2⟩
 |[],_,_,h=>by cases h
 |_::_,[],_,h=>by cases h
theorem YaV:∀{a:List Lop}{c:List Spl},(a.Pairwise λx y=>x.1<y.1)->(YS a c).Pairwise λf g=>f.1<g.1
 |x::a,y::c,h=>by
  obtain⟨h1,h2⟩:=Si.1 h
  have hm:∀f∈YS a c,2*x.1+1<f.1:=λf hf=>by
   obtain⟨l,hl,e⟩:=O1 hf
   have:=h1 l hl
   omega
  simp only[YS]
  refine Si.2 ⟨λf hf=>?_,Si.2 ⟨λf hf=>?_,YaV h2⟩⟩
  ·rcases TI.1 hf with rfl|hf
   ·show 2*x.1<2*x.1+1;omega
   ·have:=hm f hf
    show 2*x.1<f.1;omega
  ·exact hm f hf
 |[],_,_=>by simp[YS]
 |_::_,[],_=>by simp[YS]
variable {l:Lop}
theorem Yue{nodes:Int}(h:lopE nodes l=0)(hn:nodes<=32):lopE 32 l=0:=by
 have hi:∀a:Int,¬(insE a nodes=false)->¬(insE a 32=false):=λa h=>by
  unfold insE at h⊢
  simp only[T9,TN]at h⊢
  omega
 unfold lopE at h⊢
 split at h
 ·cases h
 rename_i h1
 split at h
 ·cases h
 rename_i h2
 split at h
 ·cases h
 rename_i h3
 rw[Td (λe=>h1 ?_),Td h2,Td h3]
 rcases e with e|e|e|e|e
 ·exact .inl e
 ·exact .inr (.inl e)
 ·exact .inr (.inr (.inl (TN.1 λe2=>hi _ e2 e)))
 ·exact .inr (.inr (.inr (.inl (TN.1 λe2=>hi _ e2 e))))
 ·exact .inr (.inr (.inr (.inr (TN.1 λe2=>hi _ e2 e))))
theorem Yec{s:Spl}(h:lopE 32 l=0)(hs:s∈Vc l):XW l s=0:=by
 unfold Vc at hs
 obtain⟨i,hi,rfl⟩:=TD.1 hs
 have hi:=Rf.1 hi
 unfold XW
 rw[Td (λe=>e h),Td]
 unfold fitS Ybg sumS
 unfold sumS at hi
 simp only[Bool.not_eq_false,Tt]
 omega
variable {p:Pln}
theorem Yaa{q:Pln}{f:Flw}(hp:chkP p=0)(h:extP p f=(some q,0)):chkP q=0/\q.n=p.n/\(∀g,g∈Ys q.q↔g=f\/g∈Ys p.q)/\wdrP q f.1=(some p,0):=by
 have hfin:∀{x:Rqs}{s:Sch},x.1=f->finE p.n (insQ p.q x) s 0=(some q,0)->q.n=p.n/\∀g,g∈Ys q.q↔g=f\/g∈Ys p.q:=λ{x s} hx h=>by
  unfold finE at h
  split at h
  ·cases h
  ·obtain rfl:=Tv (TE Prod.fst h)
   refine⟨rfl,λg=>?_⟩
   unfold Ys
   simp only[TD,JD]
   constructor
   ·rintro⟨y,rfl|hy,rfl⟩
    ·exact .inl hx
    ·exact .inr ⟨y,hy,rfl⟩
   ·rintro(rfl|⟨y,hy,rfl⟩)
    ·exact⟨x,.inl rfl,hx⟩
    ·exact⟨y,.inr hy,rfl⟩
 rcases Yid (f:=f) hp with⟨h1,-⟩|⟨q',h1,h2,-,h4⟩
 ·rw[h]at h1;cases h1
 obtain rfl:q'=q:=by rw[h]at h1;exact(Tv (TE Prod.fst h1)).symm
 suffices hs:q'.n=p.n/\∀g,g∈Ys q'.q↔g=f\/g∈Ys p.q from⟨h2.chk,hs.1,hs.2,h4⟩
 unfold extP at h
 rw[Td (λe=>e hp)]at h
 split at h
 ·cases h
 split at h
 ·cases h
 split at h
 ·cases h
 split at h
 ·rename_i h5
  exact absurd (TE Prod.snd h) h5
 rename_i h5
 have hr:=YdX (TN.1 h5)
 split at h
 ·exact hfin (YdT hr) h
 split at h
 ·cases h
 rename_i hs
 unfold ext1 at h
 split at h
 ·cases h
 ·exact hfin (Qb (TN.1 hs)) h
theorem YgS(l:List Lop)(id:Int):posL l id<=l.length:=(List.takeWhile_sublist _).length_le
theorem YcP(h:chkP p=0):(Ys p.q).Pairwise λa b=>a.1<b.1:=(V1.1 (Ygz (UJ h).cert)).2.2.2
abbrev plnA(g:Nat)(n:NetM)(qA:Option Addr)(qcap:Nat)(q:List RqM)(s:SchM)(cA:Option Addr)(ccap:Nat)(c:List ClM)(fA:Option Addr)(fcap:Nat)(fm:List Int):HP:=blk g (.cells #[.int .i64 n.nodes,.slice n.pA n.rows.length n.pcap,.int .i64 n.noise,.int .i64 n.thr,.slice n.lA n.links.length n.lcap,.slice n.mA n.margin.length n.mcap,.slice qA q.length qcap,.int .i64 s.len,.int .i64 s.off,.slice s.A s.cells.length s.cap,.slice cA c.length ccap,.slice fA fm.length fcap] 35 (0,0))
abbrev zerA(g:Nat):HP:=blk g (.cells (Value.agg #[.int .i64 0,.slice none 0 0,.int .i64 0,.int .i64 0,.slice none 0 0,.slice none 0 0,.slice none 0 0,.int .i64 0,.int .i64 0,.slice none 0 0,.slice none 0 0,.slice none 0 0]).cells 35 (0,0))
abbrev schD(g:Nat)(t:Sch)(A:Option Addr)(cap:Nat):HP:=blk g (.cells #[.int .i64 t.len,.int .i64 t.off,.slice A t.cells.length cap] 30 (0,0))
structure ExM where
 y:RqM
 t:Sch
 A:Option Addr
 cap:Nat
 e:Int
 X:HP
structure ExOk(B:Nat)(w0:World)(n:Net)(q:List Rqs)(f:Flw)(RR:Option Pln×Int)(z:ExM):Prop where
 yin:∀{H':List HP},z.X∈H'->z.y.In B w0 H'
 id:z.y.f.1=f.1
 tl:z.t.cells.length<=1000000000000
 res:(if z.e=0 then finE n (insQ q z.y.rq) z.t 0 else(none,18))=RR
theorem QZ(n:Net)(q:List Rqs)(s:Sch)(x:Rqs):(X8 n q s x).1.cells.length<=512:=by
 unfold X8
 split
 ·exact Yet
 split
 ·exact Yet
 split
 ·exact Yet
 split
 ·exact Yet
 split
 ·exact Yet
 split
 ·exact Yet
 simp_all
theorem YeE(p:PnM)(f:Flw)(h24:p.s.len<=24\/chkP p.pln≠0){B:Nat}{w0:World}{H:List HP}{w:World}(ht:TabsB B w0)(hp:p.In B w0 H)(hw:St B w0 H w):
 CX B w0 64 [p.val,flwV f] w (Ybh B w0 H (extP p.pln f)):=by
 refine Yc Tryz.func64 Tryz.ntmps64 rfl rfl hw ?_
 have p1:=λ{H':List HP}{w:World}(hp:p.In B w0 H') (hw:St B w0 H' w)=>VJ p ht hp hw
 have hop:∀w,St B w0 [many H] w->St B w0 H w:=λw hw=>hw.perm (.openT H)
 have hpM:∀{H':List HP},many H∈H'->p.In B w0 H':=λhm=>hp.mono λw hw=>hw.inM hm
 obtain⟨n,qA,qcap,q,s,cA,ccap,c,fA,fcap,fm⟩:=p
 have hinM:∀{H':List HP},many H∈H'->n.In B w0 H':=λhm=>(hpM hm).n
 have hqM:∀{H':List HP},many H∈H'->QIn B w0 H' qA q:=λhm=>(hpM hm).q
 have hrsM:∀{H':List HP},many H∈H'->Rd B w0 H' s.A (s.cells.flatMap celF):=λhm=>(hpM hm).s
 have hsl:s.cells.length<=1000000000000:=hp.sl
 dsimp only at h24
 unfold PnM.val at p1⊢
 have hpl:(⟨n,qA,qcap,q,s,cA,ccap,c,fA,fcap,fm⟩:PnM).pln=⟨n.net,q.map RqM.rq,s.sch,c.map ClM.clm,fm⟩:=rfl
 rw[hpl]at p1 h24⊢
 unfold extP
 dsimp only at p1⊢
 unfold flwV
 refine Xf [many H] (λw hw=>hw.perm (.closeT H)) ?_
 by_cases hk:chkP ⟨n.net,q.map RqM.rq,s.sch,c.map ClM.clm,fm⟩=0
 rotate_left
 ·rw[Tm hk]
  repeat'(first|refine zgb ?_|(refine zgh ?_;intro _)|fail)
  first|apply Ya en9|apply Yb en9
  exact za
  exact rfl
  exactλ_ hw=>(p1 (hpM zm) hw)
  repeat'(first|refine zgd ?_|(refine zge ?_ ?_<;>intro _<;>try exact zo)|fail)
  apply Yq T (H2:=H);(iterate 3 exact rfl);exact zm;exact rfl;exact rfl
  ·intro w hw
   have h5:St B w0 [many H] w:=by
    revert w
    exact zk
   exact hop w h5
  exact .inl ⟨rfl,rfl,rfl⟩
 have hs24:s.len<=24:=by
  rcases h24 with h|h
  ·exact h
  ·exact absurd hk h
 have hce:=YcO hk
 have hrq:=YcL hce
 have hq16:q.length<=16:=by
  have:=(YgZ hrq).1
  rwa [TC]at this
 have hord:=YpW hrq
 rw[hk]at p1
 rw[Td (λe=>e hk)]
 have hpos:posQ (q.map RqM.rq) f.1<=q.length:=by
  have:=(List.takeWhile_prefix (p:=λy:Rqs=>decide (y.1.1<f.1)) (l:=q.map RqM.rq)).length_le
  rw[TC]at this
  exact this
 obtain⟨k,hkp⟩:∃k,posQ (q.map RqM.rq) f.1=k:=⟨_,rfl⟩
 have p2:=λ{H':List HP}{w:World}(hq:QIn B w0 H' qA q) (hw:St B w0 H' w)=>Yg6 q f hord (by omega) (cap:=qcap) hq.rd hw
 rw[hkp]at p2 hpos
 obtain⟨hs,hhs⟩:∃hs,hasQ (q.map RqM.rq) f.1=hs:=⟨_,rfl⟩
 rw[hhs]at p2⊢
 unfold flwV at p2
 repeat'(first|refine zgb ?_|(refine zgh ?_;intro _)|fail)
 rename_i g2 g3 g4
 first|apply Ya en9|apply Yb en9
 exact za
 exact rfl
 exactλ_ hw=>(p1 (hpM zm) hw)
 repeat'(first|refine zgb ?_|(refine zge ?_ ?_<;>intro _<;>try exact zo)|fail)
 first|apply Ya Ytl|apply Yb Ytl
 exact za
 exact rfl
 exactλ_ hw=>(p2 (hqM zm) hw)
 cases hs with
 |true=>
  repeat'(first|refine zgd ?_|fail)
  apply Yq T (H2:=H);(iterate 3 exact rfl);exact zm;exact rfl;exact rfl
  ·intro w hw
   have h5:St B w0 [many H] w:=by
    revert w
    exact zk
   exact hop w h5
  exact .inl ⟨rfl,rfl,rfl⟩
 |false=>
 rw[Td (by decide)]
 have hfl:Ys (insQ (q.map RqM.rq) (f,[]))=(RqM.fl q).take k++f::(RqM.fl q).drop k:=by
  unfold insQ Ys
  rw[show((f,[]):Rqs).1.1=f.1 from rfl,hkp,Rl,Ru,List.map_take,NX,NI]
  rfl
 rw[hfl]
 have hfll:(RqM.fl q).length=q.length:=by unfold RqM.fl;rw[TC]
 have hil:=Yfp (RqM.fl q) f k (by omega)
 have p3:=λ{H':List HP}{w:World}(hq:QIn B w0 H' qA q) (hw:St B w0 H' w)=>Yi3 q (cap:=qcap) (by omega) hq.rd hw
 have p4:=λ{A2:Option Addr}{cap2 gv:Nat}{H':List HP}{w:World}(hw:St B w0 (flws A2 cap2 (RqM.fl q)::flwB gv f::H') w)=>YgB (RqM.fl q) k f (by omega) (by omega) hw
 obtain⟨L,hL⟩:∃L,(RqM.fl q).take k++f::(RqM.fl q).drop k=L:=⟨_,rfl⟩
 rw[hL]at p4 hil⊢
 have p5:=λ{A2:Option Addr}{cap2:Nat}{H':List HP}{w:World}(hr:Rd B w0 H' A2 (L.flatMap flwF)) (hw:St B w0 H' w)=>Y0 n.nodes L (by omega) (cap:=cap2) hr hw
 obtain⟨fe,hfe⟩:∃fe,(Yy n.net.nodes L).2=fe:=⟨_,rfl⟩
 obtain⟨fi,hfi⟩:∃fi,(Yy n.net.nodes L).1=fi:=⟨_,rfl⟩
 rw[show n.nodes=n.net.nodes from rfl,hfe,hfi]at p5
 rw[hfe]
 repeat'(first|refine zgc ?_|fail)
 refine ZV (λ_:Unit=>[(2,.pointer (some ⟨g2,0,none⟩)),(3,.pointer (some ⟨g3,0,none⟩)),(4,.pointer (some ⟨g4,0,none⟩)),(6,.int .i64 (k:Nat)),(9,.int .i64 fe)]) (λ_=>[plnA g2 n qA qcap q s cA ccap c fA fcap fm,flwB g3 f,zerA g4,many H]) ?_ ?_
 ·intro K hK
  repeat'(first|(apply Ye T;exact rfl;exact zm;exact rfl;exact zv;exact rfl;exact rfl)|fail)
  apply Up (.n1 0 (.n1 1 (.n1 2 (.n1 3 (.n1 4 (.n1 6 (.n1 7 (.n2 5 (.n1 8 (.n1 9 (.n1 10 (.n1 11 (.n1 12 (.n1 13 (.n1 14 (.n1 15 .done)))))))) 8 (.n1 5 (.n1 9 (.n1 10 (.n1 11 (.n1 12 (.n1 13 (.n1 14 (.n1 15 .done)))))))))))))))) [] [true,true,true,true]
  kernel_rfl
  kernel_rfl
  exact zy
  exact rfl
  repeat'(first|(apply Ye T;exact rfl;exact zm;exact rfl;exact zv;exact rfl;exact rfl)|(apply Yk;try exact zl)|apply(zs91 ?_ ?_)|(apply Xa;try exact zl)|refine zgd ?_|(refine zgh ?_;intro _)|fail)
  ·skip
   apply Yf _ Yto
   exact za
   exact rfl
   exactλ_ hw=>(p3 (hqM zm) (hw))
   rintro _ _ ⟨A2,cap2,rfl,rfl⟩
   repeat'(first|(apply Ye T;exact rfl;exact zm;exact rfl;exact zv;exact rfl;exact rfl)|(apply Yk;try exact zl)|(apply Xa;try exact zl)|refine zgd ?_|(refine zgh ?_;intro _)|fail)
   rename_i gv
   apply XI [flws A2 cap2 (RqM.fl q),flwB gv f] _ Ytn
   exact za
   try exact zl
   exact zp
   exact rfl
   exactλ_ hw=>(p4 hw)
   rintro _ _ ⟨A3,cap3,rfl,rfl⟩
   repeat'(first|((first|apply Ya en74|apply Yb en74);exact za;exact rfl;exactλ_ hw=>(p5 (Rd.sl zm) hw))|(apply Yk;try exact zl)|(apply Xa;try exact zl)|refine zgd ?_|fail)
   apply hK ()
   ·exact zu
   ·exact zk
  ·rename_i gv
   apply Yf _ Yto
   exact za
   exact rfl
   exactλ_ hw=>(p3 (hqM zm) (hw))
   rintro _ _ ⟨A2,cap2,rfl,rfl⟩
   repeat'(first|(apply Ye T;exact rfl;exact zm;exact rfl;exact zv;exact rfl;exact rfl)|(apply Yk;try exact zl)|(apply Xa;try exact zl)|refine zgd ?_|fail)
   apply XI [flws A2 cap2 (RqM.fl q),flwB gv f] _ Ytn
   exact za
   try exact zl
   exact zp
   exact rfl
   exactλ_ hw=>(p4 hw)
   rintro _ _ ⟨A3,cap3,rfl,rfl⟩
   repeat'(first|((first|apply Ya en74|apply Yb en74);exact za;exact rfl;exactλ_ hw=>(p5 (Rd.sl zm) hw))|(apply Yk;try exact zl)|(apply Xa;try exact zl)|refine zgd ?_|fail)
   apply hK ()
   ·exact zu
   ·exact zk
 rintro⟨⟩
 by_cases hfe0:fe=0
 rotate_left
 ·rw[Tm hfe0]
  repeat'(first|refine zgd ?_|(refine zge ?_ ?_<;>intro _<;>try exact zo)|fail)
  apply Yq T (H2:=H);(iterate 3 exact rfl);exact zm;exact rfl;exact rfl
  ·intro w hw
   have h5:St B w0 [many H] w:=by
    revert w
    exact zk
   exact hop w h5
  exact .inl ⟨rfl,rfl,rfl⟩
 rw[Td (λe=>e hfe0)]
 subst hfe0
 clear p1 p2 p3 p4 p5
 have hflw:=(V1.1 hfe).2.2.1 f (by rw[<-hL];exact TS _ TB)
 obtain⟨-,hper,-,-,-⟩:=XL hflw
 have hsz:=(Vt (X5.1 (XJ.1 hce).1).whole).2.2.1
 have hl1:1<=s.len:=by
  exact(TY hsz).1
 rw[show s.sch.len=s.len from rfl,RJ (by omega)]
 by_cases hmod:s.len%f.2.2.2.1=0
 rotate_left
 ·rw[Tm hmod]
  repeat'(first|refine zgd ?_|(refine zge ?_ ?_<;>intro _<;>try exact zo)|fail)
  apply Yq T (H2:=H);(iterate 3 exact rfl);exact zm;exact rfl;exact rfl
  ·intro w hw
   have h5:St B w0 [many H] w:=by
    revert w
    exact zk
   exact hop w h5
  exact .inl ⟨rfl,rfl,rfl⟩
 rw[Td (λe=>e hmod)]
 have p6:=λ{A2:Option Addr}{cap2:Nat}{H':List HP}{w:World}(hin:n.In B w0 H') (hr:Rd B w0 H' A2 ([f].flatMap flwF)) (hw:St B w0 H' w)=>YeM n [f] (by simp) (λf _=>Yn7 n.net f) (cap:=cap2) hin hr hw
 obtain⟨⟨RQ,ri,re⟩,hR⟩:∃R,Vy n.net [f]=R:=⟨_,rfl⟩
 rw[hR]at p6⊢
 dsimp only at p6⊢
 unfold YoL NetM.val at p6
 dsimp only at p6
 repeat'(first|(apply Ye T;exact rfl;exact zm;exact rfl;exact zv;exact rfl;exact rfl)|refine zgd ?_|(refine zge ?_ ?_<;>intro _<;>try exact zo)|(refine zgh ?_;intro _)|fail)
 apply Yf _ en77
 exact za
 exact rfl
 exactλ_ hw=>(p6 (hinM zm) (Rd.blk (cs:=#[.int .i64 f.1,.int .i64 f.2.1,.int .i64 f.2.2.1,.int .i64 f.2.2.2.1,.int .i64 f.2.2.2.2.1,.int .i64 f.2.2.2.2.2]) (t:=53) (fr:=(0,0)) zm) (hw))
 rintro _ _ ⟨A4,cap4,qr,rfl,hqr,hqs,rfl⟩
 by_cases hre:re=0
 rotate_left
 ·rw[Tm hre]
  repeat'(first|refine zgd ?_|(refine zge ?_ ?_<;>intro _<;>try exact zo)|fail)
  apply Yq T (H2:=H);(iterate 3 exact rfl);exact zm;exact rfl;exact rfl
  ·intro w hw
   have h5:St B w0 [many H] w:=by
    revert w
    exact zk
   exact hop w h5
  exact .inl ⟨rfl,rfl,rfl⟩
 rw[Td (λe=>e hre)]
 subst hre
 have hRQ:RQ=[(reqE n.net f).1]:=by
  have h1:=hR
  unfold Vy at h1
  split at h1
  ·cases h1
  split at h1
  ·rename_i h2;injection h1 with _ h3;rw[h3]at h2;exact absurd rfl h2
  split at h1
  ·rename_i h2;injection h1 with _ h3;rw[h3]at h2;exact absurd rfl h2
  ·injection h1 with h2 h3
   rw[<-h2];rfl
 obtain⟨x,rfl,hxr⟩:∃x,qr=[x]/\x.rq=(reqE n.net f).1:=by
  rw[hRQ]at hqr
  match qr,hqr with
  |[],h=>cases h
  |[x],h=>injection h with h1 _;exact⟨x,rfl,h1⟩
  |_::_::_,h=>injection h with _ h1;cases h1
 have hxl:=hqs x TB
 have hx0:[x][(0:Int).toNat]? =some x:=rfl
 have hx1:[x].length=1:=rfl
 rw[<-hxr]
 have p7:=λ(y:RqM) {H':List HP}{w:World}(hin:n.In B w0 H') (hq:QIn B w0 H' qA q) (hrs:Rd B w0 H' s.A (s.cells.flatMap celF)) (hy:y.In B w0 H') (hw:St B w0 H' w)=>YjG n q s y hs24 (cap:=qcap) ht hin hq hrs hsl hy hw
 unfold OutS NetM.val SchM.val rqV at p7
 have p8:=λ{H':List HP}{w:World}(hin:n.In B w0 H') (hw:St B w0 H' w)=>Qw n f hin hw
 unfold OutQ NetM.val flwV at p8
 unfold rqs
 repeat'(first|(apply Ye T;exact rfl;exact zm;exact rfl;exact zv;exact rfl;exact rfl)|refine zgd ?_|(refine zge ?_ ?_<;>intro _<;>try exact zo)|(refine zgh ?_;intro _)|fail)
 rename_i g13
 have hxin:∀{H':List HP},many ([x].map rqQ)∈H'->x.In B w0 H':=λhm=>Yml hm TB hxl
 obtain⟨⟨t,te⟩,hA⟩:∃R,X8 n.net (q.map RqM.rq) s.sch x.rq=R:=⟨_,rfl⟩
 have p9:=λ{H':List HP}{w:World}(hin:n.In B w0 H') (hq:QIn B w0 H' qA q) (hrs:Rd B w0 H' s.A (s.cells.flatMap celF)) (hy:x.In B w0 H') (hw:St B w0 H' w)=>p7 x hin hq hrs hy hw
 rw[hA]at p9
 rw[hA]
 dsimp only at p9⊢
 apply Yf _ Ytp
 exact za
 exact rfl
 exactλ_ hw=>(p9 (hinM zm) (hqM zm) (hrsM zm) (hxin zm) (hw))
 rintro _ _ ⟨A5,cap5,rfl,rfl⟩
 iterate 9 (first|(apply Ye T;exact rfl;exact zm;exact rfl;exact zv;exact rfl;exact rfl)|refine zgc ?_|(refine zgh ?_;intro _)|fail)
 rename_i g14
 have htl:=QZ n.net (q.map RqM.rq) s.sch x.rq
 rw[hA]at htl
 dsimp only at htl
 obtain⟨RR,hRR⟩:∃RR,(if te=0 then finE n.net (insQ (q.map RqM.rq) x.rq) t 0 else if(VF n.net f).2≠0 then(none,18)else ext1 ⟨n.net,q.map RqM.rq,s.sch,c.map ClM.clm,fm⟩ (VF n.net f).1 (X8 n.net (q.map RqM.rq) s.sch (VF n.net f).1))=RR:=⟨_,rfl⟩
 rw[hRR]
 have hxf:x.f.1=f.1:=by
  have h1:x.rq.1=f:=by rw[hxr];exact YdT (YdX (by rw[hR]))
  exact TE Prod.fst h1
 refine ZV (λz:{z:ExM//ExOk B w0 n.net (q.map RqM.rq) f RR z}=>[(2,.pointer (some ⟨g2,0,none⟩)),(4,.pointer (some ⟨g4,0,none⟩)),(6,.int .i64 (k:Nat)),(12,.int .i64 z.1.e),(13,.pointer (some ⟨g13,0,none⟩)),(14,.pointer (some ⟨g14,0,none⟩))])
  (λz=>[rqA g13 z.1.y,schD g14 z.1.t z.1.A z.1.cap,cels z.1.A z.1.cap z.1.t.cells,z.1.X,plnA g2 n qA qcap q s cA ccap c fA fcap fm,zerA g4,many H]) ?_ ?_
 ·intro K hK
  by_cases hte:te=0
  ·rw[Tm hte]at hRR
   repeat'(first|refine zga ?_|(refine zge ?_ ?_<;>intro _<;>try exact zo)|fail)
   apply hK ⟨⟨x,t,A5,cap5,te,many ([x].map rqQ)⟩,⟨hxin,hxf,by show t.cells.length<=_;omega,by rw[<-hRR];exact Tm hte⟩⟩
   ·exact zu
   ·exact zk
  rw[Td hte]at hRR
  obtain⟨⟨sy,se⟩,hS⟩:∃R,VF n.net f=R:=⟨_,rfl⟩
  have hsf:se=0->sy.1=f:=λh=>by have:=@Qb n.net f (by rw[hS];exact h);rwa [hS]at this
  rw[hS]at p8 hRR
  dsimp only at p8 hRR
  repeat'(first|(apply Ye T;exact rfl;exact zm;exact rfl;exact zv;exact rfl;exact rfl)|refine zgb ?_|(refine zge ?_ ?_<;>intro _<;>try exact zo)|fail)
  apply Yf _ Ytq
  exact za
  exact rfl
  exactλ_ hw=>(p8 (hinM zm) (hw))
  rintro _ _ ⟨y,rfl,hy,hyl,rfl⟩
  unfold rqV
  by_cases hse:se=0
  rotate_left
  ·rw[Tm hse]at hRR
   repeat'(first|(apply Ye T;exact rfl;exact zm;exact rfl;exact zv;exact rfl;exact rfl)|refine zgd ?_|(refine zge ?_ ?_<;>intro _<;>try exact zo)|(refine zgh ?_;intro _)|fail)
   apply Yq T (H2:=H);(iterate 3 exact rfl);exact zm;exact rfl;exact rfl
   ·intro w hw
    have h5:St B w0 [many H] w:=by
     revert w
     exact zk
    exact hop w h5
   exact .inl ⟨by rw[<-hRR],by rw[<-hRR];rfl,rfl⟩
  rw[Td (λe=>e hse)]at hRR
  subst hy
  have hyin:∀{H':List HP},rqQ y∈H'->y.In B w0 H':=λhm=>YqO hm hyl
  unfold ext1 at hRR
  dsimp only at hRR
  obtain⟨⟨t2,te2⟩,hA2⟩:∃R,X8 n.net (q.map RqM.rq) s.sch y.rq=R:=⟨_,rfl⟩
  have p10:=λ{H':List HP}{w:World}(hin:n.In B w0 H') (hq:QIn B w0 H' qA q) (hrs:Rd B w0 H' s.A (s.cells.flatMap celF)) (hy:y.In B w0 H') (hw:St B w0 H' w)=>p7 y hin hq hrs hy hw
  have htl2:=QZ n.net (q.map RqM.rq) s.sch y.rq
  rw[hA2]at p10 hRR htl2
  dsimp only at p10 hRR htl2
  repeat'(first|(apply Ye T;exact rfl;exact zm;exact rfl;exact zv;exact rfl;exact rfl)|refine zgc ?_|(refine zge ?_ ?_<;>intro _<;>try exact zo)|(refine zgh ?_;intro _)|fail)
  apply Yf _ Ytp
  exact za
  exact rfl
  exactλ_ hw=>(p10 (hinM zm) (hqM zm) (hrsM zm) (hyin zm) (hw))
  rintro _ _ ⟨A6,cap6,rfl,rfl⟩
  repeat'(first|(apply Ye T;exact rfl;exact zm;exact rfl;exact zv;exact rfl;exact rfl)|refine zgc ?_|fail)
  apply hK ⟨⟨y,t2,A6,cap6,te2,rqQ y⟩,⟨hyin,TE Prod.fst (hsf hse),by show t2.cells.length<=_;omega,?_⟩⟩
  ·exact zu
  ·exact zk
  ·rw[<-hRR]
   show(if te2=0 then _ else _)=if te2≠0 then _ else _
   by_cases h:te2=0
   ·rw[Tm h,Td (λe=>e h)]
   ·rw[Td h,Tm h]
 rintro⟨⟨y,t3,A7,cap7,e3,X⟩,hz⟩
 obtain⟨hyin,hyf,ht3,hres⟩:=hz
 dsimp only at hyin hyf ht3 hres⊢
 clear hRR p7 p8 p9 hA htl hxin
 by_cases he3:e3=0
 rotate_left
 ·rw[Td he3]at hres
  repeat'(first|refine zgd ?_|(refine zge ?_ ?_<;>intro _<;>try exact zo)|fail)
  apply Yq T (H2:=H);(iterate 3 exact rfl);exact zm;exact rfl;exact rfl
  ·intro w hw
   have h5:St B w0 [many H] w:=by
    revert w
    exact zk
   exact hop w h5
  exact .inl ⟨by rw[<-hres],by rw[<-hres];rfl,rfl⟩
 rw[Tm he3]at hres
 subst he3
 obtain⟨Q,hQ⟩:∃Q,q.take k++y::q.drop k=Q:=⟨_,rfl⟩
 have hQl:=O5 q y k hpos
 rw[hQ]at hQl
 have hQm:Q.map RqM.rq=insQ (q.map RqM.rq) y.rq:=by
  unfold insQ
  rw[show y.rq.1.1=f.1 from hyf,hkp,<-hQ,Rl,Ru,List.map_take,NX]
 rw[<-hQm]at hres
 have p11:=λ{H':List HP}{w:World}(hq:QIn B w0 H' qA q) (hw:St B w0 H' w)=>Uu q (by omega) (cap:=qcap) hq.rd hw
 have p12:=λ{A':Option Addr}{cap' gv:Nat}{H':List HP}{w:World}(hw:St B w0 (rqs A' cap' q::rqA gv y::H') w)=>Yah q k y hpos (by omega) hw
 rw[hQ]at p12
 repeat'(first|refine zga ?_|(refine zge ?_ ?_<;>intro _<;>try exact zo)|fail)
 refine ZV (λz:Option Addr×Nat×Nat=>[(17,.pointer (some ⟨z.2.2,0,none⟩)),(4,.pointer (some ⟨g4,0,none⟩))])
  (λz=>[bldA z.2.2 ⟨n,z.1,z.2.1,Q,⟨t3.len,t3.off,A7,cap7,t3.cells⟩,none,0,[],none,0,[],0⟩,rqs z.1 z.2.1 Q,cels A7 cap7 t3.cells,X,zerA g4,many H]) ?_ ?_
 ·intro K hK
  repeat'(first|(apply Ye T;exact rfl;exact zm;exact rfl;exact zv;exact rfl;exact rfl)|fail)
  apply Up (.n1 0 (.n1 1 (.n1 2 (.n1 3 (.n1 5 (.n1 6 (.n1 9 (.n2 4 (.n1 7 (.n1 8 (.n1 10 (.n1 11 (.n1 12 (.n1 13 .done)))))) 7 (.n1 4 (.n1 8 (.n1 10 (.n1 11 (.n1 12 (.n1 13 .done)))))))))))))) [] [true,true,true,true,true,true,true]
  kernel_rfl
  kernel_rfl
  exact zy
  exact rfl
  repeat'(first|(apply Ye T;exact rfl;exact zm;exact rfl;exact zv;exact rfl;exact rfl)|(apply Yk;try exact zl)|apply(zs91 ?_ ?_)|(apply Xa;try exact zl)|refine zgd ?_|(refine zgh ?_;intro _)|fail)
  ·skip
   apply Yf _ en91
   exact za
   exact rfl
   exactλ_ hw=>(p11 (hqM zm) (hw))
   rintro _ _ ⟨A1,c1,rfl,rfl⟩
   repeat'(first|(apply Ye T;exact rfl;exact zm;exact rfl;exact zv;exact rfl;exact rfl)|(apply Yk;try exact zl)|(apply Xa;try exact zl)|refine zgd ?_|(refine zgh ?_;intro _)|fail)
   rename_i gv
   apply XI [rqs A1 c1 q,rqA gv y] _ YpB
   exact za
   try exact zl
   exact zp
   exact rfl
   exactλ_ hw=>(p12 hw)
   rintro _ _ ⟨A8,cap8,rfl,rfl⟩
   repeat'(first|(apply Ye T;exact rfl;exact zm;exact rfl;exact zv;exact rfl;exact rfl)|(apply Yk;try exact zl)|(apply Xa;try exact zl)|refine zgd ?_|(refine zgh ?_;intro _)|fail)
   rename_i g17
   apply hK ⟨A8,cap8,g17⟩
   ·exact zu
   ·intro w hw
    have h5:St B w0 (blk g17 (.cells #[.int .i64 n.nodes,.slice n.pA n.rows.length n.pcap,.int .i64 n.noise,.int .i64 n.thr,.slice n.lA n.links.length n.lcap,.slice n.mA n.margin.length n.mcap,.slice A8 Q.length cap8,.int .i64 t3.len,.int .i64 t3.off,.slice A7 t3.cells.length cap7,.slice none 0 0,.slice none 0 0,.int .i64 0] 164 (0,0))::rqs A8 cap8 Q::cels A7 cap7 t3.cells::X::zerA g4::[many H]) w:=by
     revert w
     exact zk
    exact h5
  ·rename_i gv
   apply Yf _ en91
   exact za
   exact rfl
   exactλ_ hw=>(p11 (hqM zm) (hw))
   rintro _ _ ⟨A1,c1,rfl,rfl⟩
   repeat'(first|(apply Ye T;exact rfl;exact zm;exact rfl;exact zv;exact rfl;exact rfl)|(apply Yk;try exact zl)|(apply Xa;try exact zl)|refine zgd ?_|fail)
   apply XI [rqs A1 c1 q,rqA gv y] _ YpB
   exact za
   try exact zl
   exact zp
   exact rfl
   exactλ_ hw=>(p12 hw)
   rintro _ _ ⟨A8,cap8,rfl,rfl⟩
   repeat'(first|(apply Ye T;exact rfl;exact zm;exact rfl;exact zv;exact rfl;exact rfl)|(apply Yk;try exact zl)|(apply Xa;try exact zl)|refine zgd ?_|(refine zgh ?_;intro _)|fail)
   rename_i g17
   apply hK ⟨A8,cap8,g17⟩
   ·exact zu
   ·intro w hw
    have h5:St B w0 (blk g17 (.cells #[.int .i64 n.nodes,.slice n.pA n.rows.length n.pcap,.int .i64 n.noise,.int .i64 n.thr,.slice n.lA n.links.length n.lcap,.slice n.mA n.margin.length n.mcap,.slice A8 Q.length cap8,.int .i64 t3.len,.int .i64 t3.off,.slice A7 t3.cells.length cap7,.slice none 0 0,.slice none 0 0,.int .i64 0] 164 (0,0))::rqs A8 cap8 Q::cels A7 cap7 t3.cells::X::zerA g4::[many H]) w:=by
     revert w
     exact zk
    exact h5
 rintro⟨A8,cap8,g17⟩
 dsimp only
 have hqe:∀{H':List HP},many H∈H'->X∈H'->rqs A8 cap8 Q∈H'->QIn B w0 H' A8 Q:=λh1 h2 h3=>⟨YqF h3,λz hz=>by
  rw[<-hQ]at hz
  rcases TJ.1 hz with h|h
  ·exact(hqM h1).x z (SU h)
  ·rcases TI.1 h with rfl|h
   ·exact hyin h2
   ·exact(hqM h1).x z (List.mem_of_mem_drop h),by omega⟩
 repeat'(first|refine zga ?_|fail)
 apply XI [bldA g17 ⟨n,A8,cap8,Q,⟨t3.len,t3.off,A7,cap7,t3.cells⟩,none,0,[],none,0,[],0⟩] _ en82
 exact za
 try exact zl
 exact zp
 exact rfl
 exactλ_ hw=>(UK ⟨n,A8,cap8,Q,⟨t3.len,t3.off,A7,cap7,t3.cells⟩,none,0,[],none,0,[],0⟩ g17 ht (hinM zm) (hqe zm zm zm) (Yci (cap:=cap7) zm) ht3 hw)
 rintro _ _ hO
 dsimp only at hO
 rw[show(⟨t3.len,t3.off,A7,cap7,t3.cells⟩:SchM).sch=t3 from rfl,hres]at hO
 rcases hO with⟨h1,rfl,rfl⟩|⟨p,XX,h1,rfl,hp,rfl⟩
 ·unfold zeroPnV
  repeat'(first|refine zgc ?_|fail)
  apply Yq T (H2:=H);(iterate 3 exact rfl);exact zm;exact rfl;exact rfl
  ·intro w hw
   have h5:St B w0 [many H] w:=by
    revert w
    exact zk
   exact hop w h5
  exact .inl ⟨h1,rfl,rfl⟩
 ·unfold PnM.val
  repeat'(first|refine zgc ?_|fail)
  apply Yq T (H2:=many [many XX,cels A7 cap7 t3.cells]::H);(iterate 3 exact rfl);exact zm;exact rfl;exact rfl
  ·intro w hw
   have h5:St B w0 (many XX::cels A7 cap7 t3.cells::[many H]) w:=by
    revert w
    exact zk
   exact(h5.perm (.cons _ (.cons _ (.openT H)))).perm (.close [_,_] H)
  exact .inr ⟨p,_,h1,rfl,(hp _ (Yci (cap:=cap7) (.head _))).mono λw hw=>(hw.perm (.open_ [_,_] [])),rfl⟩
end Go.Proofs.YtambgjgljcadlaaGreatDoor
