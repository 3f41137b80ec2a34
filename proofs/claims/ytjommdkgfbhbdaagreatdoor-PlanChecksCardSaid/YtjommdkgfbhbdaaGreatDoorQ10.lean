/- Lemmas. -/
import Derived.Lib.AtoiAllCases
import Derived.Test.YtjommdkgfbhbdaaGreatDoorQ8
set_option maxRecDepth 100000
set_option maxHeartbeats 8000000
set_option linter.all false
namespace Go.Proofs.YtjommdkgfbhbdaaGreatDoor
open Go.RowKit Go.Eng Go.Nw
variable {A:Option Addr}{cap B:Nat}{w0 w:World}{H:List HP}
theorem Yid(l:List Int)(v:Int)(hlen:l.length<=9223372036854775807)(hr:Rd B w0 H A (l.flatMap numF))(hw:St B w0 H w):
 CX B w0 345 [.slice A l.length cap,.int .i64 v] w λu K=>u=.int .i64 (Ym (λx=>decide (v=x)) l 0)/\K=H:=by
 refine Ya Tryz.func345 Tryz.ntmps345 rfl rfl hw ?_
 refine zX7 ?_
 refine Ye (λ(k:Nat)=>[(8,.int .i64 k),(7,.int .i64 l.length),(0,.slice A l.length cap),(1,.int .i64 v)]) (λ_=>H) (λk=>k<=l.length/\Ym (λx=>decide (v=x)) l 0=Ym (λx=>decide (v=x)) (l.drop k) k) (λk=>l.length-k) 0 ⟨Td _,by simp⟩ ?_ (λw hw=>hw) ?_
 ·exact zc1
 rintro k ⟨hk,hi⟩ K hK
 by_cases hlt:k<l.length
 ·obtain⟨a,ha⟩:∃a,l[k]? =some a:=⟨_,Ta hlt⟩
  rw[Z9 _ l ha]at hi
  repeat'(first|refine zgd ?_|(refine zgf ?_ ?_<;>intro _<;>try exact zo)|fail)
  ·rename_i h
   rw[Tn (Tf h)]at hi
   exact zc47
  ·rename_i h
   rw[Tj (by simp[h])]at hi
   refine zX8 ?_
   apply hK (k+1)
   ·grind
   ·omega
   ·exact zc1
   exact zc21
 exact zc32
theorem YcN(l:List Int)(v:Int)(hlen:l.length<=9223372036854775807)(hr:Rd B w0 H A (l.flatMap numF))(hw:St B w0 H w):
 CX B w0 285 [.slice A l.length cap,.int .i64 v] w λu K=>u=.bool (decide (v∈l))/\K=H:=by
 refine Ya Tryz.func285 Tryz.ntmps285 rfl rfl hw ?_
 have hia:=Vz (λx=>decide (v=x)) l 0 (by omega)
 have hmm:l.any (λx=>decide (v=x))=true↔v∈l:=by simp[List.any_eq_true]
 repeat'(first|((apply Yb YwS);exact za;exact rfl;exactλ_ hw=>(Yid l v hlen hr hw))|refine zga ?_|(refine zgf ?_ ?_<;>intro _<;>try exact zo)|fail)
 all_goals(apply Yd;exact rfl;exact rfl)
 ·rename_i h;exact⟨by rw[Tf (hmm.1 (hia.1 h))],rfl⟩
 ·rename_i h
  exact⟨by rw[Ti λe=>by have:=hia.2 (hmm.2 e);omega],rfl⟩
theorem Ybl(l m:List Int)(hlen:l.length<=9223372036854775807)(_hlen2:m.length<=9223372036854775807){A2:Option Addr}{cap2:Nat}(hr:Rd B w0 H A (l.flatMap numF))(hr2:Rd B w0 H A2 (m.flatMap numF))(hw:St B w0 H w):
 CX B w0 266 [.slice A l.length cap,.slice A2 m.length cap2] w λu K=>u=.bool (decide (l=m))/\K=H:=by
 refine Ya Tryz.func266 Tryz.ntmps266 rfl rfl hw ?_
 by_cases hll:l.length=m.length
 rotate_left
 ·exact zc8
 refine zX1 ?_<;>intros
 refine Ye (λ(k:Nat)=>[(13,.int .i64 k),(12,.int .i64 l.length),(0,.slice A l.length cap),(1,.slice A2 m.length cap2)]) (λ_=>H) (λk=>k<=l.length/\l.take k=m.take k) (λk=>l.length-k) 0 ⟨Td _,by simp⟩ ?_ (λw hw=>hw) ?_
 ·exact zc1
 rintro k ⟨hk,hi⟩ K hK
 by_cases hlt:k<l.length
 ·obtain⟨a,ha⟩:∃a,l[k]? =some a:=⟨_,Ta hlt⟩
  obtain⟨b,hb⟩:∃b,m[k]? =some b:=⟨_,Ta (by omega)⟩
  repeat'(first|refine zgd ?_|(refine zge ?_ ?_<;>intro _<;>try exact zo)|fail)
  ·exact zc44
  ·rename_i h
   apply hK (k+1)
   ·exact YqZ
   ·omega
   ·exact zc1
   exact zc21
 exact zc7
theorem Ydk{α:Type}(p:α->Bool):∀(l:List α) (k:Int),(l.filter (λa=>!p a)=l/\Ym p l k= -1)\/∃j,j<l.length/\Ym p l k=k+j/\(l.take j).filter (λa=>!p a)=l.take j/\∃a,l[j]? =some a/\p a=true
 |[],_=>.inl ⟨rfl,rfl⟩
 |a::l,k=>by
  unfold Ym
  cases h:p a with
  |true=>exact .inr ⟨0,by simp,by simp,rfl,a,rfl,h⟩
  |false=>
   rw[Tj (by decide)]
   have hn:(!p a)=true:=by simp_all
   rcases Ydk p l (k+1)with⟨h1,h2⟩|⟨j,h1,h2,h3,b,h4,h5⟩
   ·simp_all
   ·refine .inr ⟨j+1,by simp_all,by omega,?_,b,h4,h5⟩
    simp_all
variable {A:Option Addr}{cap B:Nat}{w0 w:World}{H:List HP}
theorem Ydn(p:Cel->Bool)(l:List Cel)(f:Nat)(cs:List Value)(hen:∀xs w,(callFunc f xs).run Tryz.prog w=.ok (.enter f xs) w)(hlen:l.length<=1000)(hr:Rd B w0 H A (l.flatMap celF))
 (hp:∀a∈l,∀w,St B w0 H w->Calls Tryz.prog f ([celV a]++cs).toArray w (Post B w0 λv K=>v=.bool (p a)/\K=H)) (hw:St B w0 H w):
 CX B w0 242 [.slice A l.length cap,.func (.func f) #[] cs.toArray] w λv K=>v=.int .i64 (Ym p l 0)/\K=H:=by
 refine Ya Tryz.func242 Tryz.ntmps242 rfl rfl hw ?_
 refine zX7 ?_
 refine Ye (λ(k:Nat)=>[(8,.int .i64 k),(7,.int .i64 l.length),(0,.slice A l.length cap),(1,.func (.func f) #[] cs.toArray)]) (λ_=>H) (λk=>k<=l.length/\Ym p l 0=Ym p (l.drop k) k) (λk=>l.length-k) 0 ⟨Td _,by simp⟩ ?_ (λw hw=>hw) ?_
 ·exact zc1
 rintro k ⟨hk,hi⟩ K hK
 by_cases hlt:k<l.length
 ·obtain⟨a,ha⟩:∃a,l[k]? =some a:=⟨_,Ta hlt⟩
  have hpa:=hp a (Tc ha)
  rw[Z9 p l ha]at hi
  refine zX9 ?_<;>intros
  cases hpv:p a
  ·rw[hpv]at hi
   refine zX10 ?_
   apply hK (k+1)
   ·grind
   ·omega
   ·exact zc1
   exact zc21
  exact zc11
 exact zc6
structure Kc where
 i:Nat
 j:Nat
 M:List Cel
theorem Ui(p:Cel->Bool)(l:List Cel)(f:Nat)(cs:List Value)(hen:∀xs w,(callFunc f xs).run Tryz.prog w=.ok (.enter f xs) w)(hlen:l.length<=1000)
 (hp:∀a∈l,∀(X:List HP) w,St B w0 (X++H) w->Calls Tryz.prog f ([celV a]++cs).toArray w (Post B w0 λv K=>v=.bool (p a)/\K=X++H)) (hw:St B w0 (cels A cap l::H) w):
 CX B w0 162 [.slice A l.length cap,.func (.func f) #[] cs.toArray] w λv K=>v=.slice A (l.filter λa=>!p a).length cap/\K=cels A cap (l.filter λa=>!p a)::H:=by
 refine Ya Tryz.func162 Tryz.ntmps162 rfl rfl hw ?_
 refine OA (e:=162) (size:=5) (A:=A) (xs:=l.flatMap celF) (k:=l.length) (cap:=cap) TG λhcap=>?_
 have hif:=λ{w:World}(hw:St B w0 (cels A cap l::H) w)=>Ydn p l f cs hen hlen (cap:=cap) (.sl TG) (λa ha w hw=>hp a ha [cels A cap l] w hw) hw
 rcases Ydk p l 0 with⟨h1,h2⟩|⟨i0,h1,h2,h3,a0,h4,h5⟩
 ·rw[h2]at hif
  rw[h1]
  repeat'(first|((apply Yb Ypk);exact za;exact rfl;exactλ_ hw=>(hif hw))|refine zgb ?_|(refine zgf ?_ ?_<;>intro _<;>try exact zo)|fail)
  exact zc3
 rw[h2,Int.zero_add]at hif
 repeat'(first|((apply Yb Ypk);exact za;exact rfl;exactλ_ hw=>(hif hw))|refine zgc ?_|(refine zgf ?_ ?_<;>intro _<;>try exact zo)|fail)
 refine Ye (λ(z:Kc)=>[(6,.int .i64 z.j),(5,.int .i64 z.i),(0,.slice A z.M.length cap),(1,.func (.func f) #[] cs.toArray)]) (λz=>cels A cap z.M::H) (λz=>z.M.length=l.length/\z.i<z.j/\z.j<=l.length/\z.M.take z.i=(l.take z.j).filter (λa=>!p a)/\z.M.drop z.j=l.drop z.j) (λz=>l.length-z.j) ⟨i0,i0+1,l⟩ ⟨rfl,by exact zc57,by exact zc57,?_,rfl⟩ ?_ (λw hw=>hw) ?_
 ·simp only
  rw[TB,h4,SI,h3]
  simp[h5]
 ·exact zc1
 rintro⟨i,j,M⟩ ⟨hM,hij,hj,ht,hd⟩ K hK
 simp only at hM hij hj ht hd⊢
 unfold cels
 by_cases hlt:j<l.length
 ·obtain⟨a,ha⟩:∃a,l[j]? =some a:=⟨_,Ta hlt⟩
  have hMa:M[j]? =some a:=by
   have e1:(M.drop j)[0]? =(l.drop j)[0]? :=by rw[hd]
   rw[RS,RS,SR,ha]at e1
   exact e1
  have hpa:=λ{X1 X2:HP}{w:World}(hw:St B w0 (X1::X2::H) w)=>hp a (Tc ha) [X1,X2] w hw
  have hft:(l.take (j+1)).filter (λa=>!p a)=M.take i++(if p a=true then []else [a]):=by
   rw[TB,ha,SI,ht]
   cases hpv:p a<;>simp[hpv]
  obtain⟨b,hb⟩:∃b,p a=b:=⟨_,rfl⟩
  rw[hb]at hft hpa
  have hd1:∀x:Cel,(M.set i x).drop (j+1)=l.drop (j+1):=λx=>by
   rw[List.drop_set_of_lt (by omega),<-Nc,<-Nc,hd]
  cases b with
  |true=>
   rw[Tn rfl,Rr]at hft
   repeat'(first|((first|apply Zg (cs:=cs));exact rfl;exact hen;exact za;exact rfl;exactλ_ hw=>hpa hw)|refine zgd ?_|(refine zge ?_ ?_<;>intro _<;>try exact zo)|(refine zgh ?_;intro _)|fail)
   apply hK ⟨i,j+1,M⟩
   ·exact⟨hM,by exact zc57,by exact zc57,hft.symm,by simp only;rw[<-Nc,<-Nc,hd]⟩
   ·exact zc57
   ·exact zc1
   ·exact Yax
  |false=>
   rw[Tj (by decide)]at hft
   have hMl:(M.set i a).length=M.length:=TE
   repeat'(first|((first|apply Zg (cs:=cs));exact rfl;exact hen;exact za;exact rfl;exactλ_ hw=>hpa hw)|(apply ZD T (f:=celF) (l:=M) (i:=i) (a:=a);(iterate 3 exact rfl);exact zd;exactλ_=>rfl;(iterate 3 exact rfl);omega)|refine zgd ?_|(refine zge ?_ ?_<;>intro _<;>try exact zo)|(refine zgh ?_;intro _)|fail)
   apply hK ⟨i+1,j+1,M.set i a⟩
   ·refine⟨by exact zc57,by exact zc57,by exact zc57,?_,hd1 a⟩
    simp only
    rw[hft,TB,SU (by omega),List.take_set_of_le (TK _)]
    rfl
   ·exact zc57
   ·dsimp only
    rw[hMl]
    exact zc1
   ·unfold cels
    dsimp only
    rw[hMl]
    exact Yax
 ·obtain rfl:j=l.length:=by omega
  clear hK
  rw[TI]at ht
  have hil:(l.filter λa=>!p a).length=i:=by rw[<-ht,TU];omega
  have hfl:(M.flatMap celF).take (i*5)=(l.filter λa=>!p a).flatMap celF:=by rw[<-X0 (q:=5) (λ_=>rfl),ht]
  refine zX39 ?_<;>intros
  rw[Ry]
  apply Zh (sl 162 5 A i cap ((l.filter λa=>!p a).flatMap celF)::H)
  ·exact zc87
  apply Yck T T2 (e:=162) (size:=5) (k:=i) (xs:=(l.filter λa=>!p a).flatMap celF);exact rfl;exact TG;(iterate 3 exact rfl);omega
  repeat'(first|(apply ZO T (l:=M) (n':=i);(iterate 4 exact rfl);omega;omega;omega)|refine zga ?_|fail)
  exact Yt2
theorem V0{f:Nat->Int}:∀{r i:Nat},(YD f r i).2≠0->∃k,i<=k/\k<i+r/\(YD f r i).2=f k/\f k≠0
 |0,i,h=>absurd rfl h
 |r+1,i,h=>by
  unfold YD at h⊢
  split at h
  ·rename_i h0
   rw[Tn h0]
   obtain⟨k,h1,h2,h3,h4⟩:=V0 h
   grind
  grind
def Yol(n:Net)(l:List Flw)(s:Sch):Prop:=∀c∈s.cells,YX n (YF c) (toC c)=true/\0<=ZB l (XE c)
def Yon(s:Sch):Prop:=s.cells.Pairwise λa b=>a.1=b.1->Yx a b=false
def YjB(n:Net)(s:Sch):Prop:=∀c∈s.cells,VW n s.cells c=true
theorem Yqm(s:Sch)(k:Nat):repC s (k+1)=repC s k++s.cells.map (movC ((k:Int)*s.len)):=by
 grind [repC,Rq]
variable {s t:Sch}{k i j:Nat}
theorem Yb9{x:Cel}:x∈repC s k↔∃i,i<k/\∃c∈s.cells,x=movC ((i:Int)*s.len) c:=by
 unfold repC
 grind
theorem Yiw{L:Int}(hL:0<=L)(h:i<j):(i:Int)*L+L<=(j:Int)*L:=by
 have h1:((i:Int)+1)*L<=(j:Int)*L:=RZ (by omega) hL
 grind
variable {c:Cel}
theorem Ymi(hf:Frm s)(hc:c∈s.cells):0<=c.1/\c.1<s.len:=by
 have:=hf.formed c hc
 simp_all [XJ,XK,insE]
theorem YfK(hf:Frm s){d:Cel}(hc:c∈s.cells)(hd:d∈s.cells)(h:c.1+(i:Int)*s.len=d.1+(j:Int)*s.len):i=j/\c.1=d.1:=by
 have h1:=Ymi hf hc
 have h2:=Ymi hf hd
 rcases NE i j with h3|h3|h3
 ·have:=Yiw (L:=s.len) (by omega) h3;omega
 ·simp_all
 ·have:=Yiw (L:=s.len) (by omega) h3;omega
structure Rep(s t:Sch)(k:Nat):Prop where
 k1:1<=k
 frm:Frm s
 len:t.len=s.len*k
 off:t.off=s.off
 cells:t.cells=repC s k
 l512:s.len*k<=512
 c512:s.cells.length*k<=512
theorem YdN{s:Sch}{p q:Cel->Bool}{j0:Nat}(hq:∀d∈s.cells,p (movC ((j0:Int)*s.len) d)=q d):∀{m:Nat},(∀j,j<m->j≠j0->∀d∈s.cells,p (movC ((j:Int)*s.len) d)=false)->(repC s m).filter p=if j0<m then(s.cells.filter q).map (movC ((j0:Int)*s.len))else []
 |0,_=>by simp[repC]
 |m+1,h=>by
  rw[Yqm,SI,YdN hq λj hj=>h j (by omega),List.filter_map]
  by_cases e:m=j0
  ·simp_all [List.filter_congr]
  ·have hz:s.cells.filter (p∘movC ((m:Int)*s.len))=[]:=by
    simp_all
   grind
theorem Ysj(n:Net)(node d:Int)(l:List Cel):sumC n node (l.map (movC d))=sumC n node l:=by
 unfold sumC
 rw[List.map_map]
 rfl
theorem Rep.dist(h:Rep s t k)(n:Net)(hi:i<k)(hc:c∈s.cells)(node:Int):UP n t.cells (movC ((i:Int)*s.len) c) node=UP n s.cells c node:=by
 unfold UP
 rw[h.cells,YdN (j0:=i) (q:=λd=>Y9 c d&&decide (d≠c)),Tn hi,Ysj]
 ·intro d hd
  have h2:(movC ((i:Int)*s.len) d≠movC ((i:Int)*s.len) c)↔d≠c:=by
   grind [movC]
  simp_all [Y9,movC]
 ·intro j hj hne d hd
  have:Y9 (movC ((i:Int)*s.len) c) (movC ((j:Int)*s.len) d)=false:=by
   refine Ti ?_
   rintro⟨h3,_⟩
   exact hne (YfK h.frm hd hc h3).1
  simp_all
theorem Rep.good(h:Rep s t k)(n:Net)(l:List Flw):Yol n l t↔Yol n l s:=by
 unfold Yol
 rw[h.cells]
 constructor
 ·intro hg c hc
  exact hg (movC (((0:Nat):Int)*s.len) c) (Yb9.2 ⟨0,h.k1,c,hc,rfl⟩)
 ·intro hg x hx
  obtain⟨i,_,c,hc,rfl⟩:=Yb9.1 hx
  exact hg c hc
theorem Rep.once(h:Rep s t k):Yon t↔Yon s:=by
 unfold Yon
 rw[h.cells]
 unfold repC
 rw[List.pairwise_flatMap]
 constructor
 ·rintro⟨h1,_⟩
  have:=h1 0 (TQ.2 h.k1)
  rw[List.pairwise_map]at this
  exact this.imp λ{a b} hab e=>hab (by grind [movC])
 ·intro ho
  refine⟨λi _=>?_,?_⟩
  ·rw[List.pairwise_map]
   exact ho.imp λ{a b} hab e=>hab (by grind [movC])
  ·refine List.pairwise_lt_range.imp λ{i j} hij x hx y hy e=>?_
   obtain⟨a,ha,rfl⟩:=TD.1 hx
   obtain⟨b,hb,rfl⟩:=TD.1 hy
   have:=(YfK h.frm ha hb e).1
   omega
theorem Rep.clear(h:Rep s t k)(n:Net):YjB n t↔YjB n s:=by
 have hc:∀i,i<k->∀c∈s.cells,VW n t.cells (movC ((i:Int)*s.len) c)=VW n s.cells c:=λi hi c hc=>by
  unfold VW
  have e1:YF (movC ((i:Int)*s.len) c)=YF c:=rfl
  have e2:toC (movC ((i:Int)*s.len) c)=toC c:=rfl
  rw[e1,e2,h.dist n hi hc,h.dist n hi hc]
 unfold YjB
 constructor
 ·intro hg c hcm
  rw[<-hc 0 h.k1 c hcm]
  exact hg _ (by rw[h.cells];exact Yb9.2 ⟨0,h.k1,c,hcm,rfl⟩)
 ·intro hg x hx
  rw[h.cells]at hx
  grind [Yb9]
open Go.RowKit Go.Eng Go.Nw Go.Rt
variable {l:List Int}{A:Option Addr}{cap B k:Nat}{w0:World}{H:List HP}
theorem Yxq(k:Nat)(hr:Rd B w0 H A (l.flatMap numF))(hc:l.length<=cap):Rd B w0 H (subA A 0 cap 1) ((l.take k).flatMap numF):=by
 have h:=Rd.sub (f:=numF) (q:=1) (o:=0) (k:=k) (λ_=>rfl) hr hc
 simp_all
theorem Yxr(o:Nat)(hr:Rd B w0 H A (l.flatMap numF))(hc:l.length<=cap):Rd B w0 H (subA A o cap 1) ((l.drop o).flatMap numF):=by
 have h:=Rd.sub (f:=numF) (q:=1) (o:=o) (k:=(l.drop o).length) (λ_=>rfl) hr hc
 grind
variable {p:Nat->Bool}
theorem OC(h:(List.range k).any p=false)(h2:p k=false):(List.range (k+1)).any p=false:=by
 grind
theorem QL{n:Nat}(hk:k<n)(h:p k=true):(List.range n).any p=true:=by grind
theorem Yc3(n:NetM)(s t:Int)(r:List Int){w:World}(hin:n.In B w0 H)(hck:Yl n.net=0)(hr:Rd B w0 H A (r.flatMap numF))(hlen:r.length<=9223372036854775807)(hcap:r.length<=cap)(hw:St B w0 H w):
 CX B w0 210 [n.val,.int .i64 s,.int .i64 t,.slice A r.length cap] w λv K=>v=.int .i64 (JD n.net s t r)/\K=H:=by
 refine Ya Tryz.func210 Tryz.ntmps210 rfl rfl hw ?_
 (apply Xc;apply YW;apply YR;exact rfl;exact rfl;intro g)
 have hnm:netB g n∈netB g n::H:=TG
 unfold JD
 by_cases h1:r.length<2
 ·rw[Tn h1]
  refine zX50 ?_<;>intros
  exact zc20
 rw[Tj h1]
 by_cases h2:9<r.length
 ·rw[Tn h2]
  refine zX50 ?_<;>intros
  exact zc20
 rw[Tj h2]
 have hoff:=λ{w:World}(hw:St B w0 (netB g n::H) w)=>QT (λa:Int=>Value.int .i64 a) (offE n.net) r 284 [.pointer (some ⟨g,0,none⟩)] Ywv hlen (cap:=cap) (hr.cons) (λa _ w hw=>YhT n a g hnm hw) hw
 obtain⟨b3,h3⟩:∃b,r.any (offE n.net)=b:=⟨_,rfl⟩
 rw[h3]at hoff⊢
 cases b3 with
 |true=>
  rw[Tn rfl]
  refine zX51 ?_<;>intros
  exact zc20
 |false=>
  rw[Tj (by decide)]
  have hg0:=Xl (l:=r) (i:=0) (by omega)
  have hg1:=Xl (l:=r) (i:=r.length-1) (by omega)
  have hgi:((r.length:Int)-1).toNat=r.length-1:=by omega
  rw[<-hgi]at hg1
  by_cases h4:r.getD 0 0≠s\/r.getD (r.length-1) 0≠t
  ·rw[Tn h4]
   rw[<-hgi]at h4
   repeat'(first|((apply Yb Ys9);exact za;exact rfl;exactλ_ hw=>(hoff hw))|(apply zg29;(apply Ys;exact za;exact rfl))|refine zgd ?_|(refine zge ?_ ?_<;>intro _<;>try exact zo)|fail)
   all_goals first
    |((repeat apply Yi);apply Yd;exact rfl;exact rfl;exact⟨rfl,rfl⟩)
    |skip
   done
  rw[Tj h4]
  rw[<-hgi]at h4
  refine zX51 ?_<;>intros
  refine Ye (λ(k:Nat)=>[(43,.int .i64 k),(42,.int .i64 r.length),(41,.slice A r.length cap),(3,.slice A r.length cap),(4,.pointer (some ⟨g,0,none⟩))]) (λ_=>netB g n::H) (λk=>k<=r.length/\((List.range k).any λi=>(r.take i).contains (r.getD i 0))=false) (λk=>r.length-k) 0 ⟨Td _,rfl⟩ ?_ (λw hw=>hw) ?_
  ·exact zc1
  rintro k ⟨hk,hi⟩ K hK
  by_cases hlt:k<r.length
  ·have hgk:=Xl (l:=r) (i:=k) hlt
   obtain⟨b,hb⟩:∃b,(r.take k).contains (r.getD k 0)=b:=⟨_,rfl⟩
   have hbm:decide (r.getD k 0∈r.take k)=b:=by rw[<-hb];simp
   have hcon:=λ{w:World}(hw:St B w0 (netB g n::H) w)=>YcN (r.take k) (r.getD k 0) Yem (cap:=cap) (Yxq k (hr.cons (X:=netB g n)) hcap) hw
   rw[hbm]at hcon
   cases b with
   |true=>
    refine zX52 ?_<;>intros
    (repeat apply Yi);apply Yd;exact rfl;exact rfl
    have htw:Ov r=true:=QL hlt hb
    exact⟨by rw[Tn htw],rfl⟩
   |false=>
    refine zX52 ?_<;>intros
    apply hK (k+1)
    ·exact⟨by omega,OC hi hb⟩
    ·omega
    ·exact zc1
    exact zc21
  obtain rfl:k=r.length:=by omega
  clear hK
  have htw:Ov r=false:=hi
  rw[Tj (by rw[htw];decide)]
  have hdl:(r.drop 1).length=r.length-1:=TY
  repeat'(first|(apply ZP T (n':=(r.drop 1).length);(iterate 4 exact rfl);omega;(rw[hdl];rfl))|refine zgc ?_|(refine zge ?_ ?_<;>intro _<;>try exact zo)|fail)
  refine Ye (λ(k:Nat)=>[(57,.int .i64 k),(56,.int .i64 (r.drop 1).length),(55,.slice (subA A 1 cap 1) (r.drop 1).length (cap-1)),(3,.slice A r.length cap),(4,.pointer (some ⟨g,0,none⟩))]) (λ_=>netB g n::H) (λk=>k<=(r.drop 1).length/\((List.range k).any λi=>!YX n.net (r.getD i 0) (r.getD (i+1) 0))=false) (λk=>(r.drop 1).length-k) 0 ⟨Td _,rfl⟩ ?_ (λw hw=>hw) ?_
  ·exact zc1
  rintro k ⟨hk,hi⟩ K hK
  have hr1:Rd B w0 (netB g n::H) (subA A 1 cap 1) ((r.drop 1).flatMap numF):=Yxr 1 (hr.cons) hcap
  have hr0:Rd B w0 (netB g n::H) A (r.flatMap numF):=hr.cons
  by_cases hlt:k<(r.drop 1).length
  ·have hgk:=Xl (l:=r) (i:=k) (by omega)
   have hgk1:(r.drop 1)[k]? =some (r.getD (k+1) 0):=by
    rw[RS,Nat.add_comm];exact Xl (by omega)
   obtain⟨b,hb⟩:∃b,YX n.net (r.getD k 0) (r.getD (k+1) 0)=b:=⟨_,rfl⟩
   have hus:=λ{w:World}(hw:St B w0 (netB g n::H) w)=>Uf n (Zj n.net (r.getD k 0) (r.getD (k+1) 0)) (hin.cons (X:=netB g n)) hw
   rw[YgX hck,hb]at hus
   cases b with
   |true=>
    refine zX54 ?_<;>intros
    apply hK (k+1)
    ·exact⟨by omega,OC hi (by rw[hb];rfl)⟩
    ·omega
    ·exact zc1
    exact zc21
   |false=>
    refine zX54 ?_<;>intros
    (repeat apply Yi);apply Yd;exact rfl;exact rfl
    have hbr:J8 n.net r=true:=QL (k:=k) (by omega) (by rw[hb];rfl)
    exact⟨by rw[Tn hbr],rfl⟩
  ·obtain rfl:k=(r.drop 1).length:=by omega
   clear hK
   refine zX0 ?_<;>intros
   (repeat apply Yi);apply Yd;exact rfl;exact rfl
   have hbr:J8 n.net r=false:=by rw[hdl]at hi;exact hi
   exact⟨by rw[Tj (by rw[hbr];decide)],rfl⟩
open Go.ChangeShapes Go.WideShapes Go.ChangeAt Go.RowKit Go.Eng Go.Nw
open Go.ChangeMaps (open_string)
def flwF(f:Flw):List Value:=[.int .i64 f.1,.int .i64 f.2.1,.int .i64 f.2.2.1,.int .i64 f.2.2.2.1,.int .i64 f.2.2.2.2.1,.int .i64 f.2.2.2.2.2]
section
variable {H:Type}{enc:TypeId×Value->H}{W:World}{spare:Nat->Bool}{held:Bool}
abbrev CelG(c:Cel):Prop:=I64 c.1/\I64 c.2.1/\I64 c.2.2.1/\I64 c.2.2.2.1/\I64 c.2.2.2.2
abbrev FlwG(f:Flw):Prop:=I64 f.1/\I64 f.2.1/\I64 f.2.2.1/\I64 f.2.2.2.1/\I64 f.2.2.2.2.1/\I64 f.2.2.2.2.2
theorem YrZ:Opn enc Tryz.prog W spare held 162 celF CelG:=
 Uy (Jy (ts:=[3,3,3,3,3]) (by kernel_rfl) (YE op_i (YE op_i (YE op_i (YE op_i (YE op_i Um)))))) (λx=>(x.1,x.2.1,x.2.2.1,x.2.2.2.1,x.2.2.2.2.1)) (λ_=>rfl) (λ_ h=>⟨h.1,h.2.1,h.2.2.1,h.2.2.2.1,h.2.2.2.2.1⟩)
theorem Yp8:Opn enc Tryz.prog W spare held 31 (λs:SlM Cel=>[s.val]) (SlG W celF CelG):=Ja (q:=5) Tryz.underlying31 (by kernel_rfl) (by decide) YrZ
theorem Yr0:Opn enc Tryz.prog W spare held 45 flwF FlwG:=
 Uy (Jy (ts:=[3,3,3,3,3,3]) (by kernel_rfl) (YE op_i (YE op_i (YE op_i (YE op_i (YE op_i (YE op_i Um))))))) (λx=>(x.1,x.2.1,x.2.2.1,x.2.2.2.1,x.2.2.2.2.1,x.2.2.2.2.2.1)) (λ_=>rfl) (λ_ h=>⟨h.1,h.2.1,h.2.2.1,h.2.2.2.1,h.2.2.2.2.1,h.2.2.2.2.2.1⟩)
structure SchG(W:World)(s:SchM):Prop where
 len:I64 s.len
 off:I64 s.off
 old:Old W s.A (s.cells.flatMap celF)
 few:s.cells.length<=9223372036854775807
 good:∀c∈s.cells,CelG c
 cap:s.cells.length<=s.cap
def schF(s:SchM):List Value:=[.int .i64 s.len,.int .i64 s.off,.slice s.A s.cells.length s.cap]
theorem Yvg:Opn enc Tryz.prog W spare held 33 schF (SchG W):=
 Uy (Jy (ts:=[3,3,31]) (by kernel_rfl) (YE op_i (YE op_i (YE Yp8 Um))))
  (λx=>⟨x.1,x.2.1,x.2.2.1.A,x.2.2.1.cap,x.2.2.1.xs⟩) (λx=>by simp[schF,numF,SlM.val])
  (λx h=>by
   obtain⟨h1,h2,h3,_⟩:=h
   exact⟨h1,h2,h3.old,TX h3.len maxL,h3.good,h3.cap⟩)
end
abbrev nrs(A:Option Addr)(cap:Nat)(l:List Int):HP:=sl 3 1 A l.length cap (l.flatMap numF)
theorem Vl(A:Option Addr)(cap:Nat)(l:List Int)(z:Int):sl 3 1 A (l.length+1) cap (l.flatMap numF++#[Value.int .i64 z].toList)=nrs A cap (l++[z]):=by simp_all [nrs,numF]
def ZM(n:Net)(l:List Cel)(i:Nat):Bool:=
 !(J5 n (Zj n (YF (celL l i)) (toC (celL l i))))||((List.range l.length).any λk=>decide (k≠i)&&Yx (celL l i) (celL l k))
   ||(!(Zu n (mar n (Yq n (YF (celL l i)) (toC (celL l i))).toNat) (Yu n l i (toC (celL l i)) l.length))||!(Zu n (mar n (Yq n (toC (celL l i)) (YF (celL l i))).toNat) (Yu n l i (YF (celL l i)) l.length)))
def JE(n:Net)(l:List Cel):Bool:=decide (Yl n=0)&&(List.range l.length).all λi=>!(ZM n l i)
def atP(slot off:Int)(c:Cel):Bool:=decide (c.1=slot/\c.2.1=off)
end Go.Proofs.YtjommdkgfbhbdaaGreatDoor
namespace Go.Eng
open Go.RowKit
end Go.Eng
namespace Go.Proofs.YtjommdkgfbhbdaaGreatDoor
open Go.RowKit Go.Eng Go.Nw
theorem Xh{f:Nat->Int}:∀{r i0 i:Nat},(∀k,i0<=k->k<i->f k=0)->i0<=i->i<i0+r->f i≠0->YD f r i0=((i:Int),f i)
 |0,i0,i,_,h1,h2,_=>by omega
 |r+1,i0,i,h0,h1,h2,h3=>by
  unfold YD
  by_cases e:i0=i
  ·simp_all
  ·rw[Tn (h0 i0 (TK _) (by omega))]
   exact Xh (λk hk1 hk2=>h0 k (by omega) hk2) (by omega) (by omega) h3
theorem Xy{f:Nat->Int}{r i0:Nat}(h:∀k,i0<=k->k<i0+r->f k=0):YD f r i0=(-1,0):=by
 grind [YI,Yc8]
open Go.RowKit Go.Eng Go.Nw Go.Rt
def onP(id a b:Int)(c:Cel):Bool:=decide (XE c=id/\YF c=a/\toC c=b)
def XT(s:Sch)(id:Int)(l:Lk):List Cel:=s.cells.filter (onP id l.1 l.2.1)
def Xs(len a:Int):List Cel->Nat->List (Cel×Int)
 |[],_=>[]
 |c::cs,k=>if c.1=a.tmod len/\k≠0 then(c,a)::Xs len a cs (k-1)else Xs len a cs k
def hopP(len:Int)(cs:List Cel):Nat->Nat->Int->List (Cel×Int)
 |0,_,_=>[]
 |f+1,k,a=>Xs len a cs k++hopP len cs f (k-(Xs len a cs k).length) (a+1)
def XB(x:List (Cel×Int))(a:Int):Int:=match x.getLast? with|some z=>z.2+1|none=>a
def Y2(l:Lk):Nat:=(l.2.2+1).toNat
def runP(len:Int)(C:Lk->List Cel)(endd:Int):List Lk->Int->List (Cel×Int)
 |[],_=>[]
 |l::ls,a=>if(hopP len (C l) (endd-a).toNat (Y2 l) a).length<Y2 l then hopP len (C l) (endd-a).toNat (Y2 l) a
  else hopP len (C l) (endd-a).toNat (Y2 l) a++runP len C endd ls (XB (hopP len (C l) (endd-a).toNat (Y2 l) a) a)
def Zq(ls:List Lk):Nat:=(ls.map Y2).sum
theorem Yaq(len a:Int):∀(cs:List Cel) (k:Nat),(Xs len a cs k).length<=k
 |[],k=>Td _
 |c::cs,k=>by
  unfold Xs
  split
  ·have:=Yaq len a cs (k-1)
   grind
  ·exact Yaq len a cs k
theorem Oo{len a:Int}:∀{cs:List Cel}{k:Nat}{z:Cel×Int},z∈Xs len a cs k->z.2=a
 |[],k,z,h=>by cases h
 |c::cs,k,z,h=>by
  unfold Xs at h
  split at h
  ·rcases RA.1 h with rfl|h
   ·rfl
   ·exact Oo h
  ·exact Oo h
theorem Yn1(len a:Int):∀cs:List Cel,Xs len a cs 0=[]:=λcs=>RL (Nat.le_zero.1 (Yaq len a cs 0))
theorem OK(len:Int)(cs:List Cel):∀(f k:Nat) (a:Int),(hopP len cs f k a).length<=k
 |0,k,a=>Td _
 |f+1,k,a=>by
  unfold hopP
  have h1:=Yaq len a cs k
  have h2:=OK len cs f (k-(Xs len a cs k).length) (a+1)
  grind
theorem Ydj(len:Int)(cs:List Cel)(f:Nat)(a:Int):hopP len cs f 0 a=[]:=RL (Nat.le_zero.1 (OK len cs f 0 a))
theorem Ygq{len:Int}{cs:List Cel}:∀{f k:Nat}{a:Int}{z:Cel×Int},z∈hopP len cs f k a->a<=z.2/\z.2<a+f
 |0,k,a,z,h=>by cases h
 |f+1,k,a,z,h=>by
  rcases Rl.1 h with h|h
  ·grind [Oo]
  ·have:=Ygq h;omega
theorem Ycb(len:Int)(C:Lk->List Cel)(endd:Int):∀(ls:List Lk) (a:Int),(runP len C endd ls a).length<=Zq ls
 |[],a=>Td _
 |l::ls,a=>by
  have h1:=OK len (C l) (endd-a).toNat (Y2 l) a
  have h2:=Ycb len C endd ls (XB (hopP len (C l) (endd-a).toNat (Y2 l) a) a)
  grind [Zq,runP]
variable {x:List (Cel×Int)}{a b endd:Int}
theorem Yht(h:∀z∈x,a<=z.2/\z.2<b)(hab:a<=b):a<=XB x a/\XB x a<=b:=by
 unfold XB
 grind
theorem Ycc{len:Int}{C:Lk->List Cel}{endd:Int}:∀{ls:List Lk}{a:Int}{z:Cel×Int},a<=endd->z∈runP len C endd ls a->a<=z.2/\z.2<endd
 |[],a,z,_,h=>by cases h
 |l::ls,a,z,hae,h=>by
  have hb:∀z∈hopP len (C l) (endd-a).toNat (Y2 l) a,a<=z.2/\z.2<endd:=λz hz=>by
   have:=Ygq hz;omega
  unfold runP at h
  split at h
  ·grind
  ·rcases Rl.1 h with h|h
   ·grind
   ·have h1:=Yht hb hae
    have:=Ycc h1.2 h
    omega
def WO(len:Int)(C:Lk->List Cel)(endd:Int)(cs:List Cel)(ls:List Lk)(f k:Nat)(a at_:Int):List (Cel×Int):=
 if(hopP len cs f k a).length<k then hopP len cs f k a else hopP len cs f k a++runP len C endd ls (XB (hopP len cs f k a) at_)
theorem Yqt(len:Int)(C:Lk->List Cel)(endd:Int)(l:Lk)(ls:List Lk)(a:Int):runP len C endd (l::ls) a=WO len C endd (C l) ls (endd-a).toNat (Y2 l) a a:=rfl
theorem Yoa(len:Int)(C:Lk->List Cel)(endd:Int)(cs:List Cel)(ls:List Lk)(f:Nat)(a at_:Int):WO len C endd cs ls f 0 a at_=runP len C endd ls at_:=by
 unfold WO
 rw[Ydj,Tj (TZ _)]
 rfl
variable {C:Lk->List Cel}{cs cs':List Cel}{ls:List Lk}{k f:Nat}
theorem YqA{len:Int}{at_:Int}(hk:k≠0):WO len C endd cs ls 0 k a at_=[]:=by
 unfold WO
 rw[Tn (by grind [hopP])]
 rfl
theorem YmU{y:List (Cel×Int)}(hy:∀z∈y,z.2+1=b):XB (y++x) a=XB x (if y=[]then a else b):=by
 unfold XB
 cases hx:x.getLast? with
 |some z=>simp_all
 |none=>
  cases hy2:y.getLast? with
  |none=>
   simp_all
  |some z=>
   grind
theorem Yob(len:Int)(C:Lk->List Cel)(endd:Int)(cs:List Cel)(ls:List Lk)(f k:Nat)(a at_:Int):
 WO len C endd cs ls (f+1) k a at_=Xs len a cs k++WO len C endd cs ls f (k-(Xs len a cs k).length) (a+1) (if Xs len a cs k=[]then at_ else a+1):=by
 have h1:hopP len cs (f+1) k a=Xs len a cs k++hopP len cs f (k-(Xs len a cs k).length) (a+1):=rfl
 unfold WO
 rw[h1,Tt]
 by_cases h2:(hopP len cs f (k-(Xs len a cs k).length) (a+1)).length<k-(Xs len a cs k).length
 ·grind
 ·rw[Tj h2,Tj (by omega),YmU (b:=a+1) (λz hz=>by rw[Oo hz]),TV]
def O7(len:Int)(C:Lk->List Cel)(endd:Int)(cs cs':List Cel)(ls:List Lk)(f k:Nat)(a at_:Int):List (Cel×Int):=
 Xs len a cs' k++WO len C endd cs ls f (k-(Xs len a cs' k).length) (a+1) (if Xs len a cs' k=[]then at_ else a+1)
theorem Yqo(len:Int)(C:Lk->List Cel)(endd:Int)(cs:List Cel)(ls:List Lk)(f k:Nat)(a at_:Int):O7 len C endd cs cs ls f k a at_=WO len C endd cs ls (f+1) k a at_:=(Yob ..).symm
theorem Yqp(len:Int)(C:Lk->List Cel)(endd:Int)(cs:List Cel)(ls:List Lk)(f k:Nat)(a at_:Int):O7 len C endd cs [] ls f k a at_=WO len C endd cs ls f k (a+1) at_:=by
 simp[O7,Xs]
variable {c:Cel}
theorem Yqq{len:Int}{at_:Int}(h:c.1=a.tmod len)(hk:k≠0):
 O7 len C endd cs (c::cs') ls f k a at_=(c,a)::O7 len C endd cs cs' ls f (k-1) a (a+1):=by
 have h1:Xs len a (c::cs') k=(c,a)::Xs len a cs' (k-1):=by rw[Xs,Tn ⟨h,hk⟩]
 unfold O7
 grind
theorem Ysb{len:Int}{at_:Int}(h:¬(c.1=a.tmod len/\k≠0)):
 O7 len C endd cs (c::cs') ls f k a at_=O7 len C endd cs cs' ls f k a at_:=by
 unfold O7
 rw[Xs,Tj h]
def runR(len:Int)(C:Lk->List Cel)(endd:Int):List Lk->Int->Option (List Int)
 |[],_=>some []
 |l::ls,a=>if(hopP len (C l) (endd-a).toNat (Y2 l) a).length<Y2 l then none
  else(runR len C endd ls (XB (hopP len (C l) (endd-a).toNat (Y2 l) a) a)).map λy=>(hopP len (C l) (endd-a).toNat (Y2 l) a).map Prod.snd++y
theorem YgQ(len:Int)(C:Lk->List Cel)(endd:Int):∀(ls:List Lk) (a:Int),runR len C endd ls a=if(runP len C endd ls a).length<Zq ls then none else some ((runP len C endd ls a).map Prod.snd)
 |[],a=>rfl
 |l::ls,a=>by
  have h3:Zq (l::ls)=Y2 l+Zq ls:=by grind [Zq]
  have hl:=OK len (C l) (endd-a).toNat (Y2 l) a
  unfold runR runP
  by_cases h:(hopP len (C l) (endd-a).toNat (Y2 l) a).length<Y2 l
  ·grind
  ·rw[Tj h,Tj h,YgQ len C endd ls]
   grind
def XS(n:Net)(r:List Int)(i:Nat):Lk:=lnk n (Yq n (r.getD i 0) (r.getD (i+1) 0)).toNat
def Yp(n:Net)(r:List Int):List Lk:=(List.range (r.length-1)).map (XS n r)
def Zx(n:Net)(s:Sch)(f:Flw)(r:List Int)(release:Int):Option (List Int):=runR s.len (XT s f.1) (release+f.2.2.2.1) (Yp n r) release
def Zk(l:List Int):Int:=l.getD (l.length-1) 0
def UI(S:Int->Option (List Int))(len period:Int):Nat->Int->Int×Int×List Int->Option (Int×Int×List Int)
 |0,_,b=>some b
 |k+1,rel,b=>if len<=rel then some b else match S rel with
  |none=>none
  |some l=>UI S len period k (rel+period) (if b.1<Zk l-rel+1 then(Zk l-rel+1,rel,l.map λz=>z-rel)else b)
def JC(n:Net)(s:Sch)(f:Flw)(r:List Int):Option (Int×Int×List Int):=UI (Zx n s f r) s.len f.2.2.2.1 s.len.toNat f.2.2.2.2.1 (0,0,[])
def wayE(n:Net)(s:Sch)(f:Flw)(r:List Int):Int:=
 if Yl n≠0\/Xd s=false\/Xi n.nodes f≠0 then 1 else if s.len.tmod f.2.2.2.1≠0 then 11 else Xu n f.2.1 f.2.2.1 r
def Y1(n:Net)(s:Sch)(f:Flw)(r:List Int):(Int×Int×List Int)×Int:=
 if wayE n s f r≠0 then((0,0,[]),wayE n s f r)else match JC n s f r with
  |none=>((0,0,[]),15)
  |some b=>(b,0)
def flwV(f:Flw):Value:=.agg #[.int .i64 f.1,.int .i64 f.2.1,.int .i64 f.2.2.1,.int .i64 f.2.2.2.1,.int .i64 f.2.2.2.2.1,.int .i64 f.2.2.2.2.2]
theorem V1{l:List Flw}{i:Nat}(h:i<l.length):l[i]? =some (Xa l i):=by
 grind [Xa]
variable {B cap:Nat}{w0 w:World}{H:List HP}
theorem Ykh(v nodes:Int)(gn:Nat)(hm:blk gn (.cells #[.int .i64 nodes] 3 (0,0))∈H)(hw:St B w0 H w):
 CX B w0 212 [.int .i64 v,.pointer (some ⟨gn,0,none⟩)] w λu K=>u=.bool (insE v nodes)/\K=H:=by
 refine Ya Tryz.func212 Tryz.ntmps212 rfl rfl hw ?_
 repeat'(first|refine zgd ?_|(refine zgf ?_ ?_<;>intro _<;>try exact zo)|fail)
 all_goals(
  apply Yd;exact rfl;exact rfl
  first
   |exact⟨by rw[show insE v nodes=true from Tf (by omega)],rfl⟩
   |exact⟨by rw[show insE v nodes=false from Ti (by omega)],rfl⟩)
theorem Ybo(nodes:Int)(f:Flw)(hw:St B w0 H w):
 CX B w0 118 [.int .i64 nodes,flwV f] w λv K=>v=.int .i64 (Xi nodes f)/\K=H:=by
 refine Ya Tryz.func118 Tryz.ntmps118 rfl rfl hw ?_
 obtain⟨e,he⟩:∃e,Xi nodes f=e:=⟨_,rfl⟩
 rw[he]
 by_cases hA:f.1<0\/255<f.1
 ·repeat'(first|(apply zg23;first|(refine zs52 ?_;intro _)|(refine zs53 ?_;intro _))|(apply zg29;(apply Ys;exact za;exact rfl))|refine zgd ?_|(refine zge ?_ ?_<;>intro _<;>try exact zo)|fail)
  all_goals(
   apply Yf H
   ·exact zk
   apply Yd;exact rfl;exact rfl
   refine⟨?_,rfl⟩
   rw[<-he]
   unfold Xi
   first
    |(rw[Tn (by first|exact .inl (by omega)|exact .inr (.inl (by omega))|exact .inr (.inr (.inl (by assumption)))|exact .inr (.inr (.inr (by assumption))))];done)
    |(rw[Tj (by rintro(h|h|h|h)<;>first|omega|simp_all)]
      first
       |(rw[Tn (by omega)];done)
       |(rw[Tj (by omega),Tn (by omega)];done)
       |(rw[Tj (by omega),Tj (by omega)];done)))
 ·repeat'(first|(apply zg23;first|(refine zs52 ?_;intro _)|(refine zs53 ?_;intro _))|(apply zg29;(apply Ys;exact za;exact rfl))|refine zgc ?_|(refine zge ?_ ?_<;>intro _<;>try exact zo)|fail)
  rename_i gn gf _ _
  repeat'(first|((apply VO (cs:=[.pointer (some ⟨gn,0,none⟩)]));exact rfl;exact Ywa;exact za;exact rfl;exactλ_ hw=>(Ykh _ nodes gn zm hw);all_goals(intro hB;(try simp only[Tm,Tv]at hB);try exact zo))|refine zgd ?_|(refine zgf ?_ ?_<;>intro _<;>try exact zo)|fail)
  all_goals(
   apply Yf H
   ·exact zk
   apply Yd;exact rfl;exact rfl
   refine⟨?_,rfl⟩
   rw[<-he]
   unfold Xi
   first
    |(rw[Tn (by first|exact .inl (by omega)|exact .inr (.inl (by omega))|exact .inr (.inr (.inl (by assumption)))|exact .inr (.inr (.inr (by assumption))))];done)
    |(rw[Tj (by rintro(h|h|h|h)<;>first|omega|simp_all)]
      first
       |(rw[Tn (by omega)];done)
       |(rw[Tj (by omega),Tn (by omega)];done)
       |(rw[Tj (by omega),Tj (by omega)];done)))
variable {A:Option Addr}
theorem Xw(nodes:Int)(l:List Flw)(hl:l.length<=9223372036854775807)(hr:Rd B w0 H A (l.flatMap flwF))(hw:St B w0 H w):
 CX B w0 39 [.int .i64 nodes,.slice A l.length cap] w λv K=>v=.tuple #[.int .i64 (YB nodes l).1,.int .i64 (YB nodes l).2]/\K=H:=by
 refine Ya Tryz.func39 Tryz.ntmps39 rfl rfl hw ?_
 by_cases hn:nodes<2\/32<nodes
 ·have hE:YB nodes l=(-1,2):=by simp_all [YB]
  rw[hE]
  repeat'(first|refine zgd ?_|(refine zge ?_ ?_<;>intro _<;>try exact zo)|fail)
  all_goals(apply YH;(iterate 3 exact rfl);exact⟨rfl,rfl⟩)
 by_cases h16:16<l.length
 ·have hE:YB nodes l=(-1,8):=by simp_all [YB]
  rw[hE]
  refine zX0 ?_<;>intros
  exact zc55
 have hE:YB nodes l=YD (YP nodes l) l.length 0:=by simp_all [YB,if_neg]
 rw[hE]
 refine zX0 ?_<;>intros
 refine Ye (λ(i:Nat)=>[(20,.int .i64 i),(19,.int .i64 l.length),(18,.slice A l.length cap),(0,.int .i64 nodes),(1,.slice A l.length cap)]) (λ_=>H) (λi=>i<=l.length/\∀k,k<i->YP nodes l k=0) (λi=>l.length-i) 0 ⟨Td _,λk hk=>absurd hk (TZ _)⟩ ?_ (λw hw=>hw) ?_
 ·exact zc1
 rintro i ⟨hi,hall⟩ K hK
 by_cases hlt:i<l.length
 ·have hget:l[i]? =some (Xa l i):=V1 hlt
  have hbad:YP nodes l i≠0->YD (YP nodes l) l.length 0=((i:Int),YP nodes l i):=λh=>Xh (λk _ hk=>hall k hk) (Td _) (by omega) h
  have hstep:YP nodes l i=0->∀k,k<i+1->YP nodes l k=0:=λh k hk=>by
   exact YqQ
  by_cases he:Xi nodes (Xa l i)≠0
  ·have hf:YP nodes l i=Xi nodes (Xa l i):=by unfold YP;exact Tn he
   rw[hbad (by rw[hf];exact he),hf]
   repeat'(first|((apply Yb Ypf);exact za;exact rfl;exactλ_ hw=>(Ybo nodes (Xa l i) hw))|refine zgd ?_|(refine zge ?_ ?_<;>intro _<;>try exact zo)|(refine zgh ?_;intro _)|fail)
   apply Yf H
   ·exact zc0
   exact zc5
  have he0:=Rw.1 he
  have hck:=λ{H':List HP}{w:World}(hw:St B w0 H' w)=>Ybo nodes (Xa l i) hw
  rw[he0]at hck
  rcases Su i with h0|h0
  ·subst h0
   have hf:YP nodes l 0=0:=by unfold YP;rw[Tj he,Tj (by omega)]
   repeat'(first|((apply Yb Ypf);exact za;exact rfl;exactλ_ hw=>(hck hw))|refine zgd ?_|(refine zge ?_ ?_<;>intro _<;>try exact zo)|(refine zgh ?_;intro _)|fail)
   apply hK (0+1)
   ·exact Ymu
   ·omega
   ·exact zc1
   ·exact zc0
  have hget2:l[((i:Int)-1).toNat]? =some (Xa l (i-1)):=Yup
  by_cases hle:(Xa l i).1<=(Xa l (i-1)).1
  ·have hf:YP nodes l i=5:=by unfold YP;rw[Tj he,Tn ⟨h0,hle⟩]
   rw[hbad (by rw[hf];decide),hf]
   refine zX44 ?_<;>intros
   apply Yf H
   ·exact zc0
   exact zc5
  ·have hf:YP nodes l i=0:=YuI
   refine zX44 ?_<;>intros
   apply hK (i+1)
   ·exact Ymu
   ·omega
   ·exact zc1
   ·exact zc0
 ·refine zX0 ?_<;>intros
  rw[show i=l.length by omega]at hall
  rw[Xy λk _ hk=>hall k (by omega)]
  exact zc5
theorem Ydo(p:Flw->Bool)(l:List Flw)(f:Nat)(cs:List Value)(hen:∀xs w,(callFunc f xs).run Tryz.prog w=.ok (.enter f xs) w)(hlen:l.length<=1000)(hr:Rd B w0 H A (l.flatMap flwF))
 (hp:∀a∈l,∀w,St B w0 H w->Calls Tryz.prog f ([flwV a]++cs).toArray w (Post B w0 λv K=>v=.bool (p a)/\K=H)) (hw:St B w0 H w):
 CX B w0 119 [.slice A l.length cap,.func (.func f) #[] cs.toArray] w λv K=>v=.int .i64 (Ym p l 0)/\K=H:=by
 refine Ya Tryz.func119 Tryz.ntmps119 rfl rfl hw ?_
 refine zX7 ?_
 refine Ye (λ(k:Nat)=>[(8,.int .i64 k),(7,.int .i64 l.length),(0,.slice A l.length cap),(1,.func (.func f) #[] cs.toArray)]) (λ_=>H) (λk=>k<=l.length/\Ym p l 0=Ym p (l.drop k) k) (λk=>l.length-k) 0 ⟨Td _,by simp⟩ ?_ (λw hw=>hw) ?_
 ·exact zc1
 rintro k ⟨hk,hi⟩ K hK
 by_cases hlt:k<l.length
 ·obtain⟨a,ha⟩:∃a,l[k]? =some a:=⟨_,Ta hlt⟩
  have hpa:=hp a (Tc ha)
  rw[Z9 p l ha]at hi
  refine zX9 ?_<;>intros
  cases hpv:p a
  ·rw[hpv]at hi
   refine zX10 ?_
   apply hK (k+1)
   ·grind
   ·omega
   ·exact zc1
   exact zc21
  exact zc11
 exact zc6
theorem Ykd(f:Flw)(id:Int)(gi:Nat)(hm:blk gi (.cells #[.int .i64 id] 3 (0,0))∈H)(hw:St B w0 H w):
 CX B w0 384 [flwV f,.pointer (some ⟨gi,0,none⟩)] w λv K=>v=.bool (decide (f.1=id))/\K=H:=by
 refine Ya Tryz.func384 Tryz.ntmps384 rfl rfl hw ?_
 by_cases h:f.1=id
 ·rw[Tf h]
  refine zX45 ?_<;>intros
  all_goals(apply Yi;exact zc10)
 ·rw[Ti h]
  refine zX45 ?_<;>intros
  all_goals(apply Yi;exact zc10)
theorem Ykc(l:List Flw)(id:Int)(hlen:l.length<=1000)(hr:Rd B w0 H A (l.flatMap flwF))(hw:St B w0 H w):
 CX B w0 328 [.slice A l.length cap,.int .i64 id] w λv K=>v=.int .i64 (ZB l id)/\K=H:=by
 refine Ya Tryz.func328 Tryz.ntmps328 rfl rfl hw ?_
 repeat'(first|(apply zg29;(apply Ys;exact za;exact rfl))|refine zga ?_|(refine zgh ?_;intro _)|fail)
 rename_i gi
 apply Yb Ysw
 exact za
 exact rfl
 exactλ_ hw=>(Ydo (λf=>decide (f.1=id)) l 384 [.pointer (some ⟨gi,0,none⟩)] Yw4 hlen hr.cons (λf _ w hw=>Ykd f id gi zm hw) hw)
 repeat'(first|refine zga ?_|fail)
 apply Yf H
 ·exact zk
 apply Yd;exact rfl;exact rfl
 exact⟨rfl,rfl⟩
theorem YgF(s:SchM)(f:Flw)(gs:Nat)(hs:1<=s.len/\s.len<=512)(hf:1<=f.2.2.2.1/\f.2.2.2.1<=512)(hm:blk gs (.cells #[.int .i64 s.len,.int .i64 s.off,.slice s.A s.cells.length s.cap] 33 (0,0))∈H)(hw:St B w0 H w):
 CX B w0 261 [flwV f,.pointer (some ⟨gs,0,none⟩)] w λv K=>v=.bool (decide (s.len.tmod f.2.2.2.1≠0))/\K=H:=by
 refine Ya Tryz.func261 Tryz.ntmps261 rfl rfl hw ?_
 by_cases h:s.len.tmod f.2.2.2.1≠0
 ·rw[Tf h]
  rw[Rh (by omega)]at h
  refine zX46 ?_<;>intros
  all_goals(apply Yi;exact zc10)
 ·rw[Ti h]
  rw[Rh (by omega)]at h
  refine zX46 ?_<;>intros
  all_goals(apply Yi;exact zc10)
theorem Ydm{α:Type}(p:α->Bool)(l:List α):decide (0<=Ym p l 0)=l.any p:=by
 have h:=Vz p l 0 (by omega)
 grind
theorem W3(p:Flw->Bool)(l:List Flw)(f:Nat)(cs:List Value)(hen:∀xs w,(callFunc f xs).run Tryz.prog w=.ok (.enter f xs) w)(hlen:l.length<=1000)(hr:Rd B w0 H A (l.flatMap flwF))
 (hp:∀a∈l,∀w,St B w0 H w->Calls Tryz.prog f ([flwV a]++cs).toArray w (Post B w0 λv K=>v=.bool (p a)/\K=H)) (hw:St B w0 H w):
 CX B w0 40 [.slice A l.length cap,.func (.func f) #[] cs.toArray] w λv K=>v=.bool (l.any p)/\K=H:=by
 refine Ya Tryz.func40 Tryz.ntmps40 rfl rfl hw ?_
 rw[<-Ydm]
 refine zX2 ?_
 apply Yb Ysw
 exact za
 exact rfl
 exactλ_ hw=>(Ydo p l f cs hen hlen hr hp hw)
 by_cases h0:0<=Ym p l 0
 ·exact zc16
 ·exact zc16
end Go.Proofs.YtjommdkgfbhbdaaGreatDoor
namespace Go.Eng
open Go.RowKit
section
variable {P:Program}{B:Nat}{w0:World}{Q:Exit->Act->World->Prop}{env:Env}{H:List HP}{k:Nat}
def YQr(P:Program)(r:Nat)(ops:Array Oper)(Q:Exit->Act->World->Prop)(l:List Oper):Exit->Act->World->Prop
 |.normal,a,w=>wpListIn (Fence.wide.inRound r) 0 P ops Q l a w
 |e,a,w=>Q e a w
theorem YaT{r:Nat}{ops:Array Oper}{l:List Oper}(hlo:¬LetsOut Q):∀(os:List Oper) (a:Act) (w:World),os.all Va=true->wpList P ops (YQr P r ops Q l) os a w->wpListIn (Fence.wide.inRound r) 0 P ops Q (os++l) a w
 |[],_,_,_,h=>h
 |o::os,a,w,hc,h=>by
  simp only[Ny,Tq]at hc
  unfold wpList at h
  rw[TA]
  unfold wpListIn
  split
  ·rename_i hw
   rw[Tn hw]at h
   rcases h with h|⟨_,h⟩
   ·have h2:=Oper.wp_mono (λa w h=>YaT hlo os a w hc.2 h) h
    have hs:Oper.semAt (some r) a.eval o=execOp a.eval o:=by grind [Go.Oper.semAt_some,Va]
    refine⟨λf _=>trivial,?_⟩
    rw[Fence.inRound_round,hs]
    unfold Oper.wp at h2
    generalize(execOp a.eval o).run P w=res at h2⊢
    cases res with
    |ok x w'=>
     cases x<;>simp only[Oper.upon,Oper.uponIn]at h2⊢<;>first
      |exact h2
      |(refine⟨λhd=>by simp[Fence.wide]at hd,?_⟩
        refine CallsIn.mono (CallsIn.inRound r (callsIn_wide.2 h2)) λe w'' he=>?_
        cases e<;>exact he)
      |exact⟨λhd=>by simp[Fence.wide]at hd,YbC h2⟩
      |exact h2.elim
    |halt x w'=>exact zc82
   ·exact(hlo h).elim
  ·rename_i hw
   rw[Tj hw]at h
   exact⟨λf _=>trivial,YaT hlo os _ w hc.2 h⟩
variable {n r:Nat}{ds:List Deferred}
theorem Yg4{id:Nat}{l:List Oper}(k:Nat){l1 l2:List Oper}(h1:l.take k=l1)(h2:l.drop k=l2)(h:VL P none ⟨n,ds,some r⟩ B w0 l.toArray (YQr P r l.toArray Q l2) l1 env H):
 VC P ⟨n,ds,some r⟩ B w0 (.region id l.toArray false) Q env H:=by
 refine⟨λa w ha hw=>?_⟩
 intro hlo hc
 refine wpIn_region_lit ?_
 have hc2:l.all Va=true:=by grind [calm]
 have:=YaT hlo _ _ _ (by grind) (h.run a ha w hw)
 grind [RV]
theorem YmQ{ops:Array Oper}{d l:Nat}{x:Operand}{args:List Operand}{tys:Array TypeId}{ty:TypeId}{pos:String}{after:Array Edge}{gd:Option (Nat×Bool)}{vs:List Value}{rest:List Oper}(Φt Φf:List HP->Prop)
 (hgd:∀a:Act,Fits ⟨n,ds,none⟩ a env->Region.wanted ⟨some d,.call ⟨.value x,args.toArray,tys⟩,ty,pos,after,gd⟩ (yielded ops a.tmps)=true)
 (hx:evo env x=some (.func (.yield l) #[] #[])) (hargs:Args env args vs) (hn:Nat.ble (d+1) n=true) (hlo:¬LetsOut Q) (hpl:rest.all Va=true) (hy:Ycx P l vs B w0 H Φt Φf)
 (ht:∀K,Φt K->VL P none ⟨n,ds,some r⟩ B w0 ops Q rest ((d,.bool true)::env) K)
 (hf:∀K,Φf K->VL P none ⟨n,ds,some r⟩ B w0 ops Q rest ((d,.bool false)::env) K):
 VQ ⟨n,ds,some r⟩ B w0 (YQr P r ops Q (⟨some d,.call ⟨.value x,args.toArray,tys⟩,ty,pos,after,gd⟩::rest)) .normal env H:=by
 refine⟨λa w ha hw=>?_⟩
 show wpListIn (Fence.wide.inRound r) 0 P ops Q _ a w
 unfold wpListIn
 rw[Tn (hgd a ⟨ha.defers,ha.size,ha.slot⟩)]
 refine⟨λf _=>trivial,?_⟩
 obtain⟨fn,tmps,assign,body,hrun,hround⟩:=hy w hw
 have hmap:args.toArray.map a.eval=vs.toArray:=by grind [Uq]
 have hs:Oper.semAt (some r) a.eval ⟨some d,.call ⟨.value x,args.toArray,tys⟩,ty,pos,after,gd⟩=execOp a.eval ⟨some d,.call ⟨.value x,args.toArray,tys⟩,ty,pos,after,gd⟩:=by grind [Go.Oper.semAt_some]
 rw[Fence.inRound_round,hs]
 have hex:(execOp a.eval ⟨some d,.call ⟨.value x,args.toArray,tys⟩,ty,pos,after,gd⟩).run P w=.ok (.round l fn tmps assign body) w:=zc38
 rw[hex,Oper.uponIn_round]
 refine⟨λhd=>by simp[Fence.wide]at hd,?_⟩
 have hround2:RoundIn (Fence.wide.inRound r) 0 P l fn tmps assign body w _:=hround
 refine RoundIn.mono hround2 ?_
 rintro e w' (⟨rfl,K',hΦ,hst⟩|⟨rfl,K',hΦ,hst⟩)
 ·exact UX hlo _ _ _ hpl ((ht K' hΦ).run _ (ha.put (TR hn) _) _ hst)
 ·exact UX hlo _ _ _ hpl ((hf K' hΦ).run _ (ha.put (TR hn) _) _ hst)
end
variable {B:Nat}{w0:World}{H K:List HP}
theorem St.inM{w:World}(hw:St B w0 K w)(hm:Eng.many H∈K):St B w0 H w:=by
 obtain⟨S,h1,h2⟩:=hw.at_ hm
 exact⟨hw.below,hw.le,U5 h2 h1⟩
variable {A:Option Addr}{xs:List Value}
theorem Rd.inM(h:Rd B w0 H A xs)(hm:Eng.many H∈K):Rd B w0 K A xs:=h.mono λ_ hw=>hw.inM hm
theorem Rd.many{L:List HP}{e size k cap:Nat}(hX:many L∈H)(hm:Eng.sl e size A k cap xs∈L):Rd B w0 H A xs:=λw hw j v hv=>by
 obtain⟨S,_,h2⟩:=hw.at_ hX
 obtain⟨S',_,h3,_⟩:=Ymg hm h2
 obtain⟨g,e1,hc,_⟩:=OW h3 hv
 grind
end Go.Eng
namespace Go.Proofs.YtjommdkgfbhbdaaGreatDoor
open Go.RowKit Go.Eng Go.Nw Go.Rt
variable {n:Net}
theorem VI{a b:Int}(h:YX n a b=true):0<=Yq n a b:=by
 simp_all [YX]
variable {r:List Int}
theorem QX{s t:Int}(h:JD n s t r=0):(2<=r.length/\r.length<=9)/\r.any (offE n)=false/\(r.getD 0 0=s/\r.getD (r.length-1) 0=t)/\Ov r=false/\J8 n r=false:=by
 unfold JD at h
 by_cases h1:r.length<2
 all_goals grind
theorem Yhx(h:J8 n r=false){i:Nat}(hi:i+1<r.length):YX n (r.getD i 0) (r.getD (i+1) 0)=true:=by
 cases hg:YX n (r.getD i 0) (r.getD (i+1) 0)with
 |true=>rfl
 |false=>
  grind [J8]
variable {A:Option Addr}{cap B:Nat}{w0 w:World}{H:List HP}
theorem Yna(n:NetM)(r:List Int)(hin:n.In B w0 H)(hck:Yl n.net=0)(hbr:J8 n.net r=false)(hr:Rd B w0 H A (r.flatMap numF))(hlen:1<=r.length/\r.length<=1000)(hw:St B w0 H w):
 CX B w0 211 [n.val,.slice A r.length cap] w λv K=>v=.int .i64 (Yo6 n.net r)/\K=H:=by
 have hok:=YO hck
 obtain⟨hpw,hrw,hlk,hmg,hs1,hs2,hs3,hs4⟩:=id hin
 refine Ya Tryz.func211 Tryz.ntmps211 rfl rfl hw ?_
 (apply Xc;apply YW;apply YR;exact rfl;exact rfl;intro g)
 refine zX7 ?_
 refine Ye (λ(k:Nat)=>[(6,.int .i64 ((k:Int)+1)),(5,.int .i64 (Wf n.net r k)),(1,.slice A r.length cap),(2,.pointer (some ⟨g,0,none⟩))]) (λ_=>netB g n::H) (λk=>k+1<=r.length) (λk=>r.length-k) 0 hlen.1 ?_ (λw hw=>hw) ?_
 ·exact zc1
 intro k hk K hK
 have hbd:=Ye8 hok r k
 by_cases hlt:k+1<r.length
 ·have hgk:=Xl (l:=r) (i:=k) (by omega)
  have hgk1:=Xl (l:=r) (i:=k+1) (by omega)
  have ei:((k:Int)+1-1).toNat=k:=by omega
  have ei1:((k:Int)+1).toNat=k+1:=by omega
  rw[<-ei]at hgk
  rw[<-ei1]at hgk1
  have hgood:=Yhx hbr hlt
  have hf:=VI hgood
  have hfl:=XV hf
  have e7:n.net.links=n.links:=rfl
  rw[e7]at hfl
  have hlx:n.links[(Yq n.net (r.getD k 0) (r.getD (k+1) 0)).toNat]? =some (lnk n.net (Yq n.net (r.getD k 0) (r.getD (k+1) 0)).toNat):=Oe n.net hfl
  have hlo:=Yb6 hok (r.getD k 0) (r.getD (k+1) 0)
  have hidx:=λ{w:World}(hw:St B w0 (netB g n::H) w)=>Zv n (r.getD k 0) (r.getD (k+1) 0) (hin.cons (X:=netB g n)) hw
  unfold Zj at hidx
  rw[Tj (by simp[hck])]at hidx
  obtain⟨fi,hfi⟩:∃fi,Yq n.net (r.getD k 0) (r.getD (k+1) 0)=fi:=⟨_,rfl⟩
  obtain⟨lo,hlo2⟩:∃lo,Q9 n.net (r.getD k 0) (r.getD (k+1) 0)=lo:=⟨_,rfl⟩
  have hst:Wf n.net r (k+1)=Wf n.net r k+(lo+1):=by rw[<-hlo2];rfl
  have hlo3:(lnk n.net fi.toNat).2.2=lo:=by rw[<-hfi];exact hlo2
  rw[hfi]at hidx hf hfl hlx
  rw[hlo2]at hlo
  rw[ei]at hgk
  rw[ei1]at hgk1
  obtain⟨lk,hlkk⟩:∃lk,lnk n.net fi.toNat=lk:=⟨_,rfl⟩
  rw[hlkk]at hlx hlo3
  rw[<-hlo3]at hlo
  have hgk':r[((k:Int)+1-1).toNat]? =some (r.getD k 0):=by rw[ei];exact hgk
  have hgk1':r[((k:Int)+1).toNat]? =some (r.getD (k+1) 0):=by rw[ei1];exact hgk1
  repeat'(first|((apply Yn Vg);exact za;exact rfl;exactλ_ hw=>(hidx hw))|(apply zg28;refine zs84 ?_)|refine zgd ?_|(refine zge ?_ ?_<;>intro _<;>try exact zo)|fail)
  apply hK (k+1)
  ·omega
  ·omega
  ·rw[hst,<-hlo3];exact zc1
  exact zc21
 ·refine zX0 ?_<;>intros
  (repeat apply Yi);apply Yd;exact rfl;exact rfl
  have ek:r.length-1=k:=by omega
  exact⟨by unfold Yo6;rw[ek],rfl⟩
theorem YmA(n:NetM)(r:List Int)(hin:n.In B w0 H)(hr:Rd B w0 H A (r.flatMap numF))(hlen:r.length<=9223372036854775807)(hcap:r.length<=cap)(hw:St B w0 H w):
 CX B w0 117 [n.val,.slice A r.length cap] w λv K=>v=.tuple #[.int .i64 (YgZ n.net r).1,.int .i64 (YgZ n.net r).2]/\K=H:=by
 refine Ya Tryz.func117 Tryz.ntmps117 rfl rfl hw ?_
 unfold YgZ
 by_cases h0:Yl n.net=0
 rotate_left
 ·rw[Tn h0]
  refine zX49 ?_<;>intros
  (repeat apply Yi);exact zc55
 rw[Tj (λh=>h h0)]
 have hck:=λ{H:List HP}{w:World}(hin:n.In B w0 H) (hw:St B w0 H w)=>Y4 n hin hw
 rw[h0]at hck
 dsimp only
 have hf:=λ{H:List HP}{w:World}(s t:Int) (hin:n.In B w0 H) (hr:Rd B w0 H A (r.flatMap numF)) (hw:St B w0 H w)=>Yc3 n s t r (cap:=cap) hin h0 hr hlen hcap hw
 by_cases hz:r.length=0
 ·have hf0:JD n.net (r.getD 0 0) (r.getD (r.length-1) 0) r=9:=by unfold JD;rw[Tn (by omega)]
  have hf1:JD n.net 0 0 r=9:=by unfold JD;rw[Tn (by omega)]
  have hff:=λ{H:List HP}{w:World}(hin:n.In B w0 H) (hr:Rd B w0 H A (r.flatMap numF)) (hw:St B w0 H w)=>hf 0 0 hin hr hw
  rw[hf1]at hff
  rw[hf0,Tn (by decide)]
  repeat'(first|((apply Yb XM);exact za;exact rfl;exactλ_ hw=>(hck hin.cons hw))|((apply Yb YlI);exact za;exact rfl;exactλ_ hw=>(hff hin.cons hr.cons hw))|refine zgb ?_|(refine zge ?_ ?_<;>intro _<;>try exact zo)|(refine zgh ?_;intro _)|fail)
  (repeat apply Yi);exact zc5
 ·have hg0:=Xl (l:=r) (i:=0) (by omega)
  have hg1:=Xl (l:=r) (i:=r.length-1) (by omega)
  have hgi:((r.length:Int)-1).toNat=r.length-1:=by omega
  rw[<-hgi]at hg1
  have hff:=λ{H:List HP}{w:World}(hin:n.In B w0 H) (hr:Rd B w0 H A (r.flatMap numF)) (hw:St B w0 H w)=>hf (r.getD 0 0) (r.getD (r.length-1) 0) hin hr hw
  obtain⟨e,he⟩:∃e,JD n.net (r.getD 0 0) (r.getD (r.length-1) 0) r=e:=⟨_,rfl⟩
  rw[he]at hff
  rw[he]
  rw[<-hgi]at hff
  by_cases hez:e=0
  ·subst hez
   obtain⟨⟨f1,f2⟩,_,_,_,f3⟩:=QX he
   rw[Tj (by simp)]
   repeat'(first|((apply Yb XM);exact za;exact rfl;exactλ_ hw=>(hck hin.cons hw))|((apply Yb YlI);exact za;exact rfl;exactλ_ hw=>(hff hin.cons hr.cons hw))|((apply Yb Yv9);exact za;exact rfl;exactλ_ hw=>(Yna n r hin.cons h0 f3 hr.cons (by omega) hw))|refine zgd ?_|(refine zge ?_ ?_<;>intro _<;>try exact zo)|(refine zgh ?_;intro _)|fail)
   (repeat apply Yi);exact zc5
  ·rw[Tn hez]
   repeat'(first|((apply Yb XM);exact za;exact rfl;exactλ_ hw=>(hck hin.cons hw))|((apply Yb YlI);exact za;exact rfl;exactλ_ hw=>(hff hin.cons hr.cons hw))|refine zgd ?_|(refine zge ?_ ?_<;>intro _<;>try exact zo)|(refine zgh ?_;intro _)|fail)
   (repeat apply Yi);exact zc5
theorem Ycf(n:NetM)(s t:Int)(r:List Int)(hin:n.In B w0 H)(hr:Rd B w0 H A (r.flatMap numF))(hlen:r.length<=9223372036854775807)(hcap:r.length<=cap)(hw:St B w0 H w):
 CX B w0 327 [n.val,.int .i64 s,.int .i64 t,.slice A r.length cap] w λv K=>v=.int .i64 (Xu n.net s t r)/\K=H:=by
 refine Ya Tryz.func327 Tryz.ntmps327 rfl rfl hw ?_
 unfold Xu
 by_cases h0:Zp n.net s t=0
 ·have hck:Yl n.net=0:=by
   unfold Zp at h0
   omega
  have hen:=λ{H:List HP}{w:World}(hin:n.In B w0 H) (hw:St B w0 H w)=>US n s t hin hw
  rw[h0]at hen
  rw[Tj (λh=>h h0)]
  repeat'(first|((apply Yb YlJ);exact za;exact rfl;exactλ_ hw=>(hen hin.cons hw))|((apply Yb YlI);exact za;exact rfl;exactλ_ hw=>(Yc3 n s t r hin.cons hck hr.cons hlen hcap hw))|refine zgb ?_|(refine zge ?_ ?_<;>intro _<;>try exact zo)|(refine zgh ?_;intro _)|fail)
  (repeat apply Yi);exact zc10
 ·rw[Tn h0]
  repeat'(first|((apply Yb YlJ);exact za;exact rfl;exactλ_ hw=>(US n s t hin.cons hw))|refine zgb ?_|(refine zge ?_ ?_<;>intro _<;>try exact zo)|(refine zgh ?_;intro _)|fail)
  (repeat apply Yi);exact zc10
end Go.Proofs.YtjommdkgfbhbdaaGreatDoor
namespace Go.Eng
open Go.RowKit
def subL(i k:Nat)(l:List Value):List Value:=(l.drop i).take k
section
variable {P:Program}{B:Nat}{w0:World}{Q:Exit->Act->World->Prop}{env:Env}{H:List HP}{m:Mode}{n:Shp}{ops:Array Oper}{rest:List Oper}{d:Nat}{ty:TypeId}{pos:String}{after:Array Edge}
variable {t g i k:Nat}{cs:Array Value}{vs:List Value}{tt:TypeId}{fr:Nat×Nat}{x:Operand}
theorem Ybc(T:Tab P)(hx:evo env x=some (.pointer (some ⟨g,i,none⟩)))(hm:blk g (.cells cs tt fr)∈H)
 (ht:look T.ag t=some k) (hv:subL i k cs.toList=vs) (hk:Nat.beq vs.length k=true) (hn:Nat.ble (d+1) n.k=true) (h:VL P m n B w0 ops Q rest ((d,.agg vs.toArray)::env) H):
 VL P m n B w0 ops Q (⟨some d,.load t x,ty,pos,after,none⟩::rest) env H:=by
 refine WR T hx hm ht (Nat.eq_of_beq_eq_true hk) (λj v hj=>?_) hn h
 grind [subL]
end
def Yhy(l:List Oper)(k s:Nat):Bool:=match l[k]? with
 |some o=>match o.op with
  |.call c=>match c.callee with
   |.value (.tmp t)=>Nat.beq t s
   |_=>false
  |_=>false
 |none=>false
section
variable {P:Program}{B:Nat}{w0:World}{Q:Exit->Act->World->Prop}{env:Env}{H:List HP}
variable {n id r:Nat}{ds:List Deferred}{l l1 l2:List Oper}
theorem Yg5(k s:Nat)(_ho:Yhy l k s=true)(h1:l.take k=l1)(h2:l.drop k=l2)(hlo:¬LetsOut Q)(h:VL P none ⟨n,ds,none⟩ B w0 l.toArray (YQ P l.toArray Q l2) l1 env H):
 VC P ⟨n,ds,none⟩ B w0 (.region id l.toArray false) Q env H:=Ycj k h1 h2 hlo h
theorem YfU(k s:Nat)(_ho:Yhy l k s=true)(h1:l.take k=l1)(h2:l.drop k=l2)(h:VL P none ⟨n,ds,some r⟩ B w0 l.toArray (YQr P r l.toArray Q l2) l1 env H):
 VC P ⟨n,ds,some r⟩ B w0 (.region id l.toArray false) Q env H:=Yg4 k h1 h2 h
end
section
variable {P:Program}{B:Nat}{w0:World}{env:Env}{H:List HP}
variable {n:Nat}{fn:Func}
theorem YmC{gf:Nat}{c:Code}{lb:List Value}{xs:List (List Value)}{HI:List HP}(hf:P.funcs[gf]? =some fn)(hn:fn.ntmps=n)(hb:fn.body=some c)(hle:Nat.ble (lb.length+1) n=true)
 (h:∀(l:Nat) (S:Nat->List HP->Prop) (X:List HP->Prop),
  (∀(i:Nat) (args:List Value),xs[i]? =some args->∀(Y L:List HP),S i L->
   Ycx P l args B w0 (Y++many L::HI) (λK=>∃L',S (i+1) L'/\K=Y++many L'::HI) (λK=>∃L',X L'/\K=Y++many L'::HI))->
  ∀L0,S 0 L0->VC P ⟨n,[],none⟩ B w0 c (bodyPostM Fence.wide 0 P fn (Post B w0 λ_ K=>(∃L,S xs.length L/\K=many L::HI)\/∃L,X L/\K=many L::HI)) (WV 0 (.func (.yield l) #[] #[]::lb)) (many L0::HI)):Ycg P gf lb xs B w0 HI:=by
 intro l S X hy L0 h0 w hw
 exact callsIn_wide.2 (Zr (args:=.func (.yield l) #[] #[]::lb) hf hn hb hle hw (h l S X hy L0 h0))
variable {ds:List Deferred}
theorem Yro{R:Ending->World->Prop}(h:VQ ⟨n,ds,none⟩ B w0 (bodyPostM Fence.wide 0 P fn R) .ret env H):VQ ⟨n,ds,none⟩ B w0 (bodyPostM Fence.wide 0 P fn R) .normal env H:=
 ⟨λa w ha hw=>h.run a w ha hw⟩
end
variable {P:Program}{B n t r g i k:Nat}{w0:World}{env:Env}{H:List HP}{fn:Func}
theorem YbY{Φ:Value->List HP->Prop}{u s:Nat}{v x y z:Value}(hr:fn.results=#[.tmp t,.tmp u,.tmp s,.tmp r])(hv:get env t=some v)(hx:get env u=some x)(hy:get env s=some y)(hz:get env r=some z)(h:Φ (.tuple #[v,x,y,z]) H):
 VQ ⟨n,[],none⟩ B w0 (bodyPost P fn (Post B w0 Φ)) .ret env H:=
 ⟨λa w ha hw=>bodyPost_ret (v:=.tuple #[v,x,y,z]) (by simp[results,hr,Array.getD_eq_getD_getElem?,ha.slot t v hv,ha.slot u x hx,ha.slot s y hy,ha.slot r z hz]) ha.defers ⟨_,H,rfl,hw,h⟩⟩
theorem Yn5{X:HP}(h:X∈H):∃R,Perm H [X,many R]/\Perm [X,many R] H:=by
 obtain⟨s,t,rfl⟩:=List.append_of_mem h
 exact⟨s++t,(Perm.closeT _).trans (Perm.pull X s t []),(Perm.push X s t []).trans (Perm.openT _)⟩
variable {cs:Array Value}{vs:List Value}{tt:TypeId}{fr:Nat×Nat}{x:Operand}
theorem Yr{m:Mode}{n:Shp}{d:Nat}{ops:Array Oper}{Q:Exit->Act->World->Prop}{rest:List Oper}{ty:TypeId}{pos:String}{after:Array Edge}(T:Tab P)
 (h:VL P m n B w0 ops Q rest ((d,.agg vs.toArray)::env) H) (hx:evo env x=some (.pointer (some ⟨g,i,none⟩)):=by exact rfl) (hm:blk g (.cells cs tt fr)∈H:=by exact zm)
 (ht:look T.ag t=some k:=by exact rfl) (hv:subL i k cs.toList=vs:=by exact zv) (hk:Nat.beq vs.length k=true:=by exact rfl) (hn:Nat.ble (d+1) n.k=true:=by exact rfl):
 VL P m n B w0 ops Q (⟨some d,.load t x,ty,pos,after,none⟩::rest) env H:=Ybc T hx hm ht hv hk hn h
end Go.Eng
namespace Go.Proofs.YtjommdkgfbhbdaaGreatDoor
open Go.RowKit Go.Eng Go.Nw Go.Rt
abbrev Rqs:=Flw×List (List Int)
structure Clm where
 flow:Int
 routes:List (List Int)
 bounds:List Int
 worst:List Int
 slots:List (List Int)
deriving DecidableEq
def Yxw:Clm:=⟨0,[],[],[],[]⟩
def Y8(q:List Rqs):List Flw:=q.map Prod.fst
def Ymz:Rqs:=((0,0,0,0,0,0),[])
def rqAt(q:List Rqs)(i:Nat):Rqs:=q.getD i Ymz
def rtAt(l:List (List Int))(k:Nat):List Int:=l.getD k []
def rtsE(n:Net)(x:Rqs):Int:=
 if x.2.length=0 then 14 else if 2<x.2.length then 8
 else if(YD (λk=>Xu n x.1.2.1 x.1.2.2.1 (rtAt x.2 k)) x.2.length 0).2≠0 then(YD (λk=>Xu n x.1.2.1 x.1.2.2.1 (rtAt x.2 k)) x.2.length 0).2
 else if x.2.length=2/\rtAt x.2 0=rtAt x.2 1 then 6 else 0
def rqsE(n:Net)(q:List Rqs):Int×Int:=
 if Yl n≠0 then(-1,1)else if(YB n.nodes (Y8 q)).2≠0 then YB n.nodes (Y8 q)
 else YD (λi=>rtsE n (rqAt q i)) q.length 0
def badR(n:Net)(s:Sch)(f:Flw)(r:List Int):Bool:=decide ((Y1 n s f r).2≠0\/f.2.2.2.2.2<(Y1 n s f r).1.1)
def YcJ(n:Net)(s:Sch)(x:Rqs)(l:List (List Int)):Clm:=
 ⟨x.1.1,l,l.map λr=>(Y1 n s x.1 r).1.1,l.map λr=>(Y1 n s x.1 r).1.2.1,l.map λr=>(Y1 n s x.1 r).1.2.2⟩
def ZK(n:Net)(s:Sch)(x:Rqs):Bool:=x.2.any (badR n s x.1)
def clmE(n:Net)(s:Sch)(x:Rqs):Clm:=YcJ n s x x.2
def YJ(n:Net)(q:List Rqs)(s:Sch):List Clm×(Int×Int):=
 if(rqsE n q).2≠0 then([],rqsE n q)else if(schE n (Y8 q) s).2≠0 then([],(-1,1))
 else if(YD (λi=>if ZK n s (rqAt q i)=true then 15 else 0) q.length 0).2≠0 then([],YD (λi=>if ZK n s (rqAt q i)=true then 15 else 0) q.length 0)
 else(q.map (clmE n s),(-1,0))
def Uh(c:List Clm)(i:Nat):Clm:=c.getD i Yxw
def chkE(n:Net)(q:List Rqs)(s:Sch)(c:List Clm):Int×Int:=
 if(YJ n q s).2.2≠0 then(YJ n q s).2 else if c.length≠(YJ n q s).1.length then(-1,11)
 else YD (λi=>if Uh c i=Uh (YJ n q s).1 i then 0 else 20) c.length 0
structure WayM where
 n:NetM
 s:SchM
 f:Flw
 A:Option Addr
 cap:Nat
 r:List Int
def WayM.val(x:WayM):Value:=.agg #[.int .i64 x.n.nodes,.slice x.n.pA x.n.rows.length x.n.pcap,.int .i64 x.n.noise,.int .i64 x.n.thr,.slice x.n.lA x.n.links.length x.n.lcap,.slice x.n.mA x.n.margin.length x.n.mcap,.int .i64 x.s.len,.int .i64 x.s.off,.slice x.s.A x.s.cells.length x.s.cap,.int .i64 x.f.1,.int .i64 x.f.2.1,.int .i64 x.f.2.2.1,.int .i64 x.f.2.2.2.1,.int .i64 x.f.2.2.2.2.1,.int .i64 x.f.2.2.2.2.2,.slice x.A x.r.length x.cap,.int .i64 0]
abbrev wayB(g:Nat)(x:WayM):HP:=blk g (.cells #[.int .i64 x.n.nodes,.slice x.n.pA x.n.rows.length x.n.pcap,.int .i64 x.n.noise,.int .i64 x.n.thr,.slice x.n.lA x.n.links.length x.n.lcap,.slice x.n.mA x.n.margin.length x.n.mcap,.int .i64 x.s.len,.int .i64 x.s.off,.slice x.s.A x.s.cells.length x.s.cap,.int .i64 x.f.1,.int .i64 x.f.2.1,.int .i64 x.f.2.2.1,.int .i64 x.f.2.2.2.1,.int .i64 x.f.2.2.2.2.1,.int .i64 x.f.2.2.2.2.2,.slice x.A x.r.length x.cap,.int .i64 0] 249 (0,0))
structure WayM.In(B:Nat)(w0:World)(H:List HP)(x:WayM):Prop where
 n:x.n.In B w0 H
 s:Rd B w0 H x.s.A (x.s.cells.flatMap celF)
 r:Rd B w0 H x.A (x.r.flatMap numF)
 sl:x.s.cells.length<=1000000000000
 rl:x.r.length<=1000000000000
 rc:x.r.length<=x.cap
variable {B:Nat}{w0:World}{H:List HP}{x:WayM}
theorem WayM.In.cons{X:HP}(h:x.In B w0 H):x.In B w0 (X::H):=⟨h.n.cons,h.s.cons,h.r.cons,h.sl,h.rl,h.rc⟩
theorem WayM.In.mono{H':List HP}(h:x.In B w0 H)(hH:∀w,St B w0 H' w->St B w0 H w):x.In B w0 H':=⟨h.n.mono hH,h.s.mono hH,h.r.mono hH,h.sl,h.rl,h.rc⟩
theorem Ynr{nodes:Int}{f:Flw}(h:2<=nodes/\nodes<=32):((YB nodes [f]).2=0↔Xi nodes f=0):=by
 unfold YB
 have e:YP nodes [f] 0=Xi nodes f:=by
  show(if Xi nodes f≠0 then Xi nodes f else if 0<0/\_ then 5 else 0)=_
  omega
 unfold YD YD
 grind
theorem Yjm(x:WayM){w:World}(ht:TabsB B w0)(hi:x.In B w0 H)(hw:St B w0 H w):
 CX B w0 289 [x.val] w λv K=>v=.int .i64 (wayE x.n.net x.s.sch x.f x.r)/\K=H:=by
 refine Ya Tryz.func289 Tryz.ntmps289 rfl rfl hw ?_
 have p1:=λ{H':List HP}{w:World}(hin:x.n.In B w0 H') (hw:St B w0 H' w)=>Y4 x.n hin hw
 have p2:=λ{H':List HP}{w:World}(hr:Rd B w0 H' x.s.A (x.s.cells.flatMap celF)) (hw:St B w0 H' w)=>Wp x.s ht hr hi.sl hw
 have p3:=λ{g cap:Nat}{H':List HP}{w:World}(hm:blk g (.cells #[.int .i64 x.f.1,.int .i64 x.f.2.1,.int .i64 x.f.2.2.1,.int .i64 x.f.2.2.2.1,.int .i64 x.f.2.2.2.2.1,.int .i64 x.f.2.2.2.2.2] 45 (0,0))∈H') (hw:St B w0 H' w)=>Xw x.n.nodes [x.f] (TR rfl) (A:=some ⟨g,0,none⟩) (cap:=cap) (show Rd B w0 H' _ ([x.f].flatMap flwF) from Rd.blk hm) hw
 have p4:=λ{H':List HP}{w:World}(hin:x.n.In B w0 H') (hr:Rd B w0 H' x.A (x.r.flatMap numF)) (hw:St B w0 H' w)=>Ycf x.n x.f.2.1 x.f.2.2.1 x.r (cap:=x.cap) hin hr (TX hi.rl (by decide)) hi.rc hw
 have hn:=hi.n
 have hs:=hi.s
 have hr:=hi.r
 have hfo:=@Ynr x.n.net.nodes x.f
 have hok:=λh:Yl x.n.net=0=>(YO h).n0
 have hok1:=λh:Yl x.n.net=0=>(YO h).n1
 have hpe:(Xq x.s.sch).2=0↔Xd x.s.sch=true:=by
  unfold Xq
  cases hf:Xd x.s.sch with
  |true=>rw[Tj (by decide)];simp
  |false=>rw[Tn rfl];simp
 unfold wayE
 rw[show x.n.net.nodes=x.n.nodes from rfl]at*
 rw[show x.s.sch.len=x.s.len from rfl]at*
 obtain⟨c,hc⟩:∃c,Yl x.n.net=c:=⟨_,rfl⟩
 obtain⟨⟨t,e⟩,he⟩:∃e,Xq x.s.sch=e:=⟨_,rfl⟩
 obtain⟨⟨i,a⟩,ha⟩:∃a,YB x.n.nodes [x.f]=a:=⟨_,rfl⟩
 obtain⟨k,hk⟩:∃k,Xu x.n.net x.f.2.1 x.f.2.2.1 x.r=k:=⟨_,rfl⟩
 rw[hc]at p1 hok hok1⊢
 rw[he]at p2 hpe
 rw[ha]at p3 hfo
 rw[hk]at p4⊢
 dsimp only at p2 p3 hpe hfo
 unfold WayM.val
 by_cases h1:c=0
 rotate_left
 ·rw[Tn (.inl h1)]
  repeat'(first|((apply Yb XM);exact za;exact rfl;exactλ_ hw=>(p1 hn.cons hw))|refine Yr T ?_|refine zgb ?_|(refine zge ?_ ?_<;>intro _<;>try exact zo)|(refine zgh ?_;intro _)|fail)
  apply Yf H
  ·exact zc0
  exact zc3
 subst h1
 have hfo:=hfo ⟨hok rfl,hok1 rfl⟩
 by_cases h2:e=0
 rotate_left
 ·rw[Tn (.inr (.inl (by cases hf:Xd x.s.sch with|false=>rfl|true=>exact absurd (hpe.2 hf) h2)))]
  repeat'(first|((apply Yb XM);exact za;exact rfl;exactλ_ hw=>(p1 hn.cons hw))|((apply Yb en82);exact za;exact rfl;exactλ_ hw=>(p2 hs.cons hw))|refine Yr T ?_|refine zgc ?_|(refine zge ?_ ?_<;>intro _<;>try exact zo)|(refine zgh ?_;intro _)|fail)
  apply Yf H
  ·exact zc0
  exact zc3
 subst h2
 have hfe:=hpe.1 rfl
 by_cases h3:a=0
 rotate_left
 ·rw[Tn (.inr (.inr (λh=>h3 (hfo.2 h))))]
  repeat'(first|((apply Yb XM);exact za;exact rfl;exactλ_ hw=>(p1 hn.cons hw))|((apply Yb en82);exact za;exact rfl;exactλ_ hw=>(p2 hs.cons hw))|((apply Yb en39);exact za;exact rfl;exactλ_ hw=>(p3 zm hw))|refine Yr T ?_|refine zgc ?_|(refine zge ?_ ?_<;>intro _<;>try exact zo)|(refine zgh ?_;intro _)|fail)
  apply Yf H
  ·exact zc0
  exact zc3
 subst h3
 have hfz:=hfo.1 rfl
 rw[Tj (by rintro(h|h|h);exact h rfl;rw[hfe]at h;cases h;exact h hfz)]
 have hp1:1<=x.f.2.2.2.1:=by
  unfold Xi at hfz
  split at hfz
  ·cases hfz
  split at hfz
  ·cases hfz
  omega
 have hsz:1<=x.s.len/\x.s.len<=512:=by
  have:=TT (XF.1 hfe).sized
  exact⟨this.1,this.2.1⟩
 rw[Rh (show 0<=x.s.len by omega)]
 by_cases h4:x.s.len%x.f.2.2.2.1=0
 rotate_left
 ·rw[Tn h4]
  repeat'(first|((apply Yb XM);exact za;exact rfl;exactλ_ hw=>(p1 hn.cons hw))|((apply Yb en82);exact za;exact rfl;exactλ_ hw=>(p2 hs.cons hw))|((apply Yb en39);exact za;exact rfl;exactλ_ hw=>(p3 zm hw))|refine Yr T ?_|refine zgd ?_|(refine zge ?_ ?_<;>intro _<;>try exact zo)|(refine zgh ?_;intro _)|fail)
  apply Yf H
  ·exact zc0
  exact zc3
 rw[Tj (λh=>h h4)]
 repeat'(first|((apply Yb XM);exact za;exact rfl;exactλ_ hw=>(p1 hn.cons hw))|((apply Yb en82);exact za;exact rfl;exactλ_ hw=>(p2 hs.cons hw))|((apply Yb en39);exact za;exact rfl;exactλ_ hw=>(p3 zm hw))|((apply Yb Ypo);exact za;exact rfl;exactλ_ hw=>(p4 hn.cons.cons hr.cons.cons hw))|refine Yr T ?_|refine zgd ?_|(refine zge ?_ ?_<;>intro _<;>try exact zo)|(refine zgh ?_;intro _)|fail)
 apply Yf H
 ·exact zc0
 exact zc3
variable {n:Net}{s:Sch}{f:Flw}{r:List Int}
theorem Ylb(h:wayE n s f r=0):Yl n=0/\Xd s=true/\Xi n.nodes f=0/\s.len.tmod f.2.2.2.1=0/\Xu n f.2.1 f.2.2.1 r=0:=by
 unfold wayE at h
 grind
theorem YdS(h:(Y1 n s f r).2=0):wayE n s f r=0/\∃b,JC n s f r=some b/\Y1 n s f r=(b,0):=by
 unfold Y1 at h⊢
 grind
variable {q:List Rqs}{i:Nat}
theorem VK(h:i<q.length):q[i]? =some (rqAt q i):=by
 grind [rqAt]
theorem YiV(h:i<q.length):rqAt q i∈q:=Tc (VK h)
variable {x:Rqs}
theorem Yis(h:x∈q):∃i,i<q.length/\rqAt q i=x:=by
 obtain⟨i,hi⟩:=TP.1 h
 have hl:=(Tu.1 hi).1
 exact⟨i,hl,TJ ((VK hl).symm.trans hi)⟩
variable {l:List (List Int)}
theorem Ya1(h:i<l.length):l[i]? =some (rtAt l i):=by
 grind [rtAt]
theorem Yqs(h:i<l.length):rtAt l i∈l:=Tc (Ya1 h)
def Qe(n:Net)(s:Sch)(x:Rqs):Bool:=decide (x.2.length=1\/x.2.length=2/\rtAt x.2 0≠rtAt x.2 1)&&!(ZK n s x)
theorem Yl3(h:ZK n s x=false)(hr:r∈x.2):(Y1 n s x.1 r).2=0/\(Y1 n s x.1 r).1.1<=x.1.2.2.2.2.2:=by
 simp_all [ZK,badR]
theorem Yvo(h:Qe n s x=true):rtsE n x=0:=by
 unfold Qe at h
 rw[Tq,Tm]at h
 have hl:=h.2
 simp only[R9]at hl
 have hc:(YD (λk=>Xu n x.1.2.1 x.1.2.2.1 (rtAt x.2 k)) x.2.length 0).2=0:=YI.2 λk _ hk=>
  (Ylb (YdS (Yl3 hl (Yqs (l:=x.2) (i:=k) (by omega))).1).1).2.2.2.2
 unfold rtsE
 grind
theorem Yan(h:rtsE n x=0):x.2.length=1\/x.2.length=2/\rtAt x.2 0≠rtAt x.2 1:=by
 unfold rtsE at h
 grind
theorem Z7:(YJ n q s).2.2=0↔(schE n (Y8 q) s).2=0/\∀x∈q,Qe n s x=true:=by
 constructor
 ·intro h
  unfold YJ at h
  by_cases h1:(rqsE n q).2=0
  rotate_left
  ·simp_all
  by_cases h2:(schE n (Y8 q) s).2=0
  rotate_left
  ·simp_all
  by_cases h3:(YD (λi=>if ZK n s (rqAt q i)=true then 15 else 0) q.length 0).2=0
  rotate_left
  ·simp_all
  refine⟨h2,λx hx=>?_⟩
  obtain⟨i,hi,rfl⟩:=Yis hx
  have h4:=YI.1 h3 i (Td _) (by omega)
  have h5:rtsE n (rqAt q i)=0:=by
   have hw:=Ox (Jh.1 h2).whole
   simp_all [rqsE,YI]
  grind [Qe,Yan]
 ·rintro⟨h2,h3⟩
  have hw:=Ox (Jh.1 h2).whole
  have h1:(rqsE n q).2=0:=by
   unfold rqsE
   grind [YI,Yvo,YiV]
  have h4:(YD (λi=>if ZK n s (rqAt q i)=true then 15 else 0) q.length 0).2=0:=YI.2 λi _ hi=>by
   have:=h3 _ (YiV (q:=q) (i:=i) (by omega))
   simp_all [Qe]
  simp_all [YJ]
theorem Ylz(h:(YJ n q s).2.2=0):YJ n q s=(q.map (clmE n s),(-1,0)):=by
 unfold YJ at h⊢
 grind
structure Ve(x:WayM):Prop where
 ck:Yl x.n.net=0
 len:2<=x.r.length/\x.r.length<=9
 good:∀i,i+1<x.r.length->YX x.n.net (x.r.getD i 0) (x.r.getD (i+1) 0)=true
 per:1<=x.f.2.2.2.1/\x.f.2.2.2.1<=512
 ph:0<=x.f.2.2.2.2.1/\x.f.2.2.2.2.1<x.f.2.2.2.1
 slen:1<=x.s.len/\x.s.len<=512
 few:x.s.cells.length<=512
variable {n:Net}{r:List Int}
theorem JV{s t:Int}(h:Xu n s t r=0):Yl n=0/\(2<=r.length/\r.length<=9)/\∀i,i+1<r.length->YX n (r.getD i 0) (r.getD (i+1) 0)=true:=by
 unfold Xu at h
 by_cases h0:Zp n s t=0
 rotate_left
 ·omega
 rw[Tj (λe=>e h0)]at h
 have hck:Yl n=0:=by
  unfold Zp at h0
  omega
 obtain⟨h1,_,_,_,h2⟩:=QX h
 grind [J8]
theorem Ycd{x:WayM}(h:wayE x.n.net x.s.sch x.f x.r=0):Ve x:=by
 obtain⟨_,h2,h3,_,h5⟩:=Ylb h
 obtain⟨k1,k2,k3⟩:=JV h5
 have hfr:=XF.1 h2
 have hsz:=TT hfr.sized
 unfold Xi at h3
 split at h3
 ·cases h3
 split at h3
 ·cases h3
 exact⟨k1,k2,k3,by omega,by omega,⟨hsz.1,hsz.2.1⟩,hfr.few⟩
def JW(x:WayM):List (List Value):=(Yp x.n.net x.r).map λl=>[lkV l]
theorem Wm{i:Nat}(h:i+1<r.length):(Yp n r)[i]? =some (XS n r i):=by
 grind [Yp]
theorem JY{n:Net}{r:List Int}:(Yp n r).length=r.length-1:=by grind [Yp]
variable {B:Nat}{w0:World}
theorem Ybu(x:WayM)(g:Nat)(hok:Ve x){HI:List HP}(hi:x.In B w0 HI)(hm:wayB g x∈HI):
 Ycg Tryz.prog 355 [.pointer (some ⟨g,0,none⟩)] (JW x) B w0 HI:=by
 refine Ych Tryz.func355 Tryz.ntmps355 rfl rfl ?_
 intro l SS X hy L0 h0
 have hck:=hok.ck
 have hlen:=hok.len
 have p1:=λ{H':List HP}{w:World}(a b:Int) (hin:x.n.In B w0 H') (hw:St B w0 H' w)=>Zv x.n a b hin hw
 have hix:∀a b:Int,Zj x.n.net a b=Yq x.n.net a b:=λa b=>by simp_all [Zj]
 unfold wayB at hm
 refine zX7 ?_
 refine Ye (λ(y:Nat×List HP)=>[(3,.int .i64 (y.1+1:Nat)),(0,.func (.yield l) #[] #[]),(1,.pointer (some ⟨g,0,none⟩))]) (λy=>many y.2::HI) (λy=>y.1+1<=x.r.length/\SS y.1 y.2) (λy=>x.r.length-1-y.1) (0,L0) ⟨by omega,h0⟩ ?_ (λw hw=>hw) ?_
 ·exact zc1
 rintro⟨i,L⟩ ⟨hile,hS⟩ K hK
 dsimp only at hile hS⊢
 by_cases hlt:i+1<x.r.length
 ·have hg:=hok.good i hlt
  have hf:=VI hg
  have hfl:=XV hf
  have hlx:x.n.links[(Yq x.n.net (x.r.getD i 0) (x.r.getD (i+1) 0)).toNat]? =some (lnk x.n.net (Yq x.n.net (x.r.getD i 0) (x.r.getD (i+1) 0)).toNat):=Oe x.n.net hfl
  have hla:XS x.n.net x.r i=lnk x.n.net (Yq x.n.net (x.r.getD i 0) (x.r.getD (i+1) 0)).toNat:=rfl
  have hg0:=Xl (l:=x.r) (i:=i) (by omega)
  have hg1:=Xl (l:=x.r) (i:=i+1) (by omega)
  have hgi:((((i+1:Nat):Int)-1).toNat)=i:=by omega
  have hgi1:(((i+1:Nat):Int).toNat)=i+1:=by omega
  have hll:(Yq x.n.net (x.r.getD i 0) (x.r.getD (i+1) 0)).toNat<x.n.links.length:=hfl
  have p2:=λ{H':List HP}{w:World}(hin:x.n.In B w0 H') (hw:St B w0 H' w)=>p1 (x.r.getD i 0) (x.r.getD (i+1) 0) hin hw
  rw[hix]at p2
  have hx:(JW x)[i]? =some [lkV (XS x.n.net x.r i)]:=by
   unfold JW;rw[TN,Wm hlt];rfl
  rw[hla]at hx
  obtain⟨a,ha⟩:∃a,x.r.getD i 0=a:=⟨_,rfl⟩
  obtain⟨b,hb⟩:∃b,x.r.getD (i+1) 0=b:=⟨_,rfl⟩
  rw[ha]at hg0 p2 hlx hll hf hx
  rw[hb]at hg1 p2 hlx hll hf hx
  obtain⟨z,hz⟩:∃z,Yq x.n.net a b=z:=⟨_,rfl⟩
  rw[hz]at p2 hlx hll hf hx
  obtain⟨lk,hlk⟩:∃k,lnk x.n.net z.toNat=k:=⟨_,rfl⟩
  rw[hlk]at hlx hx
  obtain⟨R,hR1,hR2⟩:=Yn5 hm
  have hg0i:x.r[(((i+1:Nat):Int)-1).toNat]? =some a:=by rw[hgi];exact hg0
  have hg1i:x.r[((i+1:Nat):Int).toNat]? =some b:=by rw[hgi1];exact hg1
  have hwb:∀w,St B w0 (many L::(blk g (.cells #[.int .i64 x.n.nodes,.slice x.n.pA x.n.rows.length x.n.pcap,.int .i64 x.n.noise,.int .i64 x.n.thr,.slice x.n.lA x.n.links.length x.n.lcap,.slice x.n.mA x.n.margin.length x.n.mcap,.int .i64 x.s.len,.int .i64 x.s.off,.slice x.s.A x.s.cells.length x.s.cap,.int .i64 x.f.1,.int .i64 x.f.2.1,.int .i64 x.f.2.2.1,.int .i64 x.f.2.2.2.1,.int .i64 x.f.2.2.2.2.1,.int .i64 x.f.2.2.2.2.2,.slice x.A x.r.length x.cap,.int .i64 0] 249 (0,0)))::[many R]) w->St B w0 (many L::HI) w:=λw hw=>hw.perm (Perm.cons _ hR2)
  have hl0:0<=lk.2.2/\lk.2.2<=7:=by
   have h1:=(YO hck).lk z.toNat hll
   rw[<-hlk];exact⟨h1.l0,h1.l1⟩
  have hiK:x.In B w0 [wayB g x,many R]:=hi.mono λw hw=>hw.perm hR2
  have hrr:=hiK.r
  have hlr:=hiK.n.lk
  unfold wayB at hiK hrr hlr
  refine Y6 (blk g (.cells #[.int .i64 x.n.nodes,.slice x.n.pA x.n.rows.length x.n.pcap,.int .i64 x.n.noise,.int .i64 x.n.thr,.slice x.n.lA x.n.links.length x.n.lcap,.slice x.n.mA x.n.margin.length x.n.mcap,.int .i64 x.s.len,.int .i64 x.s.off,.slice x.s.A x.s.cells.length x.s.cap,.int .i64 x.f.1,.int .i64 x.f.2.1,.int .i64 x.f.2.2.1,.int .i64 x.f.2.2.2.1,.int .i64 x.f.2.2.2.2.1,.int .i64 x.f.2.2.2.2.2,.slice x.A x.r.length x.cap,.int .i64 0] 249 (0,0))::many L::[many R]) (λw hw=>hw.perm ((Perm.cons _ hR1).trans (Perm.swap _ _ _))) ?_
  refine zX1 ?_<;>intros
  apply Jb (.n1 0 (.n1 1 (.n1 2 (.n1 3 (.n1 4 (.n1 5 (.n1 6 (.n1 7 (.n1 8 (.n1 9 (.n1 10 (.n1 11 (.n1 12 (.n1 13 (.n1 14 (.n1 15 (.n2 16 (.n1 17 (.n1 18 (.n1 19 .done))) 19 (.n1 16 (.n1 17 (.n1 18 .done)))))))))))))))))))) [20] [true,false,true]
  kernel_rfl
  kernel_rfl
  exact zy
  (simp only[Yc,nthO];rfl)
  repeat'(first|refine Yr T ?_|(apply Yh;try exact zl)|apply(zs91 ?_ ?_)|(apply Xf;try exact zl)|refine zgd ?_|(refine zgh ?_;intro _)|fail)
  all_goals(
   apply Yb Vg
   exact za
   exact rfl
   exactλ_ hw=>(p2 (hiK.mono zk).n hw)
   repeat'(first|(refine Yg5 2 37 rfl rfl rfl (by rintro⟨_,_,_,_,h,_⟩;cases h) ?_)|(apply Yh;try exact zl)|(apply Xf;try exact zl)|refine zgd ?_|(refine zgh ?_;intro _)|fail)
   rename_i g5
   rw[show lk.2.2+0=lk.2.2 from NH _]
   apply Yf (blk g5 (.cells #[.int .i64 lk.1,.int .i64 lk.2.1,.int .i64 lk.2.2] 164 (0,0))::many L::HI)
   ·intro w hw
    have h5:St B w0 (blk g5 (.cells #[.int .i64 lk.1,.int .i64 lk.2.1,.int .i64 lk.2.2] 164 (0,0))::many L::blk g (.cells #[.int .i64 x.n.nodes,.slice x.n.pA x.n.rows.length x.n.pcap,.int .i64 x.n.noise,.int .i64 x.n.thr,.slice x.n.lA x.n.links.length x.n.lcap,.slice x.n.mA x.n.margin.length x.n.mcap,.int .i64 x.s.len,.int .i64 x.s.off,.slice x.s.A x.s.cells.length x.s.cap,.int .i64 x.f.1,.int .i64 x.f.2.1,.int .i64 x.f.2.2.1,.int .i64 x.f.2.2.2.1,.int .i64 x.f.2.2.2.2.1,.int .i64 x.f.2.2.2.2.2,.slice x.A x.r.length x.cap,.int .i64 0] 249 (0,0))::[many R]) w:=by
     revert w
     exact zk
    exact h5.perm (Perm.cons _ (Perm.cons _ hR2))
   have hY:=hy _ _ hx [blk g5 (.cells #[.int .i64 lk.1,.int .i64 lk.2.1,.int .i64 lk.2.2] 164 (0,0))] L hS
   apply Ycw _ _ (hy:=hY)
   ·exact YbI
   ·exact rfl
   ·exact za
   ·exact rfl
   ·rintro⟨_,_,_,_,h,_⟩;cases h
   ·rintro _ ⟨L',hS',rfl⟩
    repeat'(first|refine zgc ?_|fail)
    apply hK (i+1,L')
    ·exact⟨by show i+1+1<=_;omega,hS'⟩
    ·dsimp only;omega
    ·exact zu
    ·exactλw hw=>hw.tail
   ·rintro _ ⟨L',hX',rfl⟩
    repeat'(first|refine zgd ?_|fail)
    apply Yf (many L'::HI)
    ·exactλw hw=>hw.tail
    apply U9;exact rfl
    exact .inr ⟨L',hX',rfl⟩)
 ·refine zX0 ?_<;>intros
  apply JB;exact rfl
  have hl0:i=(JW x).length:=by unfold JW;rw[To,JY];omega
  rw[hl0]at hS
  exact .inl ⟨L,hS,rfl⟩
def Ysq(g:Nat):Value:=.func (.func 355) #[] #[.pointer (some ⟨g,0,none⟩)]
theorem Ydy(x:WayM){H:List HP}{w:World}(hw:St B w0 H w):
 CX B w0 292 [x.val] w λv K=>∃g,v=Ysq g/\K=wayB g x::H:=by
 refine Ya Tryz.func292 Tryz.ntmps292 rfl rfl hw ?_
 repeat'(first|((refine zs52 ?_;intro _))|((apply Ys;exact za;exact rfl))|refine zga ?_|fail)
 apply Yd;exact rfl;exact rfl
 exact⟨_,rfl,rfl⟩
variable {B i:Nat}{w0 w:World}{H:List HP}
theorem YhA(x:WayM)(l:Lk)(g gl:Nat)(c:Cel)(hm:wayB g x∈H)(hml:blk gl (.cells #[.int .i64 l.1,.int .i64 l.2.1,.int .i64 l.2.2] 164 (0,0))∈H)(hw:St B w0 H w):
 CX B w0 356 [celV c,.pointer (some ⟨g,0,none⟩),.pointer (some ⟨gl,0,none⟩)] w λv K=>v=.bool (!(onP x.f.1 l.1 l.2.1 c))/\K=H:=by
 refine Ya Tryz.func356 Tryz.ntmps356 rfl rfl hw ?_
 unfold wayB at hm
 have hb:onP x.f.1 l.1 l.2.1 c=true↔c.2.2.2.2=x.f.1/\c.2.2.1=l.1/\c.2.2.2.1=l.2.1:=by unfold onP XE YF toC;simp_all
 obtain⟨b,hbe⟩:∃b,onP x.f.1 l.1 l.2.1 c=b:=⟨_,rfl⟩
 rw[hbe]at hb⊢
 repeat'(first|refine zgd ?_|(refine zge ?_ ?_<;>intro _<;>try exact zo)|(refine zgh ?_;intro _)|fail)
 all_goals(
  apply Yf H
  ·exact zk
  apply Yd;exact rfl;exact rfl
  cases b<;>simp at hb<;>first|exact⟨rfl,rfl⟩|(exfalso;omega))
theorem YjV(x:WayM)(l:Lk)(hfew:x.s.cells.length<=1000)(hr:Rd B w0 H x.s.A (x.s.cells.flatMap celF))(hw:St B w0 H w):
 CX B w0 293 [x.val,lkV l] w λv K=>∃A cap,v=.slice A (XT x.s.sch x.f.1 l).length cap/\K=cels A cap (XT x.s.sch x.f.1 l)::H:=by
 refine Ya Tryz.func293 Tryz.ntmps293 rfl rfl hw ?_
 unfold WayM.val lkV
 repeat'(first|refine zgb ?_|(refine zgh ?_;intro _)|fail)
 rename_i gw gl
 apply Yg _ Yfa
 exact za
 exact rfl
 exactλ_ hw=>(Jv x.s.cells (by omega) hr.cons.cons (hw))
 rintro _ _ ⟨A',cap',rfl,rfl⟩
 repeat'(first|(apply zg29;(apply Ys;exact za;exact rfl))|fail)
 apply Yg _ YlF
 exact za
 exact rfl
 exactλ_ hw=>(Ui (λc=>!(onP x.f.1 l.1 l.2.1 c)) x.s.cells 356 [.pointer (some ⟨gw,0,none⟩),.pointer (some ⟨gl,0,none⟩)] YwV hfew (λc _ X w hw=>YhA x l gw gl c (SG _ (by unfold wayB;exact zm)) (SG _ zm) hw) (hw))
 rintro _ _ ⟨rfl,rfl⟩
 have e:x.s.cells.filter (λc=>!!(onP x.f.1 l.1 l.2.1 c))=XT x.s.sch x.f.1 l:=Nq λc _=>Bool.not_not _
 rw[e]
 repeat'(first|refine zga ?_|fail)
 apply Yf (cels A' cap' (XT x.s.sch x.f.1 l)::H)
 ·exact zk
 apply Yd;exact rfl;exact rfl
 exact⟨A',cap',rfl,rfl⟩
variable {x:WayM}{l:Lk}
theorem Oc(hok:Ve x)(h:(Yp x.n.net x.r)[i]? =some l):i+1<x.r.length/\0<=l.2.2/\l.2.2<=7:=by
 have hi:=(Tu.1 h).1
 rw[JY]at hi
 have hi:i+1<x.r.length:=by omega
 rw[Wm hi]at h
 have hg:=hok.good i hi
 have h1:=(YO hok.ck).lk _ (XV (VI hg))
 have e:=TJ h
 unfold XS at e
 have h2:=h1.l0;have h3:=h1.l1
 simp_all
theorem Yfv{ls:List Lk}(h:ls[i]? =some l):Zq (ls.take (i+1))=Zq (ls.take i)+Y2 l:=by
 grind [Zq,TB]
theorem Wl{args:List Value}(h:(JW x)[i]? =some args):∃l,(Yp x.n.net x.r)[i]? =some l/\args=[lkV l]:=by
 unfold JW at h
 grind
theorem Yaa{x:WayM}(hok:Ve x):∀i,Zq ((Yp x.n.net x.r).take i)<=8*i
 |0=>TK _
 |i+1=>by
  have ih:=Yaa hok i
  cases h:(Yp x.n.net x.r)[i]? with
  |none=>
   grind [TM]
  |some l=>
   rw[Yfv h]
   have:=Oc hok h
   grind [Y2]
theorem Yiy(x:WayM)(hok:Ve x)(hi:x.In B w0 H)(hw:St B w0 H w):
 CX B w0 402 [x.val] w λv K=>v=.int .i64 (Zq (Yp x.n.net x.r))/\K=H:=by
 refine Zr Tryz.func402 Tryz.ntmps402 rfl rfl hw ?_
 unfold WayM.val
 refine zX26 ?_<;>intros
 rename_i g gN
 apply Yg _ Ytc
 exact za
 exact rfl
 exactλ_ hw=>(Ydy x (hw))
 rintro _ _ ⟨g2,rfl,rfl⟩
 refine zX7 ?_
 have hl9:=hok.len
 have hiK:x.In B w0 (wayB g2 x::wayB g x::H):=hi.cons.cons
 refine Zt (gf:=355) (lb:=[.pointer (some ⟨g2,0,none⟩)]) (xs:=JW x) (wayB g2 x::wayB g x::H) (λz:Int=>[blk gN (.cells #[.int .i64 z] 3 (0,0))]) (λi z=>z=(Zq ((Yp x.n.net x.r).take i):Int)) (λ_ _=>False) 0 rfl Ytk (Ybu x g2 hok hiK (.head _)) rfl ?_ (by kernel_rfl) (by kernel_rfl) ?_ rfl ?_ ?_ (λ_ _ _ h=>h.elim)
 ·grind [TP,Wl]
 ·unfold wayB
  simp only[TA,TC]
  exact zc0
 ·rintro l k args R z hk hI
  obtain⟨lk,hlk,rfl⟩:=Wl hk
  have hbd:=Oc hok hlk
  have hne:=Yaa hok k
  have hst:=Yfv hlk
  try dsimp only at hI
  dsimp only[Uz,List.cons_append,List.nil_append]
  unfold lkV
  refine zX67 ?_<;>intros
  apply JS (Yw Yo)
  intro R'
  unfold wayB
  refine zX3 ?_
  apply Ug (z+(lk.2.2+1))
  ·show z+(lk.2.2+1)=_
   rw[hI,hst]
   unfold Y2
   omega
  ·dsimp only[List.cons_append,List.nil_append]
   exact zc0
 ·rintro D z hI
  try dsimp only at hI
  have hle:(JW x).length=(Yp x.n.net x.r).length:=by unfold JW;exact YfR
  rw[hle,TI]at hI
  dsimp only[List.cons_append,List.nil_append]
  unfold wayB
  refine zX10 ?_
  apply ZZ Yo
  apply VQ_m
  apply Yf H
  ·exact zc0
  apply Yd;exact rfl;exact rfl
  exact⟨by rw[hI],rfl⟩
open Go.RowKit Go.Eng Go.Nw
def netN(g:Nat)(n:NetM):HP:=blk g (.cells #[.int .i64 n.nodes,.slice n.pA n.rows.length n.pcap,.int .i64 n.noise,.int .i64 n.thr,.slice n.lA n.links.length n.lcap,.slice n.mA n.margin.length n.mcap] 26 (0,0))
theorem YbP(n:NetM)(l:List Flw)(s:SchM)(hck:Yl n.net=0)(hlen:l.length<=1000)(hl:s.cells.length<=1000000000000){A:Option Addr}{cap B:Nat}{w0:World}{H:List HP}{w:World}(hin:n.In B w0 H)(hrf:Rd B w0 H A (l.flatMap flwF))(hr:Rd B w0 H s.A (s.cells.flatMap celF))(hw:St B w0 H w):
 CX B w0 262 [n.val,.slice A l.length cap,s.val] w λv K=>v=.tuple #[.int .i64 (X8 n.net l s.sch).1,.int .i64 (X8 n.net l s.sch).2]/\K=H:=by
 refine Ya Tryz.func262 Tryz.ntmps262 rfl rfl hw ?_
 have e4:s.sch.cells.length=s.cells.length:=rfl
 have hE:X8 n.net l s.sch=YD (ZJ n.net l s.sch) s.cells.length 0:=rfl
 rw[hE]
 refine zX73 ?_<;>intros
 rename_i gn gs
 refine Ye (λ(i:Nat)=>[(13,.int .i64 i),(12,.int .i64 s.cells.length),(11,.slice s.A s.cells.length s.cap),(3,.pointer (some ⟨gn,0,none⟩)),(5,.pointer (some ⟨gs,0,none⟩)),(1,.slice A l.length cap)])
  (λ_=>blk gs (.cells #[.int .i64 s.len,.int .i64 s.off,.slice s.A s.cells.length s.cap] 33 (0,0))::netN gn n::H) (λi=>i<=s.cells.length/\∀k,k<i->ZJ n.net l s.sch k=0) (λi=>s.cells.length-i) 0 ⟨Td _,λk hk=>absurd hk (TZ _)⟩ ?_ (λw hw=>hw) ?_
 ·exact zc1
 rintro i ⟨hi,hall⟩ K hK
 unfold netN
 have hrc:=λ(X:HP)=>((hr.cons (X:=netN gn n)).cons (X:=blk gs (.cells #[.int .i64 s.len,.int .i64 s.off,.slice s.A s.cells.length s.cap] 33 (0,0)))).cons (X:=X)
 by_cases hlt:i<s.cells.length
 ·have hget:s.cells[i]? =some (Yj s.sch i):=YM (s:=s.sch) hlt
  have hbad:ZJ n.net l s.sch i≠0->YD (ZJ n.net l s.sch) s.cells.length 0=((i:Int),ZJ n.net l s.sch i):=λh=>Xh (λk _ hk=>hall k hk) (Td _) (by omega) h
  have hstep:ZJ n.net l s.sch i=0->∀k,k<i+1->ZJ n.net l s.sch k=0:=λh k hk=>by
   exact YqQ
  obtain⟨c,hc⟩:∃c,Yj s.sch i=c:=⟨_,rfl⟩
  have hce:ZJ n.net l s.sch i=if XK s.sch c=false then 2 else if YX n.net (YF c) (toC c)=false\/ZB l (XE c)<0 then 7 else if 0<i/\Xg (Yj s.sch (i-1)) c=false then 5 else 0:=by
   unfold ZJ
   rw[hc]
  rw[hc]at hget
  have hplc:=λ{H':List HP}{w:World}(hw:St B w0 H' w)=>Yby s c hw
  cases hp:XK s.sch c with
  |false=>
   rw[hp]at hplc
   rw[hp,Tn rfl]at hce
   rw[hbad (by rw[hce];decide),hce]
   repeat'(first|((apply Yb YhM);exact za;exact rfl;exactλ_ hw=>(hplc hw))|refine zgd ?_|(refine zge ?_ ?_<;>intro _<;>try exact zo)|(refine zgh ?_;intro _)|fail)
   apply Yf H
   ·exact zc0
   exact zc5
  |true=>
  rw[hp]at hplc
  rw[hp,Tj (by decide)]at hce
  have hix:=λ{H':List HP}{w:World}(hin:n.In B w0 H') (hw:St B w0 H' w)=>Zv n c.2.2.1 c.2.2.2.1 hin hw
  have hus:=λ{H':List HP}{w:World}(hin:n.In B w0 H') (hw:St B w0 H' w)=>Uf n (Zj n.net c.2.2.1 c.2.2.2.1) hin hw
  rw[Yjj hck]at hus
  have hfi:=λ{H':List HP}{w:World}(hr:Rd B w0 H' A (l.flatMap flwF)) (hw:St B w0 H' w)=>Ykc l c.2.2.2.2 hlen (cap:=cap) hr hw
  have hgf:YX n.net (YF c) (toC c)=YX n.net c.2.2.1 c.2.2.2.1:=rfl
  have hff:ZB l (XE c)=ZB l c.2.2.2.2:=rfl
  by_cases hg:YX n.net c.2.2.1 c.2.2.2.1=false\/ZB l c.2.2.2.2<0
  ·rw[hgf,hff,Tn hg]at hce
   rw[hbad (by rw[hce];decide),hce]
   cases hgd:YX n.net c.2.2.1 c.2.2.2.1 with
   |false=>
    rw[hgd]at hus
    repeat'(first|((apply Yb YhM);exact za;exact rfl;exactλ_ hw=>(hplc hw))|((apply Yn Vg);exact za;exact rfl;exactλ_ hw=>(hix hin.cons.cons.cons hw))|((apply Yn Ybi);exact za;exact rfl;exactλ_ hw=>(hus hin.cons.cons.cons hw))|(apply zg28;refine zs84 ?_)|refine zgd ?_|(refine zge ?_ ?_<;>intro _<;>try exact zo)|(refine zgh ?_;intro _)|fail)
    apply Yf H
    ·exact zc0
    exact zc5
   |true=>
    have hneg:ZB l c.2.2.2.2<0:=hg.elim (λh=>by rw[hgd]at h;cases h) id
    rw[hgd]at hus
    refine zX76 ?_<;>intros
    apply Yf H
    ·exact zc0
    exact zc5
  have hgd:YX n.net c.2.2.1 c.2.2.2.1=true:=by
   cases h:YX n.net c.2.2.1 c.2.2.2.1 with
   |true=>rfl
   |false=>exact absurd (.inl h) hg
  have hpos:¬ZB l c.2.2.2.2<0:=λh=>hg (.inr h)
  rw[hgf,hff,Tj hg]at hce
  rw[hgd]at hus
  rcases Su i with h0|h0
  ·subst h0
   rw[Tj (by omega)]at hce
   refine zX76 ?_<;>intros
   apply hK (0+1)
   ·exact Ymt
   ·omega
   ·exact zc1
   ·unfold netN
    exact zc0
  have hget2:s.cells[((i:Int)-1).toNat]? =some (Yj s.sch (i-1)):=zc64
  obtain⟨p,hpv⟩:∃p,Yj s.sch (i-1)=p:=⟨_,rfl⟩
  rw[hpv]at hce hget2
  have hcl:=YaG p c
  have hcm:=λ{H':List HP}{w:World}(hw:St B w0 H' w)=>O2 p c hw
  obtain⟨q,hq⟩:∃q,cmpV (nums p) (nums c)=q:=⟨_,rfl⟩
  rw[hq]at hcl hcm
  by_cases hlt2:q<0
  ·rw[hcl.1 hlt2,Tj (by simp)]at hce
   refine zX77 ?_<;>intros
   apply hK (i+1)
   ·exact Ymt
   ·omega
   ·exact zc1
   ·unfold netN
    exact zc0
  ·have hnl:Xg p c=false:=by
    cases h:Xg p c with
    |false=>rfl
    |true=>exact absurd (hcl.2 h) hlt2
   rw[hnl,Tn ⟨h0,rfl⟩]at hce
   rw[hbad (by rw[hce];decide),hce]
   refine zX77 ?_<;>intros
   apply Yf H
   ·exact zc0
   exact zc5
 ·refine zX0 ?_<;>intros
  rw[show i=s.cells.length by omega]at hall
  rw[Xy λk _ hk=>hall k (by omega)]
  apply Yf H
  ·exact zc0
  exact zc5
end Go.Proofs.YtjommdkgfbhbdaaGreatDoor
