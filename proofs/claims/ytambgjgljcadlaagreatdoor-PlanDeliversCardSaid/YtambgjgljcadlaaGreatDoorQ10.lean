/- Lemmas. -/
import Derived.Lib.AtoiAllCases
import Derived.Test.YtambgjgljcadlaaGreatDoorQ8
import Derived.Test.YtambgjgljcadlaaGreatDoorQ9
set_option maxRecDepth 100000
set_option maxHeartbeats 8000000
set_option linter.all false
namespace Go.Proofs.YtambgjgljcadlaaGreatDoor
open Go.RowKit Go.Eng Go.Nw
def Yoq(n:Net)(l:List Flw)(s:Sch):Prop:=∀c∈s.cells,Y3 n (Yr c) (toC c)=true/\0<=Zi l (Y7 c)
def Yos(s:Sch):Prop:=s.cells.Pairwise λa b=>a.1=b.1->YE a b=false
def Yjs(n:Net)(s:Sch):Prop:=∀c∈s.cells,J4 n s.cells c=true
theorem Yqo(s:Sch)(k:Nat):repC s (k+1)=repC s k++s.cells.map (movC ((k:Int)*s.len)):=by
 grind [repC,RD]
variable {s t:Sch}{k i j:Nat}
theorem YbF{x:Cel}:x∈repC s k↔∃i,i<k/\∃c∈s.cells,x=movC ((i:Int)*s.len) c:=by
 unfold repC
 grind
theorem Yis{L:Int}(hL:0<=L)(h:i<j):(i:Int)*L+L<=(j:Int)*L:=by
 have h1:((i:Int)+1)*L<=(j:Int)*L:=RY (by omega) hL
 grind
variable {c:Cel}
theorem Ymg(hf:Frm s)(hc:c∈s.cells):0<=c.1/\c.1<s.len:=by
 have:=hf.formed c hc
 simp_all [ZF,Zl,insE]
theorem Yfs(hf:Frm s){d:Cel}(hc:c∈s.cells)(hd:d∈s.cells)(h:c.1+(i:Int)*s.len=d.1+(j:Int)*s.len):i=j/\c.1=d.1:=by
 have h1:=Ymg hf hc
 have h2:=Ymg hf hd
 rcases NN i j with h3|h3|h3
 ·have:=Yis (L:=s.len) (by omega) h3;omega
 ·simp_all
 ·have:=Yis (L:=s.len) (by omega) h3;omega
structure Rep(s t:Sch)(k:Nat):Prop where
 k1:1<=k
 frm:Frm s
 len:t.len=s.len*k
 off:t.off=s.off
 cells:t.cells=repC s k
 l512:s.len*k<=512
 c512:s.cells.length*k<=512
theorem Yde{s:Sch}{p q:Cel->Bool}{j0:Nat}(hq:∀d∈s.cells,p (movC ((j0:Int)*s.len) d)=q d):∀{m:Nat},(∀j,j<m->j≠j0->∀d∈s.cells,p (movC ((j:Int)*s.len) d)=false)->(repC s m).filter p=if j0<m then(s.cells.filter q).map (movC ((j0:Int)*s.len))else []
 |0,_=>by simp[repC]
 |m+1,h=>by
  rw[Yqo,Sv,Yde hq λj hj=>h j (by omega),List.filter_map]
  by_cases e:m=j0
  ·simp_all [List.filter_congr]
  ·have hz:s.cells.filter (p∘movC ((m:Int)*s.len))=[]:=by
    simp_all
   grind
theorem YsC(n:Net)(node d:Int)(l:List Cel):sumC n node (l.map (movC d))=sumC n node l:=by
 unfold sumC
 rw[N7]
 rfl
theorem Rep.dist(h:Rep s t k)(n:Net)(hi:i<k)(hc:c∈s.cells)(node:Int):V9 n t.cells (movC ((i:Int)*s.len) c) node=V9 n s.cells c node:=by
 unfold V9
 rw[h.cells,Yde (j0:=i) (q:=λd=>XB c d&&decide (d≠c)),Tj hi,YsC]
 ·intro d hd
  have h2:(movC ((i:Int)*s.len) d≠movC ((i:Int)*s.len) c)↔d≠c:=by
   grind [movC]
  simp_all [XB,movC]
 ·intro j hj hne d hd
  have:XB (movC ((i:Int)*s.len) c) (movC ((j:Int)*s.len) d)=false:=by
   refine Tn ?_
   rintro⟨h3,_⟩
   exact hne (Yfs h.frm hd hc h3).1
  simp_all
theorem Rep.good(h:Rep s t k)(n:Net)(l:List Flw):Yoq n l t↔Yoq n l s:=by
 unfold Yoq
 rw[h.cells]
 constructor
 ·intro hg c hc
  exact hg (movC (((0:Nat):Int)*s.len) c) (YbF.2 ⟨0,h.k1,c,hc,rfl⟩)
 ·intro hg x hx
  obtain⟨i,_,c,hc,rfl⟩:=YbF.1 hx
  exact hg c hc
theorem Rep.once(h:Rep s t k):Yos t↔Yos s:=by
 unfold Yos
 rw[h.cells]
 unfold repC
 rw[List.pairwise_flatMap]
 constructor
 ·rintro⟨h1,_⟩
  have:=h1 0 (TN.2 h.k1)
  rw[N8]at this
  exact this.imp λ{a b} hab e=>hab (by grind [movC])
 ·intro ho
  refine⟨λi _=>?_,?_⟩
  ·rw[N8]
   exact ho.imp λ{a b} hab e=>hab (by grind [movC])
  ·refine List.pairwise_lt_range.imp λ{i j} hij x hx y hy e=>?_
   obtain⟨a,ha,rfl⟩:=TE.1 hx
   obtain⟨b,hb,rfl⟩:=TE.1 hy
   have:=(Yfs h.frm ha hb e).1
   omega
theorem Rep.clear(h:Rep s t k)(n:Net):Yjs n t↔Yjs n s:=by
 have hc:∀i,i<k->∀c∈s.cells,J4 n t.cells (movC ((i:Int)*s.len) c)=J4 n s.cells c:=λi hi c hc=>by
  unfold J4
  have e1:Yr (movC ((i:Int)*s.len) c)=Yr c:=rfl
  have e2:toC (movC ((i:Int)*s.len) c)=toC c:=rfl
  rw[e1,e2,h.dist n hi hc,h.dist n hi hc]
 unfold Yjs
 constructor
 ·intro hg c hcm
  rw[<-hc 0 h.k1 c hcm]
  exact hg _ (by rw[h.cells];exact YbF.2 ⟨0,h.k1,c,hcm,rfl⟩)
 ·intro hg x hx
  rw[h.cells]at hx
  grind [YbF]
theorem YcL{α:Type}(p:α->Bool):∀(l:List α) (k:Int),(l.filter (λa=>!p a)=l/\Yi p l k= -1)\/∃j,j<l.length/\Yi p l k=k+j/\(l.take j).filter (λa=>!p a)=l.take j/\∃a,l[j]? =some a/\p a=true
 |[],_=>.inl ⟨rfl,rfl⟩
 |a::l,k=>by
  unfold Yi
  cases h:p a with
  |true=>exact .inr ⟨0,by simp,by simp,rfl,a,rfl,h⟩
  |false=>
   rw[Tf (by decide)]
   have hn:(!p a)=true:=by simp_all
   rcases YcL p l (k+1)with⟨h1,h2⟩|⟨j,h1,h2,h3,b,h4,h5⟩
   ·simp_all
   exact Yt9
variable {A:Option Addr}{cap B:Nat}{w0 w:World}{H:List HP}
theorem YcO(p:Cel->Bool)(l:List Cel)(f:Nat)(cs:List Value)(hen:∀xs w,(callFunc f xs).run Tryz.prog w=.ok (.enter f xs) w)(hlen:l.length<=1000)(hr:Rd B w0 H A (l.flatMap celF))
 (hp:∀a∈l,∀w,St B w0 H w->Calls Tryz.prog f ([celV a]++cs).toArray w (Post B w0 λv K=>v=.bool (p a)/\K=H)) (hw:St B w0 H w):
 CX B w0 233 [.slice A l.length cap,.func (.func f) #[] cs.toArray] w λv K=>v=.int .i64 (Yi p l 0)/\K=H:=by
 refine Ya Tryz.func233 Tryz.ntmps233 rfl rfl hw ?_
 refine zX9 ?_
 refine Yh (λ(k:Nat)=>[(8,.int .i64 k),(7,.int .i64 l.length),(0,.slice A l.length cap),(1,.func (.func f) #[] cs.toArray)]) (λ_=>H) (λk=>k<=l.length/\Yi p l 0=Yi p (l.drop k) k) (λk=>l.length-k) 0 ⟨Tm _,by simp⟩ ?_ (λw hw=>hw) ?_
 ·exact zc1
 rintro k ⟨hk,hi⟩ K hK
 by_cases hlt:k<l.length
 ·obtain⟨a,ha⟩:∃a,l[k]? =some a:=⟨_,Ta hlt⟩
  have hpa:=hp a (Tc ha)
  rw[Zu p l ha]at hi
  refine zX10 ?_<;>intros
  cases hpv:p a
  ·rw[hpv]at hi
   refine zX9 ?_
   apply hK (k+1)
   ·grind
   ·omega
   ·exact zc1
   exact zc19
  exact zc8
 exact zc4
structure Kc where
 i:Nat
 j:Nat
 M:List Cel
theorem V8(p:Cel->Bool)(l:List Cel)(f:Nat)(cs:List Value)(hen:∀xs w,(callFunc f xs).run Tryz.prog w=.ok (.enter f xs) w)(hlen:l.length<=1000)
 (hp:∀a∈l,∀(X:List HP) w,St B w0 (X++H) w->Calls Tryz.prog f ([celV a]++cs).toArray w (Post B w0 λv K=>v=.bool (p a)/\K=X++H)) (hw:St B w0 (cels A cap l::H) w):
 CX B w0 161 [.slice A l.length cap,.func (.func f) #[] cs.toArray] w λv K=>v=.slice A (l.filter λa=>!p a).length cap/\K=cels A cap (l.filter λa=>!p a)::H:=by
 refine Ya Tryz.func161 Tryz.ntmps161 rfl rfl hw ?_
 refine Qg (e:=117) (size:=5) (A:=A) (xs:=l.flatMap celF) (k:=l.length) (cap:=cap) TB λhcap=>?_
 have hif:=λ{w:World}(hw:St B w0 (cels A cap l::H) w)=>YcO p l f cs hen hlen (cap:=cap) (.sl TB) (λa ha w hw=>hp a ha [cels A cap l] w hw) hw
 rcases YcL p l 0 with⟨h1,h2⟩|⟨i0,h1,h2,h3,a0,h4,h5⟩
 ·rw[h2]at hif
  rw[h1]
  repeat'(first|((first|apply Yb YeI|apply Yc YeI);exact za;exact rfl;exactλ_ hw=>(hif hw))|refine zgb ?_|(refine zge ?_ ?_<;>intro _<;>try exact zo)|fail)
  exact zc5
 rw[h2,Int.zero_add]at hif
 repeat'(first|((first|apply Yb YeI|apply Yc YeI);exact za;exact rfl;exactλ_ hw=>(hif hw))|refine zgc ?_|(refine zge ?_ ?_<;>intro _<;>try exact zo)|fail)
 refine Yh (λ(z:Kc)=>[(6,.int .i64 z.j),(5,.int .i64 z.i),(0,.slice A z.M.length cap),(1,.func (.func f) #[] cs.toArray)]) (λz=>cels A cap z.M::H) (λz=>z.M.length=l.length/\z.i<z.j/\z.j<=l.length/\z.M.take z.i=(l.take z.j).filter (λa=>!p a)/\z.M.drop z.j=l.drop z.j) (λz=>l.length-z.j) ⟨i0,i0+1,l⟩ ⟨rfl,by exact zc31,by exact zc31,?_,rfl⟩ ?_ (λw hw=>hw) ?_
 ·exact Yug
 ·exact zc1
 rintro⟨i,j,M⟩ ⟨hM,hij,hj,ht,hd⟩ K hK
 simp only at hM hij hj ht hd⊢
 unfold cels
 by_cases hlt:j<l.length
 ·obtain⟨a,ha⟩:∃a,l[j]? =some a:=⟨_,Ta hlt⟩
  have hMa:M[j]? =some a:=zc95
  have hpa:=λ{X1 X2:HP}{w:World}(hw:St B w0 (X1::X2::H) w)=>hp a (Tc ha) [X1,X2] w hw
  have hft:(l.take (j+1)).filter (λa=>!p a)=M.take i++(if p a=true then []else [a]):=Yt3
  obtain⟨b,hb⟩:∃b,p a=b:=⟨_,rfl⟩
  rw[hb]at hft hpa
  have hd1:∀x:Cel,(M.set i x).drop (j+1)=l.drop (j+1):=λx=>by
   exact Yt6
  cases b with
  |true=>
   rw[Tj rfl,Ri]at hft
   refine zX27 ?_<;>intros
   apply hK ⟨i,j+1,M⟩
   ·exact⟨hM,by exact zc31,by exact zc31,hft.symm,by exact Yut⟩
   ·exact zc31
   ·exact zc1
   ·exact zc56
  |false=>
   rw[Tf (by decide)]at hft
   have hMl:(M.set i a).length=M.length:=TT
   repeat'(first|((first|apply YU (cs:=cs));exact rfl;exact hen;exact za;exact rfl;exactλ_ hw=>hpa hw)|(apply Xw T (f:=celF) (l:=M) (i:=i) (a:=a);(iterate 3 exact rfl);exact zd;exactλ_=>rfl;(iterate 3 exact rfl);omega)|refine zgd ?_|(refine zge ?_ ?_<;>intro _<;>try exact zo)|(refine zgh ?_;intro _)|fail)
   apply hK ⟨i+1,j+1,M.set i a⟩
   ·refine⟨by exact zc31,by exact zc31,by exact zc31,?_,hd1 a⟩
    exact YtM
   ·exact zc31
   ·dsimp only
    rw[hMl]
    exact zc1
   ·unfold cels
    dsimp only
    rw[hMl]
    exact zc56
 ·obtain rfl:j=l.length:=by omega
  clear hK
  rw[TP]at ht
  have hil:(l.filter λa=>!p a).length=i:=by rw[<-ht,TX];omega
  have hfl:(M.flatMap celF).take (i*5)=(l.filter λa=>!p a).flatMap celF:=by rw[<-Xz (q:=5) (λ_=>rfl),ht]
  refine zX29 ?_<;>intros
  rw[Rx]
  apply Xv (sl 117 5 A i cap ((l.filter λa=>!p a).flatMap celF)::H)
  ·exact zc74
  apply Qj T T2 (e:=117) (size:=5) (k:=i) (xs:=(l.filter λa=>!p a).flatMap celF);exact rfl;exact TB;(iterate 3 exact rfl);omega
  refine zX30 ?_
  exact YtL
open Go.RowKit Go.Eng Go.Nw Go.Rt
variable {l:List Int}{A:Option Addr}{cap B k:Nat}{w0:World}{H:List HP}
theorem YwK(k:Nat)(hr:Rd B w0 H A (l.flatMap numF))(hc:l.length<=cap):Rd B w0 H (subA A 0 cap 1) ((l.take k).flatMap numF):=by
 have h:=Rd.sub (f:=numF) (q:=1) (o:=0) (k:=k) (λ_=>rfl) hr hc
 simp_all
theorem Ytq(o:Nat)(hr:Rd B w0 H A (l.flatMap numF))(hc:l.length<=cap):Rd B w0 H (subA A o cap 1) ((l.drop o).flatMap numF):=by
 have h:=Rd.sub (f:=numF) (q:=1) (o:=o) (k:=(l.drop o).length) (λ_=>rfl) hr hc
 grind
variable {p:Nat->Bool}
theorem Yel(h:(List.range k).any p=false)(h2:p k=false):(List.range (k+1)).any p=false:=by
 grind
theorem Yho{n:Nat}(hk:k<n)(h:p k=true):(List.range n).any p=true:=by grind
theorem Yct(n:NetM)(s t:Int)(r:List Int){w:World}(hin:n.In B w0 H)(hck:Yp n.net=0)(hr:Rd B w0 H A (r.flatMap numF))(hlen:r.length<=9223372036854775807)(hcap:r.length<=cap)(hw:St B w0 H w):
 CX B w0 164 [n.val,.int .i64 s,.int .i64 t,.slice A r.length cap] w λv K=>v=.int .i64 (VG n.net s t r)/\K=H:=by
 refine Ya Tryz.func164 Tryz.ntmps164 rfl rfl hw ?_
 (apply Xm;apply YY;apply YV;exact rfl;exact rfl;intro g)
 have hnm:netB g n∈netB g n::H:=TB
 unfold VG
 by_cases h1:r.length<2
 ·rw[Tj h1]
  refine zX1 ?_<;>intros
  exact zc80
 rw[Tf h1]
 by_cases h2:9<r.length
 ·rw[Tj h2]
  refine zX13 ?_<;>intros
  exact zc80
 rw[Tf h2]
 have hoff:=λ{w:World}(hw:St B w0 (netB g n::H) w)=>Qv (λa:Int=>Value.int .i64 a) (offE n.net) r 235 [.pointer (some ⟨g,0,none⟩)] Ywe hlen (cap:=cap) (hr.cons) (λa _ w hw=>YhO n a g hnm hw) hw
 obtain⟨b3,h3⟩:∃b,r.any (offE n.net)=b:=⟨_,rfl⟩
 rw[h3]at hoff⊢
 cases b3 with
 |true=>
  rw[Tj rfl]
  refine zX48 ?_<;>intros
  exact zc80
 |false=>
  rw[Tf (by decide)]
  have hg0:=XY (l:=r) (i:=0) (by omega)
  have hg1:=XY (l:=r) (i:=r.length-1) (by omega)
  have hgi:((r.length:Int)-1).toNat=r.length-1:=by omega
  rw[<-hgi]at hg1
  by_cases h4:r.getD 0 0≠s\/r.getD (r.length-1) 0≠t
  ·rw[Tj h4]
   rw[<-hgi]at h4
   repeat'(first|((first|apply Yb YlF|apply Yc YlF);exact za;exact rfl;exactλ_ hw=>(hoff hw))|(apply zg29;(apply Yo;exact za;exact rfl))|refine zgd ?_|(refine zgf ?_ ?_<;>intro _<;>try exact zo)|fail)
   all_goals first
    |((repeat apply Yn);apply Yf;exact rfl;exact rfl;exact⟨rfl,rfl⟩)
    |skip
   done
  rw[Tf h4]
  rw[<-hgi]at h4
  refine zX48 ?_<;>intros
  refine Yh (λ(k:Nat)=>[(43,.int .i64 k),(42,.int .i64 r.length),(41,.slice A r.length cap),(3,.slice A r.length cap),(4,.pointer (some ⟨g,0,none⟩))]) (λ_=>netB g n::H) (λk=>k<=r.length/\((List.range k).any λi=>(r.take i).contains (r.getD i 0))=false) (λk=>r.length-k) 0 ⟨Tm _,rfl⟩ ?_ (λw hw=>hw) ?_
  ·exact zc1
  rintro k ⟨hk,hi⟩ K hK
  by_cases hlt:k<r.length
  ·have hgk:=XY (l:=r) (i:=k) hlt
   obtain⟨b,hb⟩:∃b,(r.take k).contains (r.getD k 0)=b:=⟨_,rfl⟩
   have hbm:decide (r.getD k 0∈r.take k)=b:=by rw[<-hb];simp
   have hcon:=λ{w:World}(hw:St B w0 (netB g n::H) w)=>Jl (r.take k) (r.getD k 0) Yfy (cap:=cap) (YwK k (hr.cons (X:=netB g n)) hcap) hw
   rw[hbm]at hcon
   cases b with
   |true=>
    refine zX49 ?_<;>intros
    (repeat apply Yn);apply Yf;exact rfl;exact rfl
    have htw:Yaz r=true:=Yho hlt hb
    exact⟨by rw[Tj htw],rfl⟩
   |false=>
    refine zX49 ?_<;>intros
    apply hK (k+1)
    ·exact⟨by omega,Yel hi hb⟩
    ·omega
    ·exact zc1
    exact zc19
  obtain rfl:k=r.length:=by omega
  clear hK
  have htw:Yaz r=false:=hi
  rw[Tf (by rw[htw];decide)]
  have hdl:(r.drop 1).length=r.length-1:=Ro
  repeat'(first|(apply X0 T (n':=(r.drop 1).length);(iterate 4 exact rfl);omega;(rw[hdl];rfl))|refine zgc ?_|(refine zge ?_ ?_<;>intro _<;>try exact zo)|fail)
  refine Yh (λ(k:Nat)=>[(57,.int .i64 k),(56,.int .i64 (r.drop 1).length),(55,.slice (subA A 1 cap 1) (r.drop 1).length (cap-1)),(3,.slice A r.length cap),(4,.pointer (some ⟨g,0,none⟩))]) (λ_=>netB g n::H) (λk=>k<=(r.drop 1).length/\((List.range k).any λi=>!Y3 n.net (r.getD i 0) (r.getD (i+1) 0))=false) (λk=>(r.drop 1).length-k) 0 ⟨Tm _,rfl⟩ ?_ (λw hw=>hw) ?_
  ·exact zc1
  rintro k ⟨hk,hi⟩ K hK
  have hr1:Rd B w0 (netB g n::H) (subA A 1 cap 1) ((r.drop 1).flatMap numF):=Ytq 1 (hr.cons) hcap
  have hr0:Rd B w0 (netB g n::H) A (r.flatMap numF):=hr.cons
  by_cases hlt:k<(r.drop 1).length
  ·have hgk:=XY (l:=r) (i:=k) (by omega)
   have hgk1:(r.drop 1)[k]? =some (r.getD (k+1) 0):=by
    rw[RS,Nat.add_comm];exact XY (by omega)
   obtain⟨b,hb⟩:∃b,Y3 n.net (r.getD k 0) (r.getD (k+1) 0)=b:=⟨_,rfl⟩
   have hus:=λ{w:World}(hw:St B w0 (netB g n::H) w)=>V4 n (XG n.net (r.getD k 0) (r.getD (k+1) 0)) (hin.cons (X:=netB g n)) hw
   rw[YgV hck,hb]at hus
   cases b with
   |true=>
    refine zX51 ?_<;>intros
    apply hK (k+1)
    ·exact⟨by omega,Yel hi (by rw[hb];rfl)⟩
    ·omega
    ·exact zc1
    exact zc19
   |false=>
    refine zX51 ?_<;>intros
    (repeat apply Yn);apply Yf;exact rfl;exact rfl
    have hbr:V7 n.net r=true:=Yho (k:=k) (by omega) (by rw[hb];rfl)
    exact⟨by rw[Tj hbr],rfl⟩
  ·obtain rfl:k=(r.drop 1).length:=by omega
   clear hK
   refine zX0 ?_<;>intros
   (repeat apply Yn);apply Yf;exact rfl;exact rfl
   have hbr:V7 n.net r=false:=by rw[hdl]at hi;exact hi
   exact⟨by rw[Tf (by rw[hbr];decide)],rfl⟩
def Zk(n:Net)(l:List Cel)(i:Nat):Bool:=
 !(JQ n (XG n (Yr (celL l i)) (toC (celL l i))))||((List.range l.length).any λk=>decide (k≠i)&&YE (celL l i) (celL l k))
   ||(!(X8 n (mar n (Yy n (Yr (celL l i)) (toC (celL l i))).toNat) (Yx n l i (toC (celL l i)) l.length))||!(X8 n (mar n (Yy n (toC (celL l i)) (Yr (celL l i))).toNat) (Yx n l i (Yr (celL l i)) l.length)))
def Jn(n:Net)(l:List Cel):Bool:=decide (Yp n=0)&&(List.range l.length).all λi=>!(Zk n l i)
def atP(slot off:Int)(c:Cel):Bool:=decide (c.1=slot/\c.2.1=off)
abbrev nrs(A:Option Addr)(cap:Nat)(l:List Int):HP:=sl 3 1 A l.length cap (l.flatMap numF)
theorem W4(A:Option Addr)(cap:Nat)(l:List Int)(z:Int):sl 3 1 A (l.length+1) cap (l.flatMap numF++#[Value.int .i64 z].toList)=nrs A cap (l++[z]):=by simp[nrs,List.flatMap_append,numF]
def onP(id a b:Int)(c:Cel):Bool:=decide (Y7 c=id/\Yr c=a/\toC c=b)
def YZ(s:Sch)(id:Int)(l:Lk):List Cel:=s.cells.filter (onP id l.1 l.2.1)
def Xd(len a:Int):List Cel->Nat->List (Cel×Int)
 |[],_=>[]
 |c::cs,k=>if c.1=a.tmod len/\k≠0 then(c,a)::Xd len a cs (k-1)else Xd len a cs k
def hopP(len:Int)(cs:List Cel):Nat->Nat->Int->List (Cel×Int)
 |0,_,_=>[]
 |f+1,k,a=>Xd len a cs k++hopP len cs f (k-(Xd len a cs k).length) (a+1)
def Yu(x:List (Cel×Int))(a:Int):Int:=match x.getLast? with|some z=>z.2+1|none=>a
def YN(l:Lk):Nat:=(l.2.2+1).toNat
def runP(len:Int)(C:Lk->List Cel)(endd:Int):List Lk->Int->List (Cel×Int)
 |[],_=>[]
 |l::ls,a=>if(hopP len (C l) (endd-a).toNat (YN l) a).length<YN l then hopP len (C l) (endd-a).toNat (YN l) a
  else hopP len (C l) (endd-a).toNat (YN l) a++runP len C endd ls (Yu (hopP len (C l) (endd-a).toNat (YN l) a) a)
def Xi(ls:List Lk):Nat:=(ls.map YN).sum
theorem Od(len a:Int):∀(cs:List Cel) (k:Nat),(Xd len a cs k).length<=k
 |[],k=>Tm _
 |c::cs,k=>by
  unfold Xd
  split
  ·rename_i h
   have:=Od len a cs (k-1)
   rw[TS];omega
  ·exact Od len a cs k
theorem UN{len a:Int}:∀{cs:List Cel}{k:Nat}{z:Cel×Int},z∈Xd len a cs k->z.2=a
 |[],k,z,h=>by cases h
 |c::cs,k,z,h=>by
  unfold Xd at h
  split at h
  ·rcases TV.1 h with rfl|h
   ·rfl
   ·exact UN h
  ·exact UN h
theorem Yn7(len a:Int):∀cs:List Cel,Xd len a cs 0=[]:=λcs=>R7 (Nat.le_zero.1 (Od len a cs 0))
theorem QE(len:Int)(cs:List Cel):∀(f k:Nat) (a:Int),(hopP len cs f k a).length<=k
 |0,k,a=>Tm _
 |f+1,k,a=>by
  unfold hopP
  have h1:=Od len a cs k
  have h2:=QE len cs f (k-(Xd len a cs k).length) (a+1)
  rw[To];omega
theorem Yh5(len:Int)(cs:List Cel)(f:Nat)(a:Int):hopP len cs f 0 a=[]:=R7 (Nat.le_zero.1 (QE len cs f 0 a))
theorem Oq{len:Int}{cs:List Cel}:∀{f k:Nat}{a:Int}{z:Cel×Int},z∈hopP len cs f k a->a<=z.2/\z.2<a+f
 |0,k,a,z,h=>by cases h
 |f+1,k,a,z,h=>by
  unfold hopP at h
  rcases TF.1 h with h|h
  ·have:=UN h;omega
  ·have:=Oq h;omega
theorem YbH(len:Int)(C:Lk->List Cel)(endd:Int):∀(ls:List Lk) (a:Int),(runP len C endd ls a).length<=Xi ls
 |[],a=>Tm _
 |l::ls,a=>by
  have h1:=QE len (C l) (endd-a).toNat (YN l) a
  have h2:=YbH len C endd ls (Yu (hopP len (C l) (endd-a).toNat (YN l) a) a)
  have h3:Xi (l::ls)=YN l+Xi ls:=by unfold Xi;rw[Rh,NI]
  unfold runP
  split
  ·omega
  ·rw[To];omega
variable {x:List (Cel×Int)}{a b endd:Int}
theorem YoZ(h:∀z∈x,a<=z.2/\z.2<b)(hab:a<=b):a<=Yu x a/\Yu x a<=b:=by
 unfold Yu
 cases hx:x.getLast? with
 |none=>exact⟨RI _,hab⟩
 |some z=>
  have:=h z (NP hx)
  simp only
  omega
theorem YbJ{len:Int}{C:Lk->List Cel}{endd:Int}:∀{ls:List Lk}{a:Int}{z:Cel×Int},a<=endd->z∈runP len C endd ls a->a<=z.2/\z.2<endd
 |[],a,z,_,h=>by cases h
 |l::ls,a,z,hae,h=>by
  have hb:∀z∈hopP len (C l) (endd-a).toNat (YN l) a,a<=z.2/\z.2<endd:=λz hz=>by
   have:=Oq hz;omega
  unfold runP at h
  split at h
  ·exact hb z h
  ·rcases TF.1 h with h|h
   ·exact hb z h
   ·have h1:=YoZ hb hae
    have:=YbJ h1.2 h
    omega
def Wy(len:Int)(C:Lk->List Cel)(endd:Int)(cs:List Cel)(ls:List Lk)(f k:Nat)(a at_:Int):List (Cel×Int):=
 if(hopP len cs f k a).length<k then hopP len cs f k a else hopP len cs f k a++runP len C endd ls (Yu (hopP len cs f k a) at_)
theorem Yqw(len:Int)(C:Lk->List Cel)(endd:Int)(l:Lk)(ls:List Lk)(a:Int):runP len C endd (l::ls) a=Wy len C endd (C l) ls (endd-a).toNat (YN l) a a:=rfl
theorem Yod(len:Int)(C:Lk->List Cel)(endd:Int)(cs:List Cel)(ls:List Lk)(f:Nat)(a at_:Int):Wy len C endd cs ls f 0 a at_=runP len C endd ls at_:=by
 unfold Wy
 rw[Yh5,Tf (RP _)]
 rfl
variable {C:Lk->List Cel}{cs cs':List Cel}{ls:List Lk}{k f:Nat}
theorem YqG{len:Int}{at_:Int}(hk:k≠0):Wy len C endd cs ls 0 k a at_=[]:=by
 unfold Wy
 rw[Tj (by simp[hopP];omega)]
 rfl
theorem YmL{y:List (Cel×Int)}(hy:∀z∈y,z.2+1=b):Yu (y++x) a=Yu x (if y=[]then a else b):=by
 unfold Yu
 cases hx:x.getLast? with
 |some z=>rw[List.getLast?_append,hx];rfl
 |none=>
  obtain rfl:=SX.1 hx
  rw[Ri]
  cases hy2:y.getLast? with
  |none=>
   obtain rfl:=SX.1 hy2
   rfl
  |some z=>
   have hne:y≠[]:=λe=>by rw[e]at hy2;cases hy2
   rw[Tf hne]
   exact hy z (NP hy2)
theorem Yoe(len:Int)(C:Lk->List Cel)(endd:Int)(cs:List Cel)(ls:List Lk)(f k:Nat)(a at_:Int):
 Wy len C endd cs ls (f+1) k a at_=Xd len a cs k++Wy len C endd cs ls f (k-(Xd len a cs k).length) (a+1) (if Xd len a cs k=[]then at_ else a+1):=by
 have hl:=Od len a cs k
 have h1:hopP len cs (f+1) k a=Xd len a cs k++hopP len cs f (k-(Xd len a cs k).length) (a+1):=rfl
 unfold Wy
 rw[h1,To]
 by_cases h2:(hopP len cs f (k-(Xd len a cs k).length) (a+1)).length<k-(Xd len a cs k).length
 ·rw[Tj h2,Tj (by omega)]
 ·rw[Tf h2,Tf (by omega),YmL (b:=a+1) (λz hz=>by rw[UN hz]),Ru]
def OL(len:Int)(C:Lk->List Cel)(endd:Int)(cs cs':List Cel)(ls:List Lk)(f k:Nat)(a at_:Int):List (Cel×Int):=
 Xd len a cs' k++Wy len C endd cs ls f (k-(Xd len a cs' k).length) (a+1) (if Xd len a cs' k=[]then at_ else a+1)
theorem Yqq(len:Int)(C:Lk->List Cel)(endd:Int)(cs:List Cel)(ls:List Lk)(f k:Nat)(a at_:Int):OL len C endd cs cs ls f k a at_=Wy len C endd cs ls (f+1) k a at_:=(Yoe ..).symm
theorem Yqr(len:Int)(C:Lk->List Cel)(endd:Int)(cs:List Cel)(ls:List Lk)(f k:Nat)(a at_:Int):OL len C endd cs [] ls f k a at_=Wy len C endd cs ls f k (a+1) at_:=by
 simp[OL,Xd]
variable {c:Cel}
theorem Yqs{len:Int}{at_:Int}(h:c.1=a.tmod len)(hk:k≠0):
 OL len C endd cs (c::cs') ls f k a at_=(c,a)::OL len C endd cs cs' ls f (k-1) a (a+1):=by
 have h1:Xd len a (c::cs') k=(c,a)::Xd len a cs' (k-1):=by rw[Xd,Tj ⟨h,hk⟩]
 unfold OL
 rw[h1,TS,Tf (List.cons_ne_nil _ _),show k-((Xd len a cs' (k-1)).length+1)=k-1-(Xd len a cs' (k-1)).length by omega]
 simp
theorem Ysw{len:Int}{at_:Int}(h:¬(c.1=a.tmod len/\k≠0)):
 OL len C endd cs (c::cs') ls f k a at_=OL len C endd cs cs' ls f k a at_:=by
 unfold OL
 rw[Xd,Tf h]
def runR(len:Int)(C:Lk->List Cel)(endd:Int):List Lk->Int->Option (List Int)
 |[],_=>some []
 |l::ls,a=>if(hopP len (C l) (endd-a).toNat (YN l) a).length<YN l then none
  else(runR len C endd ls (Yu (hopP len (C l) (endd-a).toNat (YN l) a) a)).map λy=>(hopP len (C l) (endd-a).toNat (YN l) a).map Prod.snd++y
theorem YbI(len:Int)(C:Lk->List Cel)(endd:Int):∀(ls:List Lk) (a:Int),runR len C endd ls a=if(runP len C endd ls a).length<Xi ls then none else some ((runP len C endd ls a).map Prod.snd)
 |[],a=>rfl
 |l::ls,a=>by
  have h3:Xi (l::ls)=YN l+Xi ls:=by unfold Xi;rw[Rh,NI]
  have hl:=QE len (C l) (endd-a).toNat (YN l) a
  unfold runR runP
  by_cases h:(hopP len (C l) (endd-a).toNat (YN l) a).length<YN l
  ·rw[Tj h,Tj h,Tj (by omega)]
  ·rw[Tf h,Tf h,YbI len C endd ls]
   by_cases h4:(runP len C endd ls (Yu (hopP len (C l) (endd-a).toNat (YN l) a) a)).length<Xi ls
   ·rw[Tj h4,Tj (by rw[To];omega)];rfl
   ·rw[Tf h4,Tf (by rw[To];omega)];simp
def X9(n:Net)(r:List Int)(i:Nat):Lk:=lnk n (Yy n (r.getD i 0) (r.getD (i+1) 0)).toNat
def Yq(n:Net)(r:List Int):List Lk:=(List.range (r.length-1)).map (X9 n r)
def VY(n:Net)(s:Sch)(f:Flw)(r:List Int)(release:Int):Option (List Int):=runR s.len (YZ s f.1) (release+f.2.2.2.1) (Yq n r) release
def Ja(l:List Int):Int:=l.getD (l.length-1) 0
def V6(S:Int->Option (List Int))(len period:Int):Nat->Int->Int×Int×List Int->Option (Int×Int×List Int)
 |0,_,b=>some b
 |k+1,rel,b=>if len<=rel then some b else match S rel with
  |none=>none
  |some l=>V6 S len period k (rel+period) (if b.1<Ja l-rel+1 then(Ja l-rel+1,rel,l.map λz=>z-rel)else b)
def J3(n:Net)(s:Sch)(f:Flw)(r:List Int):Option (Int×Int×List Int):=V6 (VY n s f r) s.len f.2.2.2.1 s.len.toNat f.2.2.2.2.1 (0,0,[])
def wayE(n:Net)(s:Sch)(f:Flw)(r:List Int):Int:=
 if Yp n≠0\/Y5 s=false\/YX n.nodes f≠0 then 1 else if s.len.tmod f.2.2.2.1≠0 then 11 else X6 n f.2.1 f.2.2.1 r
def Y4(n:Net)(s:Sch)(f:Flw)(r:List Int):(Int×Int×List Int)×Int:=
 if wayE n s f r≠0 then((0,0,[]),wayE n s f r)else match J3 n s f r with
  |none=>((0,0,[]),15)
  |some b=>(b,0)
end Go.Proofs.YtambgjgljcadlaaGreatDoor
namespace Go.Eng
open Go.RowKit
end Go.Eng
namespace Go.Proofs.YtambgjgljcadlaaGreatDoor
open Go.RowKit Go.Eng Go.Nw
theorem ZE{f:Nat->Int}:∀{r i0 i:Nat},(∀k,i0<=k->k<i->f k=0)->i0<=i->i<i0+r->f i≠0->YT f r i0=((i:Int),f i)
 |0,i0,i,_,h1,h2,_=>by omega
 |r+1,i0,i,h0,h1,h2,h3=>by
  unfold YT
  by_cases e:i0=i
  ·subst e;rw[Tf h3]
  ·rw[Tj (h0 i0 (TI _) (by omega))]
   exact ZE (λk hk1 hk2=>h0 k (by omega) hk2) (by omega) (by omega) h3
theorem Z9{f:Nat->Int}{r i0:Nat}(h:∀k,i0<=k->k<i0+r->f k=0):YT f r i0=(-1,0):=by
 have h2:=YG.2 h
 exact Prod.ext (Ycy h2) h2
def flwV(f:Flw):Value:=.agg #[.int .i64 f.1,.int .i64 f.2.1,.int .i64 f.2.2.1,.int .i64 f.2.2.2.1,.int .i64 f.2.2.2.2.1,.int .i64 f.2.2.2.2.2]
theorem YcC{l:List Flw}{i:Nat}(h:i<l.length):l[i]? =some (Xk l i):=by
 grind [Xk]
variable {B cap:Nat}{w0 w:World}{H:List HP}
theorem Yj1(v nodes:Int)(gn:Nat)(hm:blk gn (.cells #[.int .i64 nodes] 3 (0,0))∈H)(hw:St B w0 H w):
 CX B w0 204 [.int .i64 v,.pointer (some ⟨gn,0,none⟩)] w λu K=>u=.bool (insE v nodes)/\K=H:=by
 refine Ya Tryz.func204 Tryz.ntmps204 rfl rfl hw ?_
 repeat'(first|refine zgc ?_|(refine zgf ?_ ?_<;>intro _<;>try exact zo)|fail)
 all_goals(
  apply Yf;exact rfl;exact rfl
  first
   |exact⟨by rw[show insE v nodes=true from Ti (by omega)],rfl⟩
   |exact⟨by rw[show insE v nodes=false from Tn (by omega)],rfl⟩)
theorem WS(nodes:Int)(f:Flw)(hw:St B w0 H w):
 CX B w0 115 [.int .i64 nodes,flwV f] w λv K=>v=.int .i64 (YX nodes f)/\K=H:=by
 refine Ya Tryz.func115 Tryz.ntmps115 rfl rfl hw ?_
 obtain⟨e,he⟩:∃e,YX nodes f=e:=⟨_,rfl⟩
 rw[he]
 by_cases hA:f.1<0\/255<f.1
 ·repeat'(first|(apply zg23;first|(refine zs52 ?_;intro _)|(refine zs53 ?_;intro _))|(apply zg29;(apply Yo;exact za;exact rfl))|refine zgd ?_|(refine zgf ?_ ?_<;>intro _<;>try exact zo)|fail)
  all_goals(
   apply Yg H
   ·exact zk
   apply Yf;exact rfl;exact rfl
   refine⟨?_,rfl⟩
   rw[<-he]
   unfold YX
   first
    |(rw[Tj (by first|exact .inl (by omega)|exact .inr (.inl (by omega))|exact .inr (.inr (.inl (by assumption)))|exact .inr (.inr (.inr (by assumption))))];done)
    |(rw[Tf (by rintro(h|h|h|h)<;>first|omega|simp_all)]
      first
       |(rw[Tj (by omega)];done)
       |(rw[Tf (by omega),Tj (by omega)];done)
       |(rw[Tf (by omega),Tf (by omega)];done)))
 ·repeat'(first|(apply zg23;first|(refine zs52 ?_;intro _)|(refine zs53 ?_;intro _))|(apply zg29;(apply Yo;exact za;exact rfl))|refine zgc ?_|(refine zgf ?_ ?_<;>intro _<;>try exact zo)|fail)
  rename_i gn gf _ _
  repeat'(first|((first|apply JC (cs:=[.pointer (some ⟨gn,0,none⟩)])|apply JB (cs:=[.pointer (some ⟨gn,0,none⟩)]));exact rfl;exact Yv7;exact za;exact rfl;exactλ_ hw=>(Yj1 _ nodes gn zm hw);all_goals(intro hB;(try simp only[Tt,T8]at hB);try exact zo))|refine zgd ?_|(refine zgf ?_ ?_<;>intro _<;>try exact zo)|fail)
  all_goals(
   apply Yg H
   ·exact zk
   apply Yf;exact rfl;exact rfl
   refine⟨?_,rfl⟩
   rw[<-he]
   unfold YX
   first
    |(rw[Tj (by first|exact .inl (by omega)|exact .inr (.inl (by omega))|exact .inr (.inr (.inl (by assumption)))|exact .inr (.inr (.inr (by assumption))))];done)
    |(rw[Tf (by rintro(h|h|h|h)<;>first|omega|simp_all)]
      first
       |(rw[Tj (by omega)];done)
       |(rw[Tf (by omega),Tj (by omega)];done)
       |(rw[Tf (by omega),Tf (by omega)];done)))
variable {A:Option Addr}
theorem Y9(nodes:Int)(l:List Flw)(hl:l.length<=9223372036854775807)(hr:Rd B w0 H A (l.flatMap flwF))(hw:St B w0 H w):
 CX B w0 74 [.int .i64 nodes,.slice A l.length cap] w λv K=>v=.tuple #[.int .i64 (Yz nodes l).1,.int .i64 (Yz nodes l).2]/\K=H:=by
 refine Ya Tryz.func74 Tryz.ntmps74 rfl rfl hw ?_
 by_cases hn:nodes<2\/32<nodes
 ·have hE:Yz nodes l=(-1,2):=by simp_all [Yz]
  rw[hE]
  repeat'(first|refine zgc ?_|(refine zgf ?_ ?_<;>intro _<;>try exact zo)|fail)
  all_goals(apply YL;(iterate 3 exact rfl);exact⟨rfl,rfl⟩)
 by_cases h16:16<l.length
 ·have hE:Yz nodes l=(-1,8):=by simp_all [Yz]
  rw[hE]
  refine zX40 ?_<;>intros
  exact zc62
 have hE:Yz nodes l=YT (Xl nodes l) l.length 0:=by simp_all [Yz,if_neg]
 rw[hE]
 refine zX40 ?_<;>intros
 refine Yh (λ(i:Nat)=>[(20,.int .i64 i),(19,.int .i64 l.length),(18,.slice A l.length cap),(0,.int .i64 nodes),(1,.slice A l.length cap)]) (λ_=>H) (λi=>i<=l.length/\∀k,k<i->Xl nodes l k=0) (λi=>l.length-i) 0 ⟨Tm _,λk hk=>absurd hk (RP _)⟩ ?_ (λw hw=>hw) ?_
 ·exact zc1
 rintro i ⟨hi,hall⟩ K hK
 by_cases hlt:i<l.length
 ·have hget:l[i]? =some (Xk l i):=YcC hlt
  have hbad:Xl nodes l i≠0->YT (Xl nodes l) l.length 0=((i:Int),Xl nodes l i):=λh=>ZE (λk _ hk=>hall k hk) (Tm _) (by omega) h
  have hstep:Xl nodes l i=0->∀k,k<i+1->Xl nodes l k=0:=λh k hk=>by
   exact Yuo
  by_cases he:YX nodes (Xk l i)≠0
  ·have hf:Xl nodes l i=YX nodes (Xk l i):=by unfold Xl;exact Tj he
   rw[hbad (by rw[hf];exact he),hf]
   repeat'(first|((first|apply Yb YeC|apply Yc YeC);exact za;exact rfl;exactλ_ hw=>(WS nodes (Xk l i) hw))|refine zgd ?_|(refine zge ?_ ?_<;>intro _<;>try exact zo)|(refine zgh ?_;intro _)|fail)
   apply Yg H
   ·exact zc0
   exact zc11
  have he0:=RE.1 he
  have hck:=λ{H':List HP}{w:World}(hw:St B w0 H' w)=>WS nodes (Xk l i) hw
  rw[he0]at hck
  rcases NY i with h0|h0
  ·subst h0
   have hf:Xl nodes l 0=0:=by unfold Xl;rw[Tf he,Tf (by omega)]
   refine zX42 ?_<;>intros
   apply hK (0+1)
   ·exact⟨by omega,hstep hf⟩
   ·omega
   ·exact zc1
   ·exact zc0
  have hget2:l[((i:Int)-1).toNat]? =some (Xk l (i-1)):=by
   rw[show((i:Int)-1).toNat=i-1 by omega]
   exact YcC (by omega)
  by_cases hle:(Xk l i).1<=(Xk l (i-1)).1
  ·have hf:Xl nodes l i=5:=by unfold Xl;rw[Tf he,Tj ⟨h0,hle⟩]
   rw[hbad (by rw[hf];decide),hf]
   refine zX42 ?_<;>intros
   apply Yg H
   ·exact zc0
   exact zc11
  ·have hf:Xl nodes l i=0:=by unfold Xl;rw[Tf he,Tf (λh=>hle h.2)]
   refine zX42 ?_<;>intros
   apply hK (i+1)
   ·exact⟨by omega,hstep hf⟩
   ·omega
   ·exact zc1
   ·exact zc0
 ·refine zX0 ?_<;>intros
  rw[show i=l.length by omega]at hall
  rw[Z9 λk _ hk=>hall k (by omega)]
  exact zc11
theorem YcP(p:Flw->Bool)(l:List Flw)(f:Nat)(cs:List Value)(hen:∀xs w,(callFunc f xs).run Tryz.prog w=.ok (.enter f xs) w)(hlen:l.length<=1000)(hr:Rd B w0 H A (l.flatMap flwF))
 (hp:∀a∈l,∀w,St B w0 H w->Calls Tryz.prog f ([flwV a]++cs).toArray w (Post B w0 λv K=>v=.bool (p a)/\K=H)) (hw:St B w0 H w):
 CX B w0 140 [.slice A l.length cap,.func (.func f) #[] cs.toArray] w λv K=>v=.int .i64 (Yi p l 0)/\K=H:=by
 refine Ya Tryz.func140 Tryz.ntmps140 rfl rfl hw ?_
 refine zX9 ?_
 refine Yh (λ(k:Nat)=>[(8,.int .i64 k),(7,.int .i64 l.length),(0,.slice A l.length cap),(1,.func (.func f) #[] cs.toArray)]) (λ_=>H) (λk=>k<=l.length/\Yi p l 0=Yi p (l.drop k) k) (λk=>l.length-k) 0 ⟨Tm _,by simp⟩ ?_ (λw hw=>hw) ?_
 ·exact zc1
 rintro k ⟨hk,hi⟩ K hK
 by_cases hlt:k<l.length
 ·obtain⟨a,ha⟩:∃a,l[k]? =some a:=⟨_,Ta hlt⟩
  have hpa:=hp a (Tc ha)
  rw[Zu p l ha]at hi
  refine zX10 ?_<;>intros
  cases hpv:p a
  ·rw[hpv]at hi
   refine zX9 ?_
   apply hK (k+1)
   ·grind
   ·omega
   ·exact zc1
   exact zc19
  exact zc8
 exact zc4
theorem YjZ(f:Flw)(id:Int)(gi:Nat)(hm:blk gi (.cells #[.int .i64 id] 3 (0,0))∈H)(hw:St B w0 H w):
 CX B w0 247 [flwV f,.pointer (some ⟨gi,0,none⟩)] w λv K=>v=.bool (decide (f.1=id))/\K=H:=by
 refine Ya Tryz.func247 Tryz.ntmps247 rfl rfl hw ?_
 by_cases h:f.1=id
 ·rw[Ti h]
  refine zX43 ?_<;>intros
  all_goals(apply Yn;exact zc13)
 ·rw[Tn h]
  refine zX43 ?_<;>intros
  all_goals(apply Yn;exact zc13)
theorem Ycv(l:List Flw)(id:Int)(hlen:l.length<=1000)(hr:Rd B w0 H A (l.flatMap flwF))(hw:St B w0 H w):
 CX B w0 183 [.slice A l.length cap,.int .i64 id] w λv K=>v=.int .i64 (Zi l id)/\K=H:=by
 refine Ya Tryz.func183 Tryz.ntmps183 rfl rfl hw ?_
 repeat'(first|(apply zg29;(apply Yo;exact za;exact rfl))|refine zga ?_|(refine zgh ?_;intro _)|fail)
 rename_i gi
 first|apply Yb Ylo|apply Yc Ylo
 exact za
 exact rfl
 exactλ_ hw=>(YcP (λf=>decide (f.1=id)) l 247 [.pointer (some ⟨gi,0,none⟩)] Ywh hlen hr.cons (λf _ w hw=>YjZ f id gi zm hw) hw)
 repeat'(first|refine zga ?_|fail)
 apply Yg H
 ·exact zk
 apply Yf;exact rfl;exact rfl
 exact⟨rfl,rfl⟩
theorem YgE(s:SchM)(f:Flw)(gs:Nat)(hs:1<=s.len/\s.len<=512)(hf:1<=f.2.2.2.1/\f.2.2.2.1<=512)(hm:blk gs (.cells #[.int .i64 s.len,.int .i64 s.off,.slice s.A s.cells.length s.cap] 30 (0,0))∈H)(hw:St B w0 H w):
 CX B w0 168 [flwV f,.pointer (some ⟨gs,0,none⟩)] w λv K=>v=.bool (decide (s.len.tmod f.2.2.2.1≠0))/\K=H:=by
 refine Ya Tryz.func168 Tryz.ntmps168 rfl rfl hw ?_
 by_cases h:s.len.tmod f.2.2.2.1≠0
 ·rw[Ti h]
  rw[Rq (by omega)]at h
  refine zX44 ?_<;>intros
  all_goals(apply Yn;exact zc13)
 ·rw[Tn h]
  rw[Rq (by omega)]at h
  refine zX44 ?_<;>intros
  all_goals(apply Yn;exact zc13)
theorem WV{α:Type}(p:α->Bool)(l:List α):decide (0<=Yi p l 0)=l.any p:=by
 have h:=Vl p l 0 (by omega)
 grind
theorem WN(p:Flw->Bool)(l:List Flw)(f:Nat)(cs:List Value)(hen:∀xs w,(callFunc f xs).run Tryz.prog w=.ok (.enter f xs) w)(hlen:l.length<=1000)(hr:Rd B w0 H A (l.flatMap flwF))
 (hp:∀a∈l,∀w,St B w0 H w->Calls Tryz.prog f ([flwV a]++cs).toArray w (Post B w0 λv K=>v=.bool (p a)/\K=H)) (hw:St B w0 H w):
 CX B w0 75 [.slice A l.length cap,.func (.func f) #[] cs.toArray] w λv K=>v=.bool (l.any p)/\K=H:=by
 refine Ya Tryz.func75 Tryz.ntmps75 rfl rfl hw ?_
 rw[<-WV]
 refine zX4 ?_
 first|apply Yb Ylo|apply Yc Ylo
 exact za
 exact rfl
 exactλ_ hw=>(YcP p l f cs hen hlen hr hp hw)
 exact zc10
end Go.Proofs.YtambgjgljcadlaaGreatDoor
namespace Go.Eng
open Go.RowKit
section
variable {P:Program}{B:Nat}{w0:World}{Q:Exit->Act->World->Prop}{env:Env}{H:List HP}{k:Nat}
def YQr(P:Program)(r:Nat)(ops:Array Oper)(Q:Exit->Act->World->Prop)(l:List Oper):Exit->Act->World->Prop
 |.normal,a,w=>wpListIn (Fence.wide.inRound r) 0 P ops Q l a w
 |e,a,w=>Q e a w
theorem Yao{r:Nat}{ops:Array Oper}{l:List Oper}(hlo:¬LetsOut Q):∀(os:List Oper) (a:Act) (w:World),os.all JU=true->wpList P ops (YQr P r ops Q l) os a w->wpListIn (Fence.wide.inRound r) 0 P ops Q (os++l) a w
 |[],_,_,_,h=>h
 |o::os,a,w,hc,h=>by
  simp only[NV,Tq]at hc
  unfold wpList at h
  rw[TA]
  unfold wpListIn
  split
  ·rename_i hw
   rw[Tj hw]at h
   rcases h with h|⟨_,h⟩
   ·have h2:=Oper.wp_mono (λa w h=>Yao hlo os a w hc.2 h) h
    have hs:Oper.semAt (some r) a.eval o=execOp a.eval o:=Oper.semAt_some r _ o λc e=>by
     have hp:=hc.1
     unfold JU at hp
     rw[e]at hp
     cases hp
    refine⟨λf _=>trivial,?_⟩
    rw[Fence.inRound_round,hs]
    unfold Oper.wp at h2
    generalize(execOp a.eval o).run P w=res at h2⊢
    cases res with
    |ok x w'=>
     cases x<;>simp only[Oper.upon,Oper.uponIn]at h2⊢<;>first
      |exact h2
      |(refine⟨λhd=>by simp[Fence.wide]at hd,?_⟩
        refine CallsIn.mono (CallsIn.inRound r (callsIn_wide.2 h2)) λe w'' he=>?_
        cases e<;>exact he)
      |exact⟨λhd=>by simp[Fence.wide]at hd,Yba h2⟩
      |exact h2.elim
    |halt x w'=>cases x<;>simp only[Oper.upon,Oper.uponIn]at h2⊢<;>first|exact h2|exact h2.elim
   ·exact(hlo h).elim
  ·rename_i hw
   rw[Tf hw]at h
   exact⟨λf _=>trivial,Yao hlo os _ w hc.2 h⟩
variable {n r:Nat}{ds:List Deferred}
theorem Yg2{id:Nat}{l:List Oper}(k:Nat){l1 l2:List Oper}(h1:l.take k=l1)(h2:l.drop k=l2)(h:VL P none ⟨n,ds,some r⟩ B w0 l.toArray (YQr P r l.toArray Q l2) l1 env H):
 VC P ⟨n,ds,some r⟩ B w0 (.region id l.toArray false) Q env H:=by
 refine⟨λa w ha hw=>?_⟩
 intro hlo hc
 refine wpIn_region_lit ?_
 have hc2:l.all JU=true:=by simpa [calm]using hc
 have:=Yao hlo _ _ _ (by rw[<-h1];exact TK.2 λx hx=>TK.1 hc2 x (SC hx)) (h.run a ha w hw)
 rw[<-h1,<-h2,RG]at this
 exact this
theorem YmH{ops:Array Oper}{d l:Nat}{x:Operand}{args:List Operand}{tys:Array TypeId}{ty:TypeId}{pos:String}{after:Array Edge}{gd:Option (Nat×Bool)}{vs:List Value}{rest:List Oper}(Φt Φf:List HP->Prop)
 (hgd:∀a:Act,Fits ⟨n,ds,none⟩ a env->Region.wanted ⟨some d,.call ⟨.value x,args.toArray,tys⟩,ty,pos,after,gd⟩ (yielded ops a.tmps)=true)
 (hx:evo env x=some (.func (.yield l) #[] #[])) (hargs:Args env args vs) (hn:Nat.ble (d+1) n=true) (hlo:¬LetsOut Q) (hpl:rest.all JU=true) (hy:Yb3 P l vs B w0 H Φt Φf)
 (ht:∀K,Φt K->VL P none ⟨n,ds,some r⟩ B w0 ops Q rest ((d,.bool true)::env) K)
 (hf:∀K,Φf K->VL P none ⟨n,ds,some r⟩ B w0 ops Q rest ((d,.bool false)::env) K):
 VQ ⟨n,ds,some r⟩ B w0 (YQr P r ops Q (⟨some d,.call ⟨.value x,args.toArray,tys⟩,ty,pos,after,gd⟩::rest)) .normal env H:=by
 refine⟨λa w ha hw=>?_⟩
 show wpListIn (Fence.wide.inRound r) 0 P ops Q _ a w
 unfold wpListIn
 rw[Tj (hgd a ⟨ha.defers,ha.size,ha.slot⟩)]
 refine⟨λf _=>trivial,?_⟩
 obtain⟨fn,tmps,assign,body,hrun,hround⟩:=hy w hw
 have hmap:args.toArray.map a.eval=vs.toArray:=by rw[List.map_toArray,Ui ha _ _ hargs]
 have hs:Oper.semAt (some r) a.eval ⟨some d,.call ⟨.value x,args.toArray,tys⟩,ty,pos,after,gd⟩=execOp a.eval ⟨some d,.call ⟨.value x,args.toArray,tys⟩,ty,pos,after,gd⟩:=Oper.semAt_some r _ _ λc e=>by cases e
 rw[Fence.inRound_round,hs]
 have hex:(execOp a.eval ⟨some d,.call ⟨.value x,args.toArray,tys⟩,ty,pos,after,gd⟩).run P w=.ok (.round l fn tmps assign body) w:=by
  simp only[execOp,resolve,ha.eval hx,hmap,Deferred.ofValue,Sem.run_bind,Sem.run_pure,Result.andThen_ok,invoke]
  simpa using hrun
 rw[hex,Oper.uponIn_round]
 refine⟨λhd=>by simp[Fence.wide]at hd,?_⟩
 have hround2:RoundIn (Fence.wide.inRound r) 0 P l fn tmps assign body w _:=hround
 refine RoundIn.mono hround2 ?_
 rintro e w' (⟨rfl,K',hΦ,hst⟩|⟨rfl,K',hΦ,hst⟩)
 ·exact UF hlo _ _ _ hpl ((ht K' hΦ).run _ (ha.put (T0 hn) _) _ hst)
 ·exact UF hlo _ _ _ hpl ((hf K' hΦ).run _ (ha.put (T0 hn) _) _ hst)
end
variable {B:Nat}{w0:World}{H K:List HP}
theorem St.inM{w:World}(hw:St B w0 K w)(hm:Eng.many H∈K):St B w0 H w:=by
 obtain⟨S,h1,h2⟩:=hw.at_ hm
 exact⟨hw.below,hw.le,Vw h2 h1⟩
variable {A:Option Addr}{xs:List Value}
theorem Rd.inM(h:Rd B w0 H A xs)(hm:Eng.many H∈K):Rd B w0 K A xs:=h.mono λ_ hw=>hw.inM hm
theorem Rd.many{L:List HP}{e size k cap:Nat}(hX:many L∈H)(hm:Eng.sl e size A k cap xs∈L):Rd B w0 H A xs:=λw hw j v hv=>by
 obtain⟨S,_,h2⟩:=hw.at_ hX
 obtain⟨S',_,h3,_⟩:=YgO hm h2
 obtain⟨g,e1,hc,_⟩:=QW h3 hv
 exact⟨g,0,e1,by rw[RL];exact hc⟩
end Go.Eng
namespace Go.Proofs.YtambgjgljcadlaaGreatDoor
open Go.RowKit Go.Eng Go.Nw Go.Rt
variable {n:Net}
theorem UD{a b:Int}(h:Y3 n a b=true):0<=Yy n a b:=by
 simp_all [Y3]
variable {r:List Int}
theorem QB{s t:Int}(h:VG n s t r=0):(2<=r.length/\r.length<=9)/\r.any (offE n)=false/\(r.getD 0 0=s/\r.getD (r.length-1) 0=t)/\Yaz r=false/\V7 n r=false:=by
 unfold VG at h
 by_cases h1:r.length<2
 all_goals grind
theorem Yhv(h:V7 n r=false){i:Nat}(hi:i+1<r.length):Y3 n (r.getD i 0) (r.getD (i+1) 0)=true:=by
 cases hg:Y3 n (r.getD i 0) (r.getD (i+1) 0)with
 |true=>rfl
 |false=>
  grind [V7]
variable {A:Option Addr}{cap B:Nat}{w0 w:World}{H:List HP}
theorem YmZ(n:NetM)(r:List Int)(hin:n.In B w0 H)(hck:Yp n.net=0)(hbr:V7 n.net r=false)(hr:Rd B w0 H A (r.flatMap numF))(hlen:1<=r.length/\r.length<=1000)(hw:St B w0 H w):
 CX B w0 165 [n.val,.slice A r.length cap] w λv K=>v=.int .i64 (Ypc n.net r)/\K=H:=by
 have hok:=YM hck
 obtain⟨hpw,hrw,hlk,hmg,hs1,hs2,hs3,hs4⟩:=id hin
 refine Ya Tryz.func165 Tryz.ntmps165 rfl rfl hw ?_
 (apply Xm;apply YY;apply YV;exact rfl;exact rfl;intro g)
 refine zX7 ?_
 refine Yh (λ(k:Nat)=>[(6,.int .i64 ((k:Int)+1)),(5,.int .i64 (UZ n.net r k)),(1,.slice A r.length cap),(2,.pointer (some ⟨g,0,none⟩))]) (λ_=>netB g n::H) (λk=>k+1<=r.length) (λk=>r.length-k) 0 hlen.1 ?_ (λw hw=>hw) ?_
 ·exact zc1
 intro k hk K hK
 have hbd:=Yey hok r k
 by_cases hlt:k+1<r.length
 ·have hgk:=XY (l:=r) (i:=k) (by omega)
  have hgk1:=XY (l:=r) (i:=k+1) (by omega)
  have ei:((k:Int)+1-1).toNat=k:=by omega
  have ei1:((k:Int)+1).toNat=k+1:=by omega
  rw[<-ei]at hgk
  rw[<-ei1]at hgk1
  have hgood:=Yhv hbr hlt
  have hf:=UD hgood
  have hfl:=Zj hf
  have e7:n.net.links=n.links:=rfl
  rw[e7]at hfl
  have hlx:n.links[(Yy n.net (r.getD k 0) (r.getD (k+1) 0)).toNat]? =some (lnk n.net (Yy n.net (r.getD k 0) (r.getD (k+1) 0)).toNat):=QL n.net hfl
  have hlo:=Ybz hok (r.getD k 0) (r.getD (k+1) 0)
  have hidx:=λ{w:World}(hw:St B w0 (netB g n::H) w)=>XP n (r.getD k 0) (r.getD (k+1) 0) (hin.cons (X:=netB g n)) hw
  unfold XG at hidx
  rw[Tf (by simp[hck])]at hidx
  obtain⟨fi,hfi⟩:∃fi,Yy n.net (r.getD k 0) (r.getD (k+1) 0)=fi:=⟨_,rfl⟩
  obtain⟨lo,hlo2⟩:∃lo,Ye8 n.net (r.getD k 0) (r.getD (k+1) 0)=lo:=⟨_,rfl⟩
  have hst:UZ n.net r (k+1)=UZ n.net r k+(lo+1):=by rw[<-hlo2];rfl
  have hlo3:(lnk n.net fi.toNat).2.2=lo:=by rw[<-hfi];exact hlo2
  rw[hfi]at hidx hf hfl hlx
  rw[hlo2]at hlo
  rw[ei]at hgk
  rw[ei1]at hgk1
  obtain⟨lk,hlkk⟩:∃lk,lnk n.net fi.toNat=lk:=⟨_,rfl⟩
  rw[hlkk]at hlx hlo3
  rw[<-hlo3]at hlo
  have hgk':r[((k:Int)+1-1).toNat]? =some (r.getD k 0):=by rw[ei];exact hgk
  have hgk1':r[((k:Int)+1).toNat]? =some (r.getD (k+1) 0):=by rw[ei1];exact hgk1
  repeat'(first|((first|apply Yb en45|apply Yc en45);exact za;exact rfl;exactλ_ hw=>(hidx hw))|(apply zg28;refine zs84 ?_)|refine zgd ?_|(refine zge ?_ ?_<;>intro _<;>try exact zo)|fail)
  apply hK (k+1)
  ·omega
  ·omega
  ·rw[hst,<-hlo3];exact zc1
  exact zc19
 ·refine zX0 ?_<;>intros
  (repeat apply Yn);apply Yf;exact rfl;exact rfl
  have ek:r.length-1=k:=by omega
  exact⟨by unfold Ypc;rw[ek],rfl⟩
theorem Ymq(n:NetM)(r:List Int)(hin:n.In B w0 H)(hr:Rd B w0 H A (r.flatMap numF))(hlen:r.length<=9223372036854775807)(hcap:r.length<=cap)(hw:St B w0 H w):
 CX B w0 95 [n.val,.slice A r.length cap] w λv K=>v=.tuple #[.int .i64 (YgZ n.net r).1,.int .i64 (YgZ n.net r).2]/\K=H:=by
 refine Ya Tryz.func95 Tryz.ntmps95 rfl rfl hw ?_
 unfold YgZ
 by_cases h0:Yp n.net=0
 rotate_left
 ·rw[Tj h0]
  refine zX47 ?_<;>intros
  (repeat apply Yn);exact zc62
 rw[Tf (λh=>h h0)]
 have hck:=λ{H:List HP}{w:World}(hin:n.In B w0 H) (hw:St B w0 H w)=>Y1 n hin hw
 rw[h0]at hck
 dsimp only
 have hf:=λ{H:List HP}{w:World}(s t:Int) (hin:n.In B w0 H) (hr:Rd B w0 H A (r.flatMap numF)) (hw:St B w0 H w)=>Yct n s t r (cap:=cap) hin h0 hr hlen hcap hw
 by_cases hz:r.length=0
 ·have hf0:VG n.net (r.getD 0 0) (r.getD (r.length-1) 0) r=9:=by unfold VG;rw[Tj (by omega)]
  have hf1:VG n.net 0 0 r=9:=by unfold VG;rw[Tj (by omega)]
  have hff:=λ{H:List HP}{w:World}(hin:n.In B w0 H) (hr:Rd B w0 H A (r.flatMap numF)) (hw:St B w0 H w)=>hf 0 0 hin hr hw
  rw[hf1]at hff
  rw[hf0,Tj (by decide)]
  repeat'(first|((first|apply Yb en44|apply Yc en44);exact za;exact rfl;exactλ_ hw=>(hck hin.cons hw))|((first|apply Yb YaN|apply Yc YaN);exact za;exact rfl;exactλ_ hw=>(hff hin.cons hr.cons hw))|refine zgc ?_|(refine zgf ?_ ?_<;>intro _<;>try exact zo)|(refine zgh ?_;intro _)|fail)
  (repeat apply Yn);exact zc11
 ·have hg0:=XY (l:=r) (i:=0) (by omega)
  have hg1:=XY (l:=r) (i:=r.length-1) (by omega)
  have hgi:((r.length:Int)-1).toNat=r.length-1:=by omega
  rw[<-hgi]at hg1
  have hff:=λ{H:List HP}{w:World}(hin:n.In B w0 H) (hr:Rd B w0 H A (r.flatMap numF)) (hw:St B w0 H w)=>hf (r.getD 0 0) (r.getD (r.length-1) 0) hin hr hw
  obtain⟨e,he⟩:∃e,VG n.net (r.getD 0 0) (r.getD (r.length-1) 0) r=e:=⟨_,rfl⟩
  rw[he]at hff
  rw[he]
  rw[<-hgi]at hff
  by_cases hez:e=0
  ·subst hez
   obtain⟨⟨f1,f2⟩,_,_,_,f3⟩:=QB he
   rw[Tf (by simp)]
   repeat'(first|((first|apply Yb en44|apply Yc en44);exact za;exact rfl;exactλ_ hw=>(hck hin.cons hw))|((first|apply Yb YaN|apply Yc YaN);exact za;exact rfl;exactλ_ hw=>(hff hin.cons hr.cons hw))|((first|apply Yb YsU|apply Yc YsU);exact za;exact rfl;exactλ_ hw=>(YmZ n r hin.cons h0 f3 hr.cons (by omega) hw))|refine zgd ?_|(refine zgf ?_ ?_<;>intro _<;>try exact zo)|(refine zgh ?_;intro _)|fail)
   (repeat apply Yn);exact zc11
  ·rw[Tj hez]
   repeat'(first|((first|apply Yb en44|apply Yc en44);exact za;exact rfl;exactλ_ hw=>(hck hin.cons hw))|((first|apply Yb YaN|apply Yc YaN);exact za;exact rfl;exactλ_ hw=>(hff hin.cons hr.cons hw))|refine zgd ?_|(refine zgf ?_ ?_<;>intro _<;>try exact zo)|(refine zgh ?_;intro _)|fail)
   (repeat apply Yn);exact zc11
theorem YbL(n:NetM)(s t:Int)(r:List Int)(hin:n.In B w0 H)(hr:Rd B w0 H A (r.flatMap numF))(hlen:r.length<=9223372036854775807)(hcap:r.length<=cap)(hw:St B w0 H w):
 CX B w0 238 [n.val,.int .i64 s,.int .i64 t,.slice A r.length cap] w λv K=>v=.int .i64 (X6 n.net s t r)/\K=H:=by
 refine Ya Tryz.func238 Tryz.ntmps238 rfl rfl hw ?_
 unfold X6
 by_cases h0:Z8 n.net s t=0
 ·have hck:Yp n.net=0:=by
   unfold Z8 at h0
   omega
  have hen:=λ{H:List HP}{w:World}(hin:n.In B w0 H) (hw:St B w0 H w)=>Vr n s t hin hw
  rw[h0]at hen
  rw[Tf (λh=>h h0)]
  repeat'(first|((first|apply Yb OG|apply Yc OG);exact za;exact rfl;exactλ_ hw=>(hen hin.cons hw))|((first|apply Yb YaN|apply Yc YaN);exact za;exact rfl;exactλ_ hw=>(Yct n s t r hin.cons hck hr.cons hlen hcap hw))|refine zgb ?_|(refine zge ?_ ?_<;>intro _<;>try exact zo)|(refine zgh ?_;intro _)|fail)
  (repeat apply Yn);exact zc13
 ·rw[Tj h0]
  repeat'(first|((first|apply Yb OG|apply Yc OG);exact za;exact rfl;exactλ_ hw=>(Vr n s t hin.cons hw))|refine zgb ?_|(refine zge ?_ ?_<;>intro _<;>try exact zo)|(refine zgh ?_;intro _)|fail)
  (repeat apply Yn);exact zc13
end Go.Proofs.YtambgjgljcadlaaGreatDoor
namespace Go.Eng
open Go.RowKit
def subL(i k:Nat)(l:List Value):List Value:=(l.drop i).take k
section
variable {P:Program}{B:Nat}{w0:World}{Q:Exit->Act->World->Prop}{env:Env}{H:List HP}{m:Mode}{n:Shp}{ops:Array Oper}{rest:List Oper}{d:Nat}{ty:TypeId}{pos:String}{after:Array Edge}
variable {t:Nat}
theorem Yk(T:Tab P){g i k:Nat}{cs:Array Value}{vs:List Value}{tt:TypeId}{fr:Nat×Nat}{x:Operand}(hx:evo env x=some (.pointer (some ⟨g,i,none⟩)))(hm:blk g (.cells cs tt fr)∈H)
 (ht:look T.ag t=some k) (hv:subL i k cs.toList=vs) (hk:Nat.beq vs.length k=true) (hn:Nat.ble (d+1) n.k=true) (h:VL P m n B w0 ops Q rest ((d,.agg vs.toArray)::env) H):
 VL P m n B w0 ops Q (⟨some d,.load t x,ty,pos,after,none⟩::rest) env H:=by
 refine Yg8 T hx hm ht (Nat.eq_of_beq_eq_true hk) (λj v hj=>?_) hn h
 rw[<-hv,subL,S0]at hj
 split at hj
 ·rw[RS]at hj
  simpa using hj
 ·cases hj
end
def Yhw(l:List Oper)(k s:Nat):Bool:=match l[k]? with
 |some o=>match o.op with
  |.call c=>match c.callee with
   |.value (.tmp t)=>Nat.beq t s
   |_=>false
  |_=>false
 |none=>false
section
variable {P:Program}{B:Nat}{w0:World}{Q:Exit->Act->World->Prop}{env:Env}{H:List HP}
variable {n id r:Nat}{ds:List Deferred}{l l1 l2:List Oper}
theorem Yg3(k s:Nat)(_ho:Yhw l k s=true)(h1:l.take k=l1)(h2:l.drop k=l2)(hlo:¬LetsOut Q)(h:VL P none ⟨n,ds,none⟩ B w0 l.toArray (YQ P l.toArray Q l2) l1 env H):
 VC P ⟨n,ds,none⟩ B w0 (.region id l.toArray false) Q env H:=YbQ k h1 h2 hlo h
theorem YfE(k s:Nat)(_ho:Yhw l k s=true)(h1:l.take k=l1)(h2:l.drop k=l2)(h:VL P none ⟨n,ds,some r⟩ B w0 l.toArray (YQr P r l.toArray Q l2) l1 env H):
 VC P ⟨n,ds,some r⟩ B w0 (.region id l.toArray false) Q env H:=Yg2 k h1 h2 h
end
section
variable {P:Program}{B:Nat}{w0:World}{env:Env}{H:List HP}
variable {n:Nat}{fn:Func}
theorem Yms{gf:Nat}{c:Code}{lb:List Value}{xs:List (List Value)}{HI:List HP}(hf:P.funcs[gf]? =some fn)(hn:fn.ntmps=n)(hb:fn.body=some c)(hle:Nat.ble (lb.length+1) n=true)
 (h:∀(l:Nat) (S:Nat->List HP->Prop) (X:List HP->Prop),
  (∀(i:Nat) (args:List Value),xs[i]? =some args->∀(Y L:List HP),S i L->
   Yb3 P l args B w0 (Y++many L::HI) (λK=>∃L',S (i+1) L'/\K=Y++many L'::HI) (λK=>∃L',X L'/\K=Y++many L'::HI))->
  ∀L0,S 0 L0->VC P ⟨n,[],none⟩ B w0 c (bodyPostM Fence.wide 0 P fn (Post B w0 λ_ K=>(∃L,S xs.length L/\K=many L::HI)\/∃L,X L/\K=many L::HI)) (WG 0 (.func (.yield l) #[] #[]::lb)) (many L0::HI)):YbM P gf lb xs B w0 HI:=by
 intro l S X hy L0 h0 w hw
 exact callsIn_wide.2 (XK (args:=.func (.yield l) #[] #[]::lb) hf hn hb hle hw (h l S X hy L0 h0))
variable {ds:List Deferred}
theorem Yrv{R:Ending->World->Prop}(h:VQ ⟨n,ds,none⟩ B w0 (bodyPostM Fence.wide 0 P fn R) .ret env H):VQ ⟨n,ds,none⟩ B w0 (bodyPostM Fence.wide 0 P fn R) .normal env H:=
 ⟨λa w ha hw=>h.run a w ha hw⟩
end
variable {H:List HP}{n t r:Nat}{fn:Func}
theorem YfR{P:Program}{B:Nat}{w0:World}{env:Env}{Φ:Value->List HP->Prop}{u s:Nat}{v x y z:Value}(hr:fn.results=#[.tmp t,.tmp u,.tmp s,.tmp r])(hv:get env t=some v)(hx:get env u=some x)(hy:get env s=some y)(hz:get env r=some z)(h:Φ (.tuple #[v,x,y,z]) H):
 VQ ⟨n,[],none⟩ B w0 (bodyPost P fn (Post B w0 Φ)) .ret env H:=
 ⟨λa w ha hw=>bodyPost_ret (v:=.tuple #[v,x,y,z]) (by simp[results,hr,Array.getD_eq_getD_getElem?,ha.slot t v hv,ha.slot u x hx,ha.slot s y hy,ha.slot r z hz]) ha.defers ⟨_,H,rfl,hw,h⟩⟩
theorem Yn9{X:HP}(h:X∈H):∃R,Perm H [X,many R]/\Perm [X,many R] H:=by
 obtain⟨s,t,rfl⟩:=List.append_of_mem h
 exact⟨s++t,(Perm.closeT _).trans (Perm.pull X s t []),(Perm.push X s t []).trans (Perm.openT _)⟩
end Go.Eng
namespace Go.Proofs.YtambgjgljcadlaaGreatDoor
open Go.RowKit Go.Eng Go.Nw Go.Rt
abbrev Rqs:=Flw×List (List Int)
structure Clm where
 flow:Int
 routes:List (List Int)
 bounds:List Int
 worst:List Int
 slots:List (List Int)
deriving DecidableEq
def YwO:Clm:=⟨0,[],[],[],[]⟩
def Y6(q:List Rqs):List Flw:=q.map Prod.fst
def Ymp:Rqs:=((0,0,0,0,0,0),[])
def rqAt(q:List Rqs)(i:Nat):Rqs:=q.getD i Ymp
def rtAt(l:List (List Int))(k:Nat):List Int:=l.getD k []
def rtsE(n:Net)(x:Rqs):Int:=
 if x.2.length=0 then 14 else if 2<x.2.length then 8
 else if(YT (λk=>X6 n x.1.2.1 x.1.2.2.1 (rtAt x.2 k)) x.2.length 0).2≠0 then(YT (λk=>X6 n x.1.2.1 x.1.2.2.1 (rtAt x.2 k)) x.2.length 0).2
 else if x.2.length=2/\rtAt x.2 0=rtAt x.2 1 then 6 else 0
def rqsE(n:Net)(q:List Rqs):Int×Int:=
 if Yp n≠0 then(-1,1)else if(Yz n.nodes (Y6 q)).2≠0 then Yz n.nodes (Y6 q)
 else YT (λi=>rtsE n (rqAt q i)) q.length 0
def badR(n:Net)(s:Sch)(f:Flw)(r:List Int):Bool:=decide ((Y4 n s f r).2≠0\/f.2.2.2.2.2<(Y4 n s f r).1.1)
def YhE(n:Net)(s:Sch)(x:Rqs)(l:List (List Int)):Clm:=
 ⟨x.1.1,l,l.map λr=>(Y4 n s x.1 r).1.1,l.map λr=>(Y4 n s x.1 r).1.2.1,l.map λr=>(Y4 n s x.1 r).1.2.2⟩
def Jp(n:Net)(s:Sch)(x:Rqs):Bool:=x.2.any (badR n s x.1)
def clmE(n:Net)(s:Sch)(x:Rqs):Clm:=YhE n s x x.2
def YS(n:Net)(q:List Rqs)(s:Sch):List Clm×(Int×Int):=
 if(rqsE n q).2≠0 then([],rqsE n q)else if(schE n (Y6 q) s).2≠0 then([],(-1,1))
 else if(YT (λi=>if Jp n s (rqAt q i)=true then 15 else 0) q.length 0).2≠0 then([],YT (λi=>if Jp n s (rqAt q i)=true then 15 else 0) q.length 0)
 else(q.map (clmE n s),(-1,0))
def VD(c:List Clm)(i:Nat):Clm:=c.getD i YwO
def chkE(n:Net)(q:List Rqs)(s:Sch)(c:List Clm):Int×Int:=
 if(YS n q s).2.2≠0 then(YS n q s).2 else if c.length≠(YS n q s).1.length then(-1,11)
 else YT (λi=>if VD c i=VD (YS n q s).1 i then 0 else 20) c.length 0
structure WayM where
 n:NetM
 s:SchM
 f:Flw
 A:Option Addr
 cap:Nat
 r:List Int
def WayM.val(x:WayM):Value:=.agg #[.int .i64 x.n.nodes,.slice x.n.pA x.n.rows.length x.n.pcap,.int .i64 x.n.noise,.int .i64 x.n.thr,.slice x.n.lA x.n.links.length x.n.lcap,.slice x.n.mA x.n.margin.length x.n.mcap,.int .i64 x.s.len,.int .i64 x.s.off,.slice x.s.A x.s.cells.length x.s.cap,.int .i64 x.f.1,.int .i64 x.f.2.1,.int .i64 x.f.2.2.1,.int .i64 x.f.2.2.2.1,.int .i64 x.f.2.2.2.2.1,.int .i64 x.f.2.2.2.2.2,.slice x.A x.r.length x.cap,.int .i64 0]
abbrev wayB(g:Nat)(x:WayM):HP:=blk g (.cells #[.int .i64 x.n.nodes,.slice x.n.pA x.n.rows.length x.n.pcap,.int .i64 x.n.noise,.int .i64 x.n.thr,.slice x.n.lA x.n.links.length x.n.lcap,.slice x.n.mA x.n.margin.length x.n.mcap,.int .i64 x.s.len,.int .i64 x.s.off,.slice x.s.A x.s.cells.length x.s.cap,.int .i64 x.f.1,.int .i64 x.f.2.1,.int .i64 x.f.2.2.1,.int .i64 x.f.2.2.2.1,.int .i64 x.f.2.2.2.2.1,.int .i64 x.f.2.2.2.2.2,.slice x.A x.r.length x.cap,.int .i64 0] 314 (0,0))
structure WayM.In(B:Nat)(w0:World)(H:List HP)(x:WayM):Prop where
 n:x.n.In B w0 H
 s:Rd B w0 H x.s.A (x.s.cells.flatMap celF)
 r:Rd B w0 H x.A (x.r.flatMap numF)
 sl:x.s.cells.length<=1000000000000
 rl:x.r.length<=1000000000000
 rc:x.r.length<=x.cap
variable {B:Nat}{w0:World}{H:List HP}{x:WayM}
theorem WayM.In.cons{X:HP}(h:x.In B w0 H):x.In B w0 (X::H):=⟨h.n.cons,h.s.cons,h.r.cons,h.sl,h.rl,h.rc⟩
theorem WayM.In.mono{H':List HP}(h:x.In B w0 H)(hH:∀w,St B w0 H' w->St B w0 H w):x.In B w0 H':=⟨h.n.mono hH,h.s.mono hH,h.r.mono hH,h.sl,h.rl,h.rc⟩
theorem Ynj{nodes:Int}{f:Flw}(h:2<=nodes/\nodes<=32):((Yz nodes [f]).2=0↔YX nodes f=0):=by
 unfold Yz
 have e:Xl nodes [f] 0=YX nodes f:=by
  show(if YX nodes f≠0 then YX nodes f else if 0<0/\_ then 5 else 0)=_
  omega
 unfold YT YT
 grind
theorem Yjd(x:WayM){w:World}(ht:TabsB B w0)(hi:x.In B w0 H)(hw:St B w0 H w):
 CX B w0 242 [x.val] w λv K=>v=.int .i64 (wayE x.n.net x.s.sch x.f x.r)/\K=H:=by
 refine Ya Tryz.func242 Tryz.ntmps242 rfl rfl hw ?_
 have p1:=λ{H':List HP}{w:World}(hin:x.n.In B w0 H') (hw:St B w0 H' w)=>Y1 x.n hin hw
 have p2:=λ{H':List HP}{w:World}(hr:Rd B w0 H' x.s.A (x.s.cells.flatMap celF)) (hw:St B w0 H' w)=>VO x.s ht hr hi.sl hw
 have p3:=λ{g cap:Nat}{H':List HP}{w:World}(hm:blk g (.cells #[.int .i64 x.f.1,.int .i64 x.f.2.1,.int .i64 x.f.2.2.1,.int .i64 x.f.2.2.2.1,.int .i64 x.f.2.2.2.2.1,.int .i64 x.f.2.2.2.2.2] 53 (0,0))∈H') (hw:St B w0 H' w)=>Y9 x.n.nodes [x.f] (T0 rfl) (A:=some ⟨g,0,none⟩) (cap:=cap) (show Rd B w0 H' _ ([x.f].flatMap flwF) from Rd.blk hm) hw
 have p4:=λ{H':List HP}{w:World}(hin:x.n.In B w0 H') (hr:Rd B w0 H' x.A (x.r.flatMap numF)) (hw:St B w0 H' w)=>YbL x.n x.f.2.1 x.f.2.2.1 x.r (cap:=x.cap) hin hr (TU hi.rl (by decide)) hi.rc hw
 have hn:=hi.n
 have hs:=hi.s
 have hr:=hi.r
 have hfo:=@Ynj x.n.net.nodes x.f
 have hok:=λh:Yp x.n.net=0=>(YM h).n0
 have hok1:=λh:Yp x.n.net=0=>(YM h).n1
 have hpe:(Xs x.s.sch).2=0↔Y5 x.s.sch=true:=by
  unfold Xs
  cases hf:Y5 x.s.sch with
  |true=>rw[Tf (by decide)];simp
  |false=>rw[Tj rfl];simp
 unfold wayE
 rw[show x.n.net.nodes=x.n.nodes from rfl]at*
 rw[show x.s.sch.len=x.s.len from rfl]at*
 obtain⟨c,hc⟩:∃c,Yp x.n.net=c:=⟨_,rfl⟩
 obtain⟨⟨t,e⟩,he⟩:∃e,Xs x.s.sch=e:=⟨_,rfl⟩
 obtain⟨⟨i,a⟩,ha⟩:∃a,Yz x.n.nodes [x.f]=a:=⟨_,rfl⟩
 obtain⟨k,hk⟩:∃k,X6 x.n.net x.f.2.1 x.f.2.2.1 x.r=k:=⟨_,rfl⟩
 rw[hc]at p1 hok hok1⊢
 rw[he]at p2 hpe
 rw[ha]at p3 hfo
 rw[hk]at p4⊢
 dsimp only at p2 p3 hpe hfo
 unfold WayM.val
 by_cases h1:c=0
 rotate_left
 ·rw[Tj (.inl h1)]
  repeat'(first|((first|apply Yb en44|apply Yc en44);exact za;exact rfl;exactλ_ hw=>(p1 hn.cons hw))|(apply Yk T;exact rfl;exact zm;exact rfl;exact zv;exact rfl;exact rfl)|refine zgb ?_|(refine zge ?_ ?_<;>intro _<;>try exact zo)|(refine zgh ?_;intro _)|fail)
  apply Yg H
  ·exact zc0
  exact zc5
 subst h1
 have hfo:=hfo ⟨hok rfl,hok1 rfl⟩
 by_cases h2:e=0
 rotate_left
 ·rw[Tj (.inr (.inl (by cases hf:Y5 x.s.sch with|false=>rfl|true=>exact absurd (hpe.2 hf) h2)))]
  repeat'(first|((first|apply Yb en44|apply Yc en44);exact za;exact rfl;exactλ_ hw=>(p1 hn.cons hw))|((first|apply Yb en85|apply Yc en85);exact za;exact rfl;exactλ_ hw=>(p2 hs.cons hw))|(apply Yk T;exact rfl;exact zm;exact rfl;exact zv;exact rfl;exact rfl)|refine zgc ?_|(refine zge ?_ ?_<;>intro _<;>try exact zo)|(refine zgh ?_;intro _)|fail)
  apply Yg H
  ·exact zc0
  exact zc5
 subst h2
 have hfe:=hpe.1 rfl
 by_cases h3:a=0
 rotate_left
 ·rw[Tj (.inr (.inr (λh=>h3 (hfo.2 h))))]
  repeat'(first|((first|apply Yb en44|apply Yc en44);exact za;exact rfl;exactλ_ hw=>(p1 hn.cons hw))|((first|apply Yb en85|apply Yc en85);exact za;exact rfl;exactλ_ hw=>(p2 hs.cons hw))|((first|apply Yb en74|apply Yc en74);exact za;exact rfl;exactλ_ hw=>(p3 zm hw))|(apply Yk T;exact rfl;exact zm;exact rfl;exact zv;exact rfl;exact rfl)|refine zgc ?_|(refine zge ?_ ?_<;>intro _<;>try exact zo)|(refine zgh ?_;intro _)|fail)
  apply Yg H
  ·exact zc0
  exact zc5
 subst h3
 have hfz:=hfo.1 rfl
 rw[Tf (by rintro(h|h|h);exact h rfl;rw[hfe]at h;cases h;exact h hfz)]
 have hp1:1<=x.f.2.2.2.1:=by
  unfold YX at hfz
  split at hfz
  ·cases hfz
  split at hfz
  ·cases hfz
  omega
 have hsz:1<=x.s.len/\x.s.len<=512:=by
  have:=Rn (Zt.1 hfe).sized
  exact⟨this.1,this.2.1⟩
 rw[Rq (show 0<=x.s.len by omega)]
 by_cases h4:x.s.len%x.f.2.2.2.1=0
 rotate_left
 ·rw[Tj h4]
  repeat'(first|((first|apply Yb en44|apply Yc en44);exact za;exact rfl;exactλ_ hw=>(p1 hn.cons hw))|((first|apply Yb en85|apply Yc en85);exact za;exact rfl;exactλ_ hw=>(p2 hs.cons hw))|((first|apply Yb en74|apply Yc en74);exact za;exact rfl;exactλ_ hw=>(p3 zm hw))|(apply Yk T;exact rfl;exact zm;exact rfl;exact zv;exact rfl;exact rfl)|refine zgd ?_|(refine zge ?_ ?_<;>intro _<;>try exact zo)|(refine zgh ?_;intro _)|fail)
  apply Yg H
  ·exact zc0
  exact zc5
 rw[Tf (λh=>h h4)]
 repeat'(first|((first|apply Yb en44|apply Yc en44);exact za;exact rfl;exactλ_ hw=>(p1 hn.cons hw))|((first|apply Yb en85|apply Yc en85);exact za;exact rfl;exactλ_ hw=>(p2 hs.cons hw))|((first|apply Yb en74|apply Yc en74);exact za;exact rfl;exactλ_ hw=>(p3 zm hw))|((first|apply Yb YeJ|apply Yc YeJ);exact za;exact rfl;exactλ_ hw=>(p4 hn.cons.cons hr.cons.cons hw))|(apply Yk T;exact rfl;exact zm;exact rfl;exact zv;exact rfl;exact rfl)|refine zgd ?_|(refine zge ?_ ?_<;>intro _<;>try exact zo)|(refine zgh ?_;intro _)|fail)
 apply Yg H
 ·exact zc0
 exact zc5
variable {n:Net}{s:Sch}{f:Flw}{r:List Int}
theorem YdD(h:wayE n s f r=0):Yp n=0/\Y5 s=true/\YX n.nodes f=0/\s.len.tmod f.2.2.2.1=0/\X6 n f.2.1 f.2.2.1 r=0:=by
 unfold wayE at h
 split at h
 ·cases h
 rename_i h1
 split at h
 ·cases h
 rename_i h2
 refine⟨Decidable.byContradiction λe=>h1 (.inl e),?_,Decidable.byContradiction λe=>h1 (.inr (.inr e)),RE.1 h2,h⟩
 cases hf:Y5 s with
 |true=>rfl
 |false=>exact absurd (.inr (.inl hf)) h1
theorem Ob(h:(Y4 n s f r).2=0):wayE n s f r=0/\∃b,J3 n s f r=some b/\Y4 n s f r=(b,0):=by
 unfold Y4 at h⊢
 by_cases h1:wayE n s f r=0
 ·rw[Tf (λe=>e h1)]at h⊢
  cases hb:J3 n s f r with
  |none=>rw[hb]at h;cases h
  |some b=>exact⟨h1,b,rfl,rfl⟩
 ·rw[Tj h1]at h
  exact absurd h h1
variable {q:List Rqs}{i:Nat}
theorem Vv(h:i<q.length):q[i]? =some (rqAt q i):=by
 unfold rqAt;rw[Tu,Ta h];rfl
theorem YiS(h:i<q.length):rqAt q i∈q:=Tc (Vv h)
variable {x:Rqs}
theorem Yip(h:x∈q):∃i,i<q.length/\rqAt q i=x:=by
 obtain⟨i,hi⟩:=TQ.1 h
 have hl:=(Td.1 hi).1
 exact⟨i,hl,Tz ((Vv hl).symm.trans hi)⟩
variable {l:List (List Int)}
theorem Yat(h:i<l.length):l[i]? =some (rtAt l i):=by
 unfold rtAt;rw[Tu,Ta h];rfl
theorem Yqv(h:i<l.length):rtAt l i∈l:=Tc (Yat h)
def Oh(n:Net)(s:Sch)(x:Rqs):Bool:=decide (x.2.length=1\/x.2.length=2/\rtAt x.2 0≠rtAt x.2 1)&&!(Jp n s x)
theorem Ygg(h:Jp n s x=false)(hr:r∈x.2):(Y4 n s x.1 r).2=0/\(Y4 n s x.1 r).1.1<=x.1.2.2.2.2.2:=by
 unfold Jp at h
 rw[RA]at h
 have:=h r hr
 unfold badR at this
 rw[Tt]at this
 omega
theorem Yvg(h:Oh n s x=true):rtsE n x=0:=by
 unfold Oh at h
 rw[Tq,Tt]at h
 have hl:=h.2
 simp only[RZ]at hl
 have hc:(YT (λk=>X6 n x.1.2.1 x.1.2.2.1 (rtAt x.2 k)) x.2.length 0).2=0:=YG.2 λk _ hk=>
  (YdD (Ob (Ygg hl (Yqv (l:=x.2) (i:=k) (by omega))).1).1).2.2.2.2
 unfold rtsE
 rw[Tf (by omega),Tf (by omega),Tf (λe=>e hc)]
 rw[Tf]
 rintro⟨h1,h2⟩
 rcases h.1 with h3|h3
 ·omega
 ·exact h3.2 h2
theorem QT(h:rtsE n x=0):x.2.length=1\/x.2.length=2/\rtAt x.2 0≠rtAt x.2 1:=by
 unfold rtsE at h
 split at h
 ·cases h
 split at h
 ·cases h
 split at h
 ·exact absurd h (by assumption)
 split at h
 ·cases h
 rename_i h1 h2 h3 h4
 by_cases h5:x.2.length=1
 ·exact .inl h5
 ·exact .inr ⟨by omega,λe=>h4 ⟨by omega,e⟩⟩
theorem Zo:(YS n q s).2.2=0↔(schE n (Y6 q) s).2=0/\∀x∈q,Oh n s x=true:=by
 constructor
 ·intro h
  unfold YS at h
  by_cases h1:(rqsE n q).2=0
  rotate_left
  ·rw[Tj h1]at h;exact absurd h h1
  rw[Tf (λe=>e h1)]at h
  by_cases h2:(schE n (Y6 q) s).2=0
  rotate_left
  ·rw[Tj h2]at h;cases h
  rw[Tf (λe=>e h2)]at h
  by_cases h3:(YT (λi=>if Jp n s (rqAt q i)=true then 15 else 0) q.length 0).2=0
  rotate_left
  ·rw[Tj h3]at h;exact absurd h h3
  refine⟨h2,λx hx=>?_⟩
  obtain⟨i,hi,rfl⟩:=Yip hx
  have h4:=YG.1 h3 i (Tm _) (by omega)
  have hl:Jp n s (rqAt q i)=false:=by
   cases hb:Jp n s (rqAt q i)with
   |false=>rfl
   |true=>simp only[hb,Tj]at h4;cases h4
  have h5:rtsE n (rqAt q i)=0:=by
   have hw:=Oi (ZW.1 h2).whole
   unfold rqsE at h1
   rw[Tf (λe=>e hw.1),Tf (λe=>e hw.2.1)]at h1
   exact YG.1 h1 i (Tm _) (by omega)
  unfold Oh
  rw[hl,Ti (QT h5)];rfl
 ·rintro⟨h2,h3⟩
  have hw:=Oi (ZW.1 h2).whole
  have h1:(rqsE n q).2=0:=by
   unfold rqsE
   rw[Tf (λe=>e hw.1),Tf (λe=>e hw.2.1)]
   exact YG.2 λi _ hi=>Yvg (h3 _ (YiS (by omega)))
  have h4:(YT (λi=>if Jp n s (rqAt q i)=true then 15 else 0) q.length 0).2=0:=YG.2 λi _ hi=>by
   have:=h3 _ (YiS (q:=q) (i:=i) (by omega))
   unfold Oh at this
   rw[Tq]at this
   have hl:=this.2
   simp only[RZ]at hl
   rw[Tf (by rw[hl];decide)]
  unfold YS
  rw[Tf (λe=>e h1),Tf (λe=>e h2),Tf (λe=>e h4)]
theorem YrH(h:(YS n q s).2.2=0):YS n q s=(q.map (clmE n s),(-1,0)):=by
 unfold YS at h⊢
 split
 ·rename_i h1;rw[Tj h1]at h;exact absurd h h1
 rename_i h1
 rw[Tf h1]at h
 split
 ·rename_i h2;rw[Tj h2]at h;cases h
 rename_i h2
 rw[Tf h2]at h
 split
 ·rename_i h3;rw[Tj h3]at h;exact absurd h h3
 rfl
structure Wo(x:WayM):Prop where
 ck:Yp x.n.net=0
 len:2<=x.r.length/\x.r.length<=9
 good:∀i,i+1<x.r.length->Y3 x.n.net (x.r.getD i 0) (x.r.getD (i+1) 0)=true
 per:1<=x.f.2.2.2.1/\x.f.2.2.2.1<=512
 ph:0<=x.f.2.2.2.2.1/\x.f.2.2.2.2.1<x.f.2.2.2.1
 slen:1<=x.s.len/\x.s.len<=512
 few:x.s.cells.length<=512
variable {n:Net}{r:List Int}
theorem Zp{s t:Int}(h:X6 n s t r=0):Yp n=0/\(2<=r.length/\r.length<=9)/\∀i,i+1<r.length->Y3 n (r.getD i 0) (r.getD (i+1) 0)=true:=by
 unfold X6 at h
 by_cases h0:Z8 n s t=0
 rotate_left
 ·omega
 rw[Tf (λe=>e h0)]at h
 have hck:Yp n=0:=by
  unfold Z8 at h0
  omega
 obtain⟨h1,_,_,_,h2⟩:=QB h
 grind [V7]
theorem YgX{x:WayM}(h:wayE x.n.net x.s.sch x.f x.r=0):Wo x:=by
 obtain⟨_,h2,h3,_,h5⟩:=YdD h
 obtain⟨k1,k2,k3⟩:=Zp h5
 have hfr:=Zt.1 h2
 have hsz:=Rn hfr.sized
 unfold YX at h3
 split at h3
 ·cases h3
 split at h3
 ·cases h3
 exact⟨k1,k2,k3,by omega,by omega,⟨hsz.1,hsz.2.1⟩,hfr.few⟩
def JK(x:WayM):List (List Value):=(Yq x.n.net x.r).map λl=>[lkV l]
theorem O5{i:Nat}(h:i+1<r.length):(Yq n r)[i]? =some (X9 n r i):=by
 grind [Yq]
theorem Wa:(Yq n r).length=r.length-1:=by grind [Yq]
variable {B:Nat}{w0:World}
theorem Ya3(x:WayM)(g:Nat)(hok:Wo x){HI:List HP}(hi:x.In B w0 HI)(hm:wayB g x∈HI):
 YbM Tryz.prog 311 [.pointer (some ⟨g,0,none⟩)] (JK x) B w0 HI:=by
 refine YbN Tryz.func311 Tryz.ntmps311 rfl rfl ?_
 intro l SS X hy L0 h0
 have hck:=hok.ck
 have hlen:=hok.len
 have p1:=λ{H':List HP}{w:World}(a b:Int) (hin:x.n.In B w0 H') (hw:St B w0 H' w)=>XP x.n a b hin hw
 have hix:∀a b:Int,XG x.n.net a b=Yy x.n.net a b:=λa b=>by simp_all [XG]
 unfold wayB at hm
 refine zX7 ?_
 refine Yh (λ(y:Nat×List HP)=>[(3,.int .i64 (y.1+1:Nat)),(0,.func (.yield l) #[] #[]),(1,.pointer (some ⟨g,0,none⟩))]) (λy=>many y.2::HI) (λy=>y.1+1<=x.r.length/\SS y.1 y.2) (λy=>x.r.length-1-y.1) (0,L0) ⟨by omega,h0⟩ ?_ (λw hw=>hw) ?_
 ·exact zc1
 rintro⟨i,L⟩ ⟨hile,hS⟩ K hK
 dsimp only at hile hS⊢
 by_cases hlt:i+1<x.r.length
 ·have hg:=hok.good i hlt
  have hf:=UD hg
  have hfl:=Zj hf
  have hlx:x.n.links[(Yy x.n.net (x.r.getD i 0) (x.r.getD (i+1) 0)).toNat]? =some (lnk x.n.net (Yy x.n.net (x.r.getD i 0) (x.r.getD (i+1) 0)).toNat):=QL x.n.net hfl
  have hla:X9 x.n.net x.r i=lnk x.n.net (Yy x.n.net (x.r.getD i 0) (x.r.getD (i+1) 0)).toNat:=rfl
  have hg0:=XY (l:=x.r) (i:=i) (by omega)
  have hg1:=XY (l:=x.r) (i:=i+1) (by omega)
  have hgi:((((i+1:Nat):Int)-1).toNat)=i:=by omega
  have hgi1:(((i+1:Nat):Int).toNat)=i+1:=by omega
  have hll:(Yy x.n.net (x.r.getD i 0) (x.r.getD (i+1) 0)).toNat<x.n.links.length:=hfl
  have p2:=λ{H':List HP}{w:World}(hin:x.n.In B w0 H') (hw:St B w0 H' w)=>p1 (x.r.getD i 0) (x.r.getD (i+1) 0) hin hw
  rw[hix]at p2
  have hx:(JK x)[i]? =some [lkV (X9 x.n.net x.r i)]:=by
   unfold JK;rw[TM,O5 hlt];rfl
  rw[hla]at hx
  obtain⟨a,ha⟩:∃a,x.r.getD i 0=a:=⟨_,rfl⟩
  obtain⟨b,hb⟩:∃b,x.r.getD (i+1) 0=b:=⟨_,rfl⟩
  rw[ha]at hg0 p2 hlx hll hf hx
  rw[hb]at hg1 p2 hlx hll hf hx
  obtain⟨z,hz⟩:∃z,Yy x.n.net a b=z:=⟨_,rfl⟩
  rw[hz]at p2 hlx hll hf hx
  obtain⟨lk,hlk⟩:∃k,lnk x.n.net z.toNat=k:=⟨_,rfl⟩
  rw[hlk]at hlx hx
  obtain⟨R,hR1,hR2⟩:=Yn9 hm
  have hg0i:x.r[(((i+1:Nat):Int)-1).toNat]? =some a:=by rw[hgi];exact hg0
  have hg1i:x.r[((i+1:Nat):Int).toNat]? =some b:=by rw[hgi1];exact hg1
  have hwb:∀w,St B w0 (many L::(blk g (.cells #[.int .i64 x.n.nodes,.slice x.n.pA x.n.rows.length x.n.pcap,.int .i64 x.n.noise,.int .i64 x.n.thr,.slice x.n.lA x.n.links.length x.n.lcap,.slice x.n.mA x.n.margin.length x.n.mcap,.int .i64 x.s.len,.int .i64 x.s.off,.slice x.s.A x.s.cells.length x.s.cap,.int .i64 x.f.1,.int .i64 x.f.2.1,.int .i64 x.f.2.2.1,.int .i64 x.f.2.2.2.1,.int .i64 x.f.2.2.2.2.1,.int .i64 x.f.2.2.2.2.2,.slice x.A x.r.length x.cap,.int .i64 0] 314 (0,0)))::[many R]) w->St B w0 (many L::HI) w:=λw hw=>hw.perm (Perm.cons _ hR2)
  have hl0:0<=lk.2.2/\lk.2.2<=7:=by
   have h1:=(YM hck).lk z.toNat hll
   rw[<-hlk];exact⟨h1.l0,h1.l1⟩
  have hiK:x.In B w0 [wayB g x,many R]:=hi.mono λw hw=>hw.perm hR2
  have hrr:=hiK.r
  have hlr:=hiK.n.lk
  unfold wayB at hiK hrr hlr
  refine XM (blk g (.cells #[.int .i64 x.n.nodes,.slice x.n.pA x.n.rows.length x.n.pcap,.int .i64 x.n.noise,.int .i64 x.n.thr,.slice x.n.lA x.n.links.length x.n.lcap,.slice x.n.mA x.n.margin.length x.n.mcap,.int .i64 x.s.len,.int .i64 x.s.off,.slice x.s.A x.s.cells.length x.s.cap,.int .i64 x.f.1,.int .i64 x.f.2.1,.int .i64 x.f.2.2.1,.int .i64 x.f.2.2.2.1,.int .i64 x.f.2.2.2.2.1,.int .i64 x.f.2.2.2.2.2,.slice x.A x.r.length x.cap,.int .i64 0] 314 (0,0))::many L::[many R]) (λw hw=>hw.perm ((Perm.cons _ hR1).trans (Perm.swap _ _ _))) ?_
  refine zX0 ?_<;>intros
  apply Je (.n1 0 (.n1 1 (.n1 2 (.n1 3 (.n1 4 (.n1 5 (.n1 6 (.n1 7 (.n1 8 (.n1 9 (.n1 10 (.n1 11 (.n1 12 (.n1 13 (.n1 14 (.n1 15 (.n2 16 (.n1 17 (.n1 18 (.n1 19 .done))) 19 (.n1 16 (.n1 17 (.n1 18 .done)))))))))))))))))))) [20] [true,false,true]
  kernel_rfl
  kernel_rfl
  exact zy
  (simp only[Yd,nthO];rfl)
  repeat'(first|(apply Yk T;exact rfl;exact zm;exact rfl;exact zv;exact rfl;exact rfl)|(apply Yj;try exact zl)|apply(zs91 ?_ ?_)|(apply YW;try exact zl)|refine zgd ?_|(refine zgh ?_;intro _)|fail)
  all_goals(
   first|apply Yb en45|apply Yc en45
   exact za
   exact rfl
   exactλ_ hw=>(p2 (hiK.mono zk).n hw)
   repeat'(first|(refine Yg3 2 37 rfl rfl rfl (by rintro⟨_,_,_,_,h,_⟩;cases h) ?_)|(apply Yj;try exact zl)|(apply YW;try exact zl)|refine zgd ?_|(refine zgh ?_;intro _)|fail)
   rename_i g5
   rw[show lk.2.2+0=lk.2.2 from Int.add_zero _]
   apply Yg (blk g5 (.cells #[.int .i64 lk.1,.int .i64 lk.2.1,.int .i64 lk.2.2] 124 (0,0))::many L::HI)
   ·intro w hw
    have h5:St B w0 (blk g5 (.cells #[.int .i64 lk.1,.int .i64 lk.2.1,.int .i64 lk.2.2] 124 (0,0))::many L::blk g (.cells #[.int .i64 x.n.nodes,.slice x.n.pA x.n.rows.length x.n.pcap,.int .i64 x.n.noise,.int .i64 x.n.thr,.slice x.n.lA x.n.links.length x.n.lcap,.slice x.n.mA x.n.margin.length x.n.mcap,.int .i64 x.s.len,.int .i64 x.s.off,.slice x.s.A x.s.cells.length x.s.cap,.int .i64 x.f.1,.int .i64 x.f.2.1,.int .i64 x.f.2.2.1,.int .i64 x.f.2.2.2.1,.int .i64 x.f.2.2.2.2.1,.int .i64 x.f.2.2.2.2.2,.slice x.A x.r.length x.cap,.int .i64 0] 314 (0,0))::[many R]) w:=by
     revert w
     exact zk
    exact h5.perm (Perm.cons _ (Perm.cons _ hR2))
   have hY:=hy _ _ hx [blk g5 (.cells #[.int .i64 lk.1,.int .i64 lk.2.1,.int .i64 lk.2.2] 124 (0,0))] L hS
   apply Yb2 _ _ (hy:=hY)
   ·exact Ybg
   ·exact rfl
   ·exact za
   ·exact rfl
   ·rintro⟨_,_,_,_,h,_⟩;cases h
   ·rintro _ ⟨L',hS',rfl⟩
    repeat'(first|refine zgd ?_|fail)
    apply hK (i+1,L')
    ·exact⟨by show i+1+1<=_;omega,hS'⟩
    ·dsimp only;omega
    ·exact zu
    ·exactλw hw=>hw.tail
   ·rintro _ ⟨L',hX',rfl⟩
    repeat'(first|refine zgd ?_|fail)
    apply Yg (many L'::HI)
    ·exactλw hw=>hw.tail
    apply ZD;exact rfl
    exact .inr ⟨L',hX',rfl⟩)
 ·refine zX0 ?_<;>intros
  apply X7;exact rfl
  have hl0:i=(JK x).length:=by unfold JK;rw[Tv,Wa];omega
  rw[hl0]at hS
  exact .inl ⟨L,hS,rfl⟩
def YsJ(g:Nat):Value:=.func (.func 311) #[] #[.pointer (some ⟨g,0,none⟩)]
theorem Yc0(x:WayM){H:List HP}{w:World}(hw:St B w0 H w):
 CX B w0 275 [x.val] w λv K=>∃g,v=YsJ g/\K=wayB g x::H:=by
 refine Ya Tryz.func275 Tryz.ntmps275 rfl rfl hw ?_
 repeat'(first|((refine zs52 ?_;intro _))|((apply Yo;exact za;exact rfl))|refine zga ?_|fail)
 apply Yf;exact rfl;exact rfl
 exact⟨_,rfl,rfl⟩
variable {B i:Nat}{w0 w:World}{H:List HP}
theorem Yhy(x:WayM)(l:Lk)(g gl:Nat)(c:Cel)(hm:wayB g x∈H)(hml:blk gl (.cells #[.int .i64 l.1,.int .i64 l.2.1,.int .i64 l.2.2] 124 (0,0))∈H)(hw:St B w0 H w):
 CX B w0 312 [celV c,.pointer (some ⟨g,0,none⟩),.pointer (some ⟨gl,0,none⟩)] w λv K=>v=.bool (!(onP x.f.1 l.1 l.2.1 c))/\K=H:=by
 refine Ya Tryz.func312 Tryz.ntmps312 rfl rfl hw ?_
 unfold wayB at hm
 have hb:onP x.f.1 l.1 l.2.1 c=true↔c.2.2.2.2=x.f.1/\c.2.2.1=l.1/\c.2.2.2.1=l.2.1:=by unfold onP Y7 Yr toC;simp_all
 obtain⟨b,hbe⟩:∃b,onP x.f.1 l.1 l.2.1 c=b:=⟨_,rfl⟩
 rw[hbe]at hb⊢
 repeat'(first|refine zgc ?_|(refine zge ?_ ?_<;>intro _<;>try exact zo)|(refine zgh ?_;intro _)|fail)
 all_goals(
  apply Yg H
  ·exact zk
  apply Yf;exact rfl;exact rfl
  cases b<;>simp at hb<;>first|exact⟨rfl,rfl⟩|(exfalso;omega))
theorem YjJ(x:WayM)(l:Lk)(hfew:x.s.cells.length<=1000)(hr:Rd B w0 H x.s.A (x.s.cells.flatMap celF))(hw:St B w0 H w):
 CX B w0 276 [x.val,lkV l] w λv K=>∃A cap,v=.slice A (YZ x.s.sch x.f.1 l).length cap/\K=cels A cap (YZ x.s.sch x.f.1 l)::H:=by
 refine Ya Tryz.func276 Tryz.ntmps276 rfl rfl hw ?_
 unfold WayM.val lkV
 repeat'(first|refine zgb ?_|(refine zgh ?_;intro _)|fail)
 rename_i gw gl
 apply Ye _ YeD
 exact za
 exact rfl
 exactλ_ hw=>(Z7 x.s.cells (by omega) hr.cons.cons (hw))
 rintro _ _ ⟨A',cap',rfl,rfl⟩
 repeat'(first|(apply zg29;(apply Yo;exact za;exact rfl))|fail)
 apply Ye _ Ylv
 exact za
 exact rfl
 exactλ_ hw=>(V8 (λc=>!(onP x.f.1 l.1 l.2.1 c)) x.s.cells 312 [.pointer (some ⟨gw,0,none⟩),.pointer (some ⟨gl,0,none⟩)] Ywp hfew (λc _ X w hw=>Yhy x l gw gl c (TZ _ (by unfold wayB;exact zm)) (TZ _ zm) hw) (hw))
 rintro _ _ ⟨rfl,rfl⟩
 have e:x.s.cells.filter (λc=>!!(onP x.f.1 l.1 l.2.1 c))=YZ x.s.sch x.f.1 l:=Nq λc _=>Bool.not_not _
 rw[e]
 repeat'(first|refine zga ?_|fail)
 apply Yg (cels A' cap' (YZ x.s.sch x.f.1 l)::H)
 ·exact zk
 apply Yf;exact rfl;exact rfl
 exact⟨A',cap',rfl,rfl⟩
variable {x:WayM}{l:Lk}
theorem QK(hok:Wo x)(h:(Yq x.n.net x.r)[i]? =some l):i+1<x.r.length/\0<=l.2.2/\l.2.2<=7:=by
 have hi:=(Td.1 h).1
 rw[Wa]at hi
 have hi:i+1<x.r.length:=by omega
 rw[O5 hi]at h
 have hg:=hok.good i hi
 have h1:=(YM hok.ck).lk _ (Zj (UD hg))
 have e:=Tz h
 unfold X9 at e
 have h2:=h1.l0;have h3:=h1.l1
 simp_all
theorem Yfb{ls:List Lk}(h:ls[i]? =some l):Xi (ls.take (i+1))=Xi (ls.take i)+YN l:=by
 grind [Xi,TG]
theorem U9{args:List Value}(h:(JK x)[i]? =some args):∃l,(Yq x.n.net x.r)[i]? =some l/\args=[lkV l]:=by
 unfold JK at h
 grind
theorem YbA{x:WayM}(hok:Wo x):∀i,Xi ((Yq x.n.net x.r).take i)<=8*i
 |0=>TI _
 |i+1=>by
  have ih:=YbA hok i
  cases h:(Yq x.n.net x.r)[i]? with
  |none=>
   grind [Rl]
  |some l=>
   rw[Yfb h]
   have:=QK hok h
   grind [YN]
theorem Yiu(x:WayM)(hok:Wo x)(hi:x.In B w0 H)(hw:St B w0 H w):
 CX B w0 322 [x.val] w λv K=>v=.int .i64 (Xi (Yq x.n.net x.r))/\K=H:=by
 refine XK Tryz.func322 Tryz.ntmps322 rfl rfl hw ?_
 unfold WayM.val
 refine zX23 ?_<;>intros
 rename_i g gN
 apply Ye _ Ys8
 exact za
 exact rfl
 exactλ_ hw=>(Yc0 x (hw))
 rintro _ _ ⟨g2,rfl,rfl⟩
 refine zX7 ?_
 have hl9:=hok.len
 have hiK:x.In B w0 (wayB g2 x::wayB g x::H):=hi.cons.cons
 refine XL (gf:=311) (lb:=[.pointer (some ⟨g2,0,none⟩)]) (xs:=JK x) (wayB g2 x::wayB g x::H) (λz:Int=>[blk gN (.cells #[.int .i64 z] 3 (0,0))]) (λi z=>z=(Xi ((Yq x.n.net x.r).take i):Int)) (λ_ _=>False) 0 rfl Ytg (Ya3 x g2 hok hiK (.head _)) rfl ?_ (by kernel_rfl) (by kernel_rfl) ?_ rfl ?_ ?_ (λ_ _ _ h=>h.elim)
 ·grind [TQ,U9]
 ·unfold wayB
  simp only[TA,TD]
  exact zc0
 ·rintro l k args R z hk hI
  obtain⟨lk,hlk,rfl⟩:=U9 hk
  have hbd:=QK hok hlk
  have hne:=YbA hok k
  have hst:=Yfb hlk
  try dsimp only at hI
  dsimp only[VP,List.cons_append,List.nil_append]
  unfold lkV
  refine zX64 ?_<;>intros
  apply Z5 (YB Ys)
  intro R'
  unfold wayB
  refine zX2 ?_
  apply Ve (z+(lk.2.2+1))
  ·show z+(lk.2.2+1)=_
   rw[hI,hst]
   unfold YN
   omega
  ·dsimp only[List.cons_append,List.nil_append]
   exact zc0
 ·rintro D z hI
  try dsimp only at hI
  have hle:(JK x).length=(Yq x.n.net x.r).length:=by unfold JK;exact YdL
  rw[hle,TP]at hI
  dsimp only[List.cons_append,List.nil_append]
  unfold wayB
  refine zX9 ?_
  apply Zg Ys
  apply VQ_m
  apply Yg H
  ·exact zc0
  apply Yf;exact rfl;exact rfl
  exact⟨by rw[hI],rfl⟩
open Go.RowKit Go.Eng Go.Nw
def netN(g:Nat)(n:NetM):HP:=blk g (.cells #[.int .i64 n.nodes,.slice n.pA n.rows.length n.pcap,.int .i64 n.noise,.int .i64 n.thr,.slice n.lA n.links.length n.lcap,.slice n.mA n.margin.length n.mcap] 26 (0,0))
theorem Ybm(n:NetM)(l:List Flw)(s:SchM)(hck:Yp n.net=0)(hlen:l.length<=1000)(hl:s.cells.length<=1000000000000){A:Option Addr}{cap B:Nat}{w0:World}{H:List HP}{w:World}(hin:n.In B w0 H)(hrf:Rd B w0 H A (l.flatMap flwF))(hr:Rd B w0 H s.A (s.cells.flatMap celF))(hw:St B w0 H w):
 CX B w0 169 [n.val,.slice A l.length cap,s.val] w λv K=>v=.tuple #[.int .i64 (JH n.net l s.sch).1,.int .i64 (JH n.net l s.sch).2]/\K=H:=by
 refine Ya Tryz.func169 Tryz.ntmps169 rfl rfl hw ?_
 have e4:s.sch.cells.length=s.cells.length:=rfl
 have hE:JH n.net l s.sch=YT (VA n.net l s.sch) s.cells.length 0:=rfl
 rw[hE]
 refine zX64 ?_<;>intros
 rename_i gn gs
 refine Yh (λ(i:Nat)=>[(13,.int .i64 i),(12,.int .i64 s.cells.length),(11,.slice s.A s.cells.length s.cap),(3,.pointer (some ⟨gn,0,none⟩)),(5,.pointer (some ⟨gs,0,none⟩)),(1,.slice A l.length cap)])
  (λ_=>blk gs (.cells #[.int .i64 s.len,.int .i64 s.off,.slice s.A s.cells.length s.cap] 30 (0,0))::netN gn n::H) (λi=>i<=s.cells.length/\∀k,k<i->VA n.net l s.sch k=0) (λi=>s.cells.length-i) 0 ⟨Tm _,λk hk=>absurd hk (RP _)⟩ ?_ (λw hw=>hw) ?_
 ·exact zc1
 rintro i ⟨hi,hall⟩ K hK
 unfold netN
 have hrc:=λ(X:HP)=>((hr.cons (X:=netN gn n)).cons (X:=blk gs (.cells #[.int .i64 s.len,.int .i64 s.off,.slice s.A s.cells.length s.cap] 30 (0,0)))).cons (X:=X)
 by_cases hlt:i<s.cells.length
 ·have hget:s.cells[i]? =some (Ym s.sch i):=Y0 (s:=s.sch) hlt
  have hbad:VA n.net l s.sch i≠0->YT (VA n.net l s.sch) s.cells.length 0=((i:Int),VA n.net l s.sch i):=λh=>ZE (λk _ hk=>hall k hk) (Tm _) (by omega) h
  have hstep:VA n.net l s.sch i=0->∀k,k<i+1->VA n.net l s.sch k=0:=λh k hk=>by
   exact Yuo
  obtain⟨c,hc⟩:∃c,Ym s.sch i=c:=⟨_,rfl⟩
  have hce:VA n.net l s.sch i=if Zl s.sch c=false then 2 else if Y3 n.net (Yr c) (toC c)=false\/Zi l (Y7 c)<0 then 7 else if 0<i/\Xb (Ym s.sch (i-1)) c=false then 5 else 0:=by
   unfold VA
   rw[hc]
  rw[hc]at hget
  have hplc:=λ{H':List HP}{w:World}(hw:St B w0 H' w)=>Ya8 s c hw
  cases hp:Zl s.sch c with
  |false=>
   rw[hp]at hplc
   rw[hp,Tj rfl]at hce
   rw[hbad (by rw[hce];decide),hce]
   repeat'(first|((first|apply Yb Wt|apply Yc Wt);exact za;exact rfl;exactλ_ hw=>(hplc hw))|refine zgd ?_|(refine zge ?_ ?_<;>intro _<;>try exact zo)|(refine zgh ?_;intro _)|fail)
   apply Yg H
   ·exact zc0
   exact zc11
  |true=>
  rw[hp]at hplc
  rw[hp,Tf (by decide)]at hce
  have hix:=λ{H':List HP}{w:World}(hin:n.In B w0 H') (hw:St B w0 H' w)=>XP n c.2.2.1 c.2.2.2.1 hin hw
  have hus:=λ{H':List HP}{w:World}(hin:n.In B w0 H') (hw:St B w0 H' w)=>V4 n (XG n.net c.2.2.1 c.2.2.2.1) hin hw
  rw[Yi9 hck]at hus
  have hfi:=λ{H':List HP}{w:World}(hr:Rd B w0 H' A (l.flatMap flwF)) (hw:St B w0 H' w)=>Ycv l c.2.2.2.2 hlen (cap:=cap) hr hw
  have hgf:Y3 n.net (Yr c) (toC c)=Y3 n.net c.2.2.1 c.2.2.2.1:=rfl
  have hff:Zi l (Y7 c)=Zi l c.2.2.2.2:=rfl
  by_cases hg:Y3 n.net c.2.2.1 c.2.2.2.1=false\/Zi l c.2.2.2.2<0
  ·rw[hgf,hff,Tj hg]at hce
   rw[hbad (by rw[hce];decide),hce]
   cases hgd:Y3 n.net c.2.2.1 c.2.2.2.1 with
   |false=>
    rw[hgd]at hus
    repeat'(first|((first|apply Yb Wt|apply Yc Wt);exact za;exact rfl;exactλ_ hw=>(hplc hw))|((first|apply Yb en45|apply Yc en45);exact za;exact rfl;exactλ_ hw=>(hix hin.cons.cons.cons hw))|((first|apply Yb JA|apply Yc JA);exact za;exact rfl;exactλ_ hw=>(hus hin.cons.cons.cons hw))|(apply zg28;refine zs84 ?_)|refine zgd ?_|(refine zge ?_ ?_<;>intro _<;>try exact zo)|(refine zgh ?_;intro _)|fail)
    apply Yg H
    ·exact zc0
    exact zc11
   |true=>
    have hneg:Zi l c.2.2.2.2<0:=hg.elim (λh=>by rw[hgd]at h;cases h) id
    rw[hgd]at hus
    repeat'(first|((first|apply Yb Wt|apply Yc Wt);exact za;exact rfl;exactλ_ hw=>(hplc hw))|((first|apply Yb en45|apply Yc en45);exact za;exact rfl;exactλ_ hw=>(hix hin.cons.cons.cons hw))|((first|apply Yb JA|apply Yc JA);exact za;exact rfl;exactλ_ hw=>(hus hin.cons.cons.cons hw))|((first|apply Yb Ws|apply Yc Ws);exact za;exact rfl;exactλ_ hw=>(hfi hrf.cons.cons.cons hw))|(apply zg28;refine zs84 ?_)|refine zgd ?_|(refine zge ?_ ?_<;>intro _<;>try exact zo)|(refine zgh ?_;intro _)|fail)
    apply Yg H
    ·exact zc0
    exact zc11
  have hgd:Y3 n.net c.2.2.1 c.2.2.2.1=true:=by
   cases h:Y3 n.net c.2.2.1 c.2.2.2.1 with
   |true=>rfl
   |false=>exact absurd (.inl h) hg
  have hpos:¬Zi l c.2.2.2.2<0:=λh=>hg (.inr h)
  rw[hgf,hff,Tf hg]at hce
  rw[hgd]at hus
  rcases NY i with h0|h0
  ·subst h0
   rw[Tf (by omega)]at hce
   repeat'(first|((first|apply Yb Wt|apply Yc Wt);exact za;exact rfl;exactλ_ hw=>(hplc hw))|((first|apply Yb en45|apply Yc en45);exact za;exact rfl;exactλ_ hw=>(hix hin.cons.cons.cons hw))|((first|apply Yb JA|apply Yc JA);exact za;exact rfl;exactλ_ hw=>(hus hin.cons.cons.cons hw))|((first|apply Yb Ws|apply Yc Ws);exact za;exact rfl;exactλ_ hw=>(hfi hrf.cons.cons.cons hw))|(apply zg28;refine zs84 ?_)|refine zgd ?_|(refine zgf ?_ ?_<;>intro _<;>try exact zo)|(refine zgh ?_;intro _)|fail)
   apply hK (0+1)
   ·exact⟨by omega,hstep hce⟩
   ·omega
   ·exact zc1
   ·unfold netN
    exact zc0
  have hget2:s.cells[((i:Int)-1).toNat]? =some (Ym s.sch (i-1)):=YtI
  obtain⟨p,hpv⟩:∃p,Ym s.sch (i-1)=p:=⟨_,rfl⟩
  rw[hpv]at hce hget2
  have hcl:=Yad p c
  have hcm:=λ{H':List HP}{w:World}(hw:St B w0 H' w)=>OD p c hw
  obtain⟨q,hq⟩:∃q,cmpV (nums p) (nums c)=q:=⟨_,rfl⟩
  rw[hq]at hcl hcm
  by_cases hlt2:q<0
  ·rw[hcl.1 hlt2,Tf (by simp)]at hce
   refine zX76 ?_<;>intros
   apply hK (i+1)
   ·exact⟨by omega,hstep hce⟩
   ·omega
   ·exact zc1
   ·unfold netN
    exact zc0
  ·have hnl:Xb p c=false:=by
    cases h:Xb p c with
    |false=>rfl
    |true=>exact absurd (hcl.2 h) hlt2
   rw[hnl,Tj ⟨h0,rfl⟩]at hce
   rw[hbad (by rw[hce];decide),hce]
   refine zX76 ?_<;>intros
   apply Yg H
   ·exact zc0
   exact zc11
 ·refine zX0 ?_<;>intros
  rw[show i=s.cells.length by omega]at hall
  rw[Z9 λk _ hk=>hall k (by omega)]
  apply Yg H
  ·exact zc0
  exact zc11
def runW(x:WayM)(a:Int):List (Cel×Int):=runP x.s.len (YZ x.s.sch x.f.1) (a+x.f.2.2.2.1) (Yq x.n.net x.r) a
def cntV(z:Cel×Int):List Value:=[celV z.1,.int .i64 z.2]
def YhG(x:WayM)(a:Int):List (List Value):=(runW x a).map cntV
structure CtM where
 c:Nat
 a:Int
 L:List HP
structure CuM where
 k:Nat
 slot:Int
 a:Int
 c:Nat
 L:List HP
structure CvM where
 j:Nat
 k:Nat
 a:Int
 c:Nat
 L:List HP
variable {α:Type}{c:Nat}
theorem YqH{W r:List α}{z:α}(hc:c<=W.length)(h:W=W.take c++z::r):W[c]? =some z/\c+1<=W.length/\W=W.take (c+1)++r:=by
 grind
theorem Yi3{W:List α}(hc:c<=W.length)(h:W=W.take c++[]):c=W.length:=by
 grind
theorem Qw(x:WayM)(at0:Int)(hok:Wo x)(hat:0<=at0/\at0<=1000000)(ga gw:Nat){B:Nat}{w0:World}{H:List HP}(hi:x.In B w0 H):
 YbM Tryz.prog 274 [.pointer (some ⟨ga,0,none⟩),.pointer (some ⟨gw,0,none⟩)] (YhG x at0) B w0 (intB ga at0::wayB gw x::H):=by
 refine Yms Tryz.func274 Tryz.ntmps274 rfl rfl ?_
 intro l SS XX hy L0 h0
 have hper:=hok.per
 have hslen:=hok.slen
 obtain⟨W,hW⟩:∃W,runW x at0=W:=⟨_,rfl⟩
 have hxs:YhG x at0=W.map cntV:=by unfold YhG;rw[hW]
 rw[hxs]at hy⊢
 rw[Tv]
 obtain⟨endd,hend⟩:∃e,at0+x.f.2.2.2.1=e:=⟨_,rfl⟩
 unfold runW at hW
 rw[hend]at hW
 unfold intB at hy⊢
 iterate 3 (first|refine zga ?_|(refine zgh ?_;intro _)|fail)
 rename_i gy
 apply YoH
 apply YfS
 apply Xm
 refine XE (λz:Nat×Nat=>[(5,.pointer (some ⟨z.2,0,none⟩)),(4,.pointer (some ⟨z.1,0,none⟩)),(3,.pointer (some ⟨gy,0,none⟩)),(1,.pointer (some ⟨ga,0,none⟩)),(2,.pointer (some ⟨gw,0,none⟩))])
  (λz=>intB z.1 at0::many L0::intB z.2 endd::blk gy (.cells #[.func (.yield l) #[] #[]] 360 (0,0))::intB ga at0::wayB gw x::H) ?_ ?_
 ·intro K hK
  refine zX8 ?_
  apply Je (.n1 0 (.n1 1 (.n1 2 (.n1 3 (.n1 4 (.n1 5 (.n2 6 (.n1 7 (.n1 8 .done)) 7 (.n1 6 (.n1 8 .done))))))))) [9] [false,false,true,true]
  kernel_rfl
  kernel_rfl
  exact zy
  (simp only[Yd,nthO];rfl)
  repeat'(first|(apply Yj;try exact zl)|apply(zs91 ?_ ?_)|(apply YW;try exact zl)|refine zgd ?_|(refine zgh ?_;intro _)|fail)
  ·rename_i a b
   rw[hend]
   apply hK (a,b)
   ·exact zc1
   ·unfold intB
    dsimp only
    exact zc0
  ·rename_i a b
   rw[hend]
   apply hK (b,a)
   ·exact zc1
   ·unfold intB
    dsimp only
    exact zc0
 rintro⟨g4,g5⟩
 unfold intB
 dsimp only
 refine zX7 ?_
 apply Ye _ Ys8
 exact za
 exact rfl
 exactλ_ hw=>(Yc0 x (hw))
 rintro _ _ ⟨g2,rfl,rfl⟩
 refine zX7 ?_
 have hiK:x.In B w0 (wayB g2 x::blk g5 (.cells #[.int .i64 endd] 3 (0,0))::blk gy (.cells #[.func (.yield l) #[] #[]] 360 (0,0))::blk ga (.cells #[.int .i64 at0] 3 (0,0))::wayB gw x::H):=hi.cons.cons.cons.cons.cons
 refine XL (gf:=311) (lb:=[.pointer (some ⟨g2,0,none⟩)]) (xs:=JK x) (wayB g2 x::blk g5 (.cells #[.int .i64 endd] 3 (0,0))::blk gy (.cells #[.func (.yield l) #[] #[]] 360 (0,0))::blk ga (.cells #[.int .i64 at0] 3 (0,0))::wayB gw x::H) (λy:CtM=>[blk g4 (.cells #[.int .i64 y.a] 3 (0,0)),many y.L])
  (λk y=>y.c<=W.length/\W=W.take y.c++runP x.s.len (YZ x.s.sch x.f.1) endd ((Yq x.n.net x.r).drop k) y.a/\SS y.c y.L/\at0<=y.a/\y.a<=endd)
  (λe K=>e=.ret/\∃a L,(SS W.length L\/XX L)/\K=[blk g4 (.cells #[.int .i64 a] 3 (0,0)),many L]) ⟨0,at0,L0⟩ rfl Ytg (Ya3 x g2 hok hiK (.head _)) rfl ?_ (by kernel_rfl) (by kernel_rfl) ?_ ⟨Tm _,by simpa using hW.symm,h0,RI _,by show at0<=endd;omega⟩ ?_ ?_ ?_
 ·intro args h
  obtain⟨k,hk⟩:=TQ.1 h
  obtain⟨l,_,rfl⟩:=U9 hk
  rfl
 ·simp only[TA,TD]
  exact zc0
 ·rintro l2 k args R ⟨c,a,L⟩ hk ⟨hc,hWk,hS,ha0,ha1⟩
  obtain⟨lk,hlk,rfl⟩:=U9 hk
  have hbd:=QK hok hlk
  dsimp only at hc hWk hS ha0 ha1
  dsimp only[VP,List.cons_append,List.nil_append]
  unfold lkV
  refine zX64 ?_<;>intros
  rename_i gl
  apply Z5 (YB Ys)
  intro R'
  refine zX9 ?_
  have hfew:=hok.few
  apply Ye _ Ywl
  exact za
  exact rfl
  exactλ_ hw=>(YjJ x lk (by omega) (hi.mono zc0).s (hw))
  rintro _ _ ⟨A,cap,rfl,rfl⟩
  have hcsl:(YZ x.s.sch x.f.1 lk).length<=512:=TU (RB _ _) hfew
  have hdk:(Yq x.n.net x.r).drop k=lk::(Yq x.n.net x.r).drop (k+1):=by
   obtain⟨h1,h2⟩:=Td.1 hlk
   rw[<-h2];exact Rw h1
  rw[hdk,Yqw]at hWk
  obtain⟨cs,hcs⟩:∃cs,YZ x.s.sch x.f.1 lk=cs:=⟨_,rfl⟩
  obtain⟨ls,hls⟩:∃ls,(Yq x.n.net x.r).drop (k+1)=ls:=⟨_,rfl⟩
  obtain⟨C,hC⟩:∃C,YZ x.s.sch x.f.1=C:=⟨_,rfl⟩
  rw[hcs,hls,hC]at hWk
  rw[hcs]at hcsl⊢
  rw[hC,hls]
  unfold cels
  refine zX7 ?_
  rw[show lk.2.2+1=((YN lk:Nat):Int) from by unfold YN;omega]
  have hnl8:YN lk<=8:=by unfold YN;omega
  refine Yh (λz:CuM=>[(9,.int .i64 z.slot),(7,.int .i64 (z.k:Nat)),(8,.slice A cs.length cap),(6,.pointer (some ⟨gl,0,none⟩)),(5,.pointer (some ⟨g5,0,none⟩)),(4,.pointer (some ⟨g4,0,none⟩)),(3,.pointer (some ⟨gy,0,none⟩)),(1,.pointer (some ⟨ga,0,none⟩)),(2,.pointer (some ⟨gw,0,none⟩))])
   (λz=>R'::blk g4 (.cells #[.int .i64 z.a] 3 (0,0))::many z.L::sl 117 5 A cs.length cap (cs.flatMap celF)::blk gl (.cells #[.int .i64 lk.1,.int .i64 lk.2.1,.int .i64 lk.2.2] 124 (0,0))::wayB g2 x::blk g5 (.cells #[.int .i64 endd] 3 (0,0))::blk gy (.cells #[.func (.yield l) #[] #[]] 360 (0,0))::blk ga (.cells #[.int .i64 at0] 3 (0,0))::wayB gw x::H)
   (λz=>z.c<=W.length/\W=W.take z.c++Wy x.s.len C endd cs ls (endd-z.slot).toNat z.k z.slot z.a/\SS z.c z.L/\(at0<=z.a/\z.a<=endd)/\(at0<=z.slot/\z.slot<=endd)/\z.k<=8) (λz=>(endd-z.slot).toNat) ⟨YN lk,a,a,c,L⟩ ⟨hc,hWk,hS,⟨ha0,ha1⟩,⟨ha0,ha1⟩,hnl8⟩ ?_ ?_ ?_
  ·exact zc1
  ·exact zc0
  rintro⟨kk,slot,a,c,L⟩ ⟨hc,hWk,hS,⟨ha0,ha1⟩,⟨hs0,hs1⟩,hk8⟩ K hK
  dsimp only at hc hWk hS ha0 ha1 hs0 hs1 hk8⊢
  by_cases hk0:kk=0
  ·subst hk0
   rw[Yod]at hWk
   clear hK
   refine zX40 ?_<;>intros
   apply Ve (CtM.mk c a L)
   ·exact⟨hc,hWk,hS,ha0,ha1⟩
   ·dsimp only[List.cons_append,List.nil_append]
    exact zc0
  by_cases hse:endd<=slot
  ·rw[show(endd-slot).toNat=0 by omega,YqG hk0]at hWk
   have hce:=Yi3 hc hWk
   rw[hce]at hS
   clear hK
   refine zX13 ?_<;>intros
   apply Ql [blk g4 (.cells #[.int .i64 a] 3 (0,0)),many L]
   ·exact⟨rfl,a,L,.inl hS,rfl⟩
   ·dsimp only[List.cons_append,List.nil_append]
    exact zc0
  obtain⟨f,hf⟩:∃f,(endd-(slot+1)).toNat=f:=⟨_,rfl⟩
  have hf1:(endd-slot).toNat=f+1:=by omega
  have hmt:slot.tmod x.s.len=slot%x.s.len:=Rq (by omega)
  rw[hf1,<-Yqq]at hWk
  refine zX40 ?_<;>intros
  refine Yh (λy:CvM=>[(37,.int .i64 (y.j:Nat)),(36,.int .i64 cs.length),(35,.slice A cs.length cap),(9,.int .i64 slot),(7,.int .i64 (y.k:Nat)),(8,.slice A cs.length cap),(6,.pointer (some ⟨gl,0,none⟩)),(5,.pointer (some ⟨g5,0,none⟩)),(4,.pointer (some ⟨g4,0,none⟩)),(3,.pointer (some ⟨gy,0,none⟩)),(1,.pointer (some ⟨ga,0,none⟩)),(2,.pointer (some ⟨gw,0,none⟩))])
   (λy=>R'::blk g4 (.cells #[.int .i64 y.a] 3 (0,0))::many y.L::sl 117 5 A cs.length cap (cs.flatMap celF)::blk gl (.cells #[.int .i64 lk.1,.int .i64 lk.2.1,.int .i64 lk.2.2] 124 (0,0))::wayB g2 x::blk g5 (.cells #[.int .i64 endd] 3 (0,0))::blk gy (.cells #[.func (.yield l) #[] #[]] 360 (0,0))::blk ga (.cells #[.int .i64 at0] 3 (0,0))::wayB gw x::H)
   (λy=>y.j<=cs.length/\y.c<=W.length/\W=W.take y.c++OL x.s.len C endd cs (cs.drop y.j) ls f y.k slot y.a/\SS y.c y.L/\(at0<=y.a/\y.a<=endd)/\y.k<=8) (λy=>cs.length-y.j) ⟨0,kk,a,c,L⟩ ⟨Tm _,hc,hWk,hS,⟨ha0,ha1⟩,hk8⟩ ?_ ?_ ?_
  ·exact zc1
  ·exact zc0
  clear hWk hS hc hk0 hk8 ha0 ha1
  rintro⟨j,kk,a,c,L⟩ ⟨hj,hc,hWk,hS,⟨ha0,ha1⟩,hk8⟩ K2 hK2
  dsimp only at hj hc hWk hS ha0 ha1 hk8⊢
  by_cases hjl:j<cs.length
  rotate_left
  ·obtain rfl:j=cs.length:=by omega
   rw[SH,Yqr]at hWk
   clear hK2
   refine zX0 ?_<;>intros
   apply hK ⟨kk,slot+1,a,c,L⟩
   ·exact⟨hc,by rw[hf];exact hWk,hS,⟨ha0,ha1⟩,⟨by show at0<=slot+1;omega,by show slot+1<=endd;omega⟩,hk8⟩
   ·exact zc36
   ·exact zc1
   exact zc19
  obtain⟨d,hd⟩:∃d,cs[j]? =some d:=⟨_,Ta hjl⟩
  have hdj:cs.drop j=d::cs.drop (j+1):=by
   obtain⟨h1,h2⟩:=Td.1 hd
   rw[<-h2];exact Rw h1
  rw[hdj]at hWk
  by_cases hcd:d.1=slot%x.s.len/\kk≠0
  ·obtain⟨hcd1,hcd2⟩:=hcd
   obtain⟨k3,rfl⟩:∃k3,kk=k3+1:=⟨kk-1,by omega⟩
   rw[Yqs (by rw[hmt];exact hcd1) hcd2,SB]at hWk
   obtain⟨hx,hc1,hW1⟩:=YqH hc hWk
   have hx:(W.map cntV)[c]? =some [celV d,.int .i64 slot]:=by rw[TM,hx];rfl
   repeat'(first|(refine YfE 3 57 rfl rfl rfl ?_)|refine zgd ?_|(refine zge ?_ ?_<;>intro _<;>try exact zo)|(refine zgh ?_;intro _)|fail)
   first|(rename_i gc _ _;guard_hyp gc:Nat)|(rename_i gc _;guard_hyp gc:Nat)|(rename_i gc _ _ _;guard_hyp gc:Nat)
   rw[show((k3+1:Nat):Int)-1=(k3:Int) by omega]
   apply Yg (R'::blk gc (.cells #[.int .i64 d.1,.int .i64 d.2.1,.int .i64 d.2.2.1,.int .i64 d.2.2.2.1,.int .i64 d.2.2.2.2] 117 (0,0))::sl 117 5 A cs.length cap (cs.flatMap celF)::blk gl (.cells #[.int .i64 lk.1,.int .i64 lk.2.1,.int .i64 lk.2.2] 124 (0,0))::blk g4 (.cells #[.int .i64 (slot+1)] 3 (0,0))::wayB g2 x::blk g5 (.cells #[.int .i64 endd] 3 (0,0))::blk gy (.cells #[.func (.yield l) #[] #[]] 360 (0,0))::many L::blk ga (.cells #[.int .i64 at0] 3 (0,0))::wayB gw x::H)
   ·exact zc0
   have hY:=hy c _ hx [R',blk gc (.cells #[.int .i64 d.1,.int .i64 d.2.1,.int .i64 d.2.2.1,.int .i64 d.2.2.2.1,.int .i64 d.2.2.2.2] 117 (0,0)),sl 117 5 A cs.length cap (cs.flatMap celF),blk gl (.cells #[.int .i64 lk.1,.int .i64 lk.2.1,.int .i64 lk.2.2] 124 (0,0)),blk g4 (.cells #[.int .i64 (slot+1)] 3 (0,0)),wayB g2 x,blk g5 (.cells #[.int .i64 endd] 3 (0,0)),blk gy (.cells #[.func (.yield l) #[] #[]] 360 (0,0))] L hS
   apply YmH _ _ (hy:=hY)
   ·exact Ybg
   ·exact rfl
   ·exact YqU
   ·exact rfl
   ·exact zc86
   ·exact rfl
   ·rintro _ ⟨L',hS',rfl⟩
    dsimp only[List.cons_append,List.nil_append]
    refine zX2 ?_
    apply hK2 ⟨j+1,k3,slot+1,c+1,L'⟩
    ·exact⟨by show j+1<=_;omega,hc1,hW1,hS',⟨by show at0<=slot+1;omega,by show slot+1<=endd;omega⟩,by show k3<=8;omega⟩
    ·exact zc36
    ·exact zc1
    ·exact zc0
   ·rintro _ ⟨L',hX',rfl⟩
    dsimp only[List.cons_append,List.nil_append]
    refine zX2 ?_
    apply Ql [blk g4 (.cells #[.int .i64 (slot+1)] 3 (0,0)),many L']
    ·exact⟨rfl,slot+1,L',.inr hX',rfl⟩
    ·dsimp only[List.cons_append,List.nil_append]
     exact zc0
  ·rw[Ysw (by rw[hmt];exact hcd)]at hWk
   repeat'(first|refine zgd ?_|(refine zge ?_ ?_<;>intro _<;>try exact zo)|(refine zgh ?_;intro _)|fail)
   all_goals(
    apply hK2 ⟨j+1,kk,a,c,L⟩
    ·exact⟨by show j+1<=_;omega,hc,hWk,hS,⟨ha0,ha1⟩,hk8⟩
    ·dsimp only;omega
    ·exact zu
    ·exact zk)
 ·rintro D ⟨c,a,L⟩ ⟨hc,hWk,hS,ha0,ha1⟩
  dsimp only at hc hWk hS ha0 ha1
  have hle:(JK x).length=(Yq x.n.net x.r).length:=by unfold JK;exact YdL
  rw[hle,SH]at hWk
  have hce:=Yi3 hc hWk
  rw[hce]at hS
  dsimp only[List.cons_append,List.nil_append]
  refine zX9 ?_
  apply Yrv
  apply Zg Ys
  apply VQ_m
  apply Yg (many L::blk ga (.cells #[.int .i64 at0] 3 (0,0))::wayB gw x::H)
  ·exact zc0
  apply ZD;exact rfl
  exact .inl ⟨L,hS,rfl⟩
 ·rintro D _ _ ⟨rfl,a,L,hSL,rfl⟩ _
  dsimp only[List.cons_append,List.nil_append]
  refine zX2 ?_
  apply Zg Ys
  apply VQ_m
  apply Yg (many L::blk ga (.cells #[.int .i64 at0] 3 (0,0))::wayB gw x::H)
  ·exact zc0
  apply ZD;exact rfl
  rcases hSL with h|h
  ·exact .inl ⟨L,h,rfl⟩
  ·exact .inr ⟨L,h,rfl⟩
end Go.Proofs.YtambgjgljcadlaaGreatDoor
