/- Lemmas. -/
import Derived.Test.YtjlgijpmnfabcaaGreatDoorQ10
import Derived.Test.YtjlgijpmnfabcaaGreatDoorQ11
set_option maxRecDepth 100000
set_option maxHeartbeats 8000000
set_option linter.all false
namespace Go.Proofs.YtjlgijpmnfabcaaGreatDoor
open Go.RowKit Go.Eng Go.Nw Go.Rt
def wordF:List UInt8:=[102,108,111,119]
def wordR:List UInt8:=[114,111,117,116,101]
def UP:List UInt8:=[98,111,117,110,100]
def UQ:List UInt8:=[115,108,111,116,115]
def Ya4(k:Nat):List UInt8:=if k=0 then wordF else if k=1 then wordR else if k=2 then UP else UQ
def Ypu(k:Nat):Nat:=if k=1\/k=2 then 2 else 1
def YsZ(k:Nat):Nat:=if k=0 then 1 else if k=1 then 9 else if k=2 then 2 else 64
def YkO(k:Nat):Nat:=if k=0 then 3 else k-1
def inL(l:List Int)(a b:Int):Bool:=l.all λx=>decide (a<=x/\x<=b)
def rtOk(r l:List Int):Bool:=decide (2<=r.length/\r.length<=9)&&inL r 0 31&&decide (1<=l.length/\l.length<=64)&&inL l 0 511
def V6(c:Clm):Bool:=decide (0<=c.flow/\c.flow<=255/\1<=c.routes.length/\c.routes.length<=2/\c.bounds.length=c.routes.length/\c.worst.length=c.routes.length/\c.slots.length=c.routes.length)&&
 inL c.bounds 1 512&&inL c.worst 0 511&&(List.range c.routes.length).all λi=>rtOk (rtAt c.routes i) (rtAt c.slots i)
def Yhi(c:List Clm)(i:Nat):Bool:=V6 (Jd c i)&&(decide (i=0)||decide ((Jd c (i-1)).flow<(Jd c i).flow))
def Jf(c:List Clm):Bool:=decide (c.length<=16)&&(List.range c.length).all (Yhi c)
def YlO(c:Clm)(i:Nat):List (List UInt8):=
 YA wordR (rtAt c.routes i)::((if i<c.bounds.length then [YA UP [c.bounds.getD i 0,c.worst.getD i 0]]else [])++(if i<c.slots.length then [YA UQ (rtAt c.slots i)]else []))
def Ue(c:Clm):List (List UInt8):=YA wordF [c.flow]::(List.range c.routes.length).flatMap (YlO c)
def Wy(c:List Clm):List UInt8:=(c.flatMap Ue).flatMap λp=>p++[10]
def Zf(c:List Clm):List UInt8×Int:=if Jf c=false then([],1)else(Wy c,0)
structure Pst where
 c:List Clm
 last:Nat
def YlB(c:List Clm):Clm:=Jd c (c.length-1)
def Ypf(p:Pst)(k:Nat):Bool:=decide (p.last=YkO k)||(decide (k=1)&&decide (p.last=3)&&decide (0<p.c.length)&&decide ((YlB p.c).routes.length<2))
def Ylv(k:Nat)(l:List Int)(x:Clm):Clm:=
 if k=1 then⟨x.flow,x.routes++[l],x.bounds,x.worst,x.slots⟩else if k=2 then⟨x.flow,x.routes,x.bounds++[l.getD 0 0],x.worst++[l.getD 1 0],x.slots⟩else⟨x.flow,x.routes,x.bounds,x.worst,x.slots++[l]⟩
def Ygr(c:List Clm)(x:Clm):List Clm:=c.take (c.length-1)++[x]
def YiE(k:Nat)(l:List Int)(c:List Clm):List Clm:=if k=0 then c++[⟨l.getD 0 0,[],[],[],[]⟩]else Ygr c (Ylv k l (YlB c))
def YsX(p:Pst)(line:List UInt8)(k:Nat):Option Pst:=
 match YpI (cutC 32 line).tail with
 |none=>none
 |some l=>if Ypu k<=l.length/\l.length<=YsZ k/\Ypf p k=true then some ⟨YiE k l p.c,k⟩else none
def Yps(w:List UInt8):Option Nat:=if w=wordF then some 0 else if w=wordR then some 1 else if w=UP then some 2 else if w=UQ then some 3 else none
def Ya6(p:Pst)(line:List UInt8):Option Pst:=
 match Yps ((cutC 32 line).headD [])with
 |none=>none
 |some k=>YsX p line k
def runL:List (List UInt8)->Pst->Option Pst
 |[],p=>some p
 |l::ls,p=>match Ya6 p l with|none=>none|some p'=>runL ls p'
def Wj:Pst:=⟨[],3⟩
def Yim(ls:List (List UInt8))(k:Nat):Option Pst:=runL (ls.take k) Wj
def badL(ls:List (List UInt8))(i:Nat):Int:=if(Yim ls (i+1)).isNone=true then 3 else 0
def YlJ(ls:List (List UInt8))(k:Nat):Pst:=(Yim ls k).getD Wj
def YlI(ls:List (List UInt8)):List Clm×(Int×Int):=
 if(YH (badL ls) (ls.length-1) 0).2≠0 then([],YH (badL ls) (ls.length-1) 0)
 else if Ui ls (ls.length-1)≠[]\/(YlJ ls (ls.length-1)).last≠3 then([],(((ls.length-1:Nat):Int),3))
 else if Jf (YlJ ls (ls.length-1)).c=false then([],(-1,1))else((YlJ ls (ls.length-1)).c,(-1,0))
def YpS(text:List UInt8):List Clm×(Int×Int):=YlI (cutC 10 text)
theorem QX:∀(l m:List (List UInt8)) (p:Pst),runL (l++m) p=(runL l p).bind (runL m)
 |[],m,p=>rfl
 |x::l,m,p=>by
  rw[TA]
  unfold runL
  cases Ya6 p x with
  |none=>rfl
  |some p'=>exact QX l m p'
variable {k i:Nat}
theorem Ykt(hk:k<4):Yps (Ya4 k)=some k/\(32:UInt8)∉Ya4 k/\(10:UInt8)∉Ya4 k:=by
 match k,hk with
 |0,_=>decide
 |1,_=>decide
 |2,_=>decide
 |3,_=>decide
variable {l:List Int}
theorem Oo{p:Pst}(hk:k<4)(hl:∀n∈l,0<=n/\n<10000)(h1:Ypu k<=l.length/\l.length<=YsZ k)(hf:Ypf p k=true):Ya6 p (YA (Ya4 k) l)=some ⟨YiE k l p.c,k⟩:=by
 obtain⟨w1,w2,_⟩:=Ykt hk
 have hr:=UL w2 hl
 unfold YlK at hr
 split at hr
 ·cases hr
 unfold Ya6
 unfold YsX
 simp_all
structure FormD(c:Clm):Prop where
 f:0<=c.flow/\c.flow<=255
 n:1<=c.routes.length/\c.routes.length<=2
 b:c.bounds.length=c.routes.length
 w:c.worst.length=c.routes.length
 s:c.slots.length=c.routes.length
 bs:∀x∈c.bounds,1<=x/\x<=512
 ws:∀x∈c.worst,0<=x/\x<=511
 rs:∀i,i<c.routes.length->2<=(rtAt c.routes i).length/\(rtAt c.routes i).length<=9/\∀x∈rtAt c.routes i,0<=x/\x<=31
 ls:∀i,i<c.routes.length->1<=(rtAt c.slots i).length/\(rtAt c.slots i).length<=64/\∀x∈rtAt c.slots i,0<=x/\x<=511
variable {b:Int}
theorem YbE{a:Int}:inL l a b=true↔∀x∈l,a<=x/\x<=b:=by
 grind [inL]
theorem YcE{c:Clm}:V6 c=true↔FormD c:=by
 unfold V6
 simp only[Tm,To,YbE,TK,T8]
 constructor
 ·rintro⟨⟨⟨⟨h1,h2,h3,h4,h5,h6,h7⟩,h8⟩,h9⟩,h10⟩
  have hr:∀i,i<c.routes.length->_:=λi hi=>h10 i hi
  refine⟨⟨h1,h2⟩,⟨h3,h4⟩,h5,h6,h7,h8,h9,λi hi=>?_,λi hi=>?_⟩
  ·have:=hr i hi
   unfold rtOk at this
   simp_all [YbE]
  ·have:=hr i hi
   unfold rtOk at this
   simp_all [YbE]
 ·intro h
  refine⟨⟨⟨⟨h.f.1,h.f.2,h.n.1,h.n.2,h.b,h.w,h.s⟩,h.bs⟩,h.ws⟩,λi hi=>?_⟩
  have h1:=h.rs i hi
  have h2:=h.ls i hi
  simp_all [rtOk,YbE]
theorem U9(c:List Clm)(x:Clm):YlB (c++[x])=x/\∀y,Ygr (c++[x]) y=c++[y]:=by
 simp_all [YlB,Ygr,Jd]
theorem Ydm{cs:List Clm}{x:Clm}{last:Nat}{r sl:List Int}{w:Int}(hlast:last=0\/(last=3/\x.routes.length<2))(hr:2<=r.length/\r.length<=9/\∀z∈r,0<=z/\z<=31)(hs:1<=sl.length/\sl.length<=64/\∀z∈sl,0<=z/\z<=511)
 (hb:1<=b/\b<=512) (hw:0<=w/\w<=511):runL [YA wordR r,YA UP [b,w],YA UQ sl] ⟨cs++[x],last⟩=some ⟨cs++[⟨x.flow,x.routes++[r],x.bounds++[b],x.worst++[w],x.slots++[sl]⟩],3⟩:=by
 have h1:Ya6 ⟨cs++[x],last⟩ (YA wordR r)=some ⟨cs++[Ylv 1 r x],1⟩:=by
  have:=Oo (p:=⟨cs++[x],last⟩) (k:=1) (l:=r) (by omega) (λn hn=>by grind) ⟨by show 2<=_;omega,by show _<=9;omega⟩ (by
   grind [Ypf,YkO,U9])
  simp_all [Ya4,YiE,U9]
 have h2:∀y,Ya6 ⟨cs++[y],1⟩ (YA UP [b,w])=some ⟨cs++[Ylv 2 [b,w] y],2⟩:=λy=>by
  have:=Oo (p:=⟨cs++[y],1⟩) (k:=2) (l:=[b,w]) (by omega) (λn hn=>by
   grind) ⟨TI 2,TI 2⟩ rfl
  simp_all [Ya4,YiE,U9]
 have h3:∀y,Ya6 ⟨cs++[y],2⟩ (YA UQ sl)=some ⟨cs++[Ylv 3 sl y],3⟩:=λy=>by
  have:=Oo (p:=⟨cs++[y],2⟩) (k:=3) (l:=sl) (by omega) (λn hn=>by grind) ⟨by show 1<=_;omega,by show _<=64;omega⟩ rfl
  simp_all [Ya4,YiE,U9]
 unfold runL;rw[h1];dsimp only
 unfold runL;rw[h2];dsimp only
 unfold runL;rw[h3];dsimp only
 unfold runL
 rfl
theorem YnC{c:Clm}(h:FormD c)(cs:List Clm):runL (Ue c) ⟨cs,3⟩=some ⟨cs++[c],3⟩:=by
 obtain⟨fl,rs,bs,ws,ls⟩:=c
 have hf:=h.f;have hn:=h.n;have hb:=h.b;have hw:=h.w;have hs:=h.s;have hbs:=h.bs;have hws:=h.ws;have hrs:=h.rs;have hls:=h.ls
 dsimp only at hf hn hb hw hs hbs hws hrs hls
 have h0:Ya6 ⟨cs,3⟩ (YA wordF [fl])=some ⟨cs++[⟨fl,[],[],[],[]⟩],0⟩:=by
  have:=Oo (p:=⟨cs,3⟩) (k:=0) (l:=[fl]) (by omega) (λn hn=>by grind) ⟨TI 1,TI 1⟩ rfl
  rw[show Ya4 0=wordF from rfl]at this
  rw[this];rfl
 unfold Ue
 unfold runL
 rw[h0]
 dsimp only
 match rs,bs,ws,ls,hn,hb,hw,hs,hbs,hws,hrs,hls with
 |[r],[b],[w],[sl],_,_,_,_,hbs,hws,hrs,hls=>
  exact Ydm (x:=⟨fl,[],[],[],[]⟩) (.inl rfl) (hrs 0 (by simp)) (hls 0 (by simp)) (hbs b (by simp)) (hws w (by simp))
 |[r,r2],[b,b2],[w,w2],[sl,sl2],_,_,_,_,hbs,hws,hrs,hls=>
  show runL ([YA wordR r,YA UP [b,w],YA UQ sl]++[YA wordR r2,YA UP [b2,w2],YA UQ sl2]) _=_
  have h1:=Ydm (cs:=cs) (x:=⟨fl,[],[],[],[]⟩) (r:=r) (sl:=sl) (.inl rfl) (hrs 0 (by simp)) (hls 0 (by simp)) (hbs b (by simp)) (hws w (by simp))
  rw[QX,h1]
  exact Ydm (x:=⟨fl,[r],[b],[w],[sl]⟩) (.inr ⟨rfl,by simp⟩) (hrs 1 (by simp)) (hls 1 (by simp)) (hbs b2 (by simp)) (hws w2 (by simp))
theorem Ydk:∀(l cs:List Clm),(∀c∈l,FormD c)->runL (l.flatMap Ue) ⟨cs,3⟩=some ⟨cs++l,3⟩
 |[],cs,_=>by simp[runL]
 |c::l,cs,h=>by
  rw[TN,QX,YnC (h c (by simp)) cs]
  show runL _ _=_
  rw[Ydk l _ λx hx=>h x (by simp[hx])]
  simp
variable {c:List Clm}
theorem Yjm(h:i<c.length):c[i]? =some (Jd c i):=by
 grind [Jd]
theorem QE(h:Jf c=true):c.length<=16/\∀x∈c,FormD x:=by
 unfold Jf at h
 rw[Tm,To]at h
 refine⟨h.1,λx hx=>?_⟩
 obtain⟨i,hi⟩:=TP.1 hx
 have hl:=(Tu.1 hi).1
 have:=TK.1 h.2 i (T8.2 hl)
 unfold Yhi at this
 grind [Yjm,YcE]
theorem Oj(h:i<l.length):l.getD i 0∈l:=by
 simp_all
theorem Yfb{c:Clm}(h:FormD c):∀p∈Ue c,(10:UInt8)∉p:=by
 intro p hp
 rcases TV.1 hp with rfl|hp
 ·exact Zc (by decide) λn hn=>by obtain rfl:=TX.1 hn;exact h.f.1
 ·obtain⟨i,hi,hp⟩:=RP.1 hp
  have hi:=T8.1 hi
  rcases TV.1 hp with rfl|hp
  ·exact Zc (by decide) λn hn=>((h.rs i hi).2.2 n hn).1
  rcases TU.1 hp with hp|hp
  ·rw[Tn (by simp_all)]at hp
   obtain rfl:=TX.1 hp
   refine Zc (by decide) λn hn=>?_
   simp only[TV,Si,NH]at hn
   rcases hn with rfl|rfl
   ·have:=h.bs _ (Oj (l:=c.bounds) (i:=i) (by rw[h.b];exact hi));omega
   ·exact(h.ws _ (Oj (l:=c.worst) (i:=i) (by rw[h.w];exact hi))).1
  ·rw[Tn (by rw[h.s];exact hi)]at hp
   obtain rfl:=TX.1 hp
   exact Zc (by decide) λn hn=>((h.ls i hi).2.2 n hn).1
theorem YmF(h:∀x∈c,FormD x):cutC 10 (Wy c)=c.flatMap Ue++[[]]:=by
 unfold Wy
 rw[<-VA]
 refine Ux (by simp) λp hp=>?_
 grind [Yfb]
theorem QU(h:Jf c=true):YpS (Wy c)=(c,(-1,0)):=by
 obtain⟨h1,h2⟩:=QE h
 obtain⟨ls,hls⟩:∃ls,c.flatMap Ue=ls:=⟨_,rfl⟩
 have hrun:runL ls Wj=some ⟨c,3⟩:=by rw[<-hls];exact Ydk c [] h2
 have hl:(ls++[[]]).length-1=ls.length:=by simp
 have hat:Yim (ls++[[]]) ls.length=some ⟨c,3⟩:=by unfold Yim;rw[List.take_left' rfl];exact hrun
 have hbad:(YH (badL (ls++[[]])) ls.length 0).2=0:=YD.2 λk _ hk=>by
  unfold badL Yim
  have h4:runL (ls.take (k+1)) Wj≠none:=λe=>by
   have:runL (ls.take (k+1)++ls.drop (k+1)) Wj=some ⟨c,3⟩:=by rw[RN];exact hrun
   rw[QX,e]at this
   cases this
  rw[List.take_append_of_le_length (by omega)]
  cases hr:runL (ls.take (k+1)) Wj with
  |none=>exact absurd hr h4
  |some p=>rfl
 have hlast:Ui (ls++[[]]) ls.length=[]:=by
  unfold Ui
  rw[Tz,RZ (TI _)]
  simp
 unfold YpS YlI
 rw[YmF h2,hls,hl,Tf (λe=>e hbad),hlast]
 unfold YlJ
 rw[hat,Tf (by rintro(e|e)<;>exact e rfl),Option.getD_some,Tf (by rw[h];decide)]
structure Rdr(p:Pst):Prop where
 full:∀i x,p.c[i]? =some x->i+1<p.c.length->x.bounds.length=x.routes.length/\x.worst.length=x.routes.length/\x.slots.length=x.routes.length/\1<=x.routes.length/\x.routes.length<=2
 some_:p.c=[]->p.last=3
 at_:∀cs x,p.c=cs++[x]->
  (p.last=0/\x.routes=[]/\x.bounds=[]/\x.worst=[]/\x.slots=[])\/
  (p.last=1/\1<=x.routes.length/\x.routes.length<=2/\x.bounds.length+1=x.routes.length/\x.worst.length+1=x.routes.length/\x.slots.length+1=x.routes.length)\/
  (p.last=2/\1<=x.routes.length/\x.routes.length<=2/\x.bounds.length=x.routes.length/\x.worst.length=x.routes.length/\x.slots.length+1=x.routes.length)\/
  (p.last=3/\1<=x.routes.length/\x.routes.length<=2/\x.bounds.length=x.routes.length/\x.worst.length=x.routes.length/\x.slots.length=x.routes.length)
theorem Rdr.start:Rdr Wj:=⟨λi x h=>by simp[Wj]at h,λ_=>rfl,λcs x h=>by simp[Wj]at h⟩
open Go.RowKit Go.Eng Go.Nw
theorem U0(word:List UInt8)(l:List Int)(h:∀n∈l,0<=n/\n<10000)(h5:l.length<=100)(hwd:word.length<=100){A:Option Addr}{cap B:Nat}{w0:World}{H:List HP}{w:World}(ht:TabsB B w0)(hr:Rd B w0 H A (l.flatMap numF))(hw:St B w0 H w):
 CX B w0 47 [strV word,.slice A l.length cap] w λv K=>v=strV (Xq word l)/\K=H:=by
 refine Ya Tryz.func47 Tryz.ntmps47 rfl rfl hw ?_
 repeat'(first|apply(zs1 ?_)|apply(zs2 ?_)|(apply zg4;refine zs9 ?_)|apply(zs65 ?_)|apply(zs68 ?_)|apply(zs69 ?_)|apply(zs70 ?_)|apply(zs73 ?_)|fail)
 refine Yg (λ(i:Nat)=>[(9,.int .i64 i),(8,.int .i64 l.length),(7,.slice A l.length cap),(0,strV (YA word (l.take i)))]) (λ_=>H) (λi=>i<=l.length) (λi=>l.length-i) 0 (Ti _) ?_ (λw hw=>hw) ?_
 ·have e0:YA word (l.take 0)=word:=by simp[YA]
  rw[e0]
  exact zc1
 intro i hi K hK
 have hbl:=WG (w:=word) (l:=l.take i) λn hn=>h n (SA hn)
 have hlt0:(l.take i).length<=100:=by grind
 by_cases hlt:i<l.length
 ·obtain⟨n,hn⟩:∃n,l[i]? =some n:=⟨_,Ta hlt⟩
  have hnb:=h n (Tc hn)
  have hil:=QK hnb
  repeat'(first|((first|apply Yb en94|apply Yc en94);exact za;exact rfl;exactλ_ hw=>(YeO n (by omega) (by omega) ht hw))|(apply Ug [32] (Lib.itoa n);(iterate 3 exact rfl);(show 1+_<=_;omega))|(apply Ug (YA word (l.take i)) ([32]++Lib.itoa n);(iterate 3 exact rfl);(rw[Tq];show _+(1+_)<=_;omega))|apply(zs1 ?_)|apply(zs2 ?_)|(apply zg3;refine zs60 ?_)|(apply zg5;refine zs57 ?_)|(apply(zs17 ?_ ?_)<;>intro _<;>try exact zo)|(apply zg13;refine zs30 ?_)|apply(zs65 ?_)|apply(zs68 ?_)|apply(zs69 ?_)|apply(zs70 ?_)|(apply zg27;refine zs71 ?_)|apply(zs73 ?_)|apply(zs76 ?_)|apply(zs79 ?_)|fail)
  apply hK (i+1)
  ·show i+1<=l.length
   omega
  ·omega
  ·rw[TF,hn,Sv,Yaf]
   exact zc1
  exact zc20
 exact zc14
variable {X:List Cel}
theorem Of{Y:List Cel}{k:Nat}(h:k<X.length):celL (X++Y) k=celL X k:=by
 grind [celL]
theorem Ycc(X:List Cel)(c:Cel):celL (X++[c]) X.length=c:=by
 simp_all [celL]
theorem Ur(X:List Cel)(c:Cel)(k:Nat):celL (c::X) (k+1)=celL X k:=by
 grind [celL]
theorem Yag(X:List Cel)(c:Cel):celL (c::X) 0=c:=rfl
theorem O4(n:Net)(X Y:List Cel)(j:Nat)(node:Int):∀k,k<=X.length->Yz n (X++Y) j node k=Yz n X j node k
 |0,_=>rfl
 |k+1,h=>by rw[Yz,Yz,O4 n X Y j node k (by omega),Of (by omega)]
theorem Yak(n:Net)(X:List Cel)(c:Cel)(i:Nat)(node:Int):∀k,Yz n (c::X) (i+1) node (k+1)=(powN n (YB c) node+powN n (toC c) node)+Yz n X i node k
 |0=>by simp_all [Yz,Yag]
 |k+1=>by
  rw[Yz,Yak n X c i node k,Yz,Ur]
  omega
theorem O3(n:Net)(X:List Cel)(c:Cel)(node:Int)(j:Nat):∀k,k<=j->Yz n (c::X) 0 node (k+1)=Yz n X j node k
 |0,_=>by simp_all [Yz]
 |k+1,h=>by
  rw[Yz,O3 n X c node j k (by omega),Yz,Ur,Tf (by omega),Tf (by omega)]
theorem Ymt(X:List Cel)(c:Cel)(i:Nat)(hi:i<X.length)(T:Cel->Bool):((List.range (X++[c]).length).any λk=>decide (k≠i)&&T (celL (X++[c]) k))=(((List.range X.length).any λk=>decide (k≠i)&&T (celL X k))||T c):=by
 rw[Tq,TO,Rq,SR]
 congr 1
 ·rw[Nv,Ri,Ri]
  constructor
  ·grind [Of]
  ·grind [Of]
 ·rw[List.any_cons,List.any_nil,Bool.or_false,Ycc,Td (show X.length≠i by omega),RV]
theorem Ymr(X:List Cel)(c:Cel)(i:Nat)(T:Cel->Bool):((List.range (c::X).length).any λk=>decide (k≠i+1)&&T (celL (c::X) k))=(T c||(List.range X.length).any λk=>decide (k≠i)&&T (celL X k)):=by
 rw[T0,SC,List.any_cons,List.any_map,Yag,Td (show 0≠i+1 by omega),RV]
 congr 1
 exact zc55
theorem Yms(X:List Cel)(c:Cel)(T:Cel->Bool):((List.range (X++[c]).length).any λk=>decide (k≠X.length)&&T (celL (X++[c]) k))=(List.range X.length).any λk=>T (celL X k):=by
 rw[Tq,TO,Rq,SR,List.any_cons,List.any_nil,Bool.or_false,show decide (X.length≠X.length)=false by simp,S9,Bool.or_false]
 rw[Nv,Ri,Ri]
 constructor
 ·rintro⟨k,hk,h⟩;refine⟨k,hk,?_⟩;simp_all [Of]
 ·rintro⟨k,hk,h⟩
  refine⟨k,hk,?_⟩
  have:=T8.1 hk
  rw[Of this,Tm]
  grind
theorem Ymq(X:List Cel)(c:Cel)(T:Cel->Bool):((List.range (c::X).length).any λk=>decide (k≠0)&&T (celL (c::X) k))=(List.range X.length).any λk=>T (celL X k):=by
 rw[T0,SC,List.any_cons,List.any_map,show decide ((0:Nat)≠0)=false by simp,S9,NG]
 exact zc55
variable {c c':Cel}
theorem W8{d:Cel}(hf:YB c=YB c')(ht:toC c=toC c'):YC c d=YC c' d/\YC d c=YC d c':=by
 unfold YC;simp_all
theorem Yet(n:Net)(X:List Cel)(c:Cel)(i:Nat)(hi:i<X.length)(node:Int):Yz n (X++[c]) i node (X++[c]).length=Yz n X i node X.length+(powN n (YB c) node+powN n (toC c) node):=by
 rw[Tq,TO,Yz,O4 n X [c] i node _ (TI _),Tf (by omega),Ycc]
theorem Ycm(n:Net)(X:List Cel)(c:Cel)(node:Int):Yz n (X++[c]) X.length node (X++[c]).length=Yz n X X.length node X.length:=by
 simp_all [Yz,O4]
theorem YcH{n:Net}(hf:YB c=YB c')(ht:toC c=toC c'):Jh n (X++[c])=Jh n (c'::X):=by
 have h1:∀i,i<X.length->Zh n (X++[c]) i=Zh n (c'::X) (i+1):=λi hi=>by
  unfold Zh
  rw[Of hi,Ur,Ymt X c i hi,Ymr,Yet n X c i hi,Yet n X c i hi,T0,Yak,Yak,(W8 hf ht).2,hf,ht,Bool.or_comm (YC _ c')]
  grind
 have h2:Zh n (X++[c]) X.length=Zh n (c'::X) 0:=by
  unfold Zh
  rw[Ycc,Yag,Yms,Ymq,Ycm,Ycm,T0,O3 n X c' _ X.length _ (TI _),O3 n X c' _ X.length _ (TI _),hf,ht]
  have:(λk=>YC c (celL X k))=λk=>YC c' (celL X k):=funext λk=>(W8 hf ht).1
  rw[this]
 unfold Jh
 rw[Tq,TO,Rq,List.all_append,T0,SC,Nu,List.all_nil,Bool.and_true,Nu,List.all_map,h2,Bool.and_comm]
 grind
def fitE(n:Net)(l:List Cel)(slot o a b:Int):Bool:=!(l.any λd=>decide (d.1=slot)&&YC d (0,0,a,b,0))&&Jh n (l.filter (atP slot o)++[(0,0,a,b,0)])
def hasC(l:List Cel)(slot a b id:Int):Bool:=l.any λd=>decide (d.1=slot/\YB d=a/\toC d=b/\Xo d=id)
def Jr(n:Net)(s:Sch)(a b id slot:Int):Option Sch:=
 if hasC s.cells slot a b id=true then some s else((List.range s.off.toNat).find? λo:Nat=>fitE n s.cells slot o a b).map λo:Nat=>⟨s.len,s.off,insC s.cells (slot,(o:Int),a,b,id)⟩
def hopA(n:Net)(a b id:Int):Nat->Nat->Sch->Int->Option (Sch×Int)
 |_,0,s,z=>some (s,z)
 |0,_+1,_,_=>none
 |f+1,k+1,s,z=>match Jr n s a b id (z.tmod s.len)with
  |some t=>hopA n a b id f k t (z+1)
  |none=>hopA n a b id f (k+1) s (z+1)
def relA(n:Net)(id endd:Int):List Lk->Sch->Int->Option Sch
 |[],s,_=>some s
 |l::ls,s,z=>match hopA n l.1 l.2.1 id (endd-z).toNat (Y9 l) s z with
  |none=>none
  |some (t,y)=>relA n id endd ls t y
def QW(n:Net)(f:Flw)(ls:List Lk):Nat->Sch->Int->Option Sch
 |0,s,_=>some s
 |k+1,s,z=>if z<s.len then match relA n f.1 (z+f.2.2.2.2.2) ls s z with
  |none=>none
  |some t=>QW n f ls k t (z+f.2.2.2.1)
  else some s
def Jm(n:Net)(f:Flw):List (List Int)->Sch->Option Sch
 |[],s=>some s
 |r::rs,s=>match QW n f (Yp n r) s.len.toNat s f.2.2.2.2.1 with
  |none=>none
  |some t=>Jm n f rs t
end Go.Proofs.YtjlgijpmnfabcaaGreatDoor
namespace Go.Eng
open Go.RowKit
section
variable {P:Program}{B:Nat}{w0:World}{Q:Exit->Act->World->Prop}{env:Env}{H:List HP}{m:Mode}{n:Shp}{ops:Array Oper}{rest:List Oper}{d:Nat}{ty:TypeId}{pos:String}{after:Array Edge}{xt yt:TypeId}{x y:Operand}{k:IntKind}{a b:Int}
theorem XN(T:Tab P){α:Type}{f:α->List Value}{l:List α}{t i q o k:Nat}{b:α}{x:Operand}{A:Option Addr}{vs:List Value}(hx:evo env x=some (sptr A (i*q+o)))(hr:Rd B w0 H A (l.flatMap f))(hb:l[i]? =some b)(hq:∀a,(f a).length=q)
 (ht:look T.ag t=some k) (ho:Nat.ble (o+k) q=true) (h0:Nat.blt 0 k=true) (hv:subL o k (f b)=vs) (hk:Nat.beq vs.length k=true) (hn:Nat.ble (d+1) n.k=true)
 (h:VL P m n B w0 ops Q rest ((d,.agg vs.toArray)::env) H):VL P m n B w0 ops Q (⟨some d,.load t x,ty,pos,after,none⟩::rest) env H:=by
 refine Yt rfl rfl hn rfl (λa w ha hw=>?_) h
 have hk:=Nat.eq_of_beq_eq_true hk
 have hk0:0<k:=by simp_all
 have hok:o+k<=q:=TR ho
 have hget:∀j v,vs[j]? =some v->(l.flatMap f)[i*q+o+j]? =some v:=λj v hj=>by
  have hlt:j<k:=by grind
  rw[Nat.add_assoc,UC hq l i (o+j) b hb (by omega)]
  rw[<-hv,subL,SG,Tn hlt,RL]at hj
  exact hj
 obtain⟨g,u,rfl,_⟩:=hr w hw _ _ (hget 0 _ (Ta (by omega)))
 have hl:=run_loadCells_list (P:=P) w ⟨g,u+(i*q+o),none⟩ vs (λj v hj=>by
  exact Yty)
 rw[hk]at hl
 exact zc77
end
section
variable {P:Program}{ops:Array Oper}{Q:Exit->Act->World->Prop}
def NoQ:Exit->Act->World->Prop:=λ_ _ _=>False
theorem YpH:¬LetsOut NoQ:=zc42
def YdH(P:Program)(ops:Array Oper)(S:World->Prop)(last:List Nat)(Z:Array Bool->Act->World->Prop):Nat->Array Bool->Act->World->Prop
 |0,listed,a,w=>(∀j,j<ops.size->last.contains j=false->listed.getD j false=true)/\Z listed a w
 |m+1,listed,a,w=>Region.ready .any ops listed≠[]/\∀i∈Region.ready .any ops listed,last.contains i=false/\wpOp P ops NoQ i (λa' w'=>S w'/\YdH P ops S last Z m (listed.setIfInBounds i true) a' w') a w
variable {o:Oper}{a:Act}{w:World}{K:Act->World->Prop}
theorem Yus(h:o.wp P a w K NoQ):o.wpIn Fence.wide 0 P a w K Q:=by
 refine⟨λf _=>trivial,?_⟩
 unfold Oper.wp at h
 have hs:Oper.semAt Fence.wide.round a.eval o=execOp a.eval o:=Oper.semAt_none _ _
 rw[hs]
 generalize(execOp a.eval o).run P w=res at h⊢
 cases res with
 |ok x w'=>
  cases x<;>simp only[Oper.upon,Oper.uponIn]at h⊢<;>first
   |exact h
   |(refine⟨λhd=>by simp[Fence.wide]at hd,?_⟩
     refine CallsIn.mono (callsIn_wide.2 h) λe w'' he=>?_
     cases e with
     |returned u=>exact he
     |panicked c=>exact he.elim
     |outgrown=>obtain⟨_,_,he⟩:=he;exact he.elim)
   |(refine⟨λhd=>by simp[Fence.wide]at hd,λc cs _=>?_⟩
     obtain⟨v,w2,k1,k2⟩:=h c cs
     exact⟨v,w2,k1,stepsIn_wide.2 k2⟩)
   |exact h.elim
 |halt x w'=>cases x<;>simp only[Oper.upon,Oper.uponIn]at h⊢<;>first|exact h.elim|exact h
theorem YbB{S:World->Prop}{last:List Nat}{Z:Array Bool->Act->World->Prop}{k:Nat}(hz:∀listed a w,Z listed a w->wpAnyIn Fence.wide 0 P .any ops Q k listed a w):∀(m:Nat) (listed:Array Bool) (a:Act) (w:World),YdH P ops S last Z m listed a w->wpAnyIn Fence.wide 0 P .any ops Q (m+k) listed a w
 |0,listed,a,w,h=>by rw[RH];exact hz _ _ _ h.2
 |m+1,listed,a,w,h=>by
  rw[show m+1+k=(m+k)+1 by omega]
  refine⟨λe=>absurd e h.1,λi hi=>?_⟩
  have h2:=(h.2 i hi).2
  unfold wpOp at h2
  unfold wpOpIn
  cases ho:ops[i]? with
  |none=>rw[ho]at h2;exact YbB hz m _ _ _ h2.2
  |some o=>
   rw[ho]at h2
   simp only at h2⊢
   split
   ·rename_i hw
    rw[Tn hw]at h2
    rcases h2 with h2|⟨_,h2⟩
    ·exact Yus (Oper.wp_mono (λa w h=>YbB hz m _ a w h.2) h2)
    grind [YpH]
   ·rename_i hw
    rw[Tf hw]at h2
    exact⟨λf _=>trivial,YbB hz m _ _ w h2.2⟩
variable {i:Nat}
theorem YdD{listed:Array Bool}(h:listed.getD i true=false):listed.getD i false=false:=by
 grind
variable {last:List Nat}
theorem Yjb{S:World->Prop}{Z:Array Bool->Act->World->Prop}{oi:Oper}{v:Value}(hi:ops[i]? =some oi)(hsel:∀(j:Nat) (o:Oper) cs b,ops[j]? =some o->o.op≠.select cs b)
 (hlast:∀j,last.contains j=true->∃f,ancB ops f j i=true) (hil:last.contains i=false):
 ∀(m:Nat) (listed:Array Bool) (a:Act) (w:World),Closed ops listed->
  (∀j oj,ops[j]? =some oj->j≠i->listed.getD j true=false->(∀e∈oj.after,Region.binds .any e=true->e.on≠i)->oi.apart ops oj=true)->
  i∈Region.ready .any ops listed->YieldsIf P ops S oi v a->S w->
  YdH P ops S last Z m (listed.setIfInBounds i true) (a.put oi.dst v) w->YdH P ops S last Z (m+1) listed a w:=by
 intro m
 induction m with
 |zero=>
  intro listed a w hcl _ hr hy hS H
  refine⟨λh=>(by simp_all),λj hj=>?_⟩
  by_cases hji:j=i
  ·subst hji;exact⟨hil,hy.wpOp hi hS ⟨hS,H⟩⟩
  ·obtain⟨hjun,oj,hoj,hall⟩:=mem_ready.1 hj
   have hun':=YdD (mem_ready.1 hr).1
   cases hc:last.contains j with
   |true=>
    grind [UX]
   |false=>
    have h1:=H.1 j (Array.getElem?_eq_some_iff.1 hoj).1 hc
    rw[getD_set_ne false (Nz hji),YdD hjun]at h1
    cases h1
 |succ m ih=>
  intro listed a w hcl hfree hr hy hS H
  refine⟨λh=>(by rw[h]at hr;cases hr),λj hj=>?_⟩
  by_cases hji:j=i
  ·subst hji;exact⟨hil,hy.wpOp hi hS ⟨hS,H⟩⟩
  ·obtain⟨hnl,h1⟩:=H.2 j (ready_mono hj hji)
   obtain⟨hjun,oj,hoj,hall⟩:=mem_ready.1 hj
   have hun':=YdD (mem_ready.1 hr).1
   have hnot:∀e∈oj.after,Region.binds .any e=true->e.on≠i:=by grind
   have h2:=wpOp_putIf hoj (hfree j oj hoj hji hjun hnot) (λcs b=>hsel i oi cs b hi) (λcs b=>hsel j oj cs b hoj) (λc a w h=>h.elim) hy h1
   have hfree':∀k ok,ops[k]? =some ok->k≠i->(listed.setIfInBounds j true).getD k true=false->
    (∀e∈ok.after,Region.binds .any e=true->e.on≠i)->oi.apart ops ok=true:=λk ok hk hki hu hno=>by
    exact zc23
   refine⟨hnl,wpOp_mono (λa' w' h3=>⟨h3.2.1,ih (listed.setIfInBounds j true) a' w' (hcl.set hj) hfree' (ready_mono hr (Nz hji)) h3.1 h3.2.1 ?_⟩) h2⟩
   exact zc54
def Yao(ops:Array Oper):List Nat->Array Bool->Bool
 |[],listed=>(Region.ready .any ops listed).isEmpty
 |i::r,listed=>decide (Region.ready .any ops listed=[i])&&Yao ops r (listed.setIfInBounds i true)
def Yc4(ops:Array Oper)(last:List Nat):List Nat->Array Bool->Bool
 |[],listed=>((List.range ops.size).all λj=>last.contains j||listed.getD j false)&&Yao ops last listed
 |i::rest,listed=>
  (match ops[i]? with
   |some o=>if eff o then decide (Region.ready .any ops listed=[i])else(Region.ready .any ops listed).contains i&&Region.free .any ops listed i
   |none=>false)&&Yc4 ops last rest (listed.setIfInBounds i true)
def Ypt(ops:Array Oper)(last:List Nat):Bool:=
 last.all λj=>(List.range ops.size).all λi=>last.contains i||(match ops[i]? with|some o=>eff o|none=>false)||ancB ops ops.size j i
theorem YjK(h:Ypt ops last=true):∀i oi,ops[i]? =some oi->eff oi=false->last.contains i=false->∀j,last.contains j=true->∃f,ancB ops f j i=true:=λi oi hi he hl j hj=>by
 exact zc87
variable {l:List Oper}
theorem YeZ(hl:ops=l.toArray)(ho:ops[i]? =some o):nthO l i=o:=by
 grind [QR]
theorem YcD{l:List Oper}(hl:ops=l.toArray):∀(o2:List Nat) (listed:Array Bool) (a:Act) (w:World),Yao ops o2 listed=true->wpListIn Fence.wide 0 P ops Q (Yd l o2) a w->wpAnyIn Fence.wide 0 P .any ops Q o2.length listed a w
 |[],listed,a,w,hB,h=>⟨by grind [Yao],h⟩
 |i::r,listed,a,w,hB,h=>by
  simp only[Yao,Tm,To]at hB
  refine⟨λh0=>(by simp_all),λk hk=>?_⟩
  have hk':=hk
  obtain rfl:k=i:=by simp_all
  obtain⟨_,o,ho,_⟩:=mem_ready.1 hk'
  unfold wpOpIn
  simp only[ho]
  rw[Yd,YeZ hl ho]at h
  unfold wpListIn at h
  split
  ·rename_i hw
   rw[Tn hw]at h
   exact Oper.wpIn_mono (λa w h=>YcD hl r _ a w hB.2 h) h
  ·rename_i hw
   rw[Tf hw]at h
   exact⟨h.1,YcD hl r _ _ w hB.2 h.2⟩
def YQH(P:Program)(ops:Array Oper)(Q:Exit->Act->World->Prop)(l:List Oper):Exit->Act->World->Prop
 |.normal,a,w=>wpListIn Fence.wide 0 P ops Q l a w
 |_,_,_=>False
theorem YuP(h:o.wp P a w K (YQH P ops Q l)):o.wp P a w K NoQ:=by
 unfold Oper.wp at h⊢
 generalize(execOp a.eval o).run P w=r at*
 cases r with
 |ok nx w'=>
  exact zc37
 |halt x w'=>
  cases x<;>simp only[Oper.upon]at h⊢<;>exact h
theorem V7{S:World->Prop}{last:List Nat}(hs:Region.noSelect ops=true)(l:List Oper)(hl:ops=l.toArray)(hlast:Ypt ops last=true):
 ∀(o1:List Nat) (listed:Array Bool) (a:Act) (w:World),Closed ops listed->(∀j∈o1,last.contains j=false)->Yc4 ops last o1 listed=true->S w->Ys P ops (YQH P ops Q (Yd l last)) S (Yd l o1) a w->
  YdH P ops S last (λlisted a w=>Yao ops last listed=true/\wpListIn Fence.wide 0 P ops Q (Yd l last) a w) o1.length listed a w
 |[],listed,a,w,_,_,hB,_,h=>by
  simp only[Yc4,Tm]at hB
  refine⟨λj hj hc=>?_,hB.2,h⟩
  grind
 |i::rest,listed,a,w,hcl,hno,hB,hS,h=>by
  simp only[Yc4,Tm]at hB
  obtain⟨h1,h2⟩:=hB
  have hno':∀j∈rest,last.contains j=false:=by simp_all
  cases ho:ops[i]? with
  |none=>simp_all
  |some o=>
   rw[ho]at h1
   simp only[Yd,YeZ hl ho]at h
   by_cases he:eff o=true
   ·simp only[he,Nb,To]at h1
    unfold Ys at h
    rw[Tn he]at h
    refine⟨λh0=>(by simp_all),λk hk=>?_⟩
    have hk':=hk
    rw[h1]at hk
    obtain rfl:k=i:=by simp_all
    refine⟨hno k (by simp),?_⟩
    unfold wpOp
    simp only[ho]
    by_cases hw:Region.wanted o (yielded ops a.tmps)=true
    ·rw[Tn hw]at h⊢
     exact .inl (YuP (Oper.wp_mono (λa' w' h'=>⟨h'.1,V7 hs l hl hlast rest _ a' w' (hcl.set hk') hno' h2 h'.1 h'.2⟩) h))
    ·rw[Tf hw]at h⊢
     exact⟨hS,V7 hs l hl hlast rest _ _ w (hcl.set hk') hno' h2 hS h⟩
   ·simp only[he]at h1
    simp only[RU,NA,Tm]at h1
    unfold Ys at h
    rw[Tf he]at h
    obtain⟨v,hy,h3⟩:=h
    have hr:i∈Region.ready .any ops listed:=by simpa using h1.1
    exact Yjb ho (Region.noSelect_spec hs) (YjK hlast i o ho (by simpa using he) (hno i (by simp))) (hno i (by simp)) _ listed a w hcl (Region.free_spec ho h1.2) hr hy hS (V7 hs l hl hlast rest _ _ w (hcl.set hr) hno' h2 hS h3)
end
section
variable {P:Program}{B:Nat}{w0:World}{Q:Exit->Act->World->Prop}{env:Env}{H:List HP}
variable {n:Nat}{ds:List Deferred}{l:List Oper}
theorem Yl7{id:Nat}(o1 last:List Nat)(mask:List Bool){Hc F:List HP}(hm:P.follows .mixedOrders=true)
 (hB:(Region.noSelect l.toArray&&decide ((o1++last).length=l.toArray.size)&&Ypt l.toArray last&&(o1.all λj=>!last.contains j)&&Yc4 l.toArray last o1 (Array.replicate l.toArray.size false))=true)
 (hsp:Split mask H Hc F) {l1 l2:List Oper}(hl1:Yd l o1=l1) (hl2:Yd l last=l2) (h:VL P (some (some F)) ⟨n,ds,none⟩ B w0 l.toArray (YQH P l.toArray Q l2) l1 env Hc):VC P ⟨n,ds,none⟩ B w0 (.region id l.toArray true) Q env H:=by
 simp only[Tm,To]at hB
 obtain⟨⟨⟨⟨h1,h2⟩,h3⟩,h4⟩,h5⟩:=hB
 refine⟨λa w ha hw=>?_⟩
 refine(wpIn_wide (n:=0)).1 (wpIn_region_any hm ?_)
 have hst:St B w0 (Hc++F) w.drew:=(hw.perm (Xx hsp)).drew
 have hr:Ys P l.toArray (YQH P l.toArray Q l2) (St B w0 Hc) l1 a w.drew:=h.run a ha w.drew hst
 rw[<-hl1,<-hl2]at hr
 have hz:=V7 (S:=St B w0 Hc) h1 l rfl h3 o1 _ a w.drew (XG _ _) (λj hj=>by simp_all) h5 hst.prefix_ hr
 have:=YbB (k:=last.length) (Q:=Q) (λlisted a w hz=>YcD rfl last listed a w hz.1 hz.2) o1.length _ a w.drew hz
 simp_all
theorem Yoy{ops:Array Oper}(h:VQ ⟨n,ds,none⟩ B w0 (YQ P ops Q l) .normal env H):VQ ⟨n,ds,none⟩ B w0 (YQH P ops Q l) .normal env H:=⟨λa w ha hw=>h.run a w ha hw⟩
end
end Go.Eng
namespace Go.Proofs.YtjlgijpmnfabcaaGreatDoor
open Go.RowKit Go.Eng Go.Nw Go.Rt
def WayV(A:Option Addr)(l:List Int):Prop:=l=[]->A=none
structure Fz where
 at_:Int
 pre:List Int
 A:Option Addr
 cap:Nat
theorem YhE{l:List Lk}{far:List Int}{to:Int}{nodes:Nat}(hl:ArcsOk nodes l)(hd:Dist nodes l to far){v:Int}(h0:0<=v)(h1:v<nodes)(hne:v≠to)(hlt:Yk far v<Y5):∀k j:Nat,(Yk far v).toNat<=k->(Yk far v).toNat<=j->XL l far to k v=XL l far to j v:=by
 intro k
 induction k generalizing v with
 |zero=>
  intro j hk hj
  have:=(Yae hl hd h0 h1 hne hlt).2
  omega
 |succ k ih=>
  intro j hk hj
  obtain⟨b1,b2,b3,_⟩:=Yae hl hd h0 h1 hne hlt
  cases j with
  |zero=>omega
  |succ j=>
   unfold XL
   rw[Tf hne,Tf hne]
   by_cases hb:Xu l far v=to
   ·cases k<;>cases j<;>simp[XL,hb]
   grind
theorem Ycy(nodes:Nat)(l:List Lk)(s to:Int)(hn:nodes<=40)(hl:l.length<=1000000)(hok:ArcsOk nodes l)(hs:0<=s/\s<nodes)(hto:0<=to/\to<nodes){AL:Option Addr}{capL B:Nat}{w0:World}{H:List HP}{w:World}(hr:Rd B w0 H AL (l.flatMap lkF))(hw:St B w0 H w):
 CX B w0 343 [.int .i64 nodes,.slice AL l.length capL,.int .i64 s,.int .i64 to] w λv K=>∃A cap,v=.slice A (wayF l (J2 nodes l to) s to).length cap/\WayV A (wayF l (J2 nodes l to) s to)/\(J2 nodes l to).length=nodes/\Dist nodes l to (J2 nodes l to)/\K=ints A cap (wayF l (J2 nodes l to) s to)::H:=by
 refine Ya Tryz.func343 Tryz.ntmps343 rfl rfl hw ?_
 refine zX4 ?_
 apply Yf _ Yo3
 exact za
 exact rfl
 exactλ_ hw=>(Vw nodes l to hn hl hok hto hr (hw))
 rintro _ _ ⟨gf,far,rfl,hd,rfl⟩
 rw[Qy hok hd]
 have hflen:=hd.len
 have hgs:=XB (far:=far) (i:=s) (by omega)
 have hrs:=hd.range s hs.1 hs.2
 have hne:Y5=1073741824:=rfl
 unfold wayF
 by_cases hfar:Y5<=Yk far s
 ·rw[Tn hfar]
  rw[hne]at hfar
  refine zX24 ?_<;>intros
  apply Yh (ints none 0 []::H)
  ·exactλw hw=>hw.tail.nilSlice _ _
  apply Ye;exact rfl;exact rfl
  exact⟨none,0,rfl,λ_=>rfl,hflen,hd,rfl⟩
 rw[Tf hfar]
 rw[hne]at hfar
 refine zX76 ?_<;>intros
 rename_i g1
 have hf0:0<=Yk far s:=hrs.1
 refine Yg (λ(z:Fz)=>[(11,.int .i64 z.at_),(10,.slice z.A z.pre.length z.cap),(9,.slice (some ⟨gf,0,none⟩) far.length nodes),(1,.slice AL l.length capL),(3,.int .i64 to)])
  (λz=>ints z.A z.cap z.pre::ints (some ⟨gf,0,none⟩) nodes far::H) (λz=>(0<=z.at_/\z.at_<nodes)/\(0<=Yk far z.at_/\Yk far z.at_<1073741824)/\z.pre++XL l far to (Yk far z.at_).toNat z.at_=s::XL l far to (Yk far s).toNat s/\1<=z.pre.length/\z.pre.length+(Yk far z.at_).toNat<=1073741830) (λz=>(Yk far z.at_).toNat) ⟨s,[s],some ⟨g1,0,none⟩,1⟩ ⟨hs,⟨by omega,by omega⟩,rfl,by simp,by simp only[TO];omega⟩ ?_ (λw hw=>hw.blk_sl (cs:=numF s) (len:=1) (size:=1) rfl (by omega)) ?_
 ·exact zc1
 rintro⟨v,pre,A,cap⟩ ⟨⟨v0,v1⟩,⟨d0,d1⟩,hpre,hpl,hpm⟩ K hK
 simp only at v0 v1 d0 d1 hpre hpl hpm⊢
 have hgv:=XB (far:=far) (i:=v) (by omega)
 by_cases hvt:v=to
 ·have hfl:XL l far to (Yk far v).toNat v=[]:=by
   rw[hvt,hd.to0];rfl
  rw[hfl,Rr]at hpre
  clear hK
  refine zX1 ?_<;>intros
  apply Yh (ints A cap pre::H)
  ·exact zc0
  apply Ye;exact rfl;exact rfl
  rw[<-hpre]
  exact⟨A,cap,rfl,λh=>by rw[h]at hpl;simp at hpl,hflen,hd,rfl⟩
 obtain⟨b1,b2,b3,_⟩:=Yae hok hd v0 v1 hvt (by rw[hne];omega)
 obtain⟨bb,hbb⟩:∃bb,Xu l far v=bb:=⟨_,rfl⟩
 refine zX3 ?_<;>intros
 refine Yg (λ(k:Nat)=>[(32,.int .i64 k),(31,.int .i64 l.length),(30,.slice AL l.length capL),(12,.int .i64 (Xu (l.take k) far v)),(11,.int .i64 v),(10,.slice A pre.length cap),(9,.slice (some ⟨gf,0,none⟩) far.length nodes),(1,.slice AL l.length capL),(3,.int .i64 to)])
  (λ_=>ints A cap pre::ints (some ⟨gf,0,none⟩) nodes far::H) (λk=>k<=l.length) (λk=>l.length-k) 0 (Ti _) ?_ (λw hw=>hw) ?_
 ·exact zc1
 intro k hk K2 hK2
 have hrl:Rd B w0 (ints A cap pre::ints (some ⟨gf,0,none⟩) nodes far::H) AL (l.flatMap lkF):=(hr.cons).cons
 by_cases hlt:k<l.length
 ·obtain⟨a,ha⟩:∃a,l[k]? =some a:=⟨_,Ta hlt⟩
  obtain⟨⟨a1,a2⟩,⟨a3,a4⟩,⟨a5,a6⟩⟩:=hok a (Tc ha)
  have hga:=XB (far:=far) (i:=a.2.1) (by omega)
  have hra:=hd.range a.2.1 a3 a4
  rw[hne]at hra
  have hst:Xu (l.take (k+1)) far v=ZE far v (Xu (l.take k) far v) a:=by
   rw[TF,ha];exact Ymx _ _ _ _
  obtain⟨bk,hbk⟩:∃bk,Xu (l.take k) far v=bk:=⟨_,rfl⟩
  rw[hbk]at hst
  rw[hbk]
  unfold ZE at hst
  by_cases hc:a.1=v/\a.2.2+Yk far a.2.1=Yk far v/\(bk<0\/a.2.1<bk)
  ·rw[Tn hc]at hst
   repeat'(first|refine zgd ?_|(refine zgf ?_ ?_<;>intro _<;>try exact zo)|(refine zgh ?_;intro _)|fail)
   all_goals(
    apply hK2 (k+1)
    ·omega
    ·omega
    ·rw[hst];exact zu
    ·exactλw hw=>hw.tail)
  ·rw[Tf hc]at hst
   repeat'(first|refine zgd ?_|(refine zgf ?_ ?_<;>intro _<;>try exact zo)|(refine zgh ?_;intro _)|fail)
   all_goals(
    apply hK2 (k+1)
    ·omega
    ·omega
    ·rw[hst];exact zu
    ·exactλw hw=>hw.tail)
 ·obtain rfl:k=l.length:=by omega
  clear hK2
  rw[TM,hbb]
  rw[hbb]at b1 b2 b3
  have hfs:XL l far to (Yk far v).toNat v=bb::XL l far to (Yk far bb).toNat bb:=by
   obtain⟨j,hj⟩:∃j,(Yk far v).toNat=j+1:=⟨(Yk far v).toNat-1,by omega⟩
   rw[hj,show XL l far to (j+1) v=if v=to then []else Xu l far v::XL l far to j (Xu l far v) from rfl,Tf hvt,hbb]
   by_cases hbt:bb=to
   ·rw[hbt]
    cases j<;>simp[XL,hd.to0]
   ·rw[YhE hok hd b1.1 b1.2 hbt (by rw[hne];omega) j _ (by omega) (TI _)]
  refine Yqx ?_<;>intros
  rename_i A3 cap3
  apply hK ⟨bb,pre++[bb],A3,cap3⟩
  ·refine⟨b1,⟨b3,by exact zc34⟩,?_,by simp,?_⟩
   ·simp only
    rw[Re,List.singleton_append,<-hfs];exact hpre
   ·simp only[Tq,TO]
    omega
  ·exact zc34
  ·dsimp only
   rw[Tq,TO];exact zc1
  ·dsimp only
   rw[<-Ym7]
   exact zc0
def dear(a:Lk):Lk:=(a.1,a.2.1,a.2.2*33+1)
noncomputable def Qe(n:Net)(s t:Int):List Int:=wayF ((JP n).map dear) (J2 n.nodes.toNat ((JP n).map dear) t) s t
noncomputable def ZC(n:Net)(s t:Int):List Int×Int:=
 if Z2 n s t≠0 then([],Z2 n s t)else if Qe n s t=[]then([],17)else if 9<(Qe n s t).length then([],21)else(Qe n s t,0)
variable {n:Net}
theorem Yre(h:Ok n):ArcsOk n.nodes.toNat ((JP n).map dear):=by
 intro a ha
 obtain⟨b,hb,rfl⟩:=TC.1 ha
 obtain⟨i,hi,_,rfl⟩:=Yh2.1 hb
 have hl:=h.lk i hi
 have h1:=hl.f0;have h2:=hl.f1;have h3:=hl.t0;have h4:=hl.t1;have h5:=hl.l0;have h6:=hl.l1
 grind [dear,Yb8]
theorem Ylp{s t:Int}(h:Z2 n s t=0):Yo n=0/\(0<=s/\s<n.nodes)/\(0<=t/\t<n.nodes)/\s≠t:=by
 unfold Z2 offE at h
 grind
variable {l:List Lk}{k:Nat}{a:Lk}
theorem Yrz(h:l[k]? =some a):((l.take k).map dear++l.drop k)[k]? =some a:=by
 grind
theorem YrA(h:l[k]? =some a):((l.take k).map dear++l.drop k).set k (dear a)=(l.take (k+1)).map dear++l.drop (k+1):=by
 obtain⟨hk,rfl⟩:=Tu.1 h
 have hl:((l.take k).map dear).length=k:=by grind
 rw[Nh _ _ (by omega),hl,NC,Rh hk,Ny,TF,Ta hk,Rk,Re]
 rfl
theorem Yd8(n:NetM)(s t:Int){B:Nat}{w0:World}{H:List HP}{w:World}(hin:n.In B w0 H)(hw:St B w0 H w):
 CX B w0 267 [n.val,.int .i64 s,.int .i64 t] w λv K=>∃A cap,v=.tuple #[.slice A (ZC n.net s t).1.length cap,.int .i64 (ZC n.net s t).2]/\WayV A (ZC n.net s t).1/\(Z2 n.net s t=0->Dist n.net.nodes.toNat ((JP n.net).map dear) t (J2 n.net.nodes.toNat ((JP n.net).map dear) t))/\K=ints A cap (ZC n.net s t).1::H:=by
 refine Ya Tryz.func267 Tryz.ntmps267 rfl rfl hw ?_
 (apply Xs;apply YX;apply YT;exact rfl;exact rfl;intro g)
 unfold ZC
 by_cases he:Z2 n.net s t=0
 rotate_left
 ·rw[Tn he]
  repeat'(first|((first|apply Yb OK|apply Yc OK);exact za;exact rfl;exactλ_ hw=>(Vh n s t hin.cons hw))|refine zgb ?_|(refine zge ?_ ?_<;>intro _<;>try exact zo)|fail)
  (repeat apply Ym)
  apply XW 3 1
  apply YN;(iterate 3 exact rfl)
  exact⟨none,0,rfl,λ_=>rfl,λh=>absurd h he,rfl⟩
 rw[Tf (λh=>h he)]
 obtain⟨hck,⟨s0,s1⟩,⟨t0,t1⟩,hst⟩:=Ylp he
 have hen:=λ{H:List HP}{w:World}(hin:n.In B w0 H) (hw:St B w0 H w)=>Vh n s t hin hw
 rw[he]at hen
 have hok:=YK hck
 have hn0:=hok.n0
 have hn1:=hok.n1
 have hnn:((n.net.nodes.toNat:Nat):Int)=n.net.nodes:=by omega
 have hnn2:n.net.nodes=n.nodes:=rfl
 have hal:(JP n.net).length<=128:=TY (UY _ _) hok.k0
 have hdo:=Yre hok
 obtain⟨L,hL⟩:∃L,JP n.net=L:=⟨_,rfl⟩
 rw[hL]at hal
 have hLo:=YkM hok hnn.symm
 rw[hL]at hLo
 refine Yqy ?_<;>intros
 apply Yf _ YsE
 exact za
 exact rfl
 exactλ_ hw=>(Yei n hin.cons hck (hw))
 rintro _ _ ⟨A,cap,rfl,rfl⟩
 rw[hL]
 refine zX8 ?_
 refine Yg (λ(k:Nat)=>[(24,.int .i64 k),(23,.int .i64 L.length),(9,.slice A L.length cap),(3,.pointer (some ⟨g,0,none⟩)),(1,.int .i64 s),(2,.int .i64 t)])
  (λk=>sl 383 3 A L.length cap (((L.take k).map dear++L.drop k).flatMap lkF)::netB g n::H) (λk=>k<=L.length) (λk=>L.length-k) 0 (Ti _) ?_ (λw hw=>hw) ?_
 ·exact zc1
 intro k hk K hK
 have hml:((L.take k).map dear++L.drop k).length=L.length:=by simp;omega
 by_cases hlt:k<L.length
 ·obtain⟨a,ha⟩:∃a,L[k]? =some a:=⟨_,Ta hlt⟩
  obtain⟨_,_,⟨a5,a6⟩⟩:=hLo a (Tc ha)
  have hmg:=Yrz ha
  have hms:=YrA ha
  rw[<-hml]
  repeat'(first|(apply Vs T (f:=lkF) (l:=(L.take k).map dear++L.drop k) (i:=k) (q:=3) (o:=2) (b:=a) (b':=dear a);(iterate 3 exact rfl);exact zd;exact hmg;exact rfl;exactλ_=>rfl;exact rfl;exact rfl)|refine zgd ?_|(refine zge ?_ ?_<;>intro _<;>try exact zo)|fail)
  rw[hml,hms]
  apply hK (k+1)
  ·omega
  ·omega
  ·exact zc1
  exact zc20
 ·obtain rfl:k=L.length:=by omega
  clear hK
  rw[TM,R9,Rr]
  have hLl:(L.map dear).length=L.length:=Tt _
  rw[<-hLl]
  refine zX1 ?_<;>intros
  rw[show(Value.int .i64 n.nodes)=.int .i64 ((n.net.nodes.toNat:Nat):Int) by rw[hnn];rfl]
  rw[hL]at hdo
  apply Yf _ Yo2
  exact za
  exact rfl
  exactλ_ hw=>(Ycy n.net.nodes.toNat (L.map dear) s t (by omega) (by omega) hdo ⟨s0,by omega⟩ ⟨t0,by omega⟩ (.sl (by(focus exact zc2))) (hw))
  rintro _ _ ⟨A2,cap2,rfl,hway,hdl,hdd,rfl⟩
  have hsr:wayF (L.map dear) (J2 n.net.nodes.toNat (L.map dear) t) s t=Qe n.net s t:=by rw[<-hL];rfl
  rw[hL]at*
  rw[hsr]at hway⊢
  obtain⟨R,hR⟩:∃R,Qe n.net s t=R:=⟨_,rfl⟩
  rw[hR]at hway⊢
  by_cases hnil:R=[]
  ·rw[Tn hnil]
   have hA:=hway hnil
   subst hA
   refine zX7 ?_
   exact zc59
  ·rw[Tf hnil]
   have hRl:R.length<=1073741824:=by rw[<-hR];exact YbM _ _ _ _
   have hpos:0<R.length:=List.length_pos_iff.2 hnil
   refine YfC (e:=3) (size:=1) (k:=R.length) (cap:=cap2) (A:=A2) (xs:=R.flatMap numF) TB hpos ?_
   rintro ga rfl
   by_cases h9:9<R.length
   ·rw[Tn h9]
    have hsh:=λ{H:List HP}{w:World}(hw:St B w0 H w)=>Wh R.length (A:=some ⟨ga,0,none⟩) (cap:=cap2) (by omega) hw
    rw[Tn h9]at hsh
    refine Ys4 ?_<;>intros
    exact zc59
   ·rw[Tf h9]
    have hsh:=λ{H:List HP}{w:World}(hw:St B w0 H w)=>Wh R.length (A:=some ⟨ga,0,none⟩) (cap:=cap2) (by omega) hw
    rw[Tf h9]at hsh
    refine Ys4 ?_<;>intros
    apply Yh (ints (some ⟨ga,0,none⟩) cap2 R::H)
    ·exactλw hw=>hw.perm (.cons _ (.dropK (.drop _ _)))
    apply YN;(iterate 3 exact rfl)
    exact⟨some ⟨ga,0,none⟩,cap2,rfl,λh=>absurd h hnil,λ_=>hdd,rfl⟩
def edF(e:Ed):List Value:=[.int .i64 e.f,.int .i64 e.t,.int .i64 e.c,.int .i64 e.r]
abbrev YcF(sides:Nat)(A:Option Addr)(k cap:Nat):Obj:=.cells #[.int .i64 sides,.slice A k cap] 473 (0,0)
def gpcs(g sides:Nat)(A:Option Addr)(cap:Nat)(es:List Ed)(H:List HP):List HP:=blk g (YcF sides A es.length cap)::sl 478 4 A es.length cap (es.flatMap edF)::H
structure Rz where
 k:Nat
 ag:Bool
 far:List Int
 by_:List Int
structure RzOk(sides:Nat)(es:List Ed)(fuel:Nat)(res:List Int×List Int)(z:Rz):Prop where
 kf:z.k<=fuel
 ok:RelOk sides (-2000000000-2000000000*((fuel-z.k:Nat):Int)) (z.far,z.by_,z.ag)
 run:if z.ag=true then Yax z.k es z.far z.by_=some res else(z.far,z.by_)=res
theorem Yj9(g sides:Nat)(es:List Ed)(far:List Int)(fuel:Nat)(res:List Int×List Int)(hs:1<=sides/\sides<=100)(hes:Ykz sides es)(hel:es.length<=2000)(hfu:fuel<=100000)(hfar:RelOk sides (-2000000000) (far,List.replicate sides (-1),true))(hrun:Yax fuel es far (List.replicate sides (-1))=some res)
 {A AF:Option Addr}{cap capF:Nat}{B:Nat}{w0:World}{H:List HP}{w:World}(hw:St B w0 (gpcs g sides A cap es (ints AF capF far::H)) w):
 CX B w0 441 [.pointer (some ⟨g,0,none⟩),.slice AF far.length capF] w λv K=>∃gb,v=.tuple #[.slice AF res.1.length capF,.slice (some ⟨gb,0,none⟩) res.2.length sides]/\RelOk sides (-2000000000-2000000000*(fuel:Int)) (res.1,res.2,false)/\K=ints (some ⟨gb,0,none⟩) sides res.2::gpcs g sides A cap es (ints AF capF res.1::H):=by
 refine Ya Tryz.func441 Tryz.ntmps441 rfl rfl hw ?_
 unfold gpcs
 repeat'(first|refine zgd ?_|(refine zgh ?_;intro _)|fail)
 apply Yf _ Yo4
 exact za
 exact rfl
 exactλ_ hw=>(W3 (-1) sides (by omega) (.blk zm) (hw))
 rintro _ _ ⟨gb,rfl,rfl⟩
 have hrl:(List.replicate sides (-1:Int)).length=sides:=Rj
 repeat'(first|refine zgb ?_|fail)
 refine Yg (λ(z:Rz)=>[(7,.bool z.ag),(1,.slice AF z.far.length capF),(6,.slice (some ⟨gb,0,none⟩) z.by_.length sides),(0,.pointer (some ⟨g,0,none⟩))])
  (λz=>ints (some ⟨gb,0,none⟩) sides z.by_::blk g (YcF sides A es.length cap)::sl 478 4 A es.length cap (es.flatMap edF)::ints AF capF z.far::H) (λz=>RzOk sides es fuel res z) (λz=>z.k) ⟨fuel,true,far,List.replicate sides (-1)⟩ ⟨TI _,by simpa using hfar,hrun⟩ ?_ zk ?_
 ·exact zu
 rintro⟨k,ag,fa,by_⟩ hz K hK
 obtain⟨hkf,hok,hrun⟩:=hz
 simp only at hkf hok hrun⊢
 cases ag with
 |false=>
  rw[Tf (by decide)]at hrun
  clear hK
  obtain⟨rfl,rfl⟩:fa=res.1/\by_=res.2:=by rw[<-hrun];exact⟨rfl,rfl⟩
  repeat'(first|refine zgc ?_|fail)
  apply YN;(iterate 3 exact rfl)
  refine⟨gb,rfl,⟨hok.l1,hok.l2,λv h0 h1=>?_⟩,rfl⟩
  have:=hok.low v h0 h1
  simp only at this⊢
  omega
 |true=>
  rw[Tn rfl]at hrun
  cases k with
  |zero=>cases hrun
  |succ k=>
   have hok0:RelOk sides (-2000000000-2000000000*((fuel-(k+1):Nat):Int)) (fa,by_,false):=⟨hok.l1,hok.l2,hok.low⟩
   obtain⟨low,hlow⟩:∃low:Int,-2000000000-2000000000*((fuel-(k+1):Nat):Int)=low:=⟨_,rfl⟩
   rw[hlow]at hok0
   have hlb: -300000000000000<=low:=by omega
   unfold Yax at hrun
   repeat'(first|refine zgd ?_|fail)
   refine Yg (λ(j:Nat)=>[(22,.int .i64 j),(21,.int .i64 es.length),(20,.slice A es.length cap),(7,.bool (Xi 0 (es.take j) (fa,by_,false)).2.2),(1,.slice AF (Xi 0 (es.take j) (fa,by_,false)).1.length capF),(6,.slice (some ⟨gb,0,none⟩) (Xi 0 (es.take j) (fa,by_,false)).2.1.length sides),(0,.pointer (some ⟨g,0,none⟩))])
    (λj=>ints (some ⟨gb,0,none⟩) sides (Xi 0 (es.take j) (fa,by_,false)).2.1::blk g (YcF sides A es.length cap)::sl 478 4 A es.length cap (es.flatMap edF)::ints AF capF (Xi 0 (es.take j) (fa,by_,false)).1::H) (λj=>j<=es.length) (λj=>es.length-j) 0 (Ti _) ?_ (λw hw=>hw) ?_
   ·exact zu
   intro j hj K2 hK2
   by_cases hlt:j<es.length
   ·obtain⟨e,he⟩:∃e,es[j]? =some e:=⟨_,Ta hlt⟩
    have hem:=Tc he
    obtain⟨⟨e1,e2⟩,⟨e3,e4⟩,⟨e5,e6⟩,⟨e7,e8⟩⟩:=hes e hem
    have htl:(es.take j).length=j:=by rw[TT];omega
    have hst:Xi 0 (es.take (j+1)) (fa,by_,false)=Ud j e (Xi 0 (es.take j) (fa,by_,false)):=by
     rw[TF,he]
     have:=QV (es.take j) 0 e (fa,by_,false)
     rw[htl,RH]at this
     exact this
    have hpo:=Qd hes (es.take j) 0 (fa,by_,false) low (λx hx=>SA hx) hok0
    rw[htl]at hpo
    obtain⟨⟨f2,b2,ag2⟩,hst2⟩:∃st,Xi 0 (es.take j) (fa,by_,false)=st:=⟨_,rfl⟩
    rw[hst2]at hst hpo⊢
    obtain⟨p1,p2,p3⟩:=hpo
    simp only at p1 p2 p3
    have q1:=p3 e.f e1 e2
    have q2:=p3 e.t e3 e4
    have hgf:=XB (far:=f2) (i:=e.f) (by omega)
    have hgt:=XB (far:=f2) (i:=e.t) (by omega)
    have hnn:Y5=1073741824:=rfl
    rw[hnn]at q1 q2
    dsimp only
    unfold Ud at hst
    simp only[hnn]at hst
    by_cases hc:0<e.r/\Yk f2 e.f<1073741824/\Yk f2 e.f+e.c<Yk f2 e.t
    ·rw[Tn hc]at hst
     repeat'(first|refine zgd ?_|(refine zge ?_ ?_<;>intro _<;>try exact zo)|(refine zgh ?_;intro _)|fail)
     have hl1:(f2.set e.t.toNat (Yk f2 e.f+e.c)).length=f2.length:=TQ
     have hl2:(b2.set e.t.toNat (j:Int)).length=b2.length:=TQ
     apply Yn7 [3,4,5,14] [0,1,2,6,7,8,9,10,11,12,13,15] [16,17,18,19] [true] [true,true,false,false,true]
     kernel_rfl
     kernel_rfl
     exact zy
     exact zy
     exact zk
     (simp only[Yd,nthO];rfl)
     (simp only[Yd,nthO];rfl)
     (simp only[Yd,nthO];rfl)
     repeat'(first|(apply Yow;try exact zl)|(apply YdN T;(iterate 4 exact rfl);omega)|(apply Xm T (f:=numF) (l:=f2) (i:=e.t.toNat) (a:=Yk f2 e.f+e.c);(iterate 3 exact rfl);exact zd;exact rfl;exactλ_=>rfl;exact rfl;omega)|(apply Xm T (f:=numF) (l:=b2) (i:=e.t.toNat) (a:=(j:Int));(iterate 3 exact rfl);exact zd;exact rfl;exactλ_=>rfl;exact rfl;omega)|(apply Yj;try exact zl)|refine zgd ?_|fail)
     apply hK2 (j+1)
     ·omega
     ·omega
     ·rw[hst]
      dsimp only
      rw[hl1,hl2]
      exact zu
     ·rw[hst]
      dsimp only
      unfold ints
      rw[hl1,hl2]
      exact zk
    ·rw[Tf hc]at hst
     repeat'(first|refine zgd ?_|(refine zge ?_ ?_<;>intro _<;>try exact zo)|(refine zgh ?_;intro _)|fail)
     all_goals(
      apply hK2 (j+1)
      ·omega
      ·omega
      ·rw[hst];exact zu
      ·rw[hst];exactλw hw=>hw.tail)
   ·obtain rfl:j=es.length:=by omega
    clear hK2
    have hpo:=Qd hes es 0 (fa,by_,false) low (λx hx=>hx) hok0
    rw[TM]
    obtain⟨⟨f2,b2,ag2⟩,hst2⟩:∃st,Xi 0 es (fa,by_,false)=st:=⟨_,rfl⟩
    rw[hst2]at hrun hpo⊢
    dsimp only at hrun⊢
    repeat'(first|refine zgc ?_|(refine zge ?_ ?_<;>intro _<;>try exact zo)|fail)
    apply hK ⟨k,ag2,f2,b2⟩
    ·refine⟨by simp only;omega,⟨hpo.l1,hpo.l2,λv h0 h1=>?_⟩,?_⟩
     ·have:=hpo.low v h0 h1
      simp only at this⊢
      omega
     ·simp only
      cases ag2
      ·rw[Tf (by decide)]at hrun⊢
       exact Tv hrun
      ·rw[Tn rfl]at hrun⊢
       exact hrun
    ·simp only;omega
    ·exact zu
    ·exactλw hw=>hw
theorem Yqw(i:Nat)(hi:i<4611686018427387904):bits .xor .i64 (i:Int) 1=(twin i:Int):=by
 have e1:(BitVec.ofInt 64 (i:Int)).toNat=i:=by grind
 show IntKind.i64.wrap ((BitVec.ofInt 64 (i:Int)^^^BitVec.ofInt 64 1).toNat:Int)=_
 have e2:(BitVec.ofInt 64 (1:Int)).toNat=1:=by decide
 have e3:i^^^1=twin i:=by
  unfold twin
  rcases Nat.mod_two_eq_zero_or_one i with h|h
  ·rw[Tn h]
   obtain⟨k,rfl⟩:∃k,i=2*k:=⟨i/2,by omega⟩
   apply Nat.eq_of_testBit_eq
   intro j
   rw[Nat.testBit_xor]
   cases j with
   |zero=>simp
   |succ j=>
    grind
  ·rw[Tf (by omega)]
   obtain⟨k,rfl⟩:∃k,i=2*k+1:=⟨i/2,by omega⟩
   apply Nat.eq_of_testBit_eq
   intro j
   rw[Nat.testBit_xor]
   cases j with
   |zero=>simp
   |succ j=>
    grind
 grind [Go.IntKind.wrap_i64,twin]
structure Bz where
 k:Nat
 es:List Ed
 at_:Int
structure BzOk(fuel sides:Nat)(b:Int)(E:Nat)(by_:List Int)(s:Int)(res:List Ed)(z:Bz):Prop where
 kf:z.k<=fuel
 run:Yg9 z.k z.es by_ s z.at_=some res
 ein:EdsIn sides (b+2*((fuel-z.k:Nat):Int)) z.es
 len:z.es.length=E
 at_:0<=z.at_/\z.at_<sides
theorem Ye9(g sides:Nat)(es:List Ed)(s t:Int)(fuel:Nat)(b:Int)(r:Int×Bool×List Ed)(hs:1<=sides/\sides<=100)(hes:EdsIn sides b es)(hb:1<=b/\b<=900000)(hel:es.length<=2000)(hfu:fuel<=100000)(hs0:0<=s/\s<sides)(ht0:0<=t/\t<sides)(hrun:Ye8 fuel sides es s t=some r)
 {A:Option Addr}{cap:Nat}{B:Nat}{w0:World}{H:List HP}{w:World}(hw:St B w0 (gpcs g sides A cap es H) w):
 CX B w0 421 [.pointer (some ⟨g,0,none⟩),.int .i64 s,.int .i64 t] w λv K=>v=.tuple #[.int .i64 r.1,.bool r.2.1]/\(r.2.2.length=es.length/\EdsIn sides (b+2*(fuel:Int)) r.2.2/\ -300000000000000<=r.1/\r.1<=1073741824)/\K=gpcs g sides A cap r.2.2 H:=by
 refine Ya Tryz.func421 Tryz.ntmps421 rfl rfl hw ?_
 have hok:=hes.ok (by omega)
 have hnn:Y5=1073741824:=rfl
 unfold gpcs
 refine zX25 ?_<;>intros
 apply Yf _ Yo4
 exact za
 exact rfl
 exactλ_ hw=>(W3 1073741824 sides (by omega) (.blk (by(focus exact zc2))) (hw))
 rintro _ _ ⟨gs,rfl,rfl⟩
 have hrl:(List.replicate sides (1073741824:Int)).length=sides:=Rj
 repeat'(first|(apply Xm T (f:=numF) (l:=List.replicate sides (1073741824:Int)) (i:=s.toNat) (a:=0);(iterate 3 exact rfl);exact zd;exact rfl;exactλ_=>rfl;exact rfl;omega)|refine zgd ?_|fail)
 have hst:Wi sides s=(List.replicate sides (1073741824:Int)).set s.toNat 0:=rfl
 have hsl:(Wi sides s).length=(List.replicate sides (1073741824:Int)).length:=by rw[hst];exact TQ
 unfold Ye8 at hrun
 cases hre:Yax fuel es (Wi sides s) (List.replicate sides (-1))with
 |none=>rw[hre]at hrun;cases hrun
 |some fb=>
  rw[hre]at hrun
  obtain⟨far,by_⟩:=fb
  dsimp only at hrun
  rw[<-hst,<-hsl]
  apply Xy (gpcs g sides A cap es (ints (some ⟨gs,0,none⟩) sides (Wi sides s)::H))
  ·unfold gpcs ints
   exact zc0
  apply Yf _ YvK
  exact za
  exact rfl
  exactλ_ hw=>(Yj9 g sides es (Wi sides s) fuel (far,by_) hs hok hel (by omega) (YnM hs0 _ Rj _) hre (hw))
  rintro _ _ ⟨gb,rfl,hro,rfl⟩
  obtain⟨l1,l2,hlow⟩:=hro
  simp only at l1 l2 hlow
  have hgt:=XB (far:=far) (i:=t) (by omega)
  have hlt:=hlow t ht0.1 ht0.2
  rw[hnn]at hlt hrun
  unfold gpcs
  dsimp only
  by_cases hno:1073741824<=Yk far t
  ·rw[Tn hno]at hrun
   obtain rfl:=Tv hrun
   refine zX24 ?_<;>intros
   apply Yh (gpcs g sides A cap es H)
   ·unfold gpcs
    exact zc0
   apply YN;(iterate 3 exact rfl)
   exact⟨rfl,⟨rfl,hes.mono (by omega),show(-300000000000000:Int)<=0 by decide,show(0:Int)<=1073741824 by decide⟩,rfl⟩
  ·rw[Tf hno]at hrun
   cases hba:Yg9 fuel es by_ s t with
   |none=>rw[hba]at hrun;cases hrun
   |some res=>
    rw[hba]at hrun
    dsimp only at hrun
    obtain rfl:=Tv hrun
    refine zX24 ?_<;>intros
    refine Yg (λ(z:Bz)=>[(11,.int .i64 z.at_),(10,.slice (some ⟨gb,0,none⟩) by_.length sides),(9,.slice (some ⟨gs,0,none⟩) far.length sides),(0,.pointer (some ⟨g,0,none⟩)),(1,.int .i64 s),(2,.int .i64 t)])
     (λz=>ints (some ⟨gb,0,none⟩) sides by_::blk g (YcF sides A z.es.length cap)::sl 478 4 A z.es.length cap (z.es.flatMap edF)::ints (some ⟨gs,0,none⟩) sides far::H) (λz=>BzOk fuel sides b es.length by_ s res z) (λz=>z.k) ⟨fuel,es,t⟩ ⟨TI _,hba,hes.mono (by omega),rfl,ht0⟩ ?_ (λw hw=>hw) ?_
    ·exact zc1
    rintro⟨k,e1,v⟩ ⟨hkf,hrun1,hein,hlen,⟨v0,v1⟩⟩ K hK
    simp only at hkf hrun1 hein hlen v0 v1⊢
    cases k with
    |zero=>cases hrun1
    |succ k=>
     unfold Yg9 at hrun1
     by_cases hvs:v=s
     ·rw[Tn hvs]at hrun1
      obtain rfl:=Tv hrun1
      clear hK
      refine zX0 ?_<;>intros
      apply Yh (gpcs g sides A cap e1 H)
      ·unfold gpcs
       exact zc0
      apply YN;(iterate 3 exact rfl)
      exact⟨rfl,⟨hlen,hein.mono (by omega),by omega,by omega⟩,rfl⟩
     ·rw[Tf hvs]at hrun1
      have hgv:=XB (far:=by_) (i:=v) (by omega)
      obtain⟨i,hi⟩:∃i,Yk by_ v=i:=⟨_,rfl⟩
      rw[hi]at hrun1 hgv
      by_cases hneg:i<0
      ·rw[Tn hneg]at hrun1;cases hrun1
      rw[Tf hneg]at hrun1
      obtain⟨m,rfl⟩:∃m:Nat,i=m:=⟨i.toNat,by omega⟩
      rw[Rx]at hrun1
      cases he:e1[m]? with
      |none=>rw[he]at hrun1;cases hrun1
      |some e=>
       rw[he]at hrun1
       dsimp only at hrun1
       by_cases htw:e1.length<=twin m
       ·rw[Tn htw]at hrun1;cases hrun1
       rw[Tf htw]at hrun1
       have hml:=(Tu.1 he).1
       have hmb:m<2000:=by omega
       have hxor:=Yqw m (by omega)
       have hm1:Yba e1 m (-1)=e1.set m {e with r:=e.r-1}:=by unfold Yba;rw[he];rfl
       obtain⟨f1,hf1⟩:∃f1,e1.set m {e with r:=e.r-1}=f1:=⟨_,rfl⟩
       have hfl1:f1.length=e1.length:=by rw[<-hf1];exact TQ
       have hin1:=Yh5 hein m (d:= -1) (by omega)
       rw[hm1,hf1]at hin1
       obtain⟨e2,he2⟩:∃x,f1[twin m]? =some x:=⟨_,Ta (by omega)⟩
       have hm2:Yba f1 (twin m) 1=f1.set (twin m) {e2 with r:=e2.r+1}:=by unfold Yba;rw[he2]
       obtain⟨f2,hf2⟩:∃f2,f1.set (twin m) {e2 with r:=e2.r+1}=f2:=⟨_,rfl⟩
       have hfl2:f2.length=e1.length:=by rw[<-hf2,TQ];exact hfl1
       have hin2:=Yh5 hin1 (twin m) (d:=1) (by omega)
       rw[hm2,hf2]at hin2
       rw[hm1,hf1,hm2,hf2]at hrun1
       obtain⟨_,_,_,hr1⟩:=hein e (Tc he)
       obtain⟨_,_,_,hr2⟩:=hin1 e2 (Tc he2)
       have hef:=(hein e (Tc he)).1
       have hem:(f1.set (twin m) {e2 with r:=e2.r+1})[m]? =some {e with r:=e.r-1}:=by
        rw[Nn (Yr1 m),<-hf1,SJ hml]
       have hfl3:(f1.set (twin m) {e2 with r:=e2.r+1}).length=f1.length:=TQ
       refine zX3 ?_<;>intros
       apply YI [0,1,2,3,4,5,6,7,8,9,10,11,12,13] [14] [true,true,true]
       kernel_rfl
       kernel_rfl
       exact zy
       (simp only[Yd,nthO];rfl)
       (simp only[Yd,nthO];rfl)
       repeat'(first|(apply Vs T (f:=edF) (l:=e1) (i:=m) (q:=4) (o:=3) (b:=e) (b':={e with r:=e.r-1});(iterate 3 exact rfl);exact zd;exact he;exact rfl;exactλ_=>rfl;exact rfl;exact rfl)|refine zgd ?_|fail)
       rw[hf1]
       apply XD (ints (some ⟨gb,0,none⟩) sides by_::blk g (YcF sides A f1.length cap)::sl 478 4 A f1.length cap (f1.flatMap edF)::ints (some ⟨gs,0,none⟩) sides far::H)
       ·rw[hfl1]
        exact zc0
       apply YI [0,1,2,3,4,5,6,7,8,9,10,11,12,13,14] [15] [true,true,true]
       kernel_rfl
       kernel_rfl
       exact zy
       (simp only[Yd,nthO];rfl)
       (simp only[Yd,nthO];rfl)
       repeat'(first|(apply You;(iterate 3 exact rfl);rw[hxor])|(apply Vs T (f:=edF) (l:=f1) (i:=twin m) (q:=4) (o:=3) (b:=e2) (b':={e2 with r:=e2.r+1});(iterate 3 exact rfl);exact zd;exact he2;exact rfl;exactλ_=>rfl;exact rfl;exact rfl)|(apply Zi T (l:=f1.set (twin m) {e2 with r:=e2.r+1}) (f:=edF);(rw[hfl3];exact rfl);exact rfl;exact .sl zm;exact rfl;exactλ_=>rfl;exact rfl;exact rfl;omega)|refine zgd ?_|fail)
       apply hK ⟨k,f2,e.f⟩
       ·exact⟨by exact zc34,hrun1,hin2.mono zc34,by exact zc34,hef⟩
       ·exact zc34
       ·exact zc1
       ·dsimp only
        rw[hf2,show f1.length=f2.length by omega]
        exact zc0
theorem YoX(A:Option Addr)(cap:Nat)(es:List Ed)(f t c:Int):sl 478 4 A (es.length+2) cap (es.flatMap edF++[Value.int .i64 f,.int .i64 t,.int .i64 c,.int .i64 1,.int .i64 t,.int .i64 f,.int .i64 (-c),.int .i64 0])=sl 478 4 A (es++J5 f t c).length cap ((es++J5 f t c).flatMap edF):=by
 grind [J5,edF]
variable {B k:Nat}{w0 w:World}{H:List HP}
theorem Yg5(g sides:Nat)(es:List Ed)(f t c:Int)(hel:es.length<=100000)(hc: -1000000<=c/\c<=1000000){A:Option Addr}{cap:Nat}(hw:St B w0 (gpcs g sides A cap es H) w):
 CX B w0 440 [.pointer (some ⟨g,0,none⟩),.int .i64 f,.int .i64 t,.int .i64 c] w λv K=>∃A' cap',v=.tuple #[]/\K=gpcs g sides A' cap' (es++J5 f t c) H:=by
 refine Ya Tryz.func440 Tryz.ntmps440 rfl rfl hw ?_
 unfold gpcs
 repeat'(first|(apply Yub;exact rfl;exact rfl;omega)|refine zgd ?_|(refine zgh ?_;intro _)|(refine zgi ?_;intro _ _)|fail)
 rename_i A' cap'
 apply Yh (gpcs g sides A' cap' (es++J5 f t c) H)
 ·unfold gpcs
  have e1:(es++J5 f t c).length=es.length+2:=by simp[J5]
  rw[<-YoX,e1]
  exact zc0
 apply Jb;exact rfl
 exact⟨A',cap',rfl,rfl⟩
variable {closed:Int->Bool}
theorem Yc1(h:closed (k:Int)=false):ZB closed (k+1)=ZB closed k++J5 (2*(k:Int)) (2*(k:Int)+1) 0:=by
 grind [ZB,Rq]
theorem YeY(h:closed (k:Int)=true):ZB closed (k+1)=ZB closed k:=by
 grind [ZB,Rq]
theorem O9(closed:Int->Bool):∀k,(ZB closed k).length<=2*k
 |0=>by simp[ZB]
 |k+1=>by
  have:=O9 closed k
  cases h:closed (k:Int)
  ·rw[Yc1 h,Tq];simp[J5];omega
  grind [YeY]
theorem Yjc(l:List Lk)(a:Lk):Uq (l++[a])=Uq l++J5 (2*a.1+1) (2*a.2.1) a.2.2:=by grind [Uq]
theorem Yeg(l:List Lk):(Uq l).length=2*l.length:=by
 induction l with
 |nil=>rfl
 |cons a l ih=>
  grind [Uq,J5]
structure Sz where
 k:Nat
 A:Option Addr
 cap:Nat
theorem Ykm(nodes:Nat)(l:List Lk)(closed:Int->Bool)(gm clock:Nat)(ents:Ents)(hn:nodes<=1000)(hl:l.length<=1000)(hok:ArcsOk nodes l)(hmb:MB ents closed){AL:Option Addr}{capL:Nat}(hm:blk gm (mobj ents clock)∈H)(hr:Rd B w0 H AL (l.flatMap lkF))(hw:St B w0 H w):
 CX B w0 420 [.int .i64 nodes,.slice AL l.length capL,.map (some gm)] w λv K=>∃g A cap,v=.pointer (some ⟨g,0,none⟩)/\K=gpcs g (2*nodes) A cap (Qg nodes l closed) H:=by
 refine Ya Tryz.func420 Tryz.ntmps420 rfl rfl hw ?_
 refine zX25 ?_<;>intros
 rename_i g
 refine Yg (λ(z:Sz)=>[(16,.int .i64 z.k),(15,.int .i64 nodes),(7,.pointer (some ⟨g,0,none⟩)),(1,.slice AL l.length capL),(2,.map (some gm))])
  (λz=>gpcs g (2*nodes) z.A z.cap (ZB closed z.k) H) (λz=>z.k<=nodes) (λz=>nodes-z.k) ⟨0,none,0⟩ (Ti _) ?_ ?_ ?_
 ·exact zc1
 ·intro w hw
  have h5:=hw.nilSlice 478 4
  revert h5
  unfold gpcs
  exactλh5=>h5.perm (.swap _ _ _)
 rintro⟨k,A,cap⟩ hk K hK
 simp only at hk⊢
 have hnl:=O9 closed k
 by_cases hlt:k<nodes
 ·obtain⟨b,hb⟩:∃b,closed (k:Int)=b:=⟨_,rfl⟩
  have hmk:blk gm (mobj ents clock)∈gpcs g (2*nodes) A cap (ZB closed k) H:=TD _ (TD _ hm)
  cases b with
  |true=>
   have e2:=YeY hb
   unfold gpcs at hmk⊢
   refine Ys5 ?_<;>intros
   apply hK ⟨k+1,A,cap⟩
   ·exact zc34
   ·exact zc34
   ·exact zc1
   ·dsimp only
    rw[e2]
    exact Yfl
  |false=>
   have e2:=Yc1 hb
   unfold gpcs at hmk
   refine Ys5 ?_<;>intros
   apply Yf _ YsT
   exact za
   exact rfl
   exactλ_ hw=>(Yg5 g (2*nodes) (ZB closed k) (2*(k:Int)) (2*(k:Int)+1) 0 (by omega) (by omega) (hw))
   rintro _ _ ⟨A3,cap3,rfl,rfl⟩
   refine zX11 ?_
   apply hK ⟨k+1,A3,cap3⟩
   ·exact zc34
   ·exact zc34
   ·exact zc1
   ·dsimp only
    rw[e2]
    exact Yfl
 ·obtain rfl:k=nodes:=by omega
  clear hK
  refine zX1 ?_<;>intros
  refine Yg (λ(z:Sz)=>[(33,.int .i64 z.k),(32,.int .i64 l.length),(31,.slice AL l.length capL),(7,.pointer (some ⟨g,0,none⟩))])
   (λz=>gpcs g (2*k) z.A z.cap (ZB closed k++Uq (l.take z.k)) H) (λz=>z.k<=l.length) (λz=>l.length-z.k) ⟨0,A,cap⟩ (Ti _) ?_ ?_ ?_
  ·exact zc1
  ·dsimp only
   rw[S7,show Uq []=[] from rfl,Rr]
   exact Yfl
  rintro⟨j,A2,cap2⟩ hj K hK
  simp only at hj⊢
  have hal:=Yeg (l.take j)
  rw[TT]at hal
  by_cases hlt:j<l.length
  ·obtain⟨a,ha⟩:∃a,l[j]? =some a:=⟨_,Ta hlt⟩
   obtain⟨⟨a1,a2⟩,⟨a3,a4⟩,⟨a5,a6⟩⟩:=hok a (Tc ha)
   have e2:Uq (l.take (j+1))=Uq (l.take j)++J5 (2*a.1+1) (2*a.2.1) a.2.2:=by rw[TF,ha];exact Yjc _ _
   have hrk:Rd B w0 (gpcs g (2*k) A2 cap2 (ZB closed k++Uq (l.take j)) H) AL (l.flatMap lkF):=(hr.cons).cons
   refine zX44 ?_<;>intros
   rename_i ga
   apply Xy (gpcs g (2*k) A2 cap2 (ZB closed k++Uq (l.take j)) (blk ga (.cells #[.int .i64 a.1,.int .i64 a.2.1,.int .i64 a.2.2] 383 (0,0))::H))
   ·unfold gpcs
    exact zc0
   apply Yf _ YsT
   exact za
   exact rfl
   exactλ_ hw=>(Yg5 g (2*k) (ZB closed k++Uq (l.take j)) (2*a.1+1) (2*a.2.1) a.2.2 (by rw[Tq];omega) (by omega) (hw))
   rintro _ _ ⟨A3,cap3,rfl,rfl⟩
   refine zX11 ?_
   apply hK ⟨j+1,A3,cap3⟩
   ·exact zc34
   ·exact zc34
   ·exact zc1
   ·dsimp only
    rw[e2,<-Re]
    unfold gpcs
    exact zc0
  ·obtain rfl:j=l.length:=by omega
   clear hK
   rw[TM]
   refine zX1 ?_<;>intros
   apply Ye;exact rfl;exact rfl
   exact⟨g,A2,cap2,rfl,rfl⟩
theorem YnJ{nodes:Nat}{l:List Lk}{closed:Int->Bool}(h:ArcsOk nodes l):EdsIn (2*nodes) 1 (Qg nodes l closed):=by
 intro e he
 rcases TU.1 he with he|he
 ·obtain⟨v,hv,he⟩:=RP.1 he
  have hv:=T8.1 hv
  split at he
  ·cases he
  ·simp only[J5,TV,Si,NH]at he
   rcases he with rfl|rfl<;>simp only<;>omega
 ·obtain⟨a,ha,he⟩:=RP.1 he
  obtain⟨h1,h2,h3⟩:=h a ha
  simp only[J5,TV,Si,NH]at he
  grind
theorem Ykl(nodes:Nat)(l:List Lk)(closed:Int->Bool):(Qg nodes l closed).length<=2*nodes+2*l.length:=by
 grind [Qg,Yeg,O9]
variable {es:Ents}
theorem YnD{seen:Array Nat}{e:Int×Value×Nat}(he:e∈es)(hs:seen.contains e.2.2=false):(es.filter λx=>!(seen.push e.2.2).contains x.2.2).length<(es.filter λx=>!seen.contains x.2.2).length:=by
 have h1:(es.filter λx=>!(seen.push e.2.2).contains x.2.2)=(es.filter λx=>!seen.contains x.2.2).filter λx=>!(x.2.2==e.2.2):=by
  rw[List.filter_filter]
  grind
 rw[h1]
 refine List.length_filter_lt_length_iff_exists.2 ⟨e,RA.2 ⟨he,by simp_all⟩,by simp⟩
theorem Yo7(hn:(es.map λe=>e.2.2).Nodup){x y:Int×Value×Nat}(hx:x∈es)(hy:y∈es)(e:x.2.2=y.2.2):x=y:=by
 induction es with
 |nil=>cases hx
 |cons a l ih=>
  grind
def YtZ(mo:Option Nat)(closed:Int->Bool)(H:List HP):Prop:=match mo with
 |none=>∀v,closed v=false
 |some gm=>∃ents clock,blk gm (mobj ents clock)∈H/\MB ents closed/\MOk ents clock
structure Mz(f:Int->Bool) where
 g:Nat
 es:Ents
 c:Nat
 mb:MB es f
 ok:MOk es c
structure Lz where
 es:Ents
 c:Nat
 seen:Array Nat
 f:Int->Bool
theorem Yen(nodes:Nat)(l:List Lk)(a b to:Int)(mo:Option Nat)(closed:Int->Bool)(fuel:Nat)(r:Int×Bool×List Ed)(hn:1<=nodes/\nodes<=50)(hl:l.length<=900)(hok:ArcsOk nodes l)(ha:0<=a/\a<nodes)(hb:0<=b/\b<nodes)(ht:0<=to/\to<nodes)(hfu:fuel<=100000)(hrun:YaM fuel nodes l a b to closed=some r)
 {AL:Option Addr}{capL B:Nat}{w0:World}{H:List HP}{w:World}(hmo:YtZ mo closed H) (hr:Rd B w0 H AL (l.flatMap lkF)) (hw:St B w0 H w):
 CX B w0 391 [.int .i64 nodes,.slice AL l.length capL,.int .i64 a,.int .i64 b,.int .i64 to,.map mo] w λv K=>∃g A cap,v=.tuple #[.int .i64 r.1,.pointer (some ⟨g,0,none⟩),.bool r.2.1]/\(r.2.2.length<=2000/\EdsIn (2*nodes) 900000 r.2.2/\ -600000000000000<=r.1/\r.1<=3000000000)/\K=gpcs g (2*nodes) A cap r.2.2 H:=by
 refine Ya Tryz.func391 Tryz.ntmps391 rfl rfl hw ?_
 iterate 8 (first|refine zga ?_|fail)
 refine ZH (λ(z:Mz λv=>decide (v=a\/v=b\/v=to))=>[(15,.map (some z.g)),(0,.int .i64 nodes),(1,.slice AL l.length capL),(2,.int .i64 a),(3,.int .i64 b),(4,.int .i64 to),(5,.map mo)]) (λz=>blk z.g (mobj z.es z.c)::H) ?_ ?_
 ·intro K hK
  apply Qj (.n1 1 (.n1 3 (.n1 5 (.n1 0 (.n3 2 (.n2 4 (.n1 6 (.n1 7 (.n1 8 .done))) 6 (.n1 4 (.n1 7 (.n1 8 .done)))) 4 (.n2 2 (.n1 6 (.n1 7 (.n1 8 .done))) 6 (.n1 2 (.n1 7 (.n1 8 .done)))) 6 (.n2 2 (.n1 4 (.n1 7 (.n1 8 .done))) 4 (.n1 2 (.n1 7 (.n1 8 .done))))))))) [] []
  kernel_rfl
  kernel_rfl
  exact zy
  exact rfl
  repeat'(first|(apply YbX;exact rfl;intro gs)|(apply YqV (kt:=3) (et:=4);(iterate 3 exact rfl);kernel_rfl;(intro _ _;exact zd);(first|assumption|exact MB.nil);(first|assumption|exact MOk.nil);intro _ _ _ _)|(apply Yr9;(simp only[nthO];rfl);(simp only[nthO];rfl);(simp only[nthO];rfl))|(apply YkL;(simp only[nthO];rfl);(simp only[nthO];rfl))|(apply YkK;(simp only[nthO];rfl))|(apply Qp;try exact zl)|(apply Yj;try exact zl)|refine zgd ?_|fail)
  all_goals(
   rename_i es3 c3 m3 o3
   refine hK ⟨gs,es3,c3,m3.ext λv=>?_,o3⟩ _ _ ?_ ?_
   ·by_cases h1:v=a<;>by_cases h2:v=b<;>by_cases h3:v=to<;>simp[h1,h2,h3]
   ·exact zu
   ·exactλw hw=>hw)
 rintro⟨gs,es0,c0,mb0,ok0⟩
 dsimp only
 apply Xs
 refine ZH (λ(z:Mz (UN a b to closed))=>[(15,.map (some z.g)),(0,.int .i64 nodes),(1,.slice AL l.length capL),(2,.int .i64 a),(3,.int .i64 b),(4,.int .i64 to)]) (λz=>blk z.g (mobj z.es z.c)::H) ?_ ?_
 ·intro KK hKK
  cases mo with
  |none=>
   repeat'(first|(apply YgW (kt:=3) (et:=4);exact rfl;kernel_rfl;exact rfl;intro it)|refine zgb ?_|fail)
   refine Yg (λ(_:Unit)=>[(28,.pointer (some ⟨it,0,none⟩)),(15,.map (some gs)),(0,.int .i64 nodes),(1,.slice AL l.length capL),(2,.int .i64 a),(3,.int .i64 b),(4,.int .i64 to)]) (λ_=>blk it (.mapIter none 0 #[] 0)::blk gs (mobj es0 c0)::H) (λ_=>True) (λ_=>0) () trivial ?_ (λw hw=>hw) ?_
   ·exact zc1
   intro _ _ K hK
   clear hK
   repeat'(first|(apply Yi8;exact rfl;exact zm;exact rfl)|refine zgc ?_|fail)
   refine hKK ⟨gs,es0,c0,mb0.ext λv=>?_,ok0⟩ _ _ ?_ ?_
   ·unfold UN;rw[hmo v,Bool.or_false]
   ·exact zc1
   ·exact zc57
  |some gm=>
   obtain⟨ents,clock,hm,hmb,hmk⟩:=hmo
   repeat'(first|(apply Yok (kt:=3) (et:=4) (g:=gm);exact rfl;exact TD _ hm;kernel_rfl;exact rfl;intro it)|refine zgb ?_|fail)
   refine Yg (λ(_:Lz)=>[(28,.pointer (some ⟨it,0,none⟩)),(15,.map (some gs)),(0,.int .i64 nodes),(1,.slice AL l.length capL),(2,.int .i64 a),(3,.int .i64 b),(4,.int .i64 to)]) (λz=>blk it (.mapIter (some gm) clock z.seen clock)::blk gs (mobj z.es z.c)::H)
    (λz=>MB z.es z.f/\MOk z.es z.c/\(∀v,z.f v=true->UN a b to closed v=true)/\(∀v,(v=a\/v=b\/v=to)->z.f v=true)/\∀e∈ents,z.seen.contains e.2.2=true->z.f e.1=true) (λz=>(ents.filter λx=>!z.seen.contains x.2.2).length) ⟨es0,c0,#[],λv=>decide (v=a\/v=b\/v=to)⟩ ⟨mb0,ok0,λv h=>by unfold UN;simp only at h;rw[h];rfl,λv h=>Td h,λe _ h=>by simp at h⟩ ?_ (λw hw=>hw) ?_
   ·exact zc1
   rintro⟨es1,c1,seen,f⟩ ⟨i1,i2,i3,i4,i5⟩ K hK
   simp only at i1 i2 i3 i4 i5⊢
   repeat'(first|apply Xs|apply YgB|apply YX|fail)
   apply Yq0 (g:=gm)
   ·exact rfl
   ·exact TD _ (TD _ hm)
   ·exact rfl
   ·intro _;exact zd
   ·exact hmk.lt
   ·exact TI _
   ·intro hall
    clear hK
    refine zX11 ?_
    refine hKK ⟨gs,es1,c1,i1.ext λv=>?_,i2⟩ _ _ ?_ ?_
    ·cases hs:UN a b to closed v with
     |true=>
      unfold UN at hs
      rcases RG _ _▸hs with h|h
      ·exact i4 v (Rm h)
      ·obtain⟨e,he,rfl⟩:=hmb.at_ h
       exact i5 e he (hall e he)
     |false=>
      cases hf:f v with
      |false=>rfl
      |true=>rw[i3 v hf]at hs;cases hs
    ·exact zc1
    ·exact zc57
   ·rintro⟨ek,ev,eb⟩ he hseen
    simp only at hseen⊢
    have hec:=hmb.mem he
    repeat'(first|(apply Yod (g:=gm) (e:=(ek,ev,eb));exact rfl;exact TD _ (TD _ hm);exact zm;exact rfl;exact he;exact hmk.nd)|(apply YkH (kt:=3) (et:=4);(iterate 3 exact rfl);kernel_rfl;(intro _ _;exact zd);exact i1;exact i2;intro es2 c2 m2 o2 _ _)|refine zgc ?_|fail)
    apply hK ⟨es2,c2,seen.push eb,λv=>decide (v=ek)||f v⟩
    ·refine⟨m2,o2,λv h=>?_,λv h=>?_,λe he2 h=>?_⟩
     ·simp only at h
      rcases RG _ _▸h with h|h
      ·obtain rfl:=Rm h
       unfold UN
       rw[hec,Bool.or_true]
      ·exact i3 v h
     ·simp only;rw[i4 v h,Bool.or_true]
     ·simp only at h⊢
      rw[Array.contains_push]at h
      rcases RG _ _▸h with h|h
      ·rw[i5 e he2 h,Bool.or_true]
      ·have:e=(ek,ev,eb):=Yo7 hmk.nd he2 he (by simpa using h)
       rw[this];simp
    ·exact YnD (e:=(ek,ev,eb)) he hseen
    ·exact zc1
    exact zc20
 rintro⟨gs2,es2,c2,mb2,ok2⟩
 dsimp only
 have hsl:=Ykl nodes l (UN a b to closed)
 have hsi:=YnJ (closed:=UN a b to closed) hok
 unfold YaM at hrun
 cases h1:Ye8 fuel (2*nodes) (Qg nodes l (UN a b to closed)) (2*a+1) (2*to)with
 |none=>rw[h1]at hrun;cases hrun
 |some r1=>
  rw[h1]at hrun
  obtain⟨x,ok,es1⟩:=r1
  dsimp only at hrun
  cases h2:Ye8 fuel (2*nodes) es1 (2*b+1) (2*to)with
  |none=>rw[h2]at hrun;cases hrun
  |some r2=>
   rw[h2]at hrun
   obtain⟨y,is,es3⟩:=r2
   obtain rfl:=Tv hrun
   refine zX4 ?_
   apply Yf _ YvD
   exact za
   exact rfl
   exactλ_ hw=>(Ykm nodes l (UN a b to closed) gs2 c2 es2 (by omega) (by omega) hok mb2 TB hr.cons (hw))
   rintro _ _ ⟨g,A,cap,rfl,rfl⟩
   refine zX2 ?_
   apply Yf _ YsQ
   exact za
   exact rfl
   exactλ_ hw=>(Ye9 g (2*nodes) (Qg nodes l (UN a b to closed)) (2*a+1) (2*to) fuel 1 (x,ok,es1) (by omega) hsi (by omega) (by omega) hfu (by omega) (by omega) h1 (hw))
   rintro _ _ ⟨rfl,⟨q1,q2,q3,q4⟩,rfl⟩
   dsimp only at q1 q2 q3 q4⊢
   refine zX2 ?_
   apply Yf _ YsQ
   exact za
   exact rfl
   exactλ_ hw=>(Ye9 g (2*nodes) es1 (2*b+1) (2*to) fuel (1+2*(fuel:Int)) (y,is,es3) (by omega) q2 (by omega) (by omega) hfu (by omega) (by omega) h2 (hw))
   rintro _ _ ⟨rfl,⟨p1,p2,p3,p4⟩,rfl⟩
   dsimp only at p1 p2 p3 p4⊢
   cases ok
   all_goals(
    repeat'(first|refine zgc ?_|fail)
    apply Yh (gpcs g (2*nodes) A cap es3 H)
    ·unfold gpcs
     exact zk
    apply UW;(iterate 4 exact rfl)
    exact⟨g,A,cap,rfl,⟨by omega,p2.mono (by omega),by omega,by omega⟩,rfl⟩)
end Go.Proofs.YtjlgijpmnfabcaaGreatDoor
namespace Go.Eng
open Go.RowKit
section
variable {P:Program}{m:Mode}{n:Shp}{B d:Nat}{w0:World}{ops:Array Oper}{Q:Exit->Act->World->Prop}{rest:List Oper}{env:Env}{H:List HP}{ty:TypeId}{pos:String}{after:Array Edge}
variable {t e q g bytes o:Nat}{x y:Operand}{cs:Array Value}{ki k:IntKind}{i a:Int}
theorem YaI(T:Tab P){k:Nat}{v:Value}(hx:evo env x=some (.agg cs))(hy:evo env y=some (.int ki i))(ht:look T.ar t=some (k,e,1))(hs:Ox P e=true)(hn:Nat.ble (d+1) n.k=true)(hi:0<=i/\i<k)(hv:cs[i.toNat]? =some v)
 (h:VL P m n B w0 ops Q rest ((d,v)::env) H):VL P m n B w0 ops Q (⟨some d,.index t x y,ty,pos,after,none⟩::rest) env H:=by
 obtain⟨inf,hu,hinf,hs'⟩:=ZX (T.arra ht)
 refine Yt rfl rfl hn rfl (λa w ha hw=>?_) h
 simp[execOp,ha.eval hx,ha.eval hy,Instr.index,asIntOf,run_underlying hu,hi,sizeOf,typeInfo,hinf,hs',part,Y6 hs,hv]
theorem YgM(T:Tab P){k:Nat}(hx:evo env x=some (.agg cs))(hy:evo env y=some (.int ki i))(ht:look T.ar t=some (k,e,q))(hs:aggT P e=some q)(hn:Nat.ble (d+1) n.k=true)(hi:0<=i/\i<k)
 (h:VL P m n B w0 ops Q rest ((d,.agg (cs.extract (i.toNat*q) (i.toNat*q+q)))::env) H):VL P m n B w0 ops Q (⟨some d,.index t x y,ty,pos,after,none⟩::rest) env H:=by
 obtain⟨inf,hu,hinf,hs'⟩:=ZX (T.arra ht)
 refine Yt rfl rfl hn rfl (λa w ha hw=>?_) h
 simp[execOp,ha.eval hx,ha.eval hy,Instr.index,asIntOf,run_underlying hu,hi,sizeOf,typeInfo,hinf,hs',part,Jo hs]
def numA(k:IntKind)(l:List Int):Array Value:=(l.map (Value.int k)).toArray
variable {l:List Int}
theorem Yc3{i:Nat}(h:i<l.length):(numA k l)[i]? =some (.int k l[i]):=by
 unfold numA
 rw[List.getElem?_toArray,TJ,Ta h];rfl
variable {tt:TypeId}{fr:Nat×Nat}
theorem Zj(T:Tab P){i:Nat}(hx:evo env x=some (.pointer (some ⟨g,i,none⟩)))(hm:blk g (.cells (numA k l) tt fr)∈H)(hi:i<l.length)
 (ht:look T.sc t=some ()) (hn:Nat.ble (d+1) n.k=true) (h:∀z,VL P m n B w0 ops Q rest ((d,.int k z)::env) H):VL P m n B w0 ops Q (⟨some d,.load t x,ty,pos,after,none⟩::rest) env H:=
 O1 T hx hm (Yc3 hi) ht hn (h _)
variable {K:List Int->List HP}
theorem Ja(T:Tab P){i:Nat}{z:Int}(hx:evo env x=some (.pointer (some ⟨g,i,none⟩)))(hy:evo env y=some (.int k z))
 (hu:∀l',Upd (blk g (.cells (numA k l) tt (0,0))) (blk g (.cells (numA k l') tt (0,0))) H (K l')) (hi:i<l.length)
 (ht:look T.sc t=some ()) (h:∀l',l'.length=l.length->VL P none n B w0 ops Q rest env (K l')):VL P none n B w0 ops Q (⟨none,.store t x y,ty,pos,after,none⟩::rest) env H:=by
 refine YgY T (cs:=numA k l) (tt:=tt) hx hy rfl ?_ (by unfold numA;simpa using hi) ht (h (l.set i z) TQ)
 have e:(numA k l).setIfInBounds i (.int k z)=numA k (l.set i z):=by
  unfold numA
  rw[List.setIfInBounds_toArray,List.map_set]
 rw[e]
 exact hu _
theorem YaH(T:Tab P){kd cd mm c2:Nat}{ys:List Int}{A2:Option Addr}(hx:evo env x=some (.slice (some ⟨g,o,none⟩) kd cd))(hy:evo env y=some (.slice A2 mm c2))(hr:Rd B w0 H A2 (ys.map (Value.int k)))
 (hu:∀l',Upd (blk g (.cells (numA k l) tt (0,0))) (blk g (.cells (numA k l') tt (0,0))) H (K l')) (ht:look T.sl t=some (e,1,bytes)) (hn:Nat.ble (d+1) n.k=true) (hb:o+kd<=l.length/\min mm kd<=ys.length/\0<min mm kd)
 (h:∀l',l'.length=l.length->VL P none n B w0 ops Q rest ((d,.int .i64 (min mm kd:Nat))::env) (K l')):
 VL P none n B w0 ops Q (⟨some d,.call ⟨.builtin .copy,#[x,y],#[t,t]⟩,ty,pos,after,none⟩::rest) env H:=by
 obtain⟨hut,inf,z,hi,hz,hzs,hsi,hbi,hs0,hb0⟩:=Yx (T.slic ht)
 obtain⟨l',hl'⟩:∃l',l.take o++ys.take (min mm kd)++l.drop (o+min mm kd)=l':=⟨_,rfl⟩
 have hlen:l'.length=l.length:=by
  rw[<-hl',Tq,Tq,TT,TT,TZ]
  omega
 refine Xj (λv K'=>v=.int .i64 (min mm kd:Nat)/\K'=K l') rfl rfl hn (λa w ha hw=>?_) (by rintro _ _ ⟨rfl,rfl⟩;exact h l' hlen)
 have hu:=hu l'
 have hb0:w.heap[g]? =some (.cells (numA k l) tt (0,0)):=by
  obtain⟨L1,L2,rfl,_⟩:=hu
  exact(hw.blk (by simp)).1
 have hcl:((ys.take (min mm kd)).map (Value.int k)).length=min mm kd:=by rw[Tt,TT];omega
 have hsome:∃a2,A2=some a2/\∀j v,((ys.take (min mm kd)).map (Value.int k))[j]? =some v->w.cell? (a2.add j)=some v:=by
  have h0:(ys.map (Value.int k))[0]? =some (.int k (ys[0]'(by omega))):=by rw[TJ,Ta (by omega)];rfl
  obtain⟨g2',o2,rfl,_⟩:=hr w hw 0 _ h0
  refine⟨_,rfl,λj v hj=>?_⟩
  rw[List.map_take,SG]at hj
  by_cases hjm:j<min mm kd
  ·rw[Tn hjm]at hj
   obtain⟨g3',o3,e3,hc⟩:=hr w hw j v hj
   injection e3 with e3
   injection e3 with e3 e4
   subst e3 e4
   rw[Addr.add_lit];exact hc
  ·rw[Tf hjm]at hj;cases hj
 obtain⟨a2,rfl,hsrc⟩:=hsome
 have hrun:=run_copy_row (P:=P) w t t ty e g o kd cd a2 mm c2 (numA k l) tt ((ys.take (min mm kd)).map (Value.int k)) hut (by rw[hi];simp[hsi]) hb0 hcl hsrc (by rw[hcl];unfold numA;simp;omega) (λv hv=>by obtain⟨z,_,rfl⟩:=TC.1 hv;rfl)
 have hnew:((numA k l).toList.take o++(ys.take (min mm kd)).map (Value.int k)++(numA k l).toList.drop (o+((ys.take (min mm kd)).map (Value.int k)).length)).toArray=numA k l':=by
  rw[hcl,<-hl']
  unfold numA
  simp only[Rk,List.map_take,NF]
 rw[hnew,hcl]at hrun
 refine⟨_,K l',w.setRow g (numA k l'),?_,hw.upd hu rfl rfl rfl (by simp[World.setRow]) λS1 ⟨h1,h2⟩=>⟨⟨h1,setRow_heap w g _ _ tt _ hb0⟩,λb hb _=>QZ (λe=>hb (e▸h1))⟩,rfl,rfl⟩
 simp only[execOp,resolve,invoke,builtin]
 have hmap:#[x,y].map a.eval=#[.slice (some ⟨g,o,none⟩) kd cd,.slice (some a2) mm c2]:=by simp[ha.eval hx,ha.eval hy]
 simp only[hmap,Sem.run_bind,Sem.run_pure,Result.andThen_ok]
 rw[hrun]
 simp[goInt]
theorem Vk:(numA k l).size=l.length:=by unfold numA;simp
theorem Yfa:∀(pre cs vs:List Value),cs.length=vs.length->PutAt (pre++cs) pre.length vs (pre++vs)
 |pre,[],[],_=>PutAt.nil
 |pre,c::cs,v::vs,h=>by
  refine PutAt.cons (l1:=(pre++[v])++cs) ⟨by simp,by simp⟩ ?_
  have:=Yfa (pre++[v]) cs vs (by simpa using h)
  rw[Tq,TO]at this
  simpa using this
theorem Yb6(k:IntKind):∀l:List Int,ZM (l.map (Value.int k))=true
 |[]=>rfl
 |_::l=>Yb6 k l
theorem Yfv(T:Tab P){i:Nat}(hx:evo env x=some (.pointer (some ⟨g,i,none⟩)))(hm:blk g (.cells (numA k l) tt fr)∈H)(hi:i<l.length)
 (ht:look T.sc t=some ()) (hn:Nat.ble (d+1) n.k=true) (h:∀z∈l,VL P m n B w0 ops Q rest ((d,.int k z)::env) H):VL P m n B w0 ops Q (⟨some d,.load t x,ty,pos,after,none⟩::rest) env H:=
 O1 T hx hm (Yc3 hi) ht hn (h _ (S8 hi))
theorem OE(T:Tab P){j:Nat}(hx:evo env x=some (.agg (numA k l)))(hy:evo env y=some (.int ki i))(ht:look T.ar t=some (j,e,1))(hs:Ox P e=true)(hn:Nat.ble (d+1) n.k=true)(hi:0<=i/\i<j)(hj:l.length=j)
 (h:∀z∈l,VL P m n B w0 ops Q rest ((d,.int k z)::env) H):VL P m n B w0 ops Q (⟨some d,.index t x y,ty,pos,after,none⟩::rest) env H:=
 YaI T hx hy ht hs hn hi (Yc3 (by omega)) (h _ (S8 (by omega)))
theorem Ybq(T:Tab P){k size:Nat}(hx:evo env x=some (.pointer (some ⟨g,o,none⟩)))(hy:evo env y=some (.int ki i))(ht:look T.ar t=some (k,e,size))(hn:Nat.ble (d+1) n.k=true)(hi:0<=i/\i<k)
 (h:VL P m n B w0 ops Q rest ((d,.slice (some ⟨g,o+i.toNat*size,none⟩) (k-i.toNat) (k-i.toNat))::env) H):
 VL P m n B w0 ops Q (⟨some d,.slice t x (some y) none none,ty,pos,after,none⟩::rest) env H:=by
 obtain⟨inf,hu,hinf,hs⟩:=ZX (T.arra ht)
 have h1:0<=i/\i<=k:=by omega
 have h2:k-i.toNat≠0:=by omega
 refine Yt rfl rfl hn rfl (λa w ha hw=>?_) h
 simp[execOp,ha.eval hx,ha.eval hy,Instr.sliceAt,Instr.sliceBounds,Instr.sliceBound,Instr.sureAddr,asIntOf,run_underlying hu,h1,sizeOf,typeInfo,hinf,hs,Addr.add_lit]
 intro e;omega
theorem Yi2{xt:TypeId}(hx:evo env x=some (.int k a))(hn:Nat.ble (d+1) n.k=true)(h:∀z,VL P m n B w0 ops Q rest ((d,.int k z)::env) H):
 VL P m n B w0 ops Q (⟨some d,.unOp .xor xt x,ty,pos,after,none⟩::rest) env H:=by
 refine Yt (v:=.int k (bits .xor k (if k.signed then -1 else k.max) a)) rfl rfl hn rfl (λf w ha _=>?_) (h _)
 simp[execOp,ha.eval hx,Op.unary]
 rfl
theorem Z9(Φ:Value->Prop){f:Nat}{args:List Operand}{tys:Array TypeId}{vs:List Value}(hc:∀xs w,(callFunc f xs).run P w=.ok (.enter f xs) w)(hargs:Args env args vs)(hn:Nat.ble (d+1) n.k=true)
 (hcall:∀w,St B w0 H w->Calls P f vs.toArray w (Post B w0 λv K=>Φ v/\K=H)) (h:∀v,Φ v->VL P none n B w0 ops Q rest ((d,v)::env) H):
 VL P none n B w0 ops Q (⟨some d,.call ⟨.value (.func f),args.toArray,tys⟩,ty,pos,after,none⟩::rest) env H:=
 Yf _ hc hargs hn hcall (by rintro v _ ⟨hv,rfl⟩;exact h v hv)
theorem Yi7(T:Tab P){c:Int}{z:Value}(hx:evo env x=some (.int .i64 0))(hy:evo env y=some (.int .i64 c))(ht:look T.sl t=some (e,1,bytes))(hz:((P.info? e).bind (·.zero))=some z)(hz1:z.cells=#[z])(hn:Nat.ble (d+1) n.k=true)(hb:Nat.ble bytes 1000=true)(hc:0<=c/\c<=1000000)
 (h:∀g,VL P none n B w0 ops Q rest ((d,.slice (some ⟨g,0,none⟩) 0 c.toNat)::env) (sl e 1 (some ⟨g,0,none⟩) 0 c.toNat []::H)):VL P none n B w0 ops Q (⟨some d,.makeSlice t x y,ty,pos,after,none⟩::rest) env H:=by
 obtain⟨hu,i,z',hi,hz',_,hsi,hbi,_,_⟩:=Yx (T.slic ht)
 obtain rfl:z'=z:=by rw[hi]at hz;simp only[S5,hz',RI]at hz;exact hz
 have hb':=TR hb
 refine Xj (λv K=>∃g,v=.slice (some ⟨g,0,none⟩) 0 c.toNat/\K=sl e 1 (some ⟨g,0,none⟩) 0 c.toNat []::H) rfl rfl hn (λa w ha hw=>?_) (by rintro _ _ ⟨g,rfl,rfl⟩;exact h g)
 have hbytes:(i.bytes:Int)*c<=281474976710656:=by
  have h1:(i.bytes:Int)*c<=1000*c:=RO (by omega) hc.1
  omega
 have hrun:=run_make (P:=P) w t e i z' hu hi hz' .i64 .i64 0 c (SK _) hc.1 hbytes (by omega)
 rw[hsi,Na,hz1]at hrun
 refine⟨_,_,w.alloc (.cells (madeCells #[z'] c.toNat) e),by simp only[execOp,ha.eval hx,ha.eval hy,Sem.run_bind,hrun,Result.andThen_ok,Sem.run_pure];rfl,?_,w.heap.size,rfl,rfl⟩
 have h2:=hw.alloc (.cells (madeCells #[z'] c.toNat) e)
 refine h2.upd (Upd.here _) rfl rfl rfl (TI _) λS1 ⟨h3,h4⟩=>⟨⟨⟨by simp,.inr ⟨w.heap.size,c.toNat,madeCells #[z'] c.toNat,rfl,Ti _,h4,Ti _,by simp only[maxLen];omega,by simp[size_madeCells],?_⟩⟩,λa ha=>by cases ha;exact h3⟩,λ_ _ _=>rfl⟩
 simp
theorem Ymd(T:Tab P){src dst:TypeId}{j:IntKind}(hx:evo env x=some (.int k a))(hs:look T.ik src=some j)(ht:look T.ik dst=some .u8)(hn:Nat.ble (d+1) n.k=true)(h:∀b:Nat,VL P m n B w0 ops Q rest ((d,.int .u8 b)::env) H):VL P m n B w0 ops Q (⟨some d,.convert src dst x,ty,pos,after,none⟩::rest) env H:=
 Qm T hx hs ht hn (by
  have e:IntKind.u8.wrap a=((a%256).toNat:Int):=by
   rw[IntKind.wrap_u8]
   exact(Int.toNat_of_nonneg (Int.emod_nonneg _ (by decide))).symm
  rw[e];exact h _)
theorem ZD(T:Tab P){c0:Array Value}{K:List HP}(hx:evo env x=some (.pointer (some ⟨g,0,none⟩)))(hy:evo env y=some (.agg (numA k l)))
 (hu:Upd (blk g (.cells c0 tt (0,0))) (blk g (.cells (numA k l) tt (0,0))) H K) (hl:c0.size=l.length) (ht:look T.ag t=some q) (hq:l.length=q)
 (h:VL P none n B w0 ops Q rest env K):VL P none n B w0 ops Q (⟨none,.store t x y,ty,pos,after,none⟩::rest) env H:=
 Qn T (cs:=c0.toList) (cs':=l.map (Value.int k)) (tt:=tt) hx hy (Yb6 k l) hu (Yfa [] _ _ (by rw[Tt,SY,hl])) ht (by rw[Tt,hq]) h
end
end Go.Eng
