/- Lemmas. -/
import Derived.Test.YtjlgijpmnfabcaaGreatDoorQ14
import Derived.Test.YtjlgijpmnfabcaaGreatDoorQ15
import Derived.Test.YtjlgijpmnfabcaaGreatDoorQ16
set_option maxRecDepth 100000
set_option maxHeartbeats 8000000
set_option linter.all false
namespace Go.Proofs.YtjlgijpmnfabcaaGreatDoor
open Go.RowKit Go.Eng Go.Nw Go.Rt
structure RuM where
 f:Int
 u:Int
 v:Int
 k:Int
 A:Option Addr
 cap:Nat
 os:List Int
def ruF(r:RuM):List Value:=[.int .i64 r.f,.int .i64 r.u,.int .i64 r.v,.int .i64 r.k,.slice r.A r.os.length r.cap]
structure RuM.In(B:Nat)(w0:World)(H:List HP)(r:RuM):Prop where
 rd:Rd B w0 H r.A (r.os.flatMap numF)
 ln:r.os.length<=9223372036854775807
structure XIn(B:Nat)(w0:World)(H:List HP)(A:Option Addr)(xs:List RuM):Prop where
 rd:Rd B w0 H A (xs.flatMap ruF)
 x:∀r∈xs,r.In B w0 H
variable {B:Nat}{w0:World}{H K:List HP}
theorem RuM.In.mono{r:RuM}(h:r.In B w0 H)(hop:∀w,St B w0 K w->St B w0 H w):r.In B w0 K:=⟨h.rd.mono hop,h.ln⟩
theorem XIn.mono{A:Option Addr}{xs:List RuM}(h:XIn B w0 H A xs)(hop:∀w,St B w0 K w->St B w0 H w):XIn B w0 K A xs:=⟨h.rd.mono hop,λr hr=>(h.x r hr).mono hop⟩
def YvT(es:List (Int×Int×Nat))(k:Int):Option Int:=(es.find? λe=>e.1==k).map (·.2.1)
def YvZ(es:List (KL×Int×Nat))(k:KL):Option Int:=(es.find? λe=>e.1==k).map (·.2.1)
structure SM where
 frame:Int
 g:Option (Nat×Nat×Nat)
 es:List (Int×Int×Nat)
 ce:Nat
 ts:XU
 ct:Nat
 ak:List (KL×Int×Nat)
 ca:Nat
 done:Bool
def SM.st(x:SM):StM:=⟨x.frame,YvT x.es,λu v=>YvZ x.ak [u,v],x.done⟩
structure VOk(N:Nat)(es:XU)(ct:Nat):Prop where
 len:∀e∈es,e.1.length=N
 lt:∀e∈es,e.2.2<ct
 ne:es.Pairwise λa b=>a.2.2≠b.2.2
variable {N ct:Nat}
theorem VOk.nil:VOk N [] ct:=by simp_all [Go.Proofs.YtjlgijpmnfabcaaGreatDoor.VOk.mk]
theorem VOk.set{b:Nat}{l1 l2:XU}{k:KL}{v0:Value}(h:VOk N (l1++(k,v0,b)::l2) ct)(v:Value):VOk N (l1++(k,v,b)::l2) ct:=by
 have e:∀P:KL×Value×Nat->Prop,(∀z:KL×Value×Nat,P z↔P (z.1,v,z.2.2))->(∀z∈l1++(k,v0,b)::l2,P z)->∀z∈l1++(k,v,b)::l2,P z:=λP hP hz z hm=>by
  rcases TU.1 hm with hm|hm
  ·grind
  ·rcases TV.1 hm with rfl|hm
   ·exact(hP (k,v0,b)).1 (hz (k,v0,b) (by simp))
   ·exact hz z (TU.2 (.inr (TD _ hm)))
 refine⟨e (λz=>z.1.length=N) (λ_=>Iff.rfl) h.len,e (λz=>z.2.2<ct) (λ_=>Iff.rfl) h.lt,?_⟩
 have hp:=h.ne
 rw[List.pairwise_append,SL]at hp⊢
 refine⟨hp.1,hp.2.1,λa ha z hz=>?_⟩
 rcases TV.1 hz with rfl|hz
 ·exact hp.2.2 a ha (k,v0,b) (by simp)
 grind
structure TOk(ts:XU)(ct:Nat)(b:Int):Prop where
 ok:VOk 2 ts ct
 z:∀e∈ts,∃z,e.2.1=.int .i64 z/\0<=z/\z<=b
variable {b b':Int}
theorem TOk.mono{ts:XU}(h:TOk ts ct b)(hb:b<=b'):TOk ts ct b':=⟨h.ok,λe he=>by
 obtain⟨z,h1,h2,h3⟩:=h.z e he
 grind⟩
structure SM.Ok(x:SM)(b:Int):Prop where
 g:0<=x.frame->x.g.isSome=true
 ts:TOk x.ts x.ct b
 ak:∀e∈x.ak,e.1.length=2
theorem SM.Ok.mono{x:SM}(h:x.Ok b)(hb:b<=b'):x.Ok b':=⟨h.g,h.ts.mono hb,h.ak⟩
open Go.RowKit Go.Eng Go.Nw Go.Rt Go.Sort Go.Shelf Go.Proofs
theorem Yj4{α:Type}[Inhabited α]{d d':Array α}(h:PermIn 0 d.size d d'):d'.toList.Perm d.toList:=by
 obtain⟨h1,_,h3⟩:=h
 grind [Array.extract_size]
open Go.RowKit Go.Eng
theorem len8{l:List Int}(h:l.length=8):∃a b c d e f g i,l=[a,b,c,d,e,f,g,i]:=by
 match l,h with
 |[a,b,c,d,e,f,g,i],_=>exact⟨a,b,c,d,e,f,g,i,rfl⟩
def stC(l:List Int)(A:Option Addr)(n cap:Nat)(c:Int):Array Value:=(l.map (Value.int .u32)++[Value.slice A n cap,Value.int .u64 c]).toArray
theorem stC8(a b c d e f g i:Int)(A:Option Addr)(n cap:Nat)(k:Int):stC [a,b,c,d,e,f,g,i] A n cap k=#[.int .u32 a,.int .u32 b,.int .u32 c,.int .u32 d,.int .u32 e,.int .u32 f,.int .u32 g,.int .u32 i,.slice A n cap,.int .u64 k]:=rfl
theorem Ys0(a b c d e f g i:Int):numA .u32 [a,b,c,d,e,f,g,i]=#[.int .u32 a,.int .u32 b,.int .u32 c,.int .u32 d,.int .u32 e,.int .u32 f,.int .u32 g,.int .u32 i]:=rfl
variable {B:Nat}{w0 w:World}{H:List HP}
theorem Yhp(hw:St B w0 H w):
 CX B w0 95 [.string ⟨#[]⟩] w λv K=>(∃l,l.length=8/\v=.agg (stC l none 0 0 0))/\K=H:=by
 refine Ya Tryz.func95 Tryz.ntmps95 rfl rfl hw ?_
 refine XD [many H] (λw hw=>hw.perm (.closeT H)) ?_
 repeat'(first|refine zga ?_|(refine zgh ?_;intro _)|fail)
 apply Yf _ Ysm
 exact za
 exact rfl
 exactλ_ hw=>(QI (hw))
 rintro _ _ ⟨⟨l,hl,rfl⟩,hK⟩
 rw[hK]
 obtain⟨a,b,c,d,e,f,g,i,rfl⟩:=len8 hl
 rw[Ys0]
 repeat'(first|(apply XF T;(iterate 4 exact rfl);omega)|(apply O1 T;exact rfl;exact zm;(iterate 3 exact rfl))|(apply Od T;(iterate 4 exact rfl);intro _)|(apply Yoe;(iterate 3 exact rfl);intro _)|(apply Vo;(iterate 3 exact rfl);intro _)|(apply Vt;(iterate 3 exact rfl);intro _)|(apply zg8;(refine zs22 ?_ ?_<;>intro _ _<;>try exact zo))|refine zgd ?_|(refine zgh ?_;intro _)|fail)
 ·rename_i hne
  exact absurd hne (by decide)
 apply Vu T (H2:=H);exact rfl;exact rfl;exact zm;exact rfl;exact rfl
 ·intro w hw
  have h5:St B w0 [many H] w:=by
   revert w
   exact zk
  exact h5.perm (.openT H)
 exact⟨⟨[_,_,_,_,_,_,_,_],rfl,rfl⟩,rfl⟩
structure TkM where
 l:List Int
 A:Option Addr
 cap:Nat
 bs:List Int
 c:Int
theorem Yju(l:List Int)(hl:l.length=8)(s:ByteArray)(hs:s.size<=1000000000)(g:Nat)(hw:St B w0 (blk g (.cells (stC l none 0 0 0) 184 (0,0))::H) w):
 CX B w0 96 [.pointer (some ⟨g,0,none⟩),.string s] w λv K=>∃l' A cap c bs P,v=.tuple #[]/\List.length l'=8/\List.length bs<=64/\(∀{H':List HP},many [P]∈H'->Rd B w0 H' A (List.flatMap bytF bs))/\K=blk g (.cells (stC l' A bs.length cap c) 184 (0,0))::many [P]::H:=by
 refine Ya Tryz.func96 Tryz.ntmps96 rfl rfl hw ?_
 obtain⟨a,b,c,d,e,f,k,i,rfl⟩:=len8 hl
 rw[stC8]
 have hcells:Lib.strCells s=(s.data.toList.map λb=>(b.toNat:Int)).flatMap bytF:=by
  unfold Lib.strCells
  generalize s.data.toList=L
  induction L with
  |nil=>rfl
  |cons b L ih=>rw[Ru,Ru,TN,ih];rfl
 obtain⟨bs,hbs⟩:∃bs,(s.data.toList.map λb=>(b.toNat:Int))=bs:=⟨_,rfl⟩
 have hbl:bs.length=s.size:=by rw[<-hbs,Tt,SY];rfl
 rw[hbs]at hcells
 refine XD (blk g (.cells #[.int .u32 a,.int .u32 b,.int .u32 c,.int .u32 d,.int .u32 e,.int .u32 f,.int .u32 k,.int .u32 i,.slice none 0 0,.int .u64 0] 184 (0,0))::sl 5 1 none 0 0 []::[many H]) (λw hw=>?_) ?_
 ·have h5:=(hw.perm (.cons _ (.closeT H))).nilSlice 5 1
  exact h5.perm (.swap _ _ _)
 repeat'(first|(apply Qk T (tt:=9) (xs:=[]);(iterate 6 exact rfl);(intro _ _;exact zd);omega;intro A1 c1)|refine zgd ?_|fail)
 obtain⟨P,hP⟩:∃P,sl 5 1 A1 s.size c1 (bs.flatMap bytF)=P:=⟨_,rfl⟩
 have e0:sl 5 1 A1 (0+s.size) c1 ([]++Lib.strCells s)=P:=by rw[RH,TE,hcells,hP]
 refine Oc (e:=5) (size:=1) (k:=0+s.size) (cap:=c1) (A:=A1) zm λhcap=>?_
 rw[e0,show 0+s.size=s.size from RH _]
 rw[RH]at hcap
 refine Yg (λ_:TkM=>[(0,.pointer (some ⟨g,0,none⟩))]) (λz=>blk g (.cells (stC z.l z.A z.bs.length z.cap z.c) 184 (0,0))::P::[many H])
  (λz=>z.l.length=8/\z.bs.length<=z.cap/\∀{H':List HP},P∈H'->Rd B w0 H' z.A (z.bs.flatMap bytF)) (λz=>z.bs.length) ⟨[a,b,c,d,e,f,k,i],A1,c1,bs,0⟩ ⟨rfl,by dsimp only;omega,λhm=>by rw[<-hP]at hm;exact Rd.sl hm⟩ ?_ ?_ ?_
 ·exact zu
 ·dsimp only
  rw[stC8,hbl]
  exactλw hw=>hw
 clear hcells hbs
 rintro⟨l,A,cap,bs,cc⟩ ⟨hl,hc,hr⟩ K hK
 dsimp only at hl hc hr⊢
 obtain⟨x0,x1,x2,x3,x4,x5,x6,x7,rfl⟩:=len8 hl
 rw[stC8]
 by_cases hgt:64<bs.length
 rotate_left
 ·clear hK
  repeat'(first|refine zgd ?_|(refine zge ?_ ?_<;>intro _<;>try exact zo)|fail)
  apply Yh (blk g (.cells (stC [x0,x1,x2,x3,x4,x5,x6,x7] A bs.length cap cc) 184 (0,0))::many [P]::H)
  ·intro w hw
   rw[stC8]
   have h5:St B w0 (P::blk g (.cells #[.int .u32 x0,.int .u32 x1,.int .u32 x2,.int .u32 x3,.int .u32 x4,.int .u32 x5,.int .u32 x6,.int .u32 x7,.slice A bs.length cap,.int .u64 cc] 184 (0,0))::[many H]) w:=by
    revert w
    exact zk
   exact((h5.perm (.cons _ (.cons _ (.openT H)))).perm (.close [_] _)).perm (.swap _ _ _)
  apply Jb;exact rfl
  exact⟨[x0,x1,x2,x3,x4,x5,x6,x7],A,cap,cc,bs,P,rfl,rfl,by omega,λhm=>(hr (.head _)).mono λw hw=>hw.inM hm,rfl⟩
 have hb64:(bs.take 64).length=64:=by rw[TT];omega
 have p1:=λ{H':List HP}{w:World}(hr:Rd B w0 H' (subA A 0 cap 1) ((bs.take 64).flatMap bytF)) (hw:St B w0 H' w)=>YdG (bs.take 64) (by omega) (cap:=cap) hr hw
 rw[hb64]at p1
 repeat'(first|(apply Vo;(iterate 3 exact rfl);intro _)|refine zgd ?_|(refine zge ?_ ?_<;>intro _<;>try exact zo)|fail)
 apply YI [0,1,2,3,4,5,6,7,8,9,11,12,13,14,10,15,16,17] [18] [true,true,true]
 kernel_rfl
 kernel_rfl
 exact zy
 (simp only[Yd,nthO];rfl)
 (simp only[Yd,nthO];rfl)
 repeat'(first|(apply Zk T (l:=bs);(iterate 4 exact rfl);omega;exact hc;exact rfl)|(apply WC T (vs:=[.int .u32 x0,.int .u32 x1,.int .u32 x2,.int .u32 x3,.int .u32 x4,.int .u32 x5,.int .u32 x6,.int .u32 x7]);exact rfl;exact zm;exact rfl;exact rfl;(intro j v hv;revert hv;rcases j with _|_|_|_|_|_|_|_|j<;>(intro hv;first|exact hv|cases hv));exact rfl)|(apply Z9 (λv=>Nums .u32 16 v) Yso;exact za;exact rfl;exactλ_ hw=>p1 (Rd.sub (f:=bytF) (o:=0) (k:=64) (λ_=>rfl) (hr zm) hc) hw;rintro _ ⟨lm,hlm,rfl⟩)|(apply Z9 (λv=>Nums .u32 8 v) Ysn;exact za;exact rfl;exactλ_ hw=>OH [_,_,_,_,_,_,_,_] _ rfl hlm _ _ hw;rintro _ ⟨l8,hl8,rfl⟩;obtain⟨y0,y1,y2,y3,y4,y5,y6,y7,rfl⟩:=len8 hl8;rw[Ys0])|(apply XV T;(iterate 4 exact rfl);omega;(show _=(bs.drop 64).length;rw[TZ];rfl))|(apply Yj;try exact zl)|refine zgd ?_|fail)
 rename_i cz
 apply hK ⟨[y0,y1,y2,y3,y4,y5,y6,y7],subA A (Int.toNat 64) cap 1,cap-Int.toNat 64,bs.drop 64,cz⟩
 ·exact⟨rfl,by show(bs.drop 64).length<=cap-64;rw[TZ];omega,λhm=>by
   have h:=Rd.sub (f:=bytF) (o:=64) (k:=(bs.drop 64).length) (λ_=>rfl) (hr hm) hc
   rwa [TM]at h⟩
 ·show(bs.drop 64).length<bs.length
  rw[TZ];omega
 ·exact zu
 ·dsimp only
  rw[stC8]
  exact zk
theorem YmL(l:List Int)(hl:l.length=8)(bs:List Int)(hb:bs.length<=64)(c:Int){A:Option Addr}{cap:Nat}(hr:Rd B w0 H A (bs.flatMap bytF))(hw:St B w0 H w):
 CX B w0 97 [.agg (stC l A bs.length cap c)] w λv K=>(∃s:ByteArray,v=.string s/\s.size=32)/\K=H:=by
 refine Ya Tryz.func97 Tryz.ntmps97 rfl rfl hw ?_
 refine XD [many H] (λw hw=>hw.perm (.closeT H)) ?_
 have hrM:∀{H':List HP},many H∈H'->Rd B w0 H' A (bs.flatMap bytF):=λhm=>hr.mono λw hw=>hw.inM hm
 obtain⟨x0,x1,x2,x3,x4,x5,x6,x7,rfl⟩:=len8 hl
 rw[stC8]
 repeat'(first|(apply Yi7 T;(iterate 3 exact rfl);exact zi5;(iterate 3 exact rfl);omega;intro gm)|refine zga ?_|(refine zgh ?_;intro _)|fail)
 have p1:=λ{H':List HP}{w:World}(hr:Rd B w0 H' A (bs.flatMap bytF)) (hw:St B w0 H' w)=>YdG bs hb (cap:=cap) hr hw
 apply YI [0,1,2,3,5,6,7,8,9,10,11,13,4,12] [] [true,true,true]
 kernel_rfl
 kernel_rfl
 exact zy
 (simp only[Yd,nthO];rfl)
 exact rfl
 repeat'(first|(apply WC T (vs:=[.int .u32 x0,.int .u32 x1,.int .u32 x2,.int .u32 x3,.int .u32 x4,.int .u32 x5,.int .u32 x6,.int .u32 x7]);exact rfl;exact zm;exact rfl;exact rfl;(intro j v hv;revert hv;rcases j with _|_|_|_|_|_|_|_|j<;>(intro hv;first|exact hv|cases hv));exact rfl)|(apply Od T;(iterate 4 exact rfl);intro _)|(apply Vo;(iterate 3 exact rfl);intro _)|(apply Z9 (λv=>Nums .u32 16 v) Yso;exact za;exact rfl;exactλ_ hw=>p1 (hrM zm) hw;rintro _ ⟨lm,hlm,rfl⟩)|(apply Z9 (λv=>Nums .u32 8 v) Ysn;exact za;exact rfl;exactλ_ hw=>OH [_,_,_,_,_,_,_,_] _ rfl hlm _ _ hw;rintro _ ⟨l8,hl8,rfl⟩)|(apply Yj;try exact zl)|refine zgd ?_|fail)
 refine Yg (λz:Nat×Option Addr×Nat×List Nat=>[(20,.int .i64 (z.1:Nat)),(19,.agg (numA .u32 l8)),(3,.slice z.2.1 z.2.2.2.length z.2.2.1)]) (λz=>sl 5 1 z.2.1 z.2.2.2.length z.2.2.1 (u8n z.2.2.2)::[many H]) (λz=>z.1<=8/\z.2.2.2.length=4*z.1) (λz=>8-z.1) (0,some ⟨gm,0,none⟩,32,[]) ⟨Ti _,rfl⟩ ?_ ?_ ?_
 ·exact zu
 ·intro w hw
  have h5:St B w0 (sl 5 1 (some ⟨gm,0,none⟩) 0 (Int.toNat 32) []::[many H]) w:=by
   revert w
   exact zk
  exact h5
 rintro⟨i,A2,c2,out⟩ ⟨hi,ho⟩ K hK
 dsimp only at hi ho⊢
 by_cases hlt:i<8
 rotate_left
 ·clear hK
  repeat'(first|(apply Yt3 T;exact rfl;exact zm;(iterate 4 exact rfl))|refine zgc ?_|(refine zge ?_ ?_<;>intro _<;>try exact zo)|fail)
  apply Yh H
  ·intro w hw
   have h5:St B w0 [many H] w:=by
    revert w
    exact zk
   exact h5.perm (.openT H)
  apply Ye;exact rfl;exact rfl
  exact⟨⟨_,rfl,by rw[Ykj];omega⟩,rfl⟩
 repeat'(first|(apply OE T;(iterate 5 exact rfl);omega;exact hl8;intro _ _)|(apply YbY;(iterate 3 exact rfl);decide;intro _)|(apply Ymd T;(iterate 4 exact rfl);intro _)|refine zgc ?_|(refine zge ?_ ?_<;>intro _<;>try exact zo)|(refine zgh ?_;intro _)|(refine zgi ?_;intro _ _)|fail)
 rename_i b1 _ b2 _ b3 _ b4 _ A3 c3
 have e5:sl 5 1 A3 (out.length+4) c3 (u8n out++#[Value.int .u8 b1,.int .u8 b2,.int .u8 b3,.int .u8 b4].toList)=sl 5 1 A3 (out++[b1,b2,b3,b4]).length c3 (u8n (out++[b1,b2,b3,b4])):=by simp[u8n]
 rw[e5]
 apply hK (i+1,A3,c3,out++[b1,b2,b3,b4])
 ·exact⟨by omega,by show(out++[b1,b2,b3,b4]).length=_;rw[Tq,ho];simp only[T0,RB];omega⟩
 ·dsimp only;omega
 ·dsimp only
  rw[show(out++[b1,b2,b3,b4]).length=out.length+4 by simp]
  exact zu
 ·exact zk
theorem Yhn(s:ByteArray)(hs:s.size<=1000000000)(hw:St B w0 H w):
 CX B w0 38 [.string s] w λv K=>(∃t:ByteArray,v=.string t/\t.size=32)/\K=H:=by
 refine Ya Tryz.func38 Tryz.ntmps38 rfl rfl hw ?_
 refine XD [many H] (λw hw=>hw.perm (.closeT H)) ?_
 repeat'(first|(apply Z9 (λv=>∃l,List.length l=8/\v=.agg (stC l none 0 0 0)) en95;exact za;exact rfl;exactλ_ hw=>Yhp hw;rintro _ ⟨l,hl,rfl⟩;obtain⟨a,b,c,d,e,f,k,i,rfl⟩:=len8 hl;rw[stC8])|refine zgc ?_|(refine zgh ?_;intro _)|fail)
 rename_i g
 have p1:=λ{H':List HP}{w:World}(hw:St B w0 (blk g (.cells (stC [a,b,c,d,e,f,k,i] none 0 0 0) 184 (0,0))::H') w)=>Yju [a,b,c,d,e,f,k,i] rfl s hs g hw
 rw[stC8]at p1
 apply Yf _ en96
 exact za
 exact rfl
 exactλ_ hw=>(p1 (hw))
 rintro _ _ ⟨l2,A,cap,cc,bs,P,rfl,hl2,hb,hr,rfl⟩
 obtain⟨y0,y1,y2,y3,y4,y5,y6,y7,rfl⟩:=len8 hl2
 have p2:=λ{H':List HP}{w:World}(hm:many [P]∈H') (hw:St B w0 H' w)=>YmL [y0,y1,y2,y3,y4,y5,y6,y7] rfl bs hb cc (cap:=cap) (hr hm) hw
 rw[stC8]at p2⊢
 repeat'(first|refine zgb ?_|fail)
 apply Yf _ en97
 exact za
 exact rfl
 exactλ_ hw=>(p2 zm (hw))
 rintro _ _ ⟨⟨t,rfl,ht⟩,hK⟩
 rw[hK]
 repeat'(first|refine zga ?_|fail)
 apply Yh H
 ·intro w hw
  have h5:St B w0 [many H] w:=by
   revert w
   exact zk
  exact h5.perm (.openT H)
 apply Ye;exact rfl;exact rfl;exact⟨⟨t,rfl,ht⟩,rfl⟩
structure ClM.Bg(B:Nat)(w0:World)(H:List HP)(c:ClM):Prop where
 rt:Rd B w0 H c.rA (c.rs.flatMap rowF)
 rw_:∀r∈c.rs,Rd B w0 H r.A (r.xs.flatMap numF)
 bd:Rd B w0 H c.bA (c.bs.flatMap numF)
 ws:Rd B w0 H c.wA (c.ws.flatMap numF)
 st:Rd B w0 H c.sA (c.ss.flatMap rowF)
 sw:∀r∈c.ss,Rd B w0 H r.A (r.xs.flatMap numF)
 ln:c.rs.length<=9223372036854775807/\c.bs.length<=9223372036854775807/\c.ws.length<=9223372036854775807/\c.ss.length<=9223372036854775807
 rl:∀r∈c.rs,r.xs.length<=9223372036854775807
 sl:∀r∈c.ss,r.xs.length<=9223372036854775807
structure CBg(B:Nat)(w0:World)(H:List HP)(A:Option Addr)(c:List ClM):Prop where
 rd:Rd B w0 H A (c.flatMap clF)
 x:∀x∈c,x.Bg B w0 H
 ln:c.length<=9223372036854775807
def FewX(x:ClM):Prop:=x.rs.length<=3/\x.bs.length<=8/\x.ws.length<=8/\x.ss.length<=8/\(∀r∈x.rs,r.xs.length<=12)/\∀r∈x.ss,r.xs.length<=70
def FewC(c:List ClM):Prop:=c.length<=17/\∀x∈c,FewX x
variable {B k:Nat}{w0:World}{H:List HP}{A:Option Addr}
theorem CBg.small{c:List ClM}(h:CBg B w0 H A c)(hf:FewC c):CIn B w0 H A c:=by
 refine⟨h.rd,λx hx=>?_,by have:=hf.1;omega⟩
 have h1:=h.x x hx
 obtain⟨f1,f2,f3,f4,f5,f6⟩:=hf.2 x hx
 exact⟨h1.rt,h1.rw_,h1.bd,h1.ws,h1.st,h1.sw,by omega,λr hr=>by grind,λr hr=>by grind⟩
variable {α:Type}
theorem WE{P:α->Prop}{l:List α}{x:α}(h:∀y∈l.take k,P y)(hx:l[k]? =some x)(hp:P x):∀y∈l.take (k+1),P y:=Ybo
theorem Qr{P:α->Prop}{l:List α}(h:∀y∈l.take k,P y)(hk:¬k<l.length):∀y∈l,P y:=by
 grind [TL]
theorem Ycu(c:List ClM){cap:Nat}{w:World}(hc:CBg B w0 H A c)(hw:St B w0 H w):
 CX B w0 34 [.slice A c.length cap] w λv K=>(∃b,v=.bool b/\(b=true->FewC c))/\K=H:=by
 refine Ya Tryz.func34 Tryz.ntmps34 rfl rfl hw ?_
 have hcl:=hc.ln
 have hcr:=hc.rd
 repeat'(first|refine zgc ?_|(refine zge ?_ ?_<;>intro _<;>try exact zo)|fail)
 any_goals(apply Ye;exact rfl;exact rfl;simp_all)
 all_goals(
  have hc17:c.length<=17:=by omega
  refine Yg (λk:Nat=>[(3,.int .i64 (k:Nat)),(0,.slice A c.length cap)]) (λ_=>H) (λk=>k<=c.length/\∀x∈c.take k,FewX x) (λk=>c.length-k) 0 ⟨Ti _,by simp⟩ ?_ (λw hw=>hw) ?_
  ·exact zu
  rintro i ⟨hi,hz⟩ K hK
  by_cases hlt:i<c.length
  rotate_left
  ·repeat'(first|refine zgc ?_|(refine zge ?_ ?_<;>intro _<;>try exact zo)|fail)
   apply Ye;exact rfl;exact rfl;exact⟨⟨_,rfl,λ_=>⟨hc17,Qr hz hlt⟩⟩,rfl⟩
  obtain⟨x,hx⟩:∃x,c[i]? =some x:=⟨_,Ta hlt⟩
  have hxi:=hc.x x (Tc hx)
  have hxl:=hxi.ln
  have hxr:=hxi.rt
  have hxs:=hxi.st
  repeat'(first|refine zgd ?_|(refine zge ?_ ?_<;>intro _<;>try exact zo)|fail)
  any_goals(apply Ye;exact rfl;exact rfl;exact⟨⟨_,rfl,λh=>by cases h⟩,rfl⟩)
  have hx4:x.rs.length<=3/\x.bs.length<=8/\x.ws.length<=8/\x.ss.length<=8:=by omega
  refine Yg (λk:Nat=>[(4,.int .i64 (k:Nat)),(3,.int .i64 (i:Nat)),(0,.slice A c.length cap)]) (λ_=>H) (λk=>k<=x.rs.length/\∀r∈x.rs.take k,r.xs.length<=12) (λk=>x.rs.length-k) 0 ⟨Ti _,by simp⟩ ?_ (λw hw=>hw) ?_
  ·exact zu
  rintro k ⟨hk,hz2⟩ K2 hK2
  by_cases hlk:k<x.rs.length
  ·obtain⟨r,hr⟩:∃r,x.rs[k]? =some r:=⟨_,Ta hlk⟩
   have hrl:=hxi.rl r (Tc hr)
   repeat'(first|refine zgd ?_|(refine zge ?_ ?_<;>intro _<;>try exact zo)|fail)
   any_goals(apply Ye;exact rfl;exact rfl;exact⟨⟨_,rfl,λh=>by cases h⟩,rfl⟩)
   apply hK2 (k+1)
   ·exact⟨by omega,WE hz2 hr (by omega)⟩
   ·omega
   ·exact zu
   ·exactλw hw=>hw
  clear hK2
  repeat'(first|refine zgd ?_|(refine zge ?_ ?_<;>intro _<;>try exact zo)|fail)
  refine Yg (λk:Nat=>[(5,.int .i64 (k:Nat)),(3,.int .i64 (i:Nat)),(0,.slice A c.length cap)]) (λ_=>H) (λk=>k<=x.ss.length/\∀r∈x.ss.take k,r.xs.length<=70) (λk=>x.ss.length-k) 0 ⟨Ti _,by simp⟩ ?_ (λw hw=>hw) ?_
  ·exact zu
  have hz2:=Qr hz2 hlk
  rintro k ⟨hk,hz3⟩ K2 hK2
  by_cases hlk:k<x.ss.length
  ·obtain⟨r,hr⟩:∃r,x.ss[k]? =some r:=⟨_,Ta hlk⟩
   have hrl:=hxi.sl r (Tc hr)
   repeat'(first|refine zgd ?_|(refine zge ?_ ?_<;>intro _<;>try exact zo)|fail)
   any_goals(apply Ye;exact rfl;exact rfl;exact⟨⟨_,rfl,λh=>by cases h⟩,rfl⟩)
   apply hK2 (k+1)
   ·exact⟨by omega,WE hz3 hr (by omega)⟩
   ·omega
   ·exact zu
   ·exactλw hw=>hw
  clear hK2
  repeat'(first|refine zgd ?_|(refine zge ?_ ?_<;>intro _<;>try exact zo)|fail)
  apply hK (i+1)
  ·exact⟨by omega,WE hz hx ⟨hx4.1,hx4.2.1,hx4.2.2.1,hx4.2.2.2,hz2,Qr hz3 hlk⟩⟩
  ·omega
  ·exact zu
  ·exactλw hw=>hw)
open Go.ChangeShapes Go.WideShapes Go.ChangeAt Go.RowKit Go.Eng Go.Nw Go.Rt
variable {W:World}{K:List HP}
theorem ClG.bg{c:ClM}(h:ClG W c):c.Bg W.heap.size W K:=
 ⟨h.rt.rd,λr hr=>(h.rg r hr).old.rd,h.bd.old.rd,h.ws.old.rd,h.st.rd,λr hr=>(h.sg r hr).old.rd,⟨h.rl,h.bd.len,h.ws.len,h.sl⟩,λr hr=>(h.rg r hr).len,λr hr=>(h.sg r hr).len⟩
theorem Yrd{s:SlM ClM}(h:SlG W clF (ClG W) s):CBg W.heap.size W K s.A s.xs:=
 ⟨h.old.rd,λx hx=>(h.good x hx).bg,TY h.len maxL⟩
structure RqM.Bg(B:Nat)(w0:World)(H:List HP)(x:RqM):Prop where
 rt:Rd B w0 H x.A (x.rows.flatMap rowF)
 rw_:∀r∈x.rows,Rd B w0 H r.A (r.xs.flatMap numF)
 ln:x.rows.length<=9223372036854775807
 rl:∀r∈x.rows,r.xs.length<=9223372036854775807/\r.xs.length<=r.cap
structure QBg(B:Nat)(w0:World)(H:List HP)(A:Option Addr)(q:List RqM):Prop where
 rd:Rd B w0 H A (q.flatMap rqF)
 x:∀x∈q,x.Bg B w0 H
 ln:q.length<=9223372036854775807
variable {B cap:Nat}{w0 w:World}{H H':List HP}
theorem RqM.Bg.mono{x:RqM}(h:x.Bg B w0 H)(hH:∀w,St B w0 H' w->St B w0 H w):x.Bg B w0 H':=⟨h.rt.mono hH,λr hr=>(h.rw_ r hr).mono hH,h.ln,h.rl⟩
variable {A:Option Addr}{q:List RqM}
theorem QBg.mono(h:QBg B w0 H A q)(hH:∀w,St B w0 H' w->St B w0 H w):QBg B w0 H' A q:=⟨h.rd.mono hH,λx hx=>(h.x x hx).mono hH,h.ln⟩
def FewR(l:List RowM):Prop:=l.length<=3/\∀r∈l,r.xs.length<=12
def FewQ(q:List RqM)(s:SchM):Prop:=q.length<=4/\s.cells.length<=30/\∀x∈q,FewR x.rows
theorem QBg.small{s:SchM}(h:QBg B w0 H A q)(hf:FewQ q s):QIn B w0 H A q:=by
 refine⟨h.rd,λx hx=>?_,by have:=hf.1;omega⟩
 have h1:=h.x x hx
 obtain⟨f1,f2⟩:=hf.2.2 x hx
 exact⟨h1.rt,h1.rw_,by omega,λr hr=>⟨by grind,(h1.rl r hr).2⟩⟩
theorem Yuz{W:World}{s:SlM RqM}{K:List HP}(h:SlG W rqF (RqG W) s):QBg W.heap.size W K s.A s.xs:=
 ⟨h.old.rd,λx hx=>⟨(h.good x hx).old.rd,λr hr=>((h.good x hx).good r hr).old.rd,(h.good x hx).len,λr hr=>⟨((h.good x hx).good r hr).len,((h.good x hx).good r hr).cap⟩⟩,TY h.len maxL⟩
theorem Yjx(n:NetM)(s:SchM)(l:List RowM)(hin:n.In B w0 H)(hr:Rd B w0 H A (l.flatMap rowF))(hll:l.length<=9223372036854775807)(_hsl:s.cells.length<=9223372036854775807)(hlr:∀r∈l,r.xs.length<=9223372036854775807)(hw:St B w0 H w):
 CX B w0 92 [n.val,s.val,.slice A l.length cap] w λv K=>(∃b,v=.bool b/\(b=true->FewR l))/\K=H:=by
 refine Ya Tryz.func92 Tryz.ntmps92 rfl rfl hw ?_
 unfold NetM.val SchM.val
 have p1:=λ{H':List HP}{w:World}(hin:n.In B w0 H') (hw:St B w0 H' w)=>Yhv n hin hw
 unfold NetM.val at p1
 repeat'(first|refine zgb ?_|(refine zgh ?_;intro _)|fail)
 rename_i g3 g4
 refine Yg (λk:Nat=>[(7,.int .i64 (k:Nat)),(2,.slice A l.length cap),(4,.pointer (some ⟨g4,0,none⟩)),(3,.pointer (some ⟨g3,0,none⟩))]) (λ_=>schA g4 s::netA g3 n::H) (λk=>k<=l.length/\∀r∈l.take k,r.xs.length<=12) (λk=>l.length-k) 0 ⟨Ti _,by simp⟩ ?_ (λw hw=>hw) ?_
 ·exact zc1
 rintro k ⟨hk,hz⟩ K hK
 have hr2:Rd B w0 (schA g4 s::netA g3 n::H) A (l.flatMap rowF):=hr.cons.cons
 by_cases hlt:k<l.length
 ·obtain⟨r,hx⟩:∃r,l[k]? =some r:=⟨_,Ta hlt⟩
  have hrl:=hlr r (Tc hx)
  repeat'(first|refine zgd ?_|(refine zge ?_ ?_<;>intro _<;>try exact zo)|fail)
  ·apply Yh H
   ·exact zc0
   exact zc71
  ·apply hK (k+1)
   ·exact⟨by omega,WE hz hx (by omega)⟩
   ·omega
   ·exact zc1
   exact zc20
 ·have hz:=Qr hz hlt
  clear hK
  cases hb:fewE n.net<;>(
   rw[hb]at p1
   repeat'(first|refine zgc ?_|(refine zge ?_ ?_<;>intro _<;>try exact zo)|fail)
   first|apply Yb en18|apply Yc en18
   exact za
   exact rfl
   exactλ_ hw=>(p1 (hin.mono zk) hw)
   repeat'(first|refine zgc ?_|(refine zgf ?_ ?_<;>intro _<;>try exact zo)|fail)
   all_goals(
    apply Yh H
    ·exact zk
    apply Ye;exact rfl;exact rfl
    exact⟨⟨_,rfl,λh=>by first|(exact absurd h (by decide))|(rw[To]at h;exact⟨by omega,hz⟩)|exact⟨by omega,hz⟩⟩,rfl⟩))
theorem Yjy(n:NetM)(q:List RqM)(s:SchM)(hin:n.In B w0 H)(hq:QBg B w0 H A q)(hsl:s.cells.length<=9223372036854775807)(hw:St B w0 H w):
 CX B w0 33 [n.val,.slice A q.length cap,s.val] w λv K=>(∃b,v=.bool b/\(b=true->FewQ q s))/\K=H:=by
 refine Ya Tryz.func33 Tryz.ntmps33 rfl rfl hw ?_
 unfold NetM.val SchM.val
 have p1:=λ{H':List HP}{w:World}(hin:n.In B w0 H') (hw:St B w0 H' w)=>Yhv n hin hw
 have p2:=λ{x:RqM}{H':List HP}{w:World}(hin:n.In B w0 H') (hx:x.Bg B w0 H') (hw:St B w0 H' w)=>Yjx n ⟨0,0,none,0,[]⟩ x.rows (cap:=x.cap) hin hx.rt hx.ln (by simp) (λr hr=>(hx.rl r hr).1) hw
 unfold NetM.val at p1 p2
 have hql:=hq.ln
 repeat'(first|refine zgb ?_|(refine zgh ?_;intro _)|fail)
 rename_i g3 g4
 refine Yg (λk:Nat=>[(7,.int .i64 (k:Nat)),(1,.slice A q.length cap),(5,.pointer (some ⟨g4,0,none⟩)),(3,.pointer (some ⟨g3,0,none⟩))]) (λ_=>schA g4 s::netA g3 n::H) (λk=>k<=q.length/\∀x∈q.take k,FewR x.rows) (λk=>q.length-k) 0 ⟨Ti _,by simp⟩ ?_ (λw hw=>hw) ?_
 ·exact zc1
 rintro k ⟨hk,hz⟩ K hK
 have hr2:Rd B w0 (schA g4 s::netA g3 n::H) A (q.flatMap rqF):=hq.rd.cons.cons
 by_cases hlt:k<q.length
 ·obtain⟨x,hx⟩:∃x,q[k]? =some x:=⟨_,Ta hlt⟩
  have hxb:=hq.x x (Tc hx)
  repeat'(first|refine zgb ?_|(refine zge ?_ ?_<;>intro _<;>try exact zo)|fail)
  apply Xc [0,1,2,3,4,5,6,7,8] []
  kernel_rfl
  kernel_rfl
  (simp only[Yd,nthO];rfl)
  exact rfl
  repeat'(first|refine zgd ?_|fail)
  apply Yf _ en92
  exact za
  exact rfl
  exactλ_ hw=>(p2 (hin.mono zc0) (hxb.mono zc0) (hw))
  rintro _ _ ⟨⟨b,rfl,hb⟩,hK0⟩
  rw[hK0]
  cases b with
  |false=>
   repeat'(first|(apply Yj;(repeat(first|with_reducible exact YM|(with_reducible apply YF;(repeat(first|with_reducible exact Yq|with_reducible apply Yu))))))|refine zgd ?_|fail)
   ·show Perm H (H++[])
    exact zc25
   repeat'(first|fail)
   apply Yh H
   ·exact zc0
   exact zc71
  |true=>
   have hb:=hb rfl
   repeat'(first|(apply Yj;(repeat(first|with_reducible exact YM|(with_reducible apply YF;(repeat(first|with_reducible exact Yq|with_reducible apply Yu))))))|refine zgd ?_|fail)
   ·show Perm H (H++[])
    exact zc25
   repeat'(first|fail)
   apply hK (k+1)
   ·exact⟨by omega,WE hz hx hb⟩
   ·omega
   ·exact zc1
   exact zc20
 ·have hz:=Qr hz hlt
  clear hK
  cases hb:fewE n.net<;>(
   rw[hb]at p1
   repeat'(first|refine zgc ?_|(refine zge ?_ ?_<;>intro _<;>try exact zo)|fail)
   first|apply Yb en18|apply Yc en18
   exact za
   exact rfl
   exactλ_ hw=>(p1 (hin.mono zk) hw)
   repeat'(first|refine zgc ?_|(refine zgf ?_ ?_<;>intro _<;>try exact zo)|fail)
   all_goals(
    apply Yh H
    ·exact zk
    apply Ye;exact rfl;exact rfl
    exact⟨⟨_,rfl,λh=>by first|(exact absurd h (by decide))|(rw[To]at h;exact⟨by omega,by omega,hz⟩)|exact⟨by omega,by omega,hz⟩⟩,rfl⟩))
end Go.Proofs.YtjlgijpmnfabcaaGreatDoor
