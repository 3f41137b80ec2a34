/- Lemmas. -/
import Derived.Test.YtambgjgljcadlaaGreatDoorQ10
import Derived.Test.YtambgjgljcadlaaGreatDoorQ11
set_option maxRecDepth 100000
set_option maxHeartbeats 8000000
set_option linter.all false
namespace Go.Proofs.YtambgjgljcadlaaGreatDoor
open Go.RowKit Go.Eng Go.Nw Go.Rt
def wordF:List UInt8:=[102,108,111,119]
def wordR:List UInt8:=[114,111,117,116,101]
def YdE:List UInt8:=[98,111,117,110,100]
def YdF:List UInt8:=[115,108,111,116,115]
def inL(l:List Int)(a b:Int):Bool:=l.all λx=>decide (a<=x/\x<=b)
def rtOk(r l:List Int):Bool:=decide (2<=r.length/\r.length<=9)&&inL r 0 31&&decide (1<=l.length/\l.length<=64)&&inL l 0 511
def Ud(c:Clm):Bool:=decide (0<=c.flow/\c.flow<=255/\1<=c.routes.length/\c.routes.length<=2/\c.bounds.length=c.routes.length/\c.worst.length=c.routes.length/\c.slots.length=c.routes.length)&&
 inL c.bounds 1 512&&inL c.worst 0 511&&(List.range c.routes.length).all λi=>rtOk (rtAt c.routes i) (rtAt c.slots i)
def Ylj(c:List Clm)(i:Nat):Bool:=Ud (VD c i)&&(decide (i=0)||decide ((VD c (i-1)).flow<(VD c i).flow))
def YaT(c:List Clm):Bool:=decide (c.length<=16)&&(List.range c.length).all (Ylj c)
def Ymd(c:Clm)(i:Nat):List (List UInt8):=
 Zh wordR (rtAt c.routes i)::((if i<c.bounds.length then [Zh YdE [c.bounds.getD i 0,c.worst.getD i 0]]else [])++(if i<c.slots.length then [Zh YdF (rtAt c.slots i)]else []))
def Ymc(c:Clm):List (List UInt8):=Zh wordF [c.flow]::(List.range c.routes.length).flatMap (Ymd c)
def Ymi(c:List Clm):List UInt8:=(c.flatMap Ymc).flatMap λp=>p++[10]
def VN(c:List Clm):List UInt8×Int:=if YaT c=false then([],1)else(Ymi c,0)
structure Pst where
 c:List Clm
 last:Nat
def YkR:Pst:=⟨[],3⟩
structure FormD(c:Clm):Prop where
 f:0<=c.flow/\c.flow<=255
 n:1<=c.routes.length/\c.routes.length<=2
 b:c.bounds.length=c.routes.length
 w:c.worst.length=c.routes.length
 s:c.slots.length=c.routes.length
 bs:∀x∈c.bounds,1<=x/\x<=512
 ws:∀x∈c.worst,0<=x/\x<=511
 rs:∀i,i<c.routes.length->2<=(rtAt c.routes i).length/\(rtAt c.routes i).length<=9/\∀x∈rtAt c.routes i,0<=x/\x<=31
 ls:∀i,i<c.routes.length->1<=(rtAt c.slots i).length/\(rtAt c.slots i).length<=64/\∀x∈rtAt c.slots i,0<=x/\x<=511
variable {l:List Int}
theorem Yby{a b:Int}:inL l a b=true↔∀x∈l,a<=x/\x<=b:=by
 grind [inL]
theorem Yj2{c:Clm}:Ud c=true↔FormD c:=by
 unfold Ud
 simp only[Tq,Tt,Yby,TK,TN]
 constructor
 ·rintro⟨⟨⟨⟨h1,h2,h3,h4,h5,h6,h7⟩,h8⟩,h9⟩,h10⟩
  have hr:∀i,i<c.routes.length->_:=λi hi=>h10 i hi
  refine⟨⟨h1,h2⟩,⟨h3,h4⟩,h5,h6,h7,h8,h9,λi hi=>?_,λi hi=>?_⟩
  ·have:=hr i hi
   unfold rtOk at this
   simp_all [Yby]
  ·have:=hr i hi
   unfold rtOk at this
   simp_all [Yby]
 ·intro h
  refine⟨⟨⟨⟨h.f.1,h.f.2,h.n.1,h.n.2,h.b,h.w,h.s⟩,h.bs⟩,h.ws⟩,λi hi=>?_⟩
  have h1:=h.rs i hi
  have h2:=h.ls i hi
  simp_all [rtOk,Yby]
variable {c:List Clm}{i:Nat}
theorem YjO(h:i<c.length):c[i]? =some (VD c i):=by
 grind [VD]
theorem Yh0(h:YaT c=true):c.length<=16/\∀x∈c,FormD x:=by
 unfold YaT at h
 rw[Tq,Tt]at h
 refine⟨h.1,λx hx=>?_⟩
 obtain⟨i,hi⟩:=TQ.1 hx
 have hl:=(Td.1 hi).1
 have:=TK.1 h.2 i (TN.2 hl)
 unfold Ylj at this
 grind [YjO,Yj2]
theorem YeU(h:i<l.length):l.getD i 0∈l:=by
 simp_all
structure Rdr(p:Pst):Prop where
 full:∀i x,p.c[i]? =some x->i+1<p.c.length->x.bounds.length=x.routes.length/\x.worst.length=x.routes.length/\x.slots.length=x.routes.length/\1<=x.routes.length/\x.routes.length<=2
 some_:p.c=[]->p.last=3
 at_:∀cs x,p.c=cs++[x]->
  (p.last=0/\x.routes=[]/\x.bounds=[]/\x.worst=[]/\x.slots=[])\/
  (p.last=1/\1<=x.routes.length/\x.routes.length<=2/\x.bounds.length+1=x.routes.length/\x.worst.length+1=x.routes.length/\x.slots.length+1=x.routes.length)\/
  (p.last=2/\1<=x.routes.length/\x.routes.length<=2/\x.bounds.length=x.routes.length/\x.worst.length=x.routes.length/\x.slots.length+1=x.routes.length)\/
  (p.last=3/\1<=x.routes.length/\x.routes.length<=2/\x.bounds.length=x.routes.length/\x.worst.length=x.routes.length/\x.slots.length=x.routes.length)
theorem Rdr.start:Rdr YkR:=⟨λi x h=>by simp[YkR]at h,λ_=>rfl,λcs x h=>by simp[YkR]at h⟩
open Go.RowKit Go.Eng Go.Nw
theorem UY(word:List UInt8)(l:List Int)(h:∀n∈l,0<=n/\n<10000)(h5:l.length<=100)(hwd:word.length<=100){A:Option Addr}{cap B:Nat}{w0:World}{H:List HP}{w:World}(ht:TabsB B w0)(hr:Rd B w0 H A (l.flatMap numF))(hw:St B w0 H w):
 CX B w0 160 [strV word,.slice A l.length cap] w λv K=>v=strV (XF word l)/\K=H:=by
 refine Ya Tryz.func160 Tryz.ntmps160 rfl rfl hw ?_
 repeat'(first|apply(zs1 ?_)|apply(zs2 ?_)|(apply zg4;refine zs9 ?_)|apply(zs65 ?_)|apply(zs68 ?_)|apply(zs69 ?_)|apply(zs70 ?_)|apply(zs73 ?_)|fail)
 refine Yh (λ(i:Nat)=>[(9,.int .i64 i),(8,.int .i64 l.length),(7,.slice A l.length cap),(0,strV (Zh word (l.take i)))]) (λ_=>H) (λi=>i<=l.length) (λi=>l.length-i) 0 (Tm _) ?_ (λw hw=>hw) ?_
 ·have e0:Zh word (l.take 0)=word:=by simp[Zh]
  rw[e0]
  exact zc1
 intro i hi K hK
 have hbl:=WH (w:=word) (l:=l.take i) λn hn=>h n (SC hn)
 have hlt0:(l.take i).length<=100:=by grind
 by_cases hlt:i<l.length
 ·obtain⟨n,hn⟩:∃n,l[i]? =some n:=⟨_,Ta hlt⟩
  have hnb:=h n (Tc hn)
  have hil:=QI hnb
  repeat'(first|((first|apply Yb Ylr|apply Yc Ylr);exact za;exact rfl;exactλ_ hw=>(Ye0 n (by omega) (by omega) ht hw))|(apply UQ [32] (Lib.itoa n);(iterate 3 exact rfl);(show 1+_<=_;omega))|(apply UQ (Zh word (l.take i)) ([32]++Lib.itoa n);(iterate 3 exact rfl);(rw[To];show _+(1+_)<=_;omega))|apply(zs1 ?_)|apply(zs2 ?_)|(apply zg3;refine zs60 ?_)|(apply zg5;refine zs57 ?_)|(apply(zs17 ?_ ?_)<;>intro _<;>try exact zo)|(apply zg13;refine zs30 ?_)|apply(zs65 ?_)|apply(zs68 ?_)|apply(zs69 ?_)|apply(zs70 ?_)|(apply zg27;refine zs71 ?_)|apply(zs73 ?_)|apply(zs76 ?_)|apply(zs79 ?_)|fail)
  apply hK (i+1)
  ·show i+1<=l.length
   omega
  ·omega
  ·rw[TG,hn,SE,Q9]
   exact zc1
  exact zc19
 exact zc14
variable {X:List Cel}
theorem Om{Y:List Cel}{k:Nat}(h:k<X.length):celL (X++Y) k=celL X k:=by
 unfold celL;rw[Tu,Tu,SI h]
theorem Ycc(X:List Cel)(c:Cel):celL (X++[c]) X.length=c:=by
 unfold celL;rw[Tu,RU (TI _)];simp
theorem JF(X:List Cel)(c:Cel)(k:Nat):celL (c::X) (k+1)=celL X k:=by
 unfold celL;simp
theorem Yaa(X:List Cel)(c:Cel):celL (c::X) 0=c:=rfl
theorem OY(n:Net)(X Y:List Cel)(j:Nat)(node:Int):∀k,k<=X.length->Yx n (X++Y) j node k=Yx n X j node k
 |0,_=>rfl
 |k+1,h=>by rw[Yx,Yx,OY n X Y j node k (by omega),Om (by omega)]
theorem Yae(n:Net)(X:List Cel)(c:Cel)(i:Nat)(node:Int):∀k,Yx n (c::X) (i+1) node (k+1)=(powN n (Yr c) node+powN n (toC c) node)+Yx n X i node k
 |0=>by rw[Yx,Yx,Yx,Tf (by omega),Yaa];omega
 |k+1=>by
  rw[Yx,Yae n X c i node k,Yx,JF]
  by_cases h:k=i
  ·rw[Tj h,Tj (by omega)];omega
  ·rw[Tf h,Tf (by omega)];omega
theorem OX(n:Net)(X:List Cel)(c:Cel)(node:Int)(j:Nat):∀k,k<=j->Yx n (c::X) 0 node (k+1)=Yx n X j node k
 |0,_=>by rw[Yx,Yx,Yx,Tj rfl];omega
 |k+1,h=>by
  rw[Yx,OX n X c node j k (by omega),Yx,JF,Tf (by omega),Tf (by omega)]
theorem YmQ(X:List Cel)(c:Cel)(i:Nat)(hi:i<X.length)(T:Cel->Bool):((List.range (X++[c]).length).any λk=>decide (k≠i)&&T (celL (X++[c]) k))=(((List.range X.length).any λk=>decide (k≠i)&&T (celL X k))||T c):=by
 rw[To,TL,RD,Nj]
 congr 1
 ·rw[SV,Re,Re]
  constructor
  ·rintro⟨k,hk,h⟩;refine⟨k,hk,?_⟩;rw[Om (TN.1 hk)]at h;exact h
  ·rintro⟨k,hk,h⟩;refine⟨k,hk,?_⟩;rw[Om (TN.1 hk)];exact h
 ·rw[List.any_cons,List.any_nil,NJ,Ycc,Ti (show X.length≠i by omega),RV]
theorem YmO(X:List Cel)(c:Cel)(i:Nat)(T:Cel->Bool):((List.range (c::X).length).any λk=>decide (k≠i+1)&&T (celL (c::X) k))=(T c||(List.range X.length).any λk=>decide (k≠i)&&T (celL X k)):=by
 rw[TS,SU,List.any_cons,List.any_map,Yaa,Ti (show 0≠i+1 by omega),RV]
 congr 1
 rw[SV,Re,Re]
 constructor
 ·rintro⟨k,hk,h⟩;refine⟨k,hk,?_⟩;simp only[Function.comp,JF]at h;simpa using h
 ·rintro⟨k,hk,h⟩;refine⟨k,hk,?_⟩;simp only[Function.comp,JF];simpa using h
theorem YmP(X:List Cel)(c:Cel)(T:Cel->Bool):((List.range (X++[c]).length).any λk=>decide (k≠X.length)&&T (celL (X++[c]) k))=(List.range X.length).any λk=>T (celL X k):=by
 rw[To,TL,RD,Nj,List.any_cons,List.any_nil,NJ,show decide (X.length≠X.length)=false by simp,SD,NJ]
 rw[SV,Re,Re]
 constructor
 ·rintro⟨k,hk,h⟩;refine⟨k,hk,?_⟩;rw[Om (TN.1 hk),Tq]at h;exact h.2
 ·rintro⟨k,hk,h⟩
  refine⟨k,hk,?_⟩
  have:=TN.1 hk
  rw[Om this,Tq]
  exact⟨Ti (by omega),h⟩
theorem YmN(X:List Cel)(c:Cel)(T:Cel->Bool):((List.range (c::X).length).any λk=>decide (k≠0)&&T (celL (c::X) k))=(List.range X.length).any λk=>T (celL X k):=by
 rw[TS,SU,List.any_cons,List.any_map,show decide ((0:Nat)≠0)=false by simp,SD,NH]
 rw[SV,Re,Re]
 constructor
 ·rintro⟨k,hk,h⟩;refine⟨k,hk,?_⟩;simp only[Function.comp,JF]at h;simpa using h
 ·rintro⟨k,hk,h⟩;refine⟨k,hk,?_⟩;simp only[Function.comp,JF];simpa using h
variable {c c':Cel}
theorem Of{d:Cel}(hf:Yr c=Yr c')(ht:toC c=toC c'):YE c d=YE c' d/\YE d c=YE d c':=by
 unfold YE;rw[hf,ht];exact⟨rfl,rfl⟩
theorem YeA(n:Net)(X:List Cel)(c:Cel)(i:Nat)(hi:i<X.length)(node:Int):Yx n (X++[c]) i node (X++[c]).length=Yx n X i node X.length+(powN n (Yr c) node+powN n (toC c) node):=by
 rw[To,TL,Yx,OY n X [c] i node _ (TI _),Tf (by omega),Ycc]
theorem Ycn(n:Net)(X:List Cel)(c:Cel)(node:Int):Yx n (X++[c]) X.length node (X++[c]).length=Yx n X X.length node X.length:=by
 rw[To,TL,Yx,OY n X [c] _ node _ (TI _),Tj rfl];omega
theorem YcI{n:Net}(hf:Yr c=Yr c')(ht:toC c=toC c'):Jn n (X++[c])=Jn n (c'::X):=by
 have h1:∀i,i<X.length->Zk n (X++[c]) i=Zk n (c'::X) (i+1):=λi hi=>by
  unfold Zk
  rw[Om hi,JF,YmQ X c i hi,YmO,YeA n X c i hi,YeA n X c i hi,TS,Yae,Yae,(Of hf ht).2,hf,ht,Bool.or_comm (YE _ c')]
  rw[Int.add_comm (Yx n X i (toC _) _),Int.add_comm (Yx n X i (Yr _) _)]
 have h2:Zk n (X++[c]) X.length=Zk n (c'::X) 0:=by
  unfold Zk
  rw[Ycc,Yaa,YmP,YmN,Ycn,Ycn,TS,OX n X c' _ X.length _ (TI _),OX n X c' _ X.length _ (TI _),hf,ht]
  have:(λk=>YE c (celL X k))=λk=>YE c' (celL X k):=funext λk=>(Of hf ht).1
  rw[this]
 unfold Jn
 congr 1
 rw[To,TL,RD,List.all_append,TS,SU,NV,List.all_nil,Bool.and_true,NV,List.all_map,h2,Bool.and_comm]
 congr 1
 rw[SV,TK,TK]
 constructor
 ·intro h i hi;have:=h i hi;rw[h1 i (TN.1 hi)]at this;exact this
 ·intro h i hi;rw[h1 i (TN.1 hi)];exact h i hi
def fitE(n:Net)(l:List Cel)(slot o a b:Int):Bool:=!(l.any λd=>decide (d.1=slot)&&YE d (0,0,a,b,0))&&Jn n (l.filter (atP slot o)++[(0,0,a,b,0)])
def hasC(l:List Cel)(slot a b id:Int):Bool:=l.any λd=>decide (d.1=slot/\Yr d=a/\toC d=b/\Y7 d=id)
def Jv(n:Net)(s:Sch)(a b id slot:Int):Option Sch:=
 if hasC s.cells slot a b id=true then some s else((List.range s.off.toNat).find? λo:Nat=>fitE n s.cells slot o a b).map λo:Nat=>⟨s.len,s.off,insC s.cells (slot,(o:Int),a,b,id)⟩
def hopA(n:Net)(a b id:Int):Nat->Nat->Sch->Int->Option (Sch×Int)
 |_,0,s,z=>some (s,z)
 |0,_+1,_,_=>none
 |f+1,k+1,s,z=>match Jv n s a b id (z.tmod s.len)with
  |some t=>hopA n a b id f k t (z+1)
  |none=>hopA n a b id f (k+1) s (z+1)
def relA(n:Net)(id endd:Int):List Lk->Sch->Int->Option Sch
 |[],s,_=>some s
 |l::ls,s,z=>match hopA n l.1 l.2.1 id (endd-z).toNat (YN l) s z with
  |none=>none
  |some (t,y)=>relA n id endd ls t y
def QS(n:Net)(f:Flw)(ls:List Lk):Nat->Sch->Int->Option Sch
 |0,s,_=>some s
 |k+1,s,z=>if z<s.len then match relA n f.1 (z+f.2.2.2.2.2) ls s z with
  |none=>none
  |some t=>QS n f ls k t (z+f.2.2.2.1)
  else some s
def Js(n:Net)(f:Flw):List (List Int)->Sch->Option Sch
 |[],s=>some s
 |r::rs,s=>match QS n f (Yq n r) s.len.toNat s f.2.2.2.2.1 with
  |none=>none
  |some t=>Js n f rs t
end Go.Proofs.YtambgjgljcadlaaGreatDoor
namespace Go.Eng
open Go.RowKit
section
variable {P:Program}{B:Nat}{w0:World}{Q:Exit->Act->World->Prop}{env:Env}{H:List HP}{m:Mode}{n:Shp}{ops:Array Oper}{rest:List Oper}{d:Nat}{ty:TypeId}{pos:String}{after:Array Edge}{xt yt:TypeId}{x y:Operand}{k:IntKind}{a b:Int}
theorem YbT(T:Tab P){α:Type}{f:α->List Value}{l:List α}{t i q o k:Nat}{b:α}{x:Operand}{A:Option Addr}{vs:List Value}(hx:evo env x=some (sptr A (i*q+o)))(hr:Rd B w0 H A (l.flatMap f))(hb:l[i]? =some b)(hq:∀a,(f a).length=q)
 (ht:look T.ag t=some k) (ho:Nat.ble (o+k) q=true) (h0:Nat.blt 0 k=true) (hv:subL o k (f b)=vs) (hk:Nat.beq vs.length k=true) (hn:Nat.ble (d+1) n.k=true)
 (h:VL P m n B w0 ops Q rest ((d,.agg vs.toArray)::env) H):VL P m n B w0 ops Q (⟨some d,.load t x,ty,pos,after,none⟩::rest) env H:=by
 refine YA rfl rfl hn rfl (λa w ha hw=>?_) h
 have hk:=Nat.eq_of_beq_eq_true hk
 have hk0:0<k:=by simpa using h0
 have hok:o+k<=q:=T0 ho
 have hget:∀j v,vs[j]? =some v->(l.flatMap f)[i*q+o+j]? =some v:=λj v hj=>by
  have hlt:j<k:=by have:=(Td.1 hj).1;rwa [hk]at this
  rw[N9,UB hq l i (o+j) b hb (by omega)]
  rw[<-hv,subL,S0,Tj hlt,RS]at hj
  exact hj
 obtain⟨g,u,rfl,_⟩:=hr w hw _ _ (hget 0 _ (Ta (by rw[hk];exact hk0)))
 have hl:=run_loadCells_list (P:=P) w ⟨g,u+(i*q+o),none⟩ vs (λj v hj=>by
  obtain⟨g',u',e1,hc⟩:=hr w hw _ _ (hget j v hj)
  injection e1 with e1
  injection e1 with e1 e2
  subst e1 e2
  rw[Addr.add_lit,N9];exact hc)
 rw[hk]at hl
 simp[execOp,ha.eval hx,sptr,Instr.loadAt,Instr.sureAddr,loadVar,Jt (T.aggs ht),Zx (Vq (T.aggs ht)),Addr.add_lit,hl]
end
section
variable {P:Program}{ops:Array Oper}{Q:Exit->Act->World->Prop}
def NoQ:Exit->Act->World->Prop:=λ_ _ _=>False
theorem Yp5:¬LetsOut NoQ:=zc86
def YdG(P:Program)(ops:Array Oper)(S:World->Prop)(last:List Nat)(Z:Array Bool->Act->World->Prop):Nat->Array Bool->Act->World->Prop
 |0,listed,a,w=>(∀j,j<ops.size->last.contains j=false->listed.getD j false=true)/\Z listed a w
 |m+1,listed,a,w=>Region.ready .any ops listed≠[]/\∀i∈Region.ready .any ops listed,last.contains i=false/\wpOp P ops NoQ i (λa' w'=>S w'/\YdG P ops S last Z m (listed.setIfInBounds i true) a' w') a w
variable {o:Oper}{a:Act}{w:World}{K:Act->World->Prop}
theorem Yu5(h:o.wp P a w K NoQ):o.wpIn Fence.wide 0 P a w K Q:=by
 refine⟨λf _=>trivial,?_⟩
 unfold Oper.wp at h
 have hs:Oper.semAt Fence.wide.round a.eval o=execOp a.eval o:=Oper.semAt_none _ _
 rw[hs]
 generalize(execOp a.eval o).run P w=res at h⊢
 cases res with
 |ok x w'=>
  cases x<;>simp only[Oper.upon,Oper.uponIn]at h⊢<;>first
   |exact h
   |(refine⟨λhd=>by simp[Fence.wide]at hd,?_⟩
     refine CallsIn.mono (callsIn_wide.2 h) λe w'' he=>?_
     cases e with
     |returned u=>exact he
     |panicked c=>exact he.elim
     |outgrown=>obtain⟨_,_,he⟩:=he;exact he.elim)
   |(refine⟨λhd=>by simp[Fence.wide]at hd,λc cs _=>?_⟩
     obtain⟨v,w2,k1,k2⟩:=h c cs
     exact⟨v,w2,k1,stepsIn_wide.2 k2⟩)
   |exact h.elim
 |halt x w'=>cases x<;>simp only[Oper.upon,Oper.uponIn]at h⊢<;>first|exact h.elim|exact h
theorem Ybv{S:World->Prop}{last:List Nat}{Z:Array Bool->Act->World->Prop}{k:Nat}(hz:∀listed a w,Z listed a w->wpAnyIn Fence.wide 0 P .any ops Q k listed a w):∀(m:Nat) (listed:Array Bool) (a:Act) (w:World),YdG P ops S last Z m listed a w->wpAnyIn Fence.wide 0 P .any ops Q (m+k) listed a w
 |0,listed,a,w,h=>by rw[RL];exact hz _ _ _ h.2
 |m+1,listed,a,w,h=>by
  rw[show m+1+k=(m+k)+1 by omega]
  refine⟨λe=>absurd e h.1,λi hi=>?_⟩
  have h2:=(h.2 i hi).2
  unfold wpOp at h2
  unfold wpOpIn
  cases ho:ops[i]? with
  |none=>rw[ho]at h2;exact Ybv hz m _ _ _ h2.2
  |some o=>
   rw[ho]at h2
   simp only at h2⊢
   split
   ·rename_i hw
    rw[Tj hw]at h2
    rcases h2 with h2|⟨_,h2⟩
    ·exact Yu5 (Oper.wp_mono (λa w h=>Ybv hz m _ a w h.2) h2)
    grind [Yp5]
   ·rename_i hw
    rw[Tf hw]at h2
    exact⟨λf _=>trivial,Ybv hz m _ _ w h2.2⟩
variable {i:Nat}
theorem YdC{listed:Array Bool}(h:listed.getD i true=false):listed.getD i false=false:=by
 grind
variable {last:List Nat}
theorem YjC{S:World->Prop}{Z:Array Bool->Act->World->Prop}{oi:Oper}{v:Value}(hi:ops[i]? =some oi)(hsel:∀(j:Nat) (o:Oper) cs b,ops[j]? =some o->o.op≠.select cs b)
 (hlast:∀j,last.contains j=true->∃f,ancB ops f j i=true) (hil:last.contains i=false):
 ∀(m:Nat) (listed:Array Bool) (a:Act) (w:World),Closed ops listed->
  (∀j oj,ops[j]? =some oj->j≠i->listed.getD j true=false->(∀e∈oj.after,Region.binds .any e=true->e.on≠i)->oi.apart ops oj=true)->
  i∈Region.ready .any ops listed->YieldsIf P ops S oi v a->S w->
  YdG P ops S last Z m (listed.setIfInBounds i true) (a.put oi.dst v) w->YdG P ops S last Z (m+1) listed a w:=by
 intro m
 induction m with
 |zero=>
  intro listed a w hcl _ hr hy hS H
  refine⟨λh=>(by simp_all),λj hj=>?_⟩
  by_cases hji:j=i
  ·subst hji;exact⟨hil,hy.wpOp hi hS ⟨hS,H⟩⟩
  ·obtain⟨hjun,oj,hoj,hall⟩:=mem_ready.1 hj
   have hun':=YdC (mem_ready.1 hr).1
   cases hc:last.contains j with
   |true=>
    grind [UU]
   |false=>
    have h1:=H.1 j (SR.1 hoj).1 hc
    rw[getD_set_ne false (Nk hji),YdC hjun]at h1
    cases h1
 |succ m ih=>
  intro listed a w hcl hfree hr hy hS H
  refine⟨λh=>(by rw[h]at hr;cases hr),λj hj=>?_⟩
  by_cases hji:j=i
  ·subst hji;exact⟨hil,hy.wpOp hi hS ⟨hS,H⟩⟩
  ·obtain⟨hnl,h1⟩:=H.2 j (ready_mono hj hji)
   obtain⟨hjun,oj,hoj,hall⟩:=mem_ready.1 hj
   have hun':=YdC (mem_ready.1 hr).1
   have hnot:∀e∈oj.after,Region.binds .any e=true->e.on≠i:=by grind
   have h2:=wpOp_putIf hoj (hfree j oj hoj hji hjun hnot) (λcs b=>hsel i oi cs b hi) (λcs b=>hsel j oj cs b hoj) (λc a w h=>h.elim) hy h1
   have hfree':∀k ok,ops[k]? =some ok->k≠i->(listed.setIfInBounds j true).getD k true=false->
    (∀e∈ok.after,Region.binds .any e=true->e.on≠i)->oi.apart ops ok=true:=λk ok hk hki hu hno=>by
    exact zc21
   refine⟨hnl,wpOp_mono (λa' w' h3=>⟨h3.2.1,ih (listed.setIfInBounds j true) a' w' (hcl.set hj) hfree' (ready_mono hr (Nk hji)) h3.1 h3.2.1 ?_⟩) h2⟩
   exact zc54
def Yai(ops:Array Oper):List Nat->Array Bool->Bool
 |[],listed=>(Region.ready .any ops listed).isEmpty
 |i::r,listed=>decide (Region.ready .any ops listed=[i])&&Yai ops r (listed.setIfInBounds i true)
def Yc8(ops:Array Oper)(last:List Nat):List Nat->Array Bool->Bool
 |[],listed=>((List.range ops.size).all λj=>last.contains j||listed.getD j false)&&Yai ops last listed
 |i::rest,listed=>
  (match ops[i]? with
   |some o=>if eff o then decide (Region.ready .any ops listed=[i])else(Region.ready .any ops listed).contains i&&Region.free .any ops listed i
   |none=>false)&&Yc8 ops last rest (listed.setIfInBounds i true)
def YpT(ops:Array Oper)(last:List Nat):Bool:=
 last.all λj=>(List.range ops.size).all λi=>last.contains i||(match ops[i]? with|some o=>eff o|none=>false)||ancB ops ops.size j i
theorem Ykd(h:YpT ops last=true):∀i oi,ops[i]? =some oi->eff oi=false->last.contains i=false->∀j,last.contains j=true->∃f,ancB ops f j i=true:=λi oi hi he hl j hj=>by
 exact YqW
variable {l:List Oper}
theorem Yfd(hl:ops=l.toArray)(ho:ops[i]? =some o):nthO l i=o:=by
 grind [QO]
theorem YcE{l:List Oper}(hl:ops=l.toArray):∀(o2:List Nat) (listed:Array Bool) (a:Act) (w:World),Yai ops o2 listed=true->wpListIn Fence.wide 0 P ops Q (Yd l o2) a w->wpAnyIn Fence.wide 0 P .any ops Q o2.length listed a w
 |[],listed,a,w,hB,h=>⟨by grind [Yai],h⟩
 |i::r,listed,a,w,hB,h=>by
  simp only[Yai,Tq,Tt]at hB
  refine⟨λh0=>(by simp_all),λk hk=>?_⟩
  have hk':=hk
  obtain rfl:k=i:=by simp_all
  obtain⟨_,o,ho,_⟩:=mem_ready.1 hk'
  unfold wpOpIn
  simp only[ho]
  rw[Yd,Yfd hl ho]at h
  unfold wpListIn at h
  split
  ·rename_i hw
   rw[Tj hw]at h
   exact Oper.wpIn_mono (λa w h=>YcE hl r _ a w hB.2 h) h
  ·rename_i hw
   rw[Tf hw]at h
   exact⟨h.1,YcE hl r _ _ w hB.2 h.2⟩
def YQH(P:Program)(ops:Array Oper)(Q:Exit->Act->World->Prop)(l:List Oper):Exit->Act->World->Prop
 |.normal,a,w=>wpListIn Fence.wide 0 P ops Q l a w
 |_,_,_=>False
theorem Yvv(h:o.wp P a w K (YQH P ops Q l)):o.wp P a w K NoQ:=by
 unfold Oper.wp at h⊢
 generalize(execOp a.eval o).run P w=r at*
 cases r with
 |ok nx w'=>
  exact zc34
 |halt x w'=>
  cases x<;>simp only[Oper.upon]at h⊢<;>exact h
theorem Ue{S:World->Prop}{last:List Nat}(hs:Region.noSelect ops=true)(l:List Oper)(hl:ops=l.toArray)(hlast:YpT ops last=true):
 ∀(o1:List Nat) (listed:Array Bool) (a:Act) (w:World),Closed ops listed->(∀j∈o1,last.contains j=false)->Yc8 ops last o1 listed=true->S w->Yt P ops (YQH P ops Q (Yd l last)) S (Yd l o1) a w->
  YdG P ops S last (λlisted a w=>Yai ops last listed=true/\wpListIn Fence.wide 0 P ops Q (Yd l last) a w) o1.length listed a w
 |[],listed,a,w,_,_,hB,_,h=>by
  simp only[Yc8,Tq]at hB
  refine⟨λj hj hc=>?_,hB.2,h⟩
  grind
 |i::rest,listed,a,w,hcl,hno,hB,hS,h=>by
  simp only[Yc8,Tq]at hB
  obtain⟨h1,h2⟩:=hB
  have hno':∀j∈rest,last.contains j=false:=by simp_all
  cases ho:ops[i]? with
  |none=>simp_all
  |some o=>
   rw[ho]at h1
   simp only[Yd,Yfd hl ho]at h
   by_cases he:eff o=true
   ·simp only[he,Nv,Tt]at h1
    unfold Yt at h
    rw[Tj he]at h
    refine⟨λh0=>(by simp_all),λk hk=>?_⟩
    have hk':=hk
    rw[h1]at hk
    obtain rfl:k=i:=by simp_all
    refine⟨hno k (by simp),?_⟩
    unfold wpOp
    simp only[ho]
    by_cases hw:Region.wanted o (yielded ops a.tmps)=true
    ·rw[Tj hw]at h⊢
     exact .inl (Yvv (Oper.wp_mono (λa' w' h'=>⟨h'.1,Ue hs l hl hlast rest _ a' w' (hcl.set hk') hno' h2 h'.1 h'.2⟩) h))
    ·rw[Tf hw]at h⊢
     exact⟨hS,Ue hs l hl hlast rest _ _ w (hcl.set hk') hno' h2 hS h⟩
   ·simp only[he]at h1
    simp only[Sj,N2,Tq]at h1
    unfold Yt at h
    rw[Tf he]at h
    obtain⟨v,hy,h3⟩:=h
    have hr:i∈Region.ready .any ops listed:=by simpa using h1.1
    exact YjC ho (Region.noSelect_spec hs) (Ykd hlast i o ho (by simpa using he) (hno i (by simp))) (hno i (by simp)) _ listed a w hcl (Region.free_spec ho h1.2) hr hy hS (Ue hs l hl hlast rest _ _ w (hcl.set hr) hno' h2 hS h3)
end
section
variable {P:Program}{B:Nat}{w0:World}{Q:Exit->Act->World->Prop}{env:Env}{H:List HP}
variable {n:Nat}{ds:List Deferred}{l:List Oper}
theorem Ymv{id:Nat}(o1 last:List Nat)(mask:List Bool){Hc F:List HP}(hm:P.follows .mixedOrders=true)
 (hB:(Region.noSelect l.toArray&&decide ((o1++last).length=l.toArray.size)&&YpT l.toArray last&&(o1.all λj=>!last.contains j)&&Yc8 l.toArray last o1 (Array.replicate l.toArray.size false))=true)
 (hsp:Split mask H Hc F) {l1 l2:List Oper}(hl1:Yd l o1=l1) (hl2:Yd l last=l2) (h:VL P (some (some F)) ⟨n,ds,none⟩ B w0 l.toArray (YQH P l.toArray Q l2) l1 env Hc):VC P ⟨n,ds,none⟩ B w0 (.region id l.toArray true) Q env H:=by
 simp only[Tq,Tt]at hB
 obtain⟨⟨⟨⟨h1,h2⟩,h3⟩,h4⟩,h5⟩:=hB
 refine⟨λa w ha hw=>?_⟩
 refine(wpIn_wide (n:=0)).1 (wpIn_region_any hm ?_)
 have hst:St B w0 (Hc++F) w.drew:=(hw.perm (XC hsp)).drew
 have hr:Yt P l.toArray (YQH P l.toArray Q l2) (St B w0 Hc) l1 a w.drew:=h.run a ha w.drew hst
 rw[<-hl1,<-hl2]at hr
 have hz:=Ue (S:=St B w0 Hc) h1 l rfl h3 o1 _ a w.drew (XO _ _) (λj hj=>by simp_all) h5 hst.prefix_ hr
 have:=Ybv (k:=last.length) (Q:=Q) (λlisted a w hz=>YcE rfl last listed a w hz.1 hz.2) o1.length _ a w.drew hz
 simp_all
theorem YoX{ops:Array Oper}(h:VQ ⟨n,ds,none⟩ B w0 (YQ P ops Q l) .normal env H):VQ ⟨n,ds,none⟩ B w0 (YQH P ops Q l) .normal env H:=⟨λa w ha hw=>h.run a w ha hw⟩
end
end Go.Eng
namespace Go.Proofs.YtambgjgljcadlaaGreatDoor
open Go.RowKit Go.Eng Go.Nw Go.Rt
def WayV(A:Option Addr)(l:List Int):Prop:=l=[]->A=none
structure Fz where
 at_:Int
 pre:List Int
 A:Option Addr
 cap:Nat
theorem YhZ{l:List Lk}{far:List Int}{to:Int}{nodes:Nat}(hl:ArcsOk nodes l)(hd:Dist nodes l to far){v:Int}(h0:0<=v)(h1:v<nodes)(hne:v≠to)(hlt:Yl far v<Xg):∀k j:Nat,(Yl far v).toNat<=k->(Yl far v).toNat<=j->XR l far to k v=XR l far to j v:=by
 intro k
 induction k generalizing v with
 |zero=>
  intro j hk hj
  have:=(Q8 hl hd h0 h1 hne hlt).2
  omega
 |succ k ih=>
  intro j hk hj
  obtain⟨b1,b2,b3,_⟩:=Q8 hl hd h0 h1 hne hlt
  cases j with
  |zero=>omega
  |succ j=>
   unfold XR
   rw[Tf hne,Tf hne]
   by_cases hb:XA l far v=to
   ·cases k<;>cases j<;>simp[XR,hb]
   grind
theorem Ycz(nodes:Nat)(l:List Lk)(s to:Int)(hn:nodes<=40)(hl:l.length<=1000000)(hok:ArcsOk nodes l)(hs:0<=s/\s<nodes)(hto:0<=to/\to<nodes){AL:Option Addr}{capL B:Nat}{w0:World}{H:List HP}{w:World}(hr:Rd B w0 H AL (l.flatMap lkF))(hw:St B w0 H w):
 CX B w0 270 [.int .i64 nodes,.slice AL l.length capL,.int .i64 s,.int .i64 to] w λv K=>∃A cap,v=.slice A (wayF l (J8 nodes l to) s to).length cap/\WayV A (wayF l (J8 nodes l to) s to)/\(J8 nodes l to).length=nodes/\Dist nodes l to (J8 nodes l to)/\K=ints A cap (wayF l (J8 nodes l to) s to)::H:=by
 refine Ya Tryz.func270 Tryz.ntmps270 rfl rfl hw ?_
 refine zX4 ?_
 apply Ye _ Ypv
 exact za
 exact rfl
 exactλ_ hw=>(VE nodes l to hn hl hok hto hr (hw))
 rintro _ _ ⟨gf,far,rfl,hd,rfl⟩
 rw[Qy hok hd]
 have hflen:=hd.len
 have hgs:=XH (far:=far) (i:=s) (by omega)
 have hrs:=hd.range s hs.1 hs.2
 have hne:Xg=1073741824:=rfl
 unfold wayF
 by_cases hfar:Xg<=Yl far s
 ·rw[Tj hfar]
  rw[hne]at hfar
  refine zX13 ?_<;>intros
  apply Yg (ints none 0 []::H)
  ·exact Yq2
  apply Yf;exact rfl;exact rfl
  exact⟨none,0,rfl,λ_=>rfl,hflen,hd,rfl⟩
 rw[Tf hfar]
 rw[hne]at hfar
 refine YqR ?_<;>intros
 rename_i g1
 have hf0:0<=Yl far s:=hrs.1
 refine Yh (λ(z:Fz)=>[(11,.int .i64 z.at_),(10,.slice z.A z.pre.length z.cap),(9,.slice (some ⟨gf,0,none⟩) far.length nodes),(1,.slice AL l.length capL),(3,.int .i64 to)])
  (λz=>ints z.A z.cap z.pre::ints (some ⟨gf,0,none⟩) nodes far::H) (λz=>(0<=z.at_/\z.at_<nodes)/\(0<=Yl far z.at_/\Yl far z.at_<1073741824)/\z.pre++XR l far to (Yl far z.at_).toNat z.at_=s::XR l far to (Yl far s).toNat s/\1<=z.pre.length/\z.pre.length+(Yl far z.at_).toNat<=1073741830) (λz=>(Yl far z.at_).toNat) ⟨s,[s],some ⟨g1,0,none⟩,1⟩ ⟨hs,⟨by omega,by omega⟩,rfl,by simp,by simp only[TL];omega⟩ ?_ (λw hw=>hw.blk_sl (cs:=numF s) (len:=1) (size:=1) rfl (by omega)) ?_
 ·exact zc1
 rintro⟨v,pre,A,cap⟩ ⟨⟨v0,v1⟩,⟨d0,d1⟩,hpre,hpl,hpm⟩ K hK
 simp only at v0 v1 d0 d1 hpre hpl hpm⊢
 have hgv:=XH (far:=far) (i:=v) (by omega)
 by_cases hvt:v=to
 ·have hfl:XR l far to (Yl far v).toNat v=[]:=by
   rw[hvt,hd.to0];rfl
  rw[hfl,Ri]at hpre
  clear hK
  refine zX0 ?_<;>intros
  apply Yg (ints A cap pre::H)
  ·exact zc0
  apply Yf;exact rfl;exact rfl
  rw[<-hpre]
  exact⟨A,cap,rfl,λh=>by rw[h]at hpl;simp at hpl,hflen,hd,rfl⟩
 obtain⟨b1,b2,b3,_⟩:=Q8 hok hd v0 v1 hvt (by rw[hne];omega)
 obtain⟨bb,hbb⟩:∃bb,XA l far v=bb:=⟨_,rfl⟩
 refine zX0 ?_<;>intros
 refine Yh (λ(k:Nat)=>[(32,.int .i64 k),(31,.int .i64 l.length),(30,.slice AL l.length capL),(12,.int .i64 (XA (l.take k) far v)),(11,.int .i64 v),(10,.slice A pre.length cap),(9,.slice (some ⟨gf,0,none⟩) far.length nodes),(1,.slice AL l.length capL),(3,.int .i64 to)])
  (λ_=>ints A cap pre::ints (some ⟨gf,0,none⟩) nodes far::H) (λk=>k<=l.length) (λk=>l.length-k) 0 (Tm _) ?_ (λw hw=>hw) ?_
 ·exact zc1
 intro k hk K2 hK2
 have hrl:Rd B w0 (ints A cap pre::ints (some ⟨gf,0,none⟩) nodes far::H) AL (l.flatMap lkF):=(hr.cons).cons
 by_cases hlt:k<l.length
 ·obtain⟨a,ha⟩:∃a,l[k]? =some a:=⟨_,Ta hlt⟩
  obtain⟨⟨a1,a2⟩,⟨a3,a4⟩,⟨a5,a6⟩⟩:=hok a (Tc ha)
  have hga:=XH (far:=far) (i:=a.2.1) (by omega)
  have hra:=hd.range a.2.1 a3 a4
  rw[hne]at hra
  have hst:XA (l.take (k+1)) far v=ZS far v (XA (l.take k) far v) a:=by
   rw[TG,ha];exact YmU _ _ _ _
  obtain⟨bk,hbk⟩:∃bk,XA (l.take k) far v=bk:=⟨_,rfl⟩
  rw[hbk]at hst
  rw[hbk]
  unfold ZS at hst
  by_cases hc:a.1=v/\a.2.2+Yl far a.2.1=Yl far v/\(bk<0\/a.2.1<bk)
  ·rw[Tj hc]at hst
   repeat'(first|refine zgd ?_|(refine zge ?_ ?_<;>intro _<;>try exact zo)|(refine zgh ?_;intro _)|fail)
   all_goals(
    apply hK2 (k+1)
    ·omega
    ·omega
    ·rw[hst];exact zu
    ·exactλw hw=>hw.tail)
  ·rw[Tf hc]at hst
   repeat'(first|refine zgd ?_|(refine zge ?_ ?_<;>intro _<;>try exact zo)|(refine zgh ?_;intro _)|fail)
   all_goals(
    apply hK2 (k+1)
    ·omega
    ·omega
    ·rw[hst];exact zu
    ·exactλw hw=>hw.tail)
 ·obtain rfl:k=l.length:=by omega
  clear hK2
  rw[TP,hbb]
  rw[hbb]at b1 b2 b3
  have hfs:XR l far to (Yl far v).toNat v=bb::XR l far to (Yl far bb).toNat bb:=by
   obtain⟨j,hj⟩:∃j,(Yl far v).toNat=j+1:=⟨(Yl far v).toNat-1,by omega⟩
   rw[hj,show XR l far to (j+1) v=if v=to then []else XA l far v::XR l far to j (XA l far v) from rfl,Tf hvt,hbb]
   by_cases hbt:bb=to
   ·rw[hbt]
    cases j<;>simp[XR,hd.to0]
   ·rw[YhZ hok hd b1.1 b1.2 hbt (by rw[hne];omega) j _ (by omega) (TI _)]
  refine Ymk ?_<;>intros
  rename_i A3 cap3
  apply hK ⟨bb,pre++[bb],A3,cap3⟩
  ·refine⟨b1,⟨b3,by exact zc31⟩,?_,by simp,?_⟩
   ·simp only
    rw[Ru,List.singleton_append,<-hfs];exact hpre
   ·simp only[To,TL]
    omega
  ·exact zc31
  ·dsimp only
   rw[To,TL];exact zc1
  ·dsimp only
   rw[<-Ynt]
   exact zc0
def dear(a:Lk):Lk:=(a.1,a.2.1,a.2.2*33+1)
noncomputable def Qb(n:Net)(s t:Int):List Int:=wayF ((JW n).map dear) (J8 n.nodes.toNat ((JW n).map dear) t) s t
noncomputable def ZR(n:Net)(s t:Int):List Int×Int:=
 if Z8 n s t≠0 then([],Z8 n s t)else if Qb n s t=[]then([],17)else if 9<(Qb n s t).length then([],21)else(Qb n s t,0)
variable {n:Net}
theorem YrI(h:Ok n):ArcsOk n.nodes.toNat ((JW n).map dear):=by
 intro a ha
 obtain⟨b,hb,rfl⟩:=TE.1 ha
 obtain⟨i,hi,_,rfl⟩:=Yio.1 hb
 have hl:=h.lk i hi
 have h1:=hl.f0;have h2:=hl.f1;have h3:=hl.t0;have h4:=hl.t1;have h5:=hl.l0;have h6:=hl.l1
 grind [dear,Yb7]
theorem YlQ{s t:Int}(h:Z8 n s t=0):Yp n=0/\(0<=s/\s<n.nodes)/\(0<=t/\t<n.nodes)/\s≠t:=by
 unfold Z8 offE at h
 grind
variable {l:List Lk}{k:Nat}{a:Lk}
theorem Yr7(h:l[k]? =some a):((l.take k).map dear++l.drop k)[k]? =some a:=by
 grind
theorem Yr8(h:l[k]? =some a):((l.take k).map dear++l.drop k).set k (dear a)=(l.take (k+1)).map dear++l.drop (k+1):=by
 obtain⟨hk,rfl⟩:=Td.1 h
 have hl:((l.take k).map dear).length=k:=by grind
 rw[NK _ _ (by omega),hl,NT,Rw hk,NF,TG,Ta hk,Rb,Ru]
 rfl
theorem Yec(n:NetM)(s t:Int){B:Nat}{w0:World}{H:List HP}{w:World}(hin:n.In B w0 H)(hw:St B w0 H w):
 CX B w0 214 [n.val,.int .i64 s,.int .i64 t] w λv K=>∃A cap,v=.tuple #[.slice A (ZR n.net s t).1.length cap,.int .i64 (ZR n.net s t).2]/\WayV A (ZR n.net s t).1/\(Z8 n.net s t=0->Dist n.net.nodes.toNat ((JW n.net).map dear) t (J8 n.net.nodes.toNat ((JW n.net).map dear) t))/\K=ints A cap (ZR n.net s t).1::H:=by
 refine Ya Tryz.func214 Tryz.ntmps214 rfl rfl hw ?_
 (apply Xm;apply YY;apply YV;exact rfl;exact rfl;intro g)
 unfold ZR
 by_cases he:Z8 n.net s t=0
 rotate_left
 ·rw[Tj he]
  repeat'(first|((first|apply Yb OG|apply Yc OG);exact za;exact rfl;exactλ_ hw=>(Vr n s t hin.cons hw))|refine zgb ?_|(refine zge ?_ ?_<;>intro _<;>try exact zo)|fail)
  (repeat apply Yn)
  apply X5 3 1
  apply YL;(iterate 3 exact rfl)
  exact⟨none,0,rfl,λ_=>rfl,λh=>absurd h he,rfl⟩
 rw[Tf (λh=>h he)]
 obtain⟨hck,⟨s0,s1⟩,⟨t0,t1⟩,hst⟩:=YlQ he
 have hen:=λ{H:List HP}{w:World}(hin:n.In B w0 H) (hw:St B w0 H w)=>Vr n s t hin hw
 rw[he]at hen
 have hok:=YM hck
 have hn0:=hok.n0
 have hn1:=hok.n1
 have hnn:((n.net.nodes.toNat:Nat):Int)=n.net.nodes:=by omega
 have hnn2:n.net.nodes=n.nodes:=rfl
 have hal:(JW n.net).length<=128:=TU (UW _ _) hok.k0
 have hdo:=YrI hok
 obtain⟨L,hL⟩:∃L,JW n.net=L:=⟨_,rfl⟩
 rw[hL]at hal
 have hLo:=Ylg hok hnn.symm
 rw[hL]at hLo
 refine YqS ?_<;>intros
 apply Ye _ Ys5
 exact za
 exact rfl
 exactλ_ hw=>(Yeo n hin.cons hck (hw))
 rintro _ _ ⟨A,cap,rfl,rfl⟩
 rw[hL]
 refine zX9 ?_
 refine Yh (λ(k:Nat)=>[(24,.int .i64 k),(23,.int .i64 L.length),(9,.slice A L.length cap),(3,.pointer (some ⟨g,0,none⟩)),(1,.int .i64 s),(2,.int .i64 t)])
  (λk=>sl 356 3 A L.length cap (((L.take k).map dear++L.drop k).flatMap lkF)::netB g n::H) (λk=>k<=L.length) (λk=>L.length-k) 0 (Tm _) ?_ (λw hw=>hw) ?_
 ·exact zc1
 intro k hk K hK
 have hml:((L.take k).map dear++L.drop k).length=L.length:=by simp;omega
 by_cases hlt:k<L.length
 ·obtain⟨a,ha⟩:∃a,L[k]? =some a:=⟨_,Ta hlt⟩
  obtain⟨_,_,⟨a5,a6⟩⟩:=hLo a (Tc ha)
  have hmg:=Yr7 ha
  have hms:=Yr8 ha
  rw[<-hml]
  repeat'(first|(apply Ji T (f:=lkF) (l:=(L.take k).map dear++L.drop k) (i:=k) (q:=3) (o:=2) (b:=a) (b':=dear a);(iterate 3 exact rfl);exact zd;exact hmg;exact rfl;exactλ_=>rfl;exact rfl;exact rfl)|refine zgd ?_|(refine zge ?_ ?_<;>intro _<;>try exact zo)|fail)
  rw[hml,hms]
  apply hK (k+1)
  ·omega
  ·omega
  ·exact zc1
  exact zc19
 ·obtain rfl:k=L.length:=by omega
  clear hK
  rw[TP,SH,Ri]
  have hLl:(L.map dear).length=L.length:=Tv _
  rw[<-hLl]
  refine zX0 ?_<;>intros
  rw[show(Value.int .i64 n.nodes)=.int .i64 ((n.net.nodes.toNat:Nat):Int) by rw[hnn];rfl]
  rw[hL]at hdo
  apply Ye _ Ypu
  exact za
  exact rfl
  exactλ_ hw=>(Ycz n.net.nodes.toNat (L.map dear) s t (by omega) (by omega) hdo ⟨s0,by omega⟩ ⟨t0,by omega⟩ (.sl (by(focus exact zc2))) (hw))
  rintro _ _ ⟨A2,cap2,rfl,hway,hdl,hdd,rfl⟩
  have hsr:wayF (L.map dear) (J8 n.net.nodes.toNat (L.map dear) t) s t=Qb n.net s t:=by rw[<-hL];rfl
  rw[hL]at*
  rw[hsr]at hway⊢
  obtain⟨R,hR⟩:∃R,Qb n.net s t=R:=⟨_,rfl⟩
  rw[hR]at hway⊢
  by_cases hnil:R=[]
  ·rw[Tj hnil]
   have hA:=hway hnil
   subst hA
   refine zX6 ?_
   exact zc58
  ·rw[Tf hnil]
   have hRl:R.length<=1073741824:=by rw[<-hR];exact YgW _ _ _ _
   have hpos:0<R.length:=List.length_pos_iff.2 hnil
   refine YfO (e:=3) (size:=1) (k:=R.length) (cap:=cap2) (A:=A2) (xs:=R.flatMap numF) TB hpos ?_
   rintro ga rfl
   by_cases h9:9<R.length
   ·rw[Tj h9]
    have hsh:=λ{H:List HP}{w:World}(hw:St B w0 H w)=>Wh R.length (A:=some ⟨ga,0,none⟩) (cap:=cap2) (by omega) hw
    rw[Tj h9]at hsh
    refine Ytv ?_<;>intros
    exact zc58
   ·rw[Tf h9]
    have hsh:=λ{H:List HP}{w:World}(hw:St B w0 H w)=>Wh R.length (A:=some ⟨ga,0,none⟩) (cap:=cap2) (by omega) hw
    rw[Tf h9]at hsh
    refine Ytv ?_<;>intros
    apply Yg (ints (some ⟨ga,0,none⟩) cap2 R::H)
    ·exactλw hw=>hw.perm (.cons _ (.dropK (.drop _ _)))
    apply YL;(iterate 3 exact rfl)
    exact⟨some ⟨ga,0,none⟩,cap2,rfl,λh=>absurd h hnil,λ_=>hdd,rfl⟩
def edF(e:Ed):List Value:=[.int .i64 e.f,.int .i64 e.t,.int .i64 e.c,.int .i64 e.r]
abbrev YcG(sides:Nat)(A:Option Addr)(k cap:Nat):Obj:=.cells #[.int .i64 sides,.slice A k cap] 439 (0,0)
def gpcs(g sides:Nat)(A:Option Addr)(cap:Nat)(es:List Ed)(H:List HP):List HP:=blk g (YcG sides A es.length cap)::sl 444 4 A es.length cap (es.flatMap edF)::H
structure Rz where
 k:Nat
 ag:Bool
 far:List Int
 by_:List Int
structure RzOk(sides:Nat)(es:List Ed)(fuel:Nat)(res:List Int×List Int)(z:Rz):Prop where
 kf:z.k<=fuel
 ok:RelOk sides (-2000000000-2000000000*((fuel-z.k:Nat):Int)) (z.far,z.by_,z.ag)
 run:if z.ag=true then Yar z.k es z.far z.by_=some res else(z.far,z.by_)=res
theorem YkD(g sides:Nat)(es:List Ed)(far:List Int)(fuel:Nat)(res:List Int×List Int)(hs:1<=sides/\sides<=100)(hes:Yk3 sides es)(hel:es.length<=2000)(hfu:fuel<=100000)(hfar:RelOk sides (-2000000000) (far,List.replicate sides (-1),true))(hrun:Yar fuel es far (List.replicate sides (-1))=some res)
 {A AF:Option Addr}{cap capF:Nat}{B:Nat}{w0:World}{H:List HP}{w:World}(hw:St B w0 (gpcs g sides A cap es (ints AF capF far::H)) w):
 CX B w0 354 [.pointer (some ⟨g,0,none⟩),.slice AF far.length capF] w λv K=>∃gb,v=.tuple #[.slice AF res.1.length capF,.slice (some ⟨gb,0,none⟩) res.2.length sides]/\RelOk sides (-2000000000-2000000000*(fuel:Int)) (res.1,res.2,false)/\K=ints (some ⟨gb,0,none⟩) sides res.2::gpcs g sides A cap es (ints AF capF res.1::H):=by
 refine Ya Tryz.func354 Tryz.ntmps354 rfl rfl hw ?_
 unfold gpcs
 repeat'(first|refine zgd ?_|(refine zgh ?_;intro _)|fail)
 apply Ye _ Ypw
 exact za
 exact rfl
 exactλ_ hw=>(W9 (-1) sides (by omega) (.blk zm) (hw))
 rintro _ _ ⟨gb,rfl,rfl⟩
 have hrl:(List.replicate sides (-1:Int)).length=sides:=Rm
 repeat'(first|refine zgb ?_|fail)
 refine Yh (λ(z:Rz)=>[(7,.bool z.ag),(1,.slice AF z.far.length capF),(6,.slice (some ⟨gb,0,none⟩) z.by_.length sides),(0,.pointer (some ⟨g,0,none⟩))])
  (λz=>ints (some ⟨gb,0,none⟩) sides z.by_::blk g (YcG sides A es.length cap)::sl 444 4 A es.length cap (es.flatMap edF)::ints AF capF z.far::H) (λz=>RzOk sides es fuel res z) (λz=>z.k) ⟨fuel,true,far,List.replicate sides (-1)⟩ ⟨TI _,by simpa using hfar,hrun⟩ ?_ zk ?_
 ·exact zu
 rintro⟨k,ag,fa,by_⟩ hz K hK
 obtain⟨hkf,hok,hrun⟩:=hz
 simp only at hkf hok hrun⊢
 cases ag with
 |false=>
  rw[Tf (by decide)]at hrun
  clear hK
  obtain⟨rfl,rfl⟩:fa=res.1/\by_=res.2:=by rw[<-hrun];exact⟨rfl,rfl⟩
  repeat'(first|refine zgc ?_|fail)
  apply YL;(iterate 3 exact rfl)
  refine⟨gb,rfl,⟨hok.l1,hok.l2,λv h0 h1=>?_⟩,rfl⟩
  have:=hok.low v h0 h1
  simp only at this⊢
  omega
 |true=>
  rw[Tj rfl]at hrun
  cases k with
  |zero=>cases hrun
  |succ k=>
   have hok0:RelOk sides (-2000000000-2000000000*((fuel-(k+1):Nat):Int)) (fa,by_,false):=⟨hok.l1,hok.l2,hok.low⟩
   obtain⟨low,hlow⟩:∃low:Int,-2000000000-2000000000*((fuel-(k+1):Nat):Int)=low:=⟨_,rfl⟩
   rw[hlow]at hok0
   have hlb: -300000000000000<=low:=by omega
   unfold Yar at hrun
   repeat'(first|refine zgd ?_|fail)
   refine Yh (λ(j:Nat)=>[(22,.int .i64 j),(21,.int .i64 es.length),(20,.slice A es.length cap),(7,.bool (Xq 0 (es.take j) (fa,by_,false)).2.2),(1,.slice AF (Xq 0 (es.take j) (fa,by_,false)).1.length capF),(6,.slice (some ⟨gb,0,none⟩) (Xq 0 (es.take j) (fa,by_,false)).2.1.length sides),(0,.pointer (some ⟨g,0,none⟩))])
    (λj=>ints (some ⟨gb,0,none⟩) sides (Xq 0 (es.take j) (fa,by_,false)).2.1::blk g (YcG sides A es.length cap)::sl 444 4 A es.length cap (es.flatMap edF)::ints AF capF (Xq 0 (es.take j) (fa,by_,false)).1::H) (λj=>j<=es.length) (λj=>es.length-j) 0 (Tm _) ?_ (λw hw=>hw) ?_
   ·exact zu
   intro j hj K2 hK2
   by_cases hlt:j<es.length
   ·obtain⟨e,he⟩:∃e,es[j]? =some e:=⟨_,Ta hlt⟩
    have hem:=Tc he
    obtain⟨⟨e1,e2⟩,⟨e3,e4⟩,⟨e5,e6⟩,⟨e7,e8⟩⟩:=hes e hem
    have htl:(es.take j).length=j:=by rw[TX];omega
    have hst:Xq 0 (es.take (j+1)) (fa,by_,false)=Uk j e (Xq 0 (es.take j) (fa,by_,false)):=by
     rw[TG,he]
     have:=QR (es.take j) 0 e (fa,by_,false)
     rw[htl,RL]at this
     exact this
    have hpo:=Qa hes (es.take j) 0 (fa,by_,false) low (λx hx=>SC hx) hok0
    rw[htl]at hpo
    obtain⟨⟨f2,b2,ag2⟩,hst2⟩:∃st,Xq 0 (es.take j) (fa,by_,false)=st:=⟨_,rfl⟩
    rw[hst2]at hst hpo⊢
    obtain⟨p1,p2,p3⟩:=hpo
    simp only at p1 p2 p3
    have q1:=p3 e.f e1 e2
    have q2:=p3 e.t e3 e4
    have hgf:=XH (far:=f2) (i:=e.f) (by omega)
    have hgt:=XH (far:=f2) (i:=e.t) (by omega)
    have hnn:Xg=1073741824:=rfl
    rw[hnn]at q1 q2
    dsimp only
    unfold Uk at hst
    simp only[hnn]at hst
    by_cases hc:0<e.r/\Yl f2 e.f<1073741824/\Yl f2 e.f+e.c<Yl f2 e.t
    ·rw[Tj hc]at hst
     repeat'(first|refine zgd ?_|(refine zgf ?_ ?_<;>intro _<;>try exact zo)|(refine zgh ?_;intro _)|fail)
     have hl1:(f2.set e.t.toNat (Yl f2 e.f+e.c)).length=f2.length:=TT
     have hl2:(b2.set e.t.toNat (j:Int)).length=b2.length:=TT
     apply Yoy [3,4,5,14] [0,1,2,6,7,8,9,10,11,12,13,15] [16,17,18,19] [true] [true,true,false,false,true]
     kernel_rfl
     kernel_rfl
     exact zy
     exact zy
     exact zk
     (simp only[Yd,nthO];rfl)
     (simp only[Yd,nthO];rfl)
     (simp only[Yd,nthO];rfl)
     repeat'(first|(apply YoV;try exact zl)|(apply OB T;(iterate 4 exact rfl);omega)|(apply Xu T (f:=numF) (l:=f2) (i:=e.t.toNat) (a:=Yl f2 e.f+e.c);(iterate 3 exact rfl);exact zd;exact rfl;exactλ_=>rfl;exact rfl;omega)|(apply Xu T (f:=numF) (l:=b2) (i:=e.t.toNat) (a:=(j:Int));(iterate 3 exact rfl);exact zd;exact rfl;exactλ_=>rfl;exact rfl;omega)|(apply Yj;try exact zl)|refine zgd ?_|fail)
     apply hK2 (j+1)
     ·omega
     ·omega
     ·rw[hst]
      dsimp only
      rw[hl1,hl2]
      exact zu
     ·rw[hst]
      dsimp only
      unfold ints
      rw[hl1,hl2]
      exact zk
    ·rw[Tf hc]at hst
     repeat'(first|refine zgd ?_|(refine zgf ?_ ?_<;>intro _<;>try exact zo)|(refine zgh ?_;intro _)|fail)
     all_goals(
      apply hK2 (j+1)
      ·omega
      ·omega
      ·rw[hst];exact zu
      ·rw[hst];exactλw hw=>hw.tail)
   ·obtain rfl:j=es.length:=by omega
    clear hK2
    have hpo:=Qa hes es 0 (fa,by_,false) low (λx hx=>hx) hok0
    rw[TP]
    obtain⟨⟨f2,b2,ag2⟩,hst2⟩:∃st,Xq 0 es (fa,by_,false)=st:=⟨_,rfl⟩
    rw[hst2]at hrun hpo⊢
    dsimp only at hrun⊢
    repeat'(first|refine zgc ?_|(refine zge ?_ ?_<;>intro _<;>try exact zo)|fail)
    apply hK ⟨k,ag2,f2,b2⟩
    ·refine⟨by simp only;omega,⟨hpo.l1,hpo.l2,λv h0 h1=>?_⟩,?_⟩
     ·have:=hpo.low v h0 h1
      simp only at this⊢
      omega
     ·simp only
      cases ag2
      ·rw[Tf (by decide)]at hrun⊢
       exact Tz hrun
      ·rw[Tj rfl]at hrun⊢
       exact hrun
    ·simp only;omega
    ·exact zu
    ·exactλw hw=>hw
theorem YqP(i:Nat)(hi:i<4611686018427387904):bits .xor .i64 (i:Int) 1=(twin i:Int):=by
 have e1:(BitVec.ofInt 64 (i:Int)).toNat=i:=by grind
 show IntKind.i64.wrap ((BitVec.ofInt 64 (i:Int)^^^BitVec.ofInt 64 1).toNat:Int)=_
 have e2:(BitVec.ofInt 64 (1:Int)).toNat=1:=by decide
 have e3:i^^^1=twin i:=by
  unfold twin
  rcases Nat.mod_two_eq_zero_or_one i with h|h
  ·rw[Tj h]
   obtain⟨k,rfl⟩:∃k,i=2*k:=⟨i/2,by omega⟩
   apply Nat.eq_of_testBit_eq
   intro j
   rw[Nat.testBit_xor]
   cases j with
   |zero=>simp
   |succ j=>
    grind
  ·rw[Tf (by omega)]
   obtain⟨k,rfl⟩:∃k,i=2*k+1:=⟨i/2,by omega⟩
   apply Nat.eq_of_testBit_eq
   intro j
   rw[Nat.testBit_xor]
   cases j with
   |zero=>simp
   |succ j=>
    grind
 grind [Go.IntKind.wrap_i64,twin]
structure Bz where
 k:Nat
 es:List Ed
 at_:Int
structure BzOk(fuel sides:Nat)(b:Int)(E:Nat)(by_:List Int)(s:Int)(res:List Ed)(z:Bz):Prop where
 kf:z.k<=fuel
 run:Yhr z.k z.es by_ s z.at_=some res
 ein:EdsIn sides (b+2*((fuel-z.k:Nat):Int)) z.es
 len:z.es.length=E
 at_:0<=z.at_/\z.at_<sides
theorem Yfn(g sides:Nat)(es:List Ed)(s t:Int)(fuel:Nat)(b:Int)(r:Int×Bool×List Ed)(hs:1<=sides/\sides<=100)(hes:EdsIn sides b es)(hb:1<=b/\b<=900000)(hel:es.length<=2000)(hfu:fuel<=100000)(hs0:0<=s/\s<sides)(ht0:0<=t/\t<sides)(hrun:Yfm fuel sides es s t=some r)
 {A:Option Addr}{cap:Nat}{B:Nat}{w0:World}{H:List HP}{w:World}(hw:St B w0 (gpcs g sides A cap es H) w):
 CX B w0 333 [.pointer (some ⟨g,0,none⟩),.int .i64 s,.int .i64 t] w λv K=>v=.tuple #[.int .i64 r.1,.bool r.2.1]/\(r.2.2.length=es.length/\EdsIn sides (b+2*(fuel:Int)) r.2.2/\ -300000000000000<=r.1/\r.1<=1073741824)/\K=gpcs g sides A cap r.2.2 H:=by
 refine Ya Tryz.func333 Tryz.ntmps333 rfl rfl hw ?_
 have hok:=hes.ok (by omega)
 have hnn:Xg=1073741824:=rfl
 unfold gpcs
 refine zX23 ?_<;>intros
 apply Ye _ Ypw
 exact za
 exact rfl
 exactλ_ hw=>(W9 1073741824 sides (by omega) (.blk (by(focus exact zc2))) (hw))
 rintro _ _ ⟨gs,rfl,rfl⟩
 have hrl:(List.replicate sides (1073741824:Int)).length=sides:=Rm
 repeat'(first|(apply Xu T (f:=numF) (l:=List.replicate sides (1073741824:Int)) (i:=s.toNat) (a:=0);(iterate 3 exact rfl);exact zd;exact rfl;exactλ_=>rfl;exact rfl;omega)|refine zgd ?_|fail)
 have hst:Wi sides s=(List.replicate sides (1073741824:Int)).set s.toNat 0:=rfl
 have hsl:(Wi sides s).length=(List.replicate sides (1073741824:Int)).length:=by rw[hst];exact TT
 unfold Yfm at hrun
 cases hre:Yar fuel es (Wi sides s) (List.replicate sides (-1))with
 |none=>rw[hre]at hrun;cases hrun
 |some fb=>
  rw[hre]at hrun
  obtain⟨far,by_⟩:=fb
  dsimp only at hrun
  rw[<-hst,<-hsl]
  apply Xv (gpcs g sides A cap es (ints (some ⟨gs,0,none⟩) sides (Wi sides s)::H))
  ·unfold gpcs ints
   exact zc0
  apply Ye _ YwD
  exact za
  exact rfl
  exactλ_ hw=>(YkD g sides es (Wi sides s) fuel (far,by_) hs hok hel (by omega) (Yob hs0 _ Rm _) hre (hw))
  rintro _ _ ⟨gb,rfl,hro,rfl⟩
  obtain⟨l1,l2,hlow⟩:=hro
  simp only at l1 l2 hlow
  have hgt:=XH (far:=far) (i:=t) (by omega)
  have hlt:=hlow t ht0.1 ht0.2
  rw[hnn]at hlt hrun
  unfold gpcs
  dsimp only
  by_cases hno:1073741824<=Yl far t
  ·rw[Tj hno]at hrun
   obtain rfl:=Tz hrun
   refine zX13 ?_<;>intros
   apply Yg (gpcs g sides A cap es H)
   ·unfold gpcs
    exact zc0
   apply YL;(iterate 3 exact rfl)
   exact⟨rfl,⟨rfl,hes.mono (by omega),show(-300000000000000:Int)<=0 by decide,show(0:Int)<=1073741824 by decide⟩,rfl⟩
  ·rw[Tf hno]at hrun
   cases hba:Yhr fuel es by_ s t with
   |none=>rw[hba]at hrun;cases hrun
   |some res=>
    rw[hba]at hrun
    dsimp only at hrun
    obtain rfl:=Tz hrun
    refine zX13 ?_<;>intros
    refine Yh (λ(z:Bz)=>[(11,.int .i64 z.at_),(10,.slice (some ⟨gb,0,none⟩) by_.length sides),(9,.slice (some ⟨gs,0,none⟩) far.length sides),(0,.pointer (some ⟨g,0,none⟩)),(1,.int .i64 s),(2,.int .i64 t)])
     (λz=>ints (some ⟨gb,0,none⟩) sides by_::blk g (YcG sides A z.es.length cap)::sl 444 4 A z.es.length cap (z.es.flatMap edF)::ints (some ⟨gs,0,none⟩) sides far::H) (λz=>BzOk fuel sides b es.length by_ s res z) (λz=>z.k) ⟨fuel,es,t⟩ ⟨TI _,hba,hes.mono (by omega),rfl,ht0⟩ ?_ (λw hw=>hw) ?_
    ·exact zc1
    rintro⟨k,e1,v⟩ ⟨hkf,hrun1,hein,hlen,⟨v0,v1⟩⟩ K hK
    simp only at hkf hrun1 hein hlen v0 v1⊢
    cases k with
    |zero=>cases hrun1
    |succ k=>
     unfold Yhr at hrun1
     by_cases hvs:v=s
     ·rw[Tj hvs]at hrun1
      obtain rfl:=Tz hrun1
      clear hK
      refine zX1 ?_<;>intros
      apply Yg (gpcs g sides A cap e1 H)
      ·unfold gpcs
       exact zc0
      apply YL;(iterate 3 exact rfl)
      exact⟨rfl,⟨hlen,hein.mono (by omega),by omega,by omega⟩,rfl⟩
     ·rw[Tf hvs]at hrun1
      have hgv:=XH (far:=by_) (i:=v) (by omega)
      obtain⟨i,hi⟩:∃i,Yl by_ v=i:=⟨_,rfl⟩
      rw[hi]at hrun1 hgv
      by_cases hneg:i<0
      ·rw[Tj hneg]at hrun1;cases hrun1
      rw[Tf hneg]at hrun1
      obtain⟨m,rfl⟩:∃m:Nat,i=m:=⟨i.toNat,by omega⟩
      rw[Rx]at hrun1
      cases he:e1[m]? with
      |none=>rw[he]at hrun1;cases hrun1
      |some e=>
       rw[he]at hrun1
       dsimp only at hrun1
       by_cases htw:e1.length<=twin m
       ·rw[Tj htw]at hrun1;cases hrun1
       rw[Tf htw]at hrun1
       have hml:=(Td.1 he).1
       have hmb:m<2000:=by omega
       have hxor:=YqP m (by omega)
       have hm1:Ya6 e1 m (-1)=e1.set m {e with r:=e.r-1}:=by unfold Ya6;rw[he];rfl
       obtain⟨f1,hf1⟩:∃f1,e1.set m {e with r:=e.r-1}=f1:=⟨_,rfl⟩
       have hfl1:f1.length=e1.length:=by rw[<-hf1];exact TT
       have hin1:=Yir hein m (d:= -1) (by omega)
       rw[hm1,hf1]at hin1
       obtain⟨e2,he2⟩:∃x,f1[twin m]? =some x:=⟨_,Ta (by omega)⟩
       have hm2:Ya6 f1 (twin m) 1=f1.set (twin m) {e2 with r:=e2.r+1}:=by unfold Ya6;rw[he2]
       obtain⟨f2,hf2⟩:∃f2,f1.set (twin m) {e2 with r:=e2.r+1}=f2:=⟨_,rfl⟩
       have hfl2:f2.length=e1.length:=by rw[<-hf2,TT];exact hfl1
       have hin2:=Yir hin1 (twin m) (d:=1) (by omega)
       rw[hm2,hf2]at hin2
       rw[hm1,hf1,hm2,hf2]at hrun1
       obtain⟨_,_,_,hr1⟩:=hein e (Tc he)
       obtain⟨_,_,_,hr2⟩:=hin1 e2 (Tc he2)
       have hef:=(hein e (Tc he)).1
       have hem:(f1.set (twin m) {e2 with r:=e2.r+1})[m]? =some {e with r:=e.r-1}:=by
        rw[S7 (YsE m),<-hf1,Si hml]
       have hfl3:(f1.set (twin m) {e2 with r:=e2.r+1}).length=f1.length:=TT
       refine zX98 ?_<;>intros
       apply YD [0,1,2,3,4,5,6,7,8,9,10,11,12,13] [14] [true,true,true]
       kernel_rfl
       kernel_rfl
       exact zy
       (simp only[Yd,nthO];rfl)
       (simp only[Yd,nthO];rfl)
       repeat'(first|(apply Ji T (f:=edF) (l:=e1) (i:=m) (q:=4) (o:=3) (b:=e) (b':={e with r:=e.r-1});(iterate 3 exact rfl);exact zd;exact he;exact rfl;exactλ_=>rfl;exact rfl;exact rfl)|refine zgd ?_|fail)
       rw[hf1]
       apply XM (ints (some ⟨gb,0,none⟩) sides by_::blk g (YcG sides A f1.length cap)::sl 444 4 A f1.length cap (f1.flatMap edF)::ints (some ⟨gs,0,none⟩) sides far::H)
       ·rw[hfl1]
        exact zc0
       apply YD [0,1,2,3,4,5,6,7,8,9,10,11,12,13,14] [15] [true,true,true]
       kernel_rfl
       kernel_rfl
       exact zy
       (simp only[Yd,nthO];rfl)
       (simp only[Yd,nthO];rfl)
       repeat'(first|(apply YuP;(iterate 3 exact rfl);rw[hxor])|(apply Ji T (f:=edF) (l:=f1) (i:=twin m) (q:=4) (o:=3) (b:=e2) (b':={e2 with r:=e2.r+1});(iterate 3 exact rfl);exact zd;exact he2;exact rfl;exactλ_=>rfl;exact rfl;exact rfl)|(apply Zm T (l:=f1.set (twin m) {e2 with r:=e2.r+1}) (f:=edF);(rw[hfl3];exact rfl);exact rfl;exact .sl zm;exact rfl;exactλ_=>rfl;exact rfl;exact rfl;omega)|refine zgd ?_|fail)
       apply hK ⟨k,f2,e.f⟩
       ·exact⟨by exact zc31,hrun1,hin2.mono zc31,by exact zc31,hef⟩
       ·exact zc31
       ·exact zc1
       ·dsimp only
        rw[hf2,show f1.length=f2.length by omega]
        exact zc0
theorem Ypm(A:Option Addr)(cap:Nat)(es:List Ed)(f t c:Int):sl 444 4 A (es.length+2) cap (es.flatMap edF++[Value.int .i64 f,.int .i64 t,.int .i64 c,.int .i64 1,.int .i64 t,.int .i64 f,.int .i64 (-c),.int .i64 0])=sl 444 4 A (es++Vb f t c).length cap ((es++Vb f t c).flatMap edF):=by
 grind [Vb,edF]
variable {B k:Nat}{w0 w:World}{H:List HP}
theorem Yhm(g sides:Nat)(es:List Ed)(f t c:Int)(hel:es.length<=100000)(hc: -1000000<=c/\c<=1000000){A:Option Addr}{cap:Nat}(hw:St B w0 (gpcs g sides A cap es H) w):
 CX B w0 353 [.pointer (some ⟨g,0,none⟩),.int .i64 f,.int .i64 t,.int .i64 c] w λv K=>∃A' cap',v=.tuple #[]/\K=gpcs g sides A' cap' (es++Vb f t c) H:=by
 refine Ya Tryz.func353 Tryz.ntmps353 rfl rfl hw ?_
 unfold gpcs
 repeat'(first|(apply YuI;exact rfl;exact rfl;omega)|refine zgd ?_|(refine zgh ?_;intro _)|(refine zgi ?_;intro _ _)|fail)
 rename_i A' cap'
 apply Yg (gpcs g sides A' cap' (es++Vb f t c) H)
 ·unfold gpcs
  have e1:(es++Vb f t c).length=es.length+2:=by simp[Vb]
  rw[<-Ypm,e1]
  exact zc0
 apply X7;exact rfl
 exact⟨A',cap',rfl,rfl⟩
variable {closed:Int->Bool}
theorem Yc7(h:closed (k:Int)=false):ZQ closed (k+1)=ZQ closed k++Vb (2*(k:Int)) (2*(k:Int)+1) 0:=by
 grind [ZQ,RD]
theorem Yfc(h:closed (k:Int)=true):ZQ closed (k+1)=ZQ closed k:=by
 grind [ZQ,RD]
theorem O7(closed:Int->Bool):∀k,(ZQ closed k).length<=2*k
 |0=>by simp[ZQ]
 |k+1=>by
  have:=O7 closed k
  cases h:closed (k:Int)
  ·rw[Yc7 h,To];simp[Vb];omega
  grind [Yfc]
theorem YjD(l:List Lk)(a:Lk):Uu (l++[a])=Uu l++Vb (2*a.1+1) (2*a.2.1) a.2.2:=by grind [Uu]
theorem Yem(l:List Lk):(Uu l).length=2*l.length:=by
 induction l with
 |nil=>rfl
 |cons a l ih=>
  grind [Uu,Vb]
structure Sz where
 k:Nat
 A:Option Addr
 cap:Nat
theorem YkQ(nodes:Nat)(l:List Lk)(closed:Int->Bool)(gm clock:Nat)(ents:Ents)(hn:nodes<=1000)(hl:l.length<=1000)(hok:ArcsOk nodes l)(hmb:MB ents closed){AL:Option Addr}{capL:Nat}(hm:blk gm (mobj ents clock)∈H)(hr:Rd B w0 H AL (l.flatMap lkF))(hw:St B w0 H w):
 CX B w0 332 [.int .i64 nodes,.slice AL l.length capL,.map (some gm)] w λv K=>∃g A cap,v=.pointer (some ⟨g,0,none⟩)/\K=gpcs g (2*nodes) A cap (Qe nodes l closed) H:=by
 refine Ya Tryz.func332 Tryz.ntmps332 rfl rfl hw ?_
 refine zX23 ?_<;>intros
 rename_i g
 refine Yh (λ(z:Sz)=>[(16,.int .i64 z.k),(15,.int .i64 nodes),(7,.pointer (some ⟨g,0,none⟩)),(1,.slice AL l.length capL),(2,.map (some gm))])
  (λz=>gpcs g (2*nodes) z.A z.cap (ZQ closed z.k) H) (λz=>z.k<=nodes) (λz=>nodes-z.k) ⟨0,none,0⟩ (Tm _) ?_ ?_ ?_
 ·exact zc1
 ·intro w hw
  have h5:=hw.nilSlice 444 4
  revert h5
  unfold gpcs
  exactλh5=>h5.perm (.swap _ _ _)
 rintro⟨k,A,cap⟩ hk K hK
 simp only at hk⊢
 have hnl:=O7 closed k
 by_cases hlt:k<nodes
 ·obtain⟨b,hb⟩:∃b,closed (k:Int)=b:=⟨_,rfl⟩
  have hmk:blk gm (mobj ents clock)∈gpcs g (2*nodes) A cap (ZQ closed k) H:=TJ _ (TJ _ hm)
  cases b with
  |true=>
   have e2:=Yfc hb
   unfold gpcs at hmk⊢
   refine Ytw ?_<;>intros
   apply hK ⟨k+1,A,cap⟩
   ·exact zc31
   ·exact zc31
   ·exact zc1
   ·dsimp only
    rw[e2]
    exact YfB
  |false=>
   have e2:=Yc7 hb
   unfold gpcs at hmk
   refine Ytw ?_<;>intros
   apply Ye _ Ytn
   exact za
   exact rfl
   exactλ_ hw=>(Yhm g (2*nodes) (ZQ closed k) (2*(k:Int)) (2*(k:Int)+1) 0 (by omega) (by omega) (hw))
   rintro _ _ ⟨A3,cap3,rfl,rfl⟩
   refine zX9 ?_
   apply hK ⟨k+1,A3,cap3⟩
   ·exact zc31
   ·exact zc31
   ·exact zc1
   ·dsimp only
    rw[e2]
    exact YfB
 ·obtain rfl:k=nodes:=by omega
  clear hK
  refine zX0 ?_<;>intros
  refine Yh (λ(z:Sz)=>[(33,.int .i64 z.k),(32,.int .i64 l.length),(31,.slice AL l.length capL),(7,.pointer (some ⟨g,0,none⟩))])
   (λz=>gpcs g (2*k) z.A z.cap (ZQ closed k++Uu (l.take z.k)) H) (λz=>z.k<=l.length) (λz=>l.length-z.k) ⟨0,A,cap⟩ (Tm _) ?_ ?_ ?_
  ·exact zc1
  ·dsimp only
   rw[Sr,show Uu []=[] from rfl,Ri]
   exact YfB
  rintro⟨j,A2,cap2⟩ hj K hK
  simp only at hj⊢
  have hal:=Yem (l.take j)
  rw[TX]at hal
  by_cases hlt:j<l.length
  ·obtain⟨a,ha⟩:∃a,l[j]? =some a:=⟨_,Ta hlt⟩
   obtain⟨⟨a1,a2⟩,⟨a3,a4⟩,⟨a5,a6⟩⟩:=hok a (Tc ha)
   have e2:Uu (l.take (j+1))=Uu (l.take j)++Vb (2*a.1+1) (2*a.2.1) a.2.2:=by rw[TG,ha];exact YjD _ _
   have hrk:Rd B w0 (gpcs g (2*k) A2 cap2 (ZQ closed k++Uu (l.take j)) H) AL (l.flatMap lkF):=(hr.cons).cons
   refine zX44 ?_<;>intros
   rename_i ga
   apply Xv (gpcs g (2*k) A2 cap2 (ZQ closed k++Uu (l.take j)) (blk ga (.cells #[.int .i64 a.1,.int .i64 a.2.1,.int .i64 a.2.2] 356 (0,0))::H))
   ·unfold gpcs
    exact zc0
   apply Ye _ Ytn
   exact za
   exact rfl
   exactλ_ hw=>(Yhm g (2*k) (ZQ closed k++Uu (l.take j)) (2*a.1+1) (2*a.2.1) a.2.2 (by rw[To];omega) (by omega) (hw))
   rintro _ _ ⟨A3,cap3,rfl,rfl⟩
   refine zX9 ?_
   apply hK ⟨j+1,A3,cap3⟩
   ·exact zc31
   ·exact zc31
   ·exact zc1
   ·dsimp only
    rw[e2,<-Ru]
    unfold gpcs
    exact zc0
  ·obtain rfl:j=l.length:=by omega
   clear hK
   rw[TP]
   refine zX0 ?_<;>intros
   apply Yf;exact rfl;exact rfl
   exact⟨g,A2,cap2,rfl,rfl⟩
theorem Yn8{nodes:Nat}{l:List Lk}{closed:Int->Bool}(h:ArcsOk nodes l):EdsIn (2*nodes) 1 (Qe nodes l closed):=by
 intro e he
 rcases TF.1 he with he|he
 ·obtain⟨v,hv,he⟩:=SQ.1 he
  have hv:=TN.1 hv
  split at he
  ·cases he
  ·simp only[Vb,TV,RJ,N4]at he
   rcases he with rfl|rfl<;>simp only<;>omega
 ·obtain⟨a,ha,he⟩:=SQ.1 he
  obtain⟨h1,h2,h3⟩:=h a ha
  simp only[Vb,TV,RJ,N4]at he
  grind
theorem YkP(nodes:Nat)(l:List Lk)(closed:Int->Bool):(Qe nodes l closed).length<=2*nodes+2*l.length:=by
 grind [Qe,Yem,O7]
variable {es:Ents}
theorem Yn2{seen:Array Nat}{e:Int×Value×Nat}(he:e∈es)(hs:seen.contains e.2.2=false):(es.filter λx=>!(seen.push e.2.2).contains x.2.2).length<(es.filter λx=>!seen.contains x.2.2).length:=by
 have h1:(es.filter λx=>!(seen.push e.2.2).contains x.2.2)=(es.filter λx=>!seen.contains x.2.2).filter λx=>!(x.2.2==e.2.2):=by
  rw[Nc]
  grind
 rw[h1]
 refine List.length_filter_lt_length_iff_exists.2 ⟨e,Rr.2 ⟨he,by simp_all⟩,by simp⟩
theorem Ypz(hn:(es.map λe=>e.2.2).Nodup){x y:Int×Value×Nat}(hx:x∈es)(hy:y∈es)(e:x.2.2=y.2.2):x=y:=by
 induction es with
 |nil=>cases hx
 |cons a l ih=>
  grind
def Yuy(mo:Option Nat)(closed:Int->Bool)(H:List HP):Prop:=match mo with
 |none=>∀v,closed v=false
 |some gm=>∃ents clock,blk gm (mobj ents clock)∈H/\MB ents closed/\MOk ents clock
structure Mz(f:Int->Bool) where
 g:Nat
 es:Ents
 c:Nat
 mb:MB es f
 ok:MOk es c
structure Lz where
 es:Ents
 c:Nat
 seen:Array Nat
 f:Int->Bool
theorem Yer(nodes:Nat)(l:List Lk)(a b to:Int)(mo:Option Nat)(closed:Int->Bool)(fuel:Nat)(r:Int×Bool×List Ed)(hn:1<=nodes/\nodes<=50)(hl:l.length<=900)(hok:ArcsOk nodes l)(ha:0<=a/\a<nodes)(hb:0<=b/\b<nodes)(ht:0<=to/\to<nodes)(hfu:fuel<=100000)(hrun:YaJ fuel nodes l a b to closed=some r)
 {AL:Option Addr}{capL B:Nat}{w0:World}{H:List HP}{w:World}(hmo:Yuy mo closed H) (hr:Rd B w0 H AL (l.flatMap lkF)) (hw:St B w0 H w):
 CX B w0 305 [.int .i64 nodes,.slice AL l.length capL,.int .i64 a,.int .i64 b,.int .i64 to,.map mo] w λv K=>∃g A cap,v=.tuple #[.int .i64 r.1,.pointer (some ⟨g,0,none⟩),.bool r.2.1]/\(r.2.2.length<=2000/\EdsIn (2*nodes) 900000 r.2.2/\ -600000000000000<=r.1/\r.1<=3000000000)/\K=gpcs g (2*nodes) A cap r.2.2 H:=by
 refine Ya Tryz.func305 Tryz.ntmps305 rfl rfl hw ?_
 iterate 8 (first|refine zga ?_|fail)
 refine XE (λ(z:Mz λv=>decide (v=a\/v=b\/v=to))=>[(15,.map (some z.g)),(0,.int .i64 nodes),(1,.slice AL l.length capL),(2,.int .i64 a),(3,.int .i64 b),(4,.int .i64 to),(5,.map mo)]) (λz=>blk z.g (mobj z.es z.c)::H) ?_ ?_
 ·intro K hK
  apply WB (.n1 1 (.n1 3 (.n1 5 (.n1 0 (.n3 2 (.n2 4 (.n1 6 (.n1 7 (.n1 8 .done))) 6 (.n1 4 (.n1 7 (.n1 8 .done)))) 4 (.n2 2 (.n1 6 (.n1 7 (.n1 8 .done))) 6 (.n1 2 (.n1 7 (.n1 8 .done)))) 6 (.n2 2 (.n1 4 (.n1 7 (.n1 8 .done))) 4 (.n1 2 (.n1 7 (.n1 8 .done))))))))) [] []
  kernel_rfl
  kernel_rfl
  exact zy
  exact rfl
  repeat'(first|(apply OS;exact rfl;intro gs)|(apply Yrk (kt:=3) (et:=4);(iterate 3 exact rfl);kernel_rfl;(intro _ _;exact zd);(first|assumption|exact MB.nil);(first|assumption|exact MOk.nil);intro _ _ _ _)|(apply YoY;(simp only[nthO];rfl);(simp only[nthO];rfl);(simp only[nthO];rfl))|(apply Yhl;(simp only[nthO];rfl);(simp only[nthO];rfl))|(apply Yhk;(simp only[nthO];rfl))|(apply WE;try exact zl)|(apply Yj;try exact zl)|refine zgd ?_|fail)
  all_goals(
   rename_i es3 c3 m3 o3
   refine hK ⟨gs,es3,c3,m3.ext λv=>?_,o3⟩ _ _ ?_ ?_
   ·by_cases h1:v=a<;>by_cases h2:v=b<;>by_cases h3:v=to<;>simp[h1,h2,h3]
   ·exact zu
   ·exactλw hw=>hw)
 rintro⟨gs,es0,c0,mb0,ok0⟩
 dsimp only
 apply Xm
 refine XE (λ(z:Mz (UM a b to closed))=>[(15,.map (some z.g)),(0,.int .i64 nodes),(1,.slice AL l.length capL),(2,.int .i64 a),(3,.int .i64 b),(4,.int .i64 to)]) (λz=>blk z.g (mobj z.es z.c)::H) ?_ ?_
 ·intro KK hKK
  cases mo with
  |none=>
   repeat'(first|(apply Yhf (kt:=3) (et:=4);exact rfl;kernel_rfl;exact rfl;intro it)|refine zgb ?_|fail)
   refine Yh (λ(_:Unit)=>[(28,.pointer (some ⟨it,0,none⟩)),(15,.map (some gs)),(0,.int .i64 nodes),(1,.slice AL l.length capL),(2,.int .i64 a),(3,.int .i64 b),(4,.int .i64 to)]) (λ_=>blk it (.mapIter none 0 #[] 0)::blk gs (mobj es0 c0)::H) (λ_=>True) (λ_=>0) () trivial ?_ (λw hw=>hw) ?_
   ·exact zc1
   intro _ _ K hK
   clear hK
   repeat'(first|(apply Yjz;exact rfl;exact zm;exact rfl)|refine zgc ?_|fail)
   refine hKK ⟨gs,es0,c0,mb0.ext λv=>?_,ok0⟩ _ _ ?_ ?_
   ·unfold UM;rw[hmo v,NJ]
   ·exact zc1
   ·exact zc56
  |some gm=>
   obtain⟨ents,clock,hm,hmb,hmk⟩:=hmo
   repeat'(first|(apply YoM (kt:=3) (et:=4) (g:=gm);exact rfl;exact TJ _ hm;kernel_rfl;exact rfl;intro it)|refine zgb ?_|fail)
   refine Yh (λ(_:Lz)=>[(28,.pointer (some ⟨it,0,none⟩)),(15,.map (some gs)),(0,.int .i64 nodes),(1,.slice AL l.length capL),(2,.int .i64 a),(3,.int .i64 b),(4,.int .i64 to)]) (λz=>blk it (.mapIter (some gm) clock z.seen clock)::blk gs (mobj z.es z.c)::H)
    (λz=>MB z.es z.f/\MOk z.es z.c/\(∀v,z.f v=true->UM a b to closed v=true)/\(∀v,(v=a\/v=b\/v=to)->z.f v=true)/\∀e∈ents,z.seen.contains e.2.2=true->z.f e.1=true) (λz=>(ents.filter λx=>!z.seen.contains x.2.2).length) ⟨es0,c0,#[],λv=>decide (v=a\/v=b\/v=to)⟩ ⟨mb0,ok0,λv h=>by unfold UM;simp only at h;rw[h];rfl,λv h=>Ti h,λe _ h=>by simp at h⟩ ?_ (λw hw=>hw) ?_
   ·exact zc1
   rintro⟨es1,c1,seen,f⟩ ⟨i1,i2,i3,i4,i5⟩ K hK
   simp only at i1 i2 i3 i4 i5⊢
   repeat'(first|apply Xm|apply YbO|apply YY|fail)
   apply Yrp (g:=gm)
   ·exact rfl
   ·exact TJ _ (TJ _ hm)
   ·exact rfl
   ·exact YtT
   ·exact hmk.lt
   ·exact Ybk
   ·intro hall
    clear hK
    refine zX9 ?_
    refine hKK ⟨gs,es1,c1,i1.ext λv=>?_,i2⟩ _ _ ?_ ?_
    ·cases hs:UM a b to closed v with
     |true=>
      unfold UM at hs
      rcases RO _ _▸hs with h|h
      ·exact i4 v (Rn h)
      ·obtain⟨e,he,rfl⟩:=hmb.at_ h
       exact i5 e he (hall e he)
     |false=>
      cases hf:f v with
      |false=>rfl
      |true=>rw[i3 v hf]at hs;cases hs
    ·exact zc1
    ·exact zc56
   ·rintro⟨ek,ev,eb⟩ he hseen
    simp only at hseen⊢
    have hec:=hmb.mem he
    repeat'(first|(apply YoF (g:=gm) (e:=(ek,ev,eb));exact rfl;exact TJ _ (TJ _ hm);exact zm;exact rfl;exact he;exact hmk.nd)|(apply Yla (kt:=3) (et:=4);(iterate 3 exact rfl);kernel_rfl;(intro _ _;exact zd);exact i1;exact i2;intro es2 c2 m2 o2 _ _)|refine zgc ?_|fail)
    apply hK ⟨es2,c2,seen.push eb,λv=>decide (v=ek)||f v⟩
    ·refine⟨m2,o2,λv h=>?_,λv h=>?_,λe he2 h=>?_⟩
     ·simp only at h
      rcases RO _ _▸h with h|h
      ·obtain rfl:=Rn h
       unfold UM
       rw[hec,Bool.or_true]
      ·exact i3 v h
     ·simp only;rw[i4 v h,Bool.or_true]
     ·simp only at h⊢
      rw[Array.contains_push]at h
      rcases RO _ _▸h with h|h
      ·rw[i5 e he2 h,Bool.or_true]
      ·have:e=(ek,ev,eb):=Ypz hmk.nd he2 he (by simpa using h)
       rw[this];simp
    ·exact Yn2 (e:=(ek,ev,eb)) he hseen
    ·exact zc1
    exact zc19
 rintro⟨gs2,es2,c2,mb2,ok2⟩
 dsimp only
 have hsl:=YkP nodes l (UM a b to closed)
 have hsi:=Yn8 (closed:=UM a b to closed) hok
 unfold YaJ at hrun
 cases h1:Yfm fuel (2*nodes) (Qe nodes l (UM a b to closed)) (2*a+1) (2*to)with
 |none=>rw[h1]at hrun;cases hrun
 |some r1=>
  rw[h1]at hrun
  obtain⟨x,ok,es1⟩:=r1
  dsimp only at hrun
  cases h2:Yfm fuel (2*nodes) es1 (2*b+1) (2*to)with
  |none=>rw[h2]at hrun;cases hrun
  |some r2=>
   rw[h2]at hrun
   obtain⟨y,is,es3⟩:=r2
   obtain rfl:=Tz hrun
   refine zX4 ?_
   apply Ye _ Ywv
   exact za
   exact rfl
   exactλ_ hw=>(YkQ nodes l (UM a b to closed) gs2 c2 es2 (by omega) (by omega) hok mb2 TB hr.cons (hw))
   rintro _ _ ⟨g,A,cap,rfl,rfl⟩
   refine zX2 ?_
   apply Ye _ Ytj
   exact za
   exact rfl
   exactλ_ hw=>(Yfn g (2*nodes) (Qe nodes l (UM a b to closed)) (2*a+1) (2*to) fuel 1 (x,ok,es1) (by omega) hsi (by omega) (by omega) hfu (by omega) (by omega) h1 (hw))
   rintro _ _ ⟨rfl,⟨q1,q2,q3,q4⟩,rfl⟩
   dsimp only at q1 q2 q3 q4⊢
   refine zX2 ?_
   apply Ye _ Ytj
   exact za
   exact rfl
   exactλ_ hw=>(Yfn g (2*nodes) es1 (2*b+1) (2*to) fuel (1+2*(fuel:Int)) (y,is,es3) (by omega) q2 (by omega) (by omega) hfu (by omega) (by omega) h2 (hw))
   rintro _ _ ⟨rfl,⟨p1,p2,p3,p4⟩,rfl⟩
   dsimp only at p1 p2 p3 p4⊢
   cases ok
   all_goals(
    repeat'(first|refine zgc ?_|fail)
    apply Yg (gpcs g (2*nodes) A cap es3 H)
    ·unfold gpcs
     exact zk
    apply UT;(iterate 4 exact rfl)
    exact⟨g,A,cap,rfl,⟨by omega,p2.mono (by omega),by omega,by omega⟩,rfl⟩)
end Go.Proofs.YtambgjgljcadlaaGreatDoor
