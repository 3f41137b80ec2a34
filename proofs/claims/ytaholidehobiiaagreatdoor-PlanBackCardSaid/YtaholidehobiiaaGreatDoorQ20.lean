/- Lemmas for the claim, part 20. -/
import Derived.Test.YtaholidehobiiaaGreatDoorQ16
import Derived.Test.YtaholidehobiiaaGreatDoorQ17
set_option maxRecDepth 100000
set_option maxHeartbeats 8000000
set_option linter.all false
namespace Go.Proofs.YtaholidehobiiaaGreatDoor
open Go.RowKit Go.Eng Go.Nw Go.Rt
def wordF:List UInt8:=[102,108,111,119]
def wordR:List UInt8:=[114,111,117,116,101]
def Ye1:List UInt8:=[98,111,117,110,100]
def Ye2:List UInt8:=[115,108,111,116,115]
def inL(l:List Int)(a b:Int):Bool:=l.all λx=>decide (a<=x/\x<=b)
def rtOk(r l:List Int):Bool:=decide (2<=r.length/\r.length<=9)&&inL r 0 31&&decide (1<=l.length/\l.length<=64)&&inL l 0 511
def UN(c:Clm):Bool:=decide (0<=c.flow/\c.flow<=255/\1<=c.routes.length/\c.routes.length<=2/\c.bounds.length=c.routes.length/\c.worst.length=c.routes.length/\c.slots.length=c.routes.length)&&
 inL c.bounds 1 512&&inL c.worst 0 511&&(List.range c.routes.length).all λi=>rtOk (rtAt c.routes i) (rtAt c.slots i)
def YmR(c:List Clm)(i:Nat):Bool:=UN (Uh c i)&&(decide (i=0)||decide ((Uh c (i-1)).flow<(Uh c i).flow))
def Yb8(c:List Clm):Bool:=decide (c.length<=16)&&(List.range c.length).all (YmR c)
def YnM(c:Clm)(i:Nat):List (List UInt8):=
 ZO wordR (rtAt c.routes i)::((if i<c.bounds.length then [ZO Ye1 [c.bounds.getD i 0,c.worst.getD i 0]]else [])++(if i<c.slots.length then [ZO Ye2 (rtAt c.slots i)]else []))
def YnL(c:Clm):List (List UInt8):=ZO wordF [c.flow]::(List.range c.routes.length).flatMap (YnM c)
def YnT(c:List Clm):List UInt8:=(c.flatMap YnL).flatMap λp=>p++[10]
def Uq(c:List Clm):List UInt8×Int:=if Yb8 c=false then([],1)else(YnT c,0)
structure Pst where
 c:List Clm
 last:Nat
def Yml:Pst:=⟨[],3⟩
structure FormD(c:Clm):Prop where
 f:0<=c.flow/\c.flow<=255
 n:1<=c.routes.length/\c.routes.length<=2
 b:c.bounds.length=c.routes.length
 w:c.worst.length=c.routes.length
 s:c.slots.length=c.routes.length
 bs:∀x∈c.bounds,1<=x/\x<=512
 ws:∀x∈c.worst,0<=x/\x<=511
 rs:∀i,i<c.routes.length->2<=(rtAt c.routes i).length/\(rtAt c.routes i).length<=9/\∀x∈rtAt c.routes i,0<=x/\x<=31
 ls:∀i,i<c.routes.length->1<=(rtAt c.slots i).length/\(rtAt c.slots i).length<=64/\∀x∈rtAt c.slots i,0<=x/\x<=511
variable {l:List Int}
theorem YcM{a b:Int}:inL l a b=true↔∀x∈l,a<=x/\x<=b:=by
 grind [inL]
theorem Yls{c:Clm}:UN c=true↔FormD c:=by
 unfold UN
 simp only[Tq,Tt,YcM,TF,TQ]
 constructor
 ·rintro⟨⟨⟨⟨h1,h2,h3,h4,h5,h6,h7⟩,h8⟩,h9⟩,h10⟩
  have hr:∀i,i<c.routes.length->_:=λi hi=>h10 i hi
  refine⟨⟨h1,h2⟩,⟨h3,h4⟩,h5,h6,h7,h8,h9,λi hi=>?_,λi hi=>?_⟩
  ·have:=hr i hi
   unfold rtOk at this
   simp_all [YcM]
  ·have:=hr i hi
   unfold rtOk at this
   simp_all [YcM]
 ·intro h
  refine⟨⟨⟨⟨h.f.1,h.f.2,h.n.1,h.n.2,h.b,h.w,h.s⟩,h.bs⟩,h.ws⟩,λi hi=>?_⟩
  have h1:=h.rs i hi
  have h2:=h.ls i hi
  simp_all [rtOk,YcM]
variable {c:List Clm}{i:Nat}
theorem Ylc(h:i<c.length):c[i]? =some (Uh c i):=by
 grind [Uh]
theorem Yju(h:Yb8 c=true):c.length<=16/\∀x∈c,FormD x:=by
 unfold Yb8 at h
 rw[Tq,Tt]at h
 refine⟨h.1,λx hx=>?_⟩
 obtain⟨i,hi⟩:=TS.1 hx
 have hl:=(Tj.1 hi).1
 have:=TF.1 h.2 i (TQ.2 hl)
 unfold YmR at this
 grind [Ylc,Yls]
theorem Ygg(h:i<l.length):l.getD i 0∈l:=by
 simp_all
structure Rdr(p:Pst):Prop where
 full:∀i x,p.c[i]? =some x->i+1<p.c.length->x.bounds.length=x.routes.length/\x.worst.length=x.routes.length/\x.slots.length=x.routes.length/\1<=x.routes.length/\x.routes.length<=2
 some_:p.c=[]->p.last=3
 at_:∀cs x,p.c=cs++[x]->
  (p.last=0/\x.routes=[]/\x.bounds=[]/\x.worst=[]/\x.slots=[])\/
  (p.last=1/\1<=x.routes.length/\x.routes.length<=2/\x.bounds.length+1=x.routes.length/\x.worst.length+1=x.routes.length/\x.slots.length+1=x.routes.length)\/
  (p.last=2/\1<=x.routes.length/\x.routes.length<=2/\x.bounds.length=x.routes.length/\x.worst.length=x.routes.length/\x.slots.length+1=x.routes.length)\/
  (p.last=3/\1<=x.routes.length/\x.routes.length<=2/\x.bounds.length=x.routes.length/\x.worst.length=x.routes.length/\x.slots.length=x.routes.length)
theorem Rdr.start:Rdr Yml:=⟨λi x h=>by simp[Yml]at h,λ_=>rfl,λcs x h=>by simp[Yml]at h⟩
open Go.RowKit Go.Eng Go.Nw
theorem WL(word:List UInt8)(l:List Int)(h:∀n∈l,0<=n/\n<10000)(h5:l.length<=100)(hwd:word.length<=100){A:Option Addr}{cap B:Nat}{w0:World}{H:List HP}{w:World}(ht:TabsB B w0)(hr:Rd B w0 H A (l.flatMap numF))(hw:St B w0 H w):
 CX B w0 130 [strV word,.slice A l.length cap] w λv K=>v=strV (X0 word l)/\K=H:=by
 refine Yc Tryz.func130 Tryz.ntmps130 rfl rfl hw ?_
 repeat'(first|apply(zs1 ?_)|apply(zs2 ?_)|(apply zg4;refine zs9 ?_)|apply(zs65 ?_)|apply(zs68 ?_)|apply(zs69 ?_)|apply(zs70 ?_)|apply(zs73 ?_)|fail)
 refine Yg (λ(i:Nat)=>[(9,.int .i64 i),(8,.int .i64 l.length),(7,.slice A l.length cap),(0,strV (ZO word (l.take i)))]) (λ_=>H) (λi=>i<=l.length) (λi=>l.length-i) 0 (Tm _) ?_ (λw hw=>hw) ?_
 ·have e0:ZO word (l.take 0)=word:=by simp[ZO]
  rw[e0]
  exact zc1
 intro i hi K hK
 have hbl:=Ox (w:=word) (l:=l.take i) λn hn=>h n (SB hn)
 have hlt0:(l.take i).length<=100:=by grind
 by_cases hlt:i<l.length
 ·obtain⟨n,hn⟩:∃n,l[i]? =some n:=⟨_,Ta hlt⟩
  have hnb:=h n (Tc hn)
  have hil:=YaK hnb
  repeat'(first|((first|apply Ya Ynb|apply Yb Ynb);exact za;exact rfl;exactλ_ hw=>(Ygl n (by omega) (by omega) ht hw))|(apply WF [32] (Lib.itoa n);(iterate 3 exact rfl);(show 1+_<=_;omega))|(apply WF (ZO word (l.take i)) ([32]++Lib.itoa n);(iterate 3 exact rfl);(rw[To];show _+(1+_)<=_;omega))|apply(zs1 ?_)|apply(zs2 ?_)|(apply zg3;refine zs60 ?_)|(apply zg5;refine zs57 ?_)|(apply(zs17 ?_ ?_)<;>intro _<;>try exact zo)|(apply zg13;refine zs30 ?_)|apply(zs65 ?_)|apply(zs68 ?_)|apply(zs69 ?_)|apply(zs70 ?_)|(apply zg27;refine zs71 ?_)|apply(zs73 ?_)|apply(zs76 ?_)|apply(zs79 ?_)|fail)
  apply hK (i+1)
  ·show i+1<=l.length
   omega
  ·omega
  ·rw[TN,hn,SL,Ybe]
   exact zc1
  exact zc17
 exact zc14
variable {X:List Cel}
theorem Qd{Y:List Cel}{k:Nat}(h:k<X.length):celL (X++Y) k=celL X k:=by
 unfold celL;rw[Tu,Tu,RY h]
theorem Ydj(X:List Cel)(c:Cel):celL (X++[c]) X.length=c:=by
 unfold celL;rw[Tu,RG (TJ _)];simp
theorem J9(X:List Cel)(c:Cel)(k:Nat):celL (c::X) (k+1)=celL X k:=by
 unfold celL;simp
theorem Ybf(X:List Cel)(c:Cel):celL (c::X) 0=c:=rfl
theorem QW(n:Net)(X Y:List Cel)(j:Nat)(node:Int):∀k,k<=X.length->YB n (X++Y) j node k=YB n X j node k
 |0,_=>rfl
 |k+1,h=>by rw[YB,YB,QW n X Y j node k (by omega),Qd (by omega)]
theorem Ybk(n:Net)(X:List Cel)(c:Cel)(i:Nat)(node:Int):∀k,YB n (c::X) (i+1) node (k+1)=(powN n (YE c) node+powN n (toC c) node)+YB n X i node k
 |0=>by rw[YB,YB,YB,Tf (by omega),Ybf];omega
 |k+1=>by
  rw[YB,Ybk n X c i node k,YB,J9]
  by_cases h:k=i
  ·rw[Tn h,Tn (by omega)];omega
  ·rw[Tf h,Tf (by omega)];omega
theorem QV(n:Net)(X:List Cel)(c:Cel)(node:Int)(j:Nat):∀k,k<=j->YB n (c::X) 0 node (k+1)=YB n X j node k
 |0,_=>by rw[YB,YB,YB,Tn rfl];omega
 |k+1,h=>by
  rw[YB,QV n X c node j k (by omega),YB,J9,Tf (by omega),Tf (by omega)]
theorem Yow(X:List Cel)(c:Cel)(i:Nat)(hi:i<X.length)(T:Cel->Bool):((List.range (X++[c]).length).any λk=>decide (k≠i)&&T (celL (X++[c]) k))=(((List.range X.length).any λk=>decide (k≠i)&&T (celL X k))||T c):=by
 rw[To,TO,Rx,Nu]
 congr 1
 ·rw[NE,T8,T8]
  constructor
  ·rintro⟨k,hk,h⟩;refine⟨k,hk,?_⟩;rw[Qd (TQ.1 hk)]at h;exact h
  ·rintro⟨k,hk,h⟩;refine⟨k,hk,?_⟩;rw[Qd (TQ.1 hk)];exact h
 ·rw[List.any_cons,List.any_nil,Bool.or_false,Ydj,Td (show X.length≠i by omega),RO]
theorem You(X:List Cel)(c:Cel)(i:Nat)(T:Cel->Bool):((List.range (c::X).length).any λk=>decide (k≠i+1)&&T (celL (c::X) k))=(T c||(List.range X.length).any λk=>decide (k≠i)&&T (celL X k)):=by
 rw[TM,S7,List.any_cons,List.any_map,Ybf,Td (show 0≠i+1 by omega),RO]
 congr 1
 rw[NE,T8,T8]
 constructor
 ·rintro⟨k,hk,h⟩;refine⟨k,hk,?_⟩;simp only[Function.comp,J9]at h;simpa using h
 ·rintro⟨k,hk,h⟩;refine⟨k,hk,?_⟩;simp only[Function.comp,J9];simpa using h
theorem Yov(X:List Cel)(c:Cel)(T:Cel->Bool):((List.range (X++[c]).length).any λk=>decide (k≠X.length)&&T (celL (X++[c]) k))=(List.range X.length).any λk=>T (celL X k):=by
 rw[To,TO,Rx,Nu,List.any_cons,List.any_nil,Bool.or_false,show decide (X.length≠X.length)=false by simp,SX,Bool.or_false]
 rw[NE,T8,T8]
 constructor
 ·rintro⟨k,hk,h⟩;refine⟨k,hk,?_⟩;rw[Qd (TQ.1 hk),Tq]at h;exact h.2
 ·rintro⟨k,hk,h⟩
  refine⟨k,hk,?_⟩
  have:=TQ.1 hk
  rw[Qd this,Tq]
  exact⟨Td (by omega),h⟩
theorem Yot(X:List Cel)(c:Cel)(T:Cel->Bool):((List.range (c::X).length).any λk=>decide (k≠0)&&T (celL (c::X) k))=(List.range X.length).any λk=>T (celL X k):=by
 rw[TM,S7,List.any_cons,List.any_map,show decide ((0:Nat)≠0)=false by simp,SX,Ny]
 rw[NE,T8,T8]
 constructor
 ·rintro⟨k,hk,h⟩;refine⟨k,hk,?_⟩;simp only[Function.comp,J9]at h;simpa using h
 ·rintro⟨k,hk,h⟩;refine⟨k,hk,?_⟩;simp only[Function.comp,J9];simpa using h
variable {c c':Cel}
theorem O3{d:Cel}(hf:YE c=YE c')(ht:toC c=toC c'):YH c d=YH c' d/\YH d c=YH d c':=by
 unfold YH;rw[hf,ht];exact⟨rfl,rfl⟩
theorem YfX(n:Net)(X:List Cel)(c:Cel)(i:Nat)(hi:i<X.length)(node:Int):YB n (X++[c]) i node (X++[c]).length=YB n X i node X.length+(powN n (YE c) node+powN n (toC c) node):=by
 rw[To,TO,YB,QW n X [c] i node _ (TJ _),Tf (by omega),Ydj]
theorem Ydz(n:Net)(X:List Cel)(c:Cel)(node:Int):YB n (X++[c]) X.length node (X++[c]).length=YB n X X.length node X.length:=by
 rw[To,TO,YB,QW n X [c] _ node _ (TJ _),Tn rfl];omega
theorem YdS{n:Net}(hf:YE c=YE c')(ht:toC c=toC c'):JS n (X++[c])=JS n (c'::X):=by
 have h1:∀i,i<X.length->ZS n (X++[c]) i=ZS n (c'::X) (i+1):=λi hi=>by
  unfold ZS
  rw[Qd hi,J9,Yow X c i hi,You,YfX n X c i hi,YfX n X c i hi,TM,Ybk,Ybk,(O3 hf ht).2,hf,ht,Bool.or_comm (YH _ c')]
  rw[Int.add_comm (YB n X i (toC _) _),Int.add_comm (YB n X i (YE _) _)]
 have h2:ZS n (X++[c]) X.length=ZS n (c'::X) 0:=by
  unfold ZS
  rw[Ydj,Ybf,Yov,Yot,Ydz,Ydz,TM,QV n X c' _ X.length _ (TJ _),QV n X c' _ X.length _ (TJ _),hf,ht]
  have:(λk=>YH c (celL X k))=λk=>YH c' (celL X k):=funext λk=>(O3 hf ht).1
  rw[this]
 unfold JS
 congr 1
 rw[To,TO,Rx,List.all_append,TM,S7,NR,List.all_nil,Bool.and_true,NR,List.all_map,h2,Bool.and_comm]
 congr 1
 rw[NE,TF,TF]
 constructor
 ·intro h i hi;have:=h i hi;rw[h1 i (TQ.1 hi)]at this;exact this
 ·intro h i hi;rw[h1 i (TQ.1 hi)];exact h i hi
def fitE(n:Net)(l:List Cel)(slot o a b:Int):Bool:=!(l.any λd=>decide (d.1=slot)&&YH d (0,0,a,b,0))&&JS n (l.filter (atP slot o)++[(0,0,a,b,0)])
def hasC(l:List Cel)(slot a b id:Int):Bool:=l.any λd=>decide (d.1=slot/\YE d=a/\toC d=b/\Xf d=id)
def J1(n:Net)(s:Sch)(a b id slot:Int):Option Sch:=
 if hasC s.cells slot a b id=true then some s else((List.range s.off.toNat).find? λo:Nat=>fitE n s.cells slot o a b).map λo:Nat=>⟨s.len,s.off,insC s.cells (slot,(o:Int),a,b,id)⟩
def hopA(n:Net)(a b id:Int):Nat->Nat->Sch->Int->Option (Sch×Int)
 |_,0,s,z=>some (s,z)
 |0,_+1,_,_=>none
 |f+1,k+1,s,z=>match J1 n s a b id (z.tmod s.len)with
  |some t=>hopA n a b id f k t (z+1)
  |none=>hopA n a b id f (k+1) s (z+1)
def relA(n:Net)(id endd:Int):List Lk->Sch->Int->Option Sch
 |[],s,_=>some s
 |l::ls,s,z=>match hopA n l.1 l.2.1 id (endd-z).toNat (Y7 l) s z with
  |none=>none
  |some (t,y)=>relA n id endd ls t y
def YaX(n:Net)(f:Flw)(ls:List Lk):Nat->Sch->Int->Option Sch
 |0,s,_=>some s
 |k+1,s,z=>if z<s.len then match relA n f.1 (z+f.2.2.2.2.2) ls s z with
  |none=>none
  |some t=>YaX n f ls k t (z+f.2.2.2.1)
  else some s
def JY(n:Net)(f:Flw):List (List Int)->Sch->Option Sch
 |[],s=>some s
 |r::rs,s=>match YaX n f (Yp n r) s.len.toNat s f.2.2.2.2.1 with
  |none=>none
  |some t=>JY n f rs t
end Go.Proofs.YtaholidehobiiaaGreatDoor
namespace Go.Eng
open Go.RowKit
section
variable {P:Program}{B:Nat}{w0:World}{Q:Exit->Act->World->Prop}{env:Env}{H:List HP}{m:Mode}{n:Shp}{ops:Array Oper}{rest:List Oper}{d:Nat}{ty:TypeId}{pos:String}{after:Array Edge}{xt yt:TypeId}{x y:Operand}{k:IntKind}{a b:Int}
theorem Ud(T:Tab P){α:Type}{f:α->List Value}{l:List α}{t i q o k:Nat}{b:α}{x:Operand}{A:Option Addr}{vs:List Value}(hx:evo env x=some (sptr A (i*q+o)))(hr:Rd B w0 H A (l.flatMap f))(hb:l[i]? =some b)(hq:∀a,(f a).length=q)
 (ht:look T.ag t=some k) (ho:Nat.ble (o+k) q=true) (h0:Nat.blt 0 k=true) (hv:subL o k (f b)=vs) (hk:Nat.beq vs.length k=true) (hn:Nat.ble (d+1) n.k=true)
 (h:VL P m n B w0 ops Q rest ((d,.agg vs.toArray)::env) H):VL P m n B w0 ops Q (⟨some d,.load t x,ty,pos,after,none⟩::rest) env H:=by
 refine YF rfl rfl hn rfl (λa w ha hw=>?_) h
 have hk:=Nat.eq_of_beq_eq_true hk
 have hk0:0<k:=by simpa using h0
 have hok:o+k<=q:=TX ho
 have hget:∀j v,vs[j]? =some v->(l.flatMap f)[i*q+o+j]? =some v:=λj v hj=>by
  have hlt:j<k:=by have:=(Tj.1 hj).1;rwa [hk]at this
  rw[N2,Wq hq l i (o+j) b hb (by omega)]
  rw[<-hv,subL,SE,Tn hlt,RI]at hj
  exact hj
 obtain⟨g,u,rfl,_⟩:=hr w hw _ _ (hget 0 _ (Ta (by rw[hk];exact hk0)))
 have hl:=run_loadCells_list (P:=P) w ⟨g,u+(i*q+o),none⟩ vs (λj v hj=>by
  obtain⟨g',u',e1,hc⟩:=hr w hw _ _ (hget j v hj)
  injection e1 with e1
  injection e1 with e1 e2
  subst e1 e2
  rw[Addr.add_lit,N2];exact hc)
 rw[hk]at hl
 simp[execOp,ha.eval hx,sptr,Instr.loadAt,Instr.sureAddr,loadVar,Z8 (T.aggs ht),Zw (J7 (T.aggs ht)),Addr.add_lit,hl]
end
section
variable {P:Program}{ops:Array Oper}{Q:Exit->Act->World->Prop}
def NoQ:Exit->Act->World->Prop:=λ_ _ _=>False
theorem YrH:¬LetsOut NoQ:=by rintro⟨_,_,h⟩;exact h
def Ye3(P:Program)(ops:Array Oper)(S:World->Prop)(last:List Nat)(Z:Array Bool->Act->World->Prop):Nat->Array Bool->Act->World->Prop
 |0,listed,a,w=>(∀j,j<ops.size->last.contains j=false->listed.getD j false=true)/\Z listed a w
 |m+1,listed,a,w=>Region.ready .any ops listed≠[]/\∀i∈Region.ready .any ops listed,last.contains i=false/\wpOp P ops NoQ i (λa' w'=>S w'/\Ye3 P ops S last Z m (listed.setIfInBounds i true) a' w') a w
variable {o:Oper}{a:Act}{w:World}{K:Act->World->Prop}
theorem YwD(h:o.wp P a w K NoQ):o.wpIn Fence.wide 0 P a w K Q:=by
 refine⟨λf _=>trivial,?_⟩
 unfold Oper.wp at h
 have hs:Oper.semAt Fence.wide.round a.eval o=execOp a.eval o:=Oper.semAt_none _ _
 rw[hs]
 generalize(execOp a.eval o).run P w=res at h⊢
 cases res with
 |ok x w'=>
  cases x<;>simp only[Oper.upon,Oper.uponIn]at h⊢<;>first
   |exact h
   |(refine⟨λhd=>by simp[Fence.wide]at hd,?_⟩
     refine CallsIn.mono (callsIn_wide.2 h) λe w'' he=>?_
     cases e with
     |returned u=>exact he
     |panicked c=>exact he.elim
     |outgrown=>obtain⟨_,_,he⟩:=he;exact he.elim)
   |(refine⟨λhd=>by simp[Fence.wide]at hd,λc cs _=>?_⟩
     obtain⟨v,w2,k1,k2⟩:=h c cs
     exact⟨v,w2,k1,stepsIn_wide.2 k2⟩)
   |exact h.elim
 |halt x w'=>cases x<;>simp only[Oper.upon,Oper.uponIn]at h⊢<;>first|exact h.elim|exact h
theorem YcI{S:World->Prop}{last:List Nat}{Z:Array Bool->Act->World->Prop}{k:Nat}(hz:∀listed a w,Z listed a w->wpAnyIn Fence.wide 0 P .any ops Q k listed a w):∀(m:Nat) (listed:Array Bool) (a:Act) (w:World),Ye3 P ops S last Z m listed a w->wpAnyIn Fence.wide 0 P .any ops Q (m+k) listed a w
 |0,listed,a,w,h=>by rw[RH];exact hz _ _ _ h.2
 |m+1,listed,a,w,h=>by
  rw[show m+1+k=(m+k)+1 by omega]
  refine⟨λe=>absurd e h.1,λi hi=>?_⟩
  have h2:=(h.2 i hi).2
  unfold wpOp at h2
  unfold wpOpIn
  cases ho:ops[i]? with
  |none=>rw[ho]at h2;exact YcI hz m _ _ _ h2.2
  |some o=>
   rw[ho]at h2
   simp only at h2⊢
   split
   ·rename_i hw
    rw[Tn hw]at h2
    rcases h2 with h2|⟨_,h2⟩
    ·exact YwD (Oper.wp_mono (λa w h=>YcI hz m _ a w h.2) h2)
    ·exact(YrH h2).elim
   ·rename_i hw
    rw[Tf hw]at h2
    exact⟨λf _=>trivial,YcI hz m _ _ w h2.2⟩
variable {i:Nat}
theorem YeU{listed:Array Bool}(h:listed.getD i true=false):listed.getD i false=false:=by
 rcases Su i listed.size with h'|h'
 ·simp[h']at h⊢;exact h
 ·simp[Array.getElem?_eq_none h']at h
variable {last:List Nat}
theorem Yk0{S:World->Prop}{Z:Array Bool->Act->World->Prop}{oi:Oper}{v:Value}(hi:ops[i]? =some oi)(hsel:∀(j:Nat) (o:Oper) cs b,ops[j]? =some o->o.op≠.select cs b)
 (hlast:∀j,last.contains j=true->∃f,ancB ops f j i=true) (hil:last.contains i=false):
 ∀(m:Nat) (listed:Array Bool) (a:Act) (w:World),Closed ops listed->
  (∀j oj,ops[j]? =some oj->j≠i->listed.getD j true=false->(∀e∈oj.after,Region.binds .any e=true->e.on≠i)->oi.apart ops oj=true)->
  i∈Region.ready .any ops listed->YieldsIf P ops S oi v a->S w->
  Ye3 P ops S last Z m (listed.setIfInBounds i true) (a.put oi.dst v) w->Ye3 P ops S last Z (m+1) listed a w:=by
 intro m
 induction m with
 |zero=>
  intro listed a w hcl _ hr hy hS H
  refine⟨λh=>(by rw[h]at hr;cases hr),λj hj=>?_⟩
  by_cases hji:j=i
  ·subst hji;exact⟨hil,hy.wpOp hi hS ⟨hS,H⟩⟩
  ·obtain⟨hjun,oj,hoj,hall⟩:=mem_ready.1 hj
   have hun':=YeU (mem_ready.1 hr).1
   cases hc:last.contains j with
   |true=>
    obtain⟨f,hf⟩:=hlast j hc
    have:=Uf hcl f j i (λok hk e he hb=>by
     obtain rfl:ok=oj:=Tv (hk.symm.trans hoj)
     exact hall e he hb) hf
    rw[hun']at this
    cases this
   |false=>
    have h1:=H.1 j (Si.1 hoj).1 hc
    rw[getD_set_ne false (NU hji),YeU hjun]at h1
    cases h1
 |succ m ih=>
  intro listed a w hcl hfree hr hy hS H
  refine⟨λh=>(by rw[h]at hr;cases hr),λj hj=>?_⟩
  by_cases hji:j=i
  ·subst hji;exact⟨hil,hy.wpOp hi hS ⟨hS,H⟩⟩
  ·obtain⟨hnl,h1⟩:=H.2 j (ready_mono hj hji)
   obtain⟨hjun,oj,hoj,hall⟩:=mem_ready.1 hj
   have hun':=YeU (mem_ready.1 hr).1
   have hnot:∀e∈oj.after,Region.binds .any e=true->e.on≠i:=λe he hb heq=>by
    have h2:=hall e he hb
    rw[heq,hun']at h2
    cases h2
   have h2:=wpOp_putIf hoj (hfree j oj hoj hji hjun hnot) (λcs b=>hsel i oi cs b hi) (λcs b=>hsel j oj cs b hoj) (λc a w h=>h.elim) hy h1
   have hfree':∀k ok,ops[k]? =some ok->k≠i->(listed.setIfInBounds j true).getD k true=false->
    (∀e∈ok.after,Region.binds .any e=true->e.on≠i)->oi.apart ops ok=true:=λk ok hk hki hu hno=>by
    refine hfree k ok hk hki ?_ hno
    by_cases hjk:j=k
    ·subst hjk;exact hjun
    ·rw[getD_set_ne true hjk]at hu;exact hu
   refine⟨hnl,wpOp_mono (λa' w' h3=>⟨h3.2.1,ih (listed.setIfInBounds j true) a' w' (hcl.set hj) hfree' (ready_mono hr (NU hji)) h3.1 h3.2.1 ?_⟩) h2⟩
   rw[SV _ _ hji]
   exact h3.2.2
def Ybq(ops:Array Oper):List Nat->Array Bool->Bool
 |[],listed=>(Region.ready .any ops listed).isEmpty
 |i::r,listed=>decide (Region.ready .any ops listed=[i])&&Ybq ops r (listed.setIfInBounds i true)
def Yee(ops:Array Oper)(last:List Nat):List Nat->Array Bool->Bool
 |[],listed=>((List.range ops.size).all λj=>last.contains j||listed.getD j false)&&Ybq ops last listed
 |i::rest,listed=>
  (match ops[i]? with
   |some o=>if eff o then decide (Region.ready .any ops listed=[i])else(Region.ready .any ops listed).contains i&&Region.free .any ops listed i
   |none=>false)&&Yee ops last rest (listed.setIfInBounds i true)
def Yru(ops:Array Oper)(last:List Nat):Bool:=
 last.all λj=>(List.range ops.size).all λi=>last.contains i||(match ops[i]? with|some o=>eff o|none=>false)||ancB ops ops.size j i
theorem YlE(h:Yru ops last=true):∀i oi,ops[i]? =some oi->eff oi=false->last.contains i=false->∀j,last.contains j=true->∃f,ancB ops f j i=true:=λi oi hi he hl j hj=>by
 have h1:=TF.1 h j (by simpa using hj)
 have hlt:i<ops.size:=(Si.1 hi).1
 have h2:=TF.1 h1 i (TQ.2 hlt)
 rw[hi,hl]at h2
 simp only[he,Ny]at h2
 exact⟨_,h2⟩
variable {l:List Oper}
theorem Ygv(hl:ops=l.toArray)(ho:ops[i]? =some o):nthO l i=o:=by
 rw[YaQ]
 rw[hl]at ho
 simp only[NC]at ho
 simp[List.getD,ho]
theorem YdQ{l:List Oper}(hl:ops=l.toArray):∀(o2:List Nat) (listed:Array Bool) (a:Act) (w:World),Ybq ops o2 listed=true->wpListIn Fence.wide 0 P ops Q (Yh l o2) a w->wpAnyIn Fence.wide 0 P .any ops Q o2.length listed a w
 |[],listed,a,w,hB,h=>⟨by simpa [Ybq]using hB,h⟩
 |i::r,listed,a,w,hB,h=>by
  simp only[Ybq,Tq,Tt]at hB
  refine⟨λh0=>(by rw[hB.1]at h0;cases h0),λk hk=>?_⟩
  have hk':=hk
  rw[hB.1]at hk
  obtain rfl:k=i:=by simpa using hk
  obtain⟨_,o,ho,_⟩:=mem_ready.1 hk'
  unfold wpOpIn
  simp only[ho]
  rw[Yh,Ygv hl ho]at h
  unfold wpListIn at h
  split
  ·rename_i hw
   rw[Tn hw]at h
   exact Oper.wpIn_mono (λa w h=>YdQ hl r _ a w hB.2 h) h
  ·rename_i hw
   rw[Tf hw]at h
   exact⟨h.1,YdQ hl r _ _ w hB.2 h.2⟩
def YQH(P:Program)(ops:Array Oper)(Q:Exit->Act->World->Prop)(l:List Oper):Exit->Act->World->Prop
 |.normal,a,w=>wpListIn Fence.wide 0 P ops Q l a w
 |_,_,_=>False
theorem YwX(h:o.wp P a w K (YQH P ops Q l)):o.wp P a w K NoQ:=by
 unfold Oper.wp at h⊢
 generalize(execOp a.eval o).run P w=r at*
 cases r with
 |ok nx w'=>
  cases nx<;>simp only[Oper.upon]at h⊢<;>first
   |exact h
   |(refine Calls.mono h λe w'' he=>?_
     cases e with
     |returned u=>exact he
     |panicked c=>exact he
     |outgrown=>obtain⟨a',w',h'⟩:=he;exact⟨a',w',h'⟩)
 |halt x w'=>
  cases x<;>simp only[Oper.upon]at h⊢<;>exact h
theorem UO{S:World->Prop}{last:List Nat}(hs:Region.noSelect ops=true)(l:List Oper)(hl:ops=l.toArray)(hlast:Yru ops last=true):
 ∀(o1:List Nat) (listed:Array Bool) (a:Act) (w:World),Closed ops listed->(∀j∈o1,last.contains j=false)->Yee ops last o1 listed=true->S w->Yv P ops (YQH P ops Q (Yh l last)) S (Yh l o1) a w->
  Ye3 P ops S last (λlisted a w=>Ybq ops last listed=true/\wpListIn Fence.wide 0 P ops Q (Yh l last) a w) o1.length listed a w
 |[],listed,a,w,_,_,hB,_,h=>by
  simp only[Yee,Tq]at hB
  refine⟨λj hj hc=>?_,hB.2,h⟩
  have:=TF.1 hB.1 j (TQ.2 hj)
  rw[hc,Ny]at this
  exact this
 |i::rest,listed,a,w,hcl,hno,hB,hS,h=>by
  simp only[Yee,Tq]at hB
  obtain⟨h1,h2⟩:=hB
  have hno':∀j∈rest,last.contains j=false:=λj hj=>hno j (by simp[hj])
  cases ho:ops[i]? with
  |none=>rw[ho]at h1;cases h1
  |some o=>
   rw[ho]at h1
   simp only[Yh,Ygv hl ho]at h
   by_cases he:eff o=true
   ·simp only[he,NF,Tt]at h1
    unfold Yv at h
    rw[Tn he]at h
    refine⟨λh0=>(by rw[h1]at h0;cases h0),λk hk=>?_⟩
    have hk':=hk
    rw[h1]at hk
    obtain rfl:k=i:=by simpa using hk
    refine⟨hno k (by simp),?_⟩
    unfold wpOp
    simp only[ho]
    by_cases hw:Region.wanted o (yielded ops a.tmps)=true
    ·rw[Tn hw]at h⊢
     exact .inl (YwX (Oper.wp_mono (λa' w' h'=>⟨h'.1,UO hs l hl hlast rest _ a' w' (hcl.set hk') hno' h2 h'.1 h'.2⟩) h))
    ·rw[Tf hw]at h⊢
     exact⟨hS,UO hs l hl hlast rest _ _ w (hcl.set hk') hno' h2 hS h⟩
   ·simp only[he]at h1
    simp only[SD,N8,Tq]at h1
    unfold Yv at h
    rw[Tf he]at h
    obtain⟨v,hy,h3⟩:=h
    have hr:i∈Region.ready .any ops listed:=by simpa using h1.1
    exact Yk0 ho (Region.noSelect_spec hs) (YlE hlast i o ho (by simpa using he) (hno i (by simp))) (hno i (by simp)) _ listed a w hcl (Region.free_spec ho h1.2) hr hy hS (UO hs l hl hlast rest _ _ w (hcl.set hr) hno' h2 hS h3)
end
section
variable {P:Program}{B:Nat}{w0:World}{Q:Exit->Act->World->Prop}{env:Env}{H:List HP}
variable {n:Nat}{ds:List Deferred}{l:List Oper}
theorem Yob{id:Nat}(o1 last:List Nat)(mask:List Bool){Hc F:List HP}(hm:P.follows .mixedOrders=true)
 (hB:(Region.noSelect l.toArray&&decide ((o1++last).length=l.toArray.size)&&Yru l.toArray last&&(o1.all λj=>!last.contains j)&&Yee l.toArray last o1 (Array.replicate l.toArray.size false))=true)
 (hsp:Split mask H Hc F) {l1 l2:List Oper}(hl1:Yh l o1=l1) (hl2:Yh l last=l2) (h:VL P (some (some F)) ⟨n,ds,none⟩ B w0 l.toArray (YQH P l.toArray Q l2) l1 env Hc):VC P ⟨n,ds,none⟩ B w0 (.region id l.toArray true) Q env H:=by
 simp only[Tq,Tt]at hB
 obtain⟨⟨⟨⟨h1,h2⟩,h3⟩,h4⟩,h5⟩:=hB
 refine⟨λa w ha hw=>?_⟩
 refine(wpIn_wide (n:=0)).1 (wpIn_region_any hm ?_)
 have hst:St B w0 (Hc++F) w.drew:=(hw.perm (XZ hsp)).drew
 have hr:Yv P l.toArray (YQH P l.toArray Q l2) (St B w0 Hc) l1 a w.drew:=h.run a ha w.drew hst
 rw[<-hl1,<-hl2]at hr
 have hz:=UO (S:=St B w0 Hc) h1 l rfl h3 o1 _ a w.drew (Za _ _) (λj hj=>by simpa using TF.1 h4 j hj) h5 hst.prefix_ hr
 have:=YcI (k:=last.length) (Q:=Q) (λlisted a w hz=>YdQ rfl last listed a w hz.1 hz.2) o1.length _ a w.drew hz
 rw[<-To,h2]at this
 exact this
theorem YqC{ops:Array Oper}(h:VQ ⟨n,ds,none⟩ B w0 (YQ P ops Q l) .normal env H):VQ ⟨n,ds,none⟩ B w0 (YQH P ops Q l) .normal env H:=⟨λa w ha hw=>h.run a w ha hw⟩
end
end Go.Eng
namespace Go.Proofs.YtaholidehobiiaaGreatDoor
open Go.RowKit Go.Eng Go.Nw Go.Rt
def WayV(A:Option Addr)(l:List Int):Prop:=l=[]->A=none
structure Fz where
 at_:Int
 pre:List Int
 A:Option Addr
 cap:Nat
theorem Yjt{l:List Lk}{far:List Int}{to:Int}{nodes:Nat}(hl:ArcsOk nodes l)(hd:Dist nodes l to far){v:Int}(h0:0<=v)(h1:v<nodes)(hne:v≠to)(hlt:Yf far v<YP):∀k j:Nat,(Yf far v).toNat<=k->(Yf far v).toNat<=j->Y6 l far to k v=Y6 l far to j v:=by
 intro k
 induction k generalizing v with
 |zero=>
  intro j hk hj
  have:=(Wh hl hd h0 h1 hne hlt).2
  omega
 |succ k ih=>
  intro j hk hj
  obtain⟨b1,b2,b3,_⟩:=Wh hl hd h0 h1 hne hlt
  cases j with
  |zero=>omega
  |succ j=>
   unfold Y6
   rw[Tf hne,Tf hne]
   by_cases hb:Xt l far v=to
   ·cases k<;>cases j<;>simp[Y6,hb]
   grind
theorem YdM(nodes:Nat)(l:List Lk)(s to:Int)(hn:nodes<=40)(hl:l.length<=1000000)(hok:ArcsOk nodes l)(hs:0<=s/\s<nodes)(hto:0<=to/\to<nodes){AL:Option Addr}{capL B:Nat}{w0:World}{H:List HP}{w:World}(hr:Rd B w0 H AL (l.flatMap lkF))(hw:St B w0 H w):
 CX B w0 275 [.int .i64 nodes,.slice AL l.length capL,.int .i64 s,.int .i64 to] w λv K=>∃A cap,v=.slice A (wayF l (Ze nodes l to) s to).length cap/\WayV A (wayF l (Ze nodes l to) s to)/\(Ze nodes l to).length=nodes/\Dist nodes l to (Ze nodes l to)/\K=ints A cap (wayF l (Ze nodes l to) s to)::H:=by
 refine Yc Tryz.func275 Tryz.ntmps275 rfl rfl hw ?_
 refine zX4 ?_
 apply Ye _ Yq6
 exact za
 exact rfl
 exactλ_ hw=>(Uk nodes l to hn hl hok hto hr (hw))
 rintro _ _ ⟨gf,far,rfl,hd,rfl⟩
 rw[Wm hok hd]
 have hflen:=hd.len
 have hgs:=X6 (far:=far) (i:=s) (by omega)
 have hrs:=hd.range s hs.1 hs.2
 have hne:YP=1073741824:=rfl
 unfold wayF
 by_cases hfar:YP<=Yf far s
 ·rw[Tn hfar]
  rw[hne]at hfar
  refine zX25 ?_<;>intros
  apply Yi (ints none 0 []::H)
  ·exactλw hw=>hw.tail.nilSlice _ _
  apply Yd;exact rfl;exact rfl
  exact⟨none,0,rfl,λ_=>rfl,hflen,hd,rfl⟩
 rw[Tf hfar]
 rw[hne]at hfar
 refine YnV ?_<;>intros
 rename_i g1
 have hf0:0<=Yf far s:=hrs.1
 refine Yg (λ(z:Fz)=>[(11,.int .i64 z.at_),(10,.slice z.A z.pre.length z.cap),(9,.slice (some ⟨gf,0,none⟩) far.length nodes),(1,.slice AL l.length capL),(3,.int .i64 to)])
  (λz=>ints z.A z.cap z.pre::ints (some ⟨gf,0,none⟩) nodes far::H) (λz=>(0<=z.at_/\z.at_<nodes)/\(0<=Yf far z.at_/\Yf far z.at_<1073741824)/\z.pre++Y6 l far to (Yf far z.at_).toNat z.at_=s::Y6 l far to (Yf far s).toNat s/\1<=z.pre.length/\z.pre.length+(Yf far z.at_).toNat<=1073741830) (λz=>(Yf far z.at_).toNat) ⟨s,[s],some ⟨g1,0,none⟩,1⟩ ⟨hs,⟨by omega,by omega⟩,rfl,by simp,by simp only[TO];omega⟩ ?_ (λw hw=>hw.blk_sl (cs:=numF s) (len:=1) (size:=1) rfl (by omega)) ?_
 ·exact zc1
 rintro⟨v,pre,A,cap⟩ ⟨⟨v0,v1⟩,⟨d0,d1⟩,hpre,hpl,hpm⟩ K hK
 simp only at v0 v1 d0 d1 hpre hpl hpm⊢
 have hgv:=X6 (far:=far) (i:=v) (by omega)
 by_cases hvt:v=to
 ·have hfl:Y6 l far to (Yf far v).toNat v=[]:=by
   rw[hvt,hd.to0];rfl
  rw[hfl,Ro]at hpre
  clear hK
  refine zX1 ?_<;>intros
  apply Yi (ints A cap pre::H)
  ·exact zc0
  apply Yd;exact rfl;exact rfl
  rw[<-hpre]
  exact⟨A,cap,rfl,λh=>by rw[h]at hpl;simp at hpl,hflen,hd,rfl⟩
 obtain⟨b1,b2,b3,_⟩:=Wh hok hd v0 v1 hvt (by rw[hne];omega)
 obtain⟨bb,hbb⟩:∃bb,Xt l far v=bb:=⟨_,rfl⟩
 refine zX3 ?_<;>intros
 refine Yg (λ(k:Nat)=>[(32,.int .i64 k),(31,.int .i64 l.length),(30,.slice AL l.length capL),(12,.int .i64 (Xt (l.take k) far v)),(11,.int .i64 v),(10,.slice A pre.length cap),(9,.slice (some ⟨gf,0,none⟩) far.length nodes),(1,.slice AL l.length capL),(3,.int .i64 to)])
  (λ_=>ints A cap pre::ints (some ⟨gf,0,none⟩) nodes far::H) (λk=>k<=l.length) (λk=>l.length-k) 0 (Tm _) ?_ (λw hw=>hw) ?_
 ·exact zc1
 intro k hk K2 hK2
 have hrl:Rd B w0 (ints A cap pre::ints (some ⟨gf,0,none⟩) nodes far::H) AL (l.flatMap lkF):=(hr.cons).cons
 by_cases hlt:k<l.length
 ·obtain⟨a,ha⟩:∃a,l[k]? =some a:=⟨_,Ta hlt⟩
  obtain⟨⟨a1,a2⟩,⟨a3,a4⟩,⟨a5,a6⟩⟩:=hok a (Tc ha)
  have hga:=X6 (far:=far) (i:=a.2.1) (by omega)
  have hra:=hd.range a.2.1 a3 a4
  rw[hne]at hra
  have hst:Xt (l.take (k+1)) far v=Xh far v (Xt (l.take k) far v) a:=by
   rw[TN,ha];exact YoA _ _ _ _
  obtain⟨bk,hbk⟩:∃bk,Xt (l.take k) far v=bk:=⟨_,rfl⟩
  rw[hbk]at hst
  rw[hbk]
  unfold Xh at hst
  by_cases hc:a.1=v/\a.2.2+Yf far a.2.1=Yf far v/\(bk<0\/a.2.1<bk)
  ·rw[Tn hc]at hst
   repeat'(first|refine zgd ?_|(refine zge ?_ ?_<;>intro _<;>try exact zo)|(refine zgh ?_;intro _)|fail)
   all_goals(
    apply hK2 (k+1)
    ·omega
    ·omega
    ·rw[hst];exact zu
    ·exactλw hw=>hw.tail)
  ·rw[Tf hc]at hst
   repeat'(first|refine zgd ?_|(refine zge ?_ ?_<;>intro _<;>try exact zo)|(refine zgh ?_;intro _)|fail)
   all_goals(
    apply hK2 (k+1)
    ·omega
    ·omega
    ·rw[hst];exact zu
    ·exactλw hw=>hw.tail)
 ·obtain rfl:k=l.length:=by omega
  clear hK2
  rw[TV,hbb]
  rw[hbb]at b1 b2 b3
  have hfs:Y6 l far to (Yf far v).toNat v=bb::Y6 l far to (Yf far bb).toNat bb:=by
   obtain⟨j,hj⟩:∃j,(Yf far v).toNat=j+1:=⟨(Yf far v).toNat-1,by omega⟩
   rw[hj,show Y6 l far to (j+1) v=if v=to then []else Xt l far v::Y6 l far to j (Xt l far v) from rfl,Tf hvt,hbb]
   by_cases hbt:bb=to
   ·rw[hbt]
    cases j<;>simp[Y6,hd.to0]
   ·rw[Yjt hok hd b1.1 b1.2 hbt (by rw[hne];omega) j _ (by omega) (TJ _)]
  refine YnW ?_<;>intros
  rename_i A3 cap3
  apply hK ⟨bb,pre++[bb],A3,cap3⟩
  ·refine⟨b1,⟨b3,by exact zc28⟩,?_,by simp,?_⟩
   ·simp only
    rw[TY,List.singleton_append,<-hfs];exact hpre
   ·simp only[To,TO]
    omega
  ·exact zc28
  ·dsimp only
   rw[To,TO];exact zc1
  ·dsimp only
   rw[<-Yo9]
   exact zc0
def dear(a:Lk):Lk:=(a.1,a.2.1,a.2.2*33+1)
noncomputable def VK(n:Net)(s t:Int):List Int:=wayF ((YI n).map dear) (Ze n.nodes.toNat ((YI n).map dear) t) s t
noncomputable def XS(n:Net)(s t:Int):List Int×Int:=
 if XW n s t≠0 then([],XW n s t)else if VK n s t=[]then([],17)else if 9<(VK n s t).length then([],21)else(VK n s t,0)
variable {n:Net}
theorem Yho(h:Ok n):ArcsOk n.nodes.toNat ((YI n).map dear):=by
 intro a ha
 obtain⟨b,hb,rfl⟩:=TC.1 ha
 obtain⟨i,hi,_,rfl⟩:=Wv.1 hb
 have hl:=h.lk i hi
 have h1:=hl.f0;have h2:=hl.f1;have h3:=hl.t0;have h4:=hl.t1;have h5:=hl.l0;have h6:=hl.l1
 grind [dear,Wd]
theorem UJ{s t:Int}(h:XW n s t=0):Yo n=0/\(0<=s/\s<n.nodes)/\(0<=t/\t<n.nodes)/\s≠t:=by
 unfold XW offE at h
 grind
variable {l:List Lk}{k:Nat}{a:Lk}
theorem YtP(h:l[k]? =some a):((l.take k).map dear++l.drop k)[k]? =some a:=by
 grind
theorem YtQ(h:l[k]? =some a):((l.take k).map dear++l.drop k).set k (dear a)=(l.take (k+1)).map dear++l.drop (k+1):=by
 obtain⟨hk,rfl⟩:=Tj.1 h
 have hl:((l.take k).map dear).length=k:=by grind
 rw[NS _ _ (by omega),hl,NH,Rl hk,NB,TN,Ta hk,Rb,TY]
 rfl
theorem Yfw(n:NetM)(s t:Int){B:Nat}{w0:World}{H:List HP}{w:World}(hin:n.In B w0 H)(hw:St B w0 H w):
 CX B w0 203 [n.val,.int .i64 s,.int .i64 t] w λv K=>∃A cap,v=.tuple #[.slice A (XS n.net s t).1.length cap,.int .i64 (XS n.net s t).2]/\WayV A (XS n.net s t).1/\(XW n.net s t=0->Dist n.net.nodes.toNat ((YI n.net).map dear) t (Ze n.net.nodes.toNat ((YI n.net).map dear) t))/\K=ints A cap (XS n.net s t).1::H:=by
 refine Yc Tryz.func203 Tryz.ntmps203 rfl rfl hw ?_
 (apply YY;apply Yx;apply Yr;exact rfl;exact rfl;intro g)
 unfold XS
 by_cases he:XW n.net s t=0
 rotate_left
 ·rw[Tn he]
  repeat'(first|((first|apply Ya QE|apply Yb QE);exact za;exact rfl;exactλ_ hw=>(V4 n s t hin.cons hw))|refine zgb ?_|(refine zge ?_ ?_<;>intro _<;>try exact zo)|fail)
  (repeat apply Yj)
  apply X9 3 1
  apply YM;(iterate 3 exact rfl)
  exact⟨none,0,rfl,λ_=>rfl,λh=>absurd h he,rfl⟩
 rw[Tf (λh=>h he)]
 obtain⟨hck,⟨s0,s1⟩,⟨t0,t1⟩,hst⟩:=UJ he
 have hen:=λ{H:List HP}{w:World}(hin:n.In B w0 H) (hw:St B w0 H w)=>V4 n s t hin hw
 rw[he]at hen
 have hok:=YC hck
 have hn0:=hok.n0
 have hn1:=hok.n1
 have hnn:((n.net.nodes.toNat:Nat):Int)=n.net.nodes:=by omega
 have hnn2:n.net.nodes=n.nodes:=rfl
 have hal:(YI n.net).length<=128:=T9 (WJ _ _) hok.k0
 have hdo:=Yho hok
 obtain⟨L,hL⟩:∃L,YI n.net=L:=⟨_,rfl⟩
 rw[hL]at hal
 have hLo:=YmM hok hnn.symm
 rw[hL]at hLo
 refine YsB ?_<;>intros
 apply Ye _ YuR
 exact za
 exact rfl
 exactλ_ hw=>(YfH n hin.cons hck (hw))
 rintro _ _ ⟨A,cap,rfl,rfl⟩
 rw[hL]
 refine zX8 ?_
 refine Yg (λ(k:Nat)=>[(24,.int .i64 k),(23,.int .i64 L.length),(9,.slice A L.length cap),(3,.pointer (some ⟨g,0,none⟩)),(1,.int .i64 s),(2,.int .i64 t)])
  (λk=>sl 298 3 A L.length cap (((L.take k).map dear++L.drop k).flatMap lkF)::netB g n::H) (λk=>k<=L.length) (λk=>L.length-k) 0 (Tm _) ?_ (λw hw=>hw) ?_
 ·exact zc1
 intro k hk K hK
 have hml:((L.take k).map dear++L.drop k).length=L.length:=by simp;omega
 by_cases hlt:k<L.length
 ·obtain⟨a,ha⟩:∃a,L[k]? =some a:=⟨_,Ta hlt⟩
  obtain⟨_,_,⟨a5,a6⟩⟩:=hLo a (Tc ha)
  have hmg:=YtP ha
  have hms:=YtQ ha
  rw[<-hml]
  repeat'(first|(apply Ue T (f:=lkF) (l:=(L.take k).map dear++L.drop k) (i:=k) (q:=3) (o:=2) (b:=a) (b':=dear a);(iterate 3 exact rfl);exact zd;exact hmg;exact rfl;exactλ_=>rfl;exact rfl;exact rfl)|refine zgd ?_|(refine zge ?_ ?_<;>intro _<;>try exact zo)|fail)
  rw[hml,hms]
  apply hK (k+1)
  ·omega
  ·omega
  ·exact zc1
  exact zc17
 ·obtain rfl:k=L.length:=by omega
  clear hK
  rw[TV,SG,Ro]
  have hLl:(L.map dear).length=L.length:=TB _
  rw[<-hLl]
  refine zX1 ?_<;>intros
  rw[show(Value.int .i64 n.nodes)=.int .i64 ((n.net.nodes.toNat:Nat):Int) by rw[hnn];rfl]
  rw[hL]at hdo
  apply Ye _ Yq5
  exact za
  exact rfl
  exactλ_ hw=>(YdM n.net.nodes.toNat (L.map dear) s t (by omega) (by omega) hdo ⟨s0,by omega⟩ ⟨t0,by omega⟩ (.sl (by(focus exact zc2))) (hw))
  rintro _ _ ⟨A2,cap2,rfl,hway,hdl,hdd,rfl⟩
  have hsr:wayF (L.map dear) (Ze n.net.nodes.toNat (L.map dear) t) s t=VK n.net s t:=by rw[<-hL];rfl
  rw[hL]at*
  rw[hsr]at hway⊢
  obtain⟨R,hR⟩:∃R,VK n.net s t=R:=⟨_,rfl⟩
  rw[hR]at hway⊢
  by_cases hnil:R=[]
  ·rw[Tn hnil]
   have hA:=hway hnil
   subst hA
   refine zX7 ?_
   exact zc54
  ·rw[Tf hnil]
   have hRl:R.length<=1073741824:=by rw[<-hR];exact Yih _ _ _ _
   have hpos:0<R.length:=List.length_pos_iff.2 hnil
   refine YcF (e:=3) (size:=1) (k:=R.length) (cap:=cap2) (A:=A2) (xs:=R.flatMap numF) Tz hpos ?_
   rintro ga rfl
   by_cases h9:9<R.length
   ·rw[Tn h9]
    have hsh:=λ{H:List HP}{w:World}(hw:St B w0 H w)=>W3 R.length (A:=some ⟨ga,0,none⟩) (cap:=cap2) (by omega) hw
    rw[Tn h9]at hsh
    repeat'(first|(apply ZE;(iterate 3 exact rfl))|((first|apply Ya Og|apply Yb Og);exact za;exact rfl;exactλ_ hw=>(hsh hw))|refine zgb ?_|(refine zge ?_ ?_<;>intro _<;>try exact zo)|fail)
    exact zc54
   ·rw[Tf h9]
    have hsh:=λ{H:List HP}{w:World}(hw:St B w0 H w)=>W3 R.length (A:=some ⟨ga,0,none⟩) (cap:=cap2) (by omega) hw
    rw[Tf h9]at hsh
    repeat'(first|(apply ZE;(iterate 3 exact rfl))|((first|apply Ya Og|apply Yb Og);exact za;exact rfl;exactλ_ hw=>(hsh hw))|refine zga ?_|(refine zge ?_ ?_<;>intro _<;>try exact zo)|fail)
    apply Yi (ints (some ⟨ga,0,none⟩) cap2 R::H)
    ·exact Yv4
    apply YM;(iterate 3 exact rfl)
    exact⟨some ⟨ga,0,none⟩,cap2,rfl,λh=>absurd h hnil,λ_=>hdd,rfl⟩
def edF(e:Ed):List Value:=[.int .i64 e.f,.int .i64 e.t,.int .i64 e.c,.int .i64 e.r]
abbrev YdR(sides:Nat)(A:Option Addr)(k cap:Nat):Obj:=.cells #[.int .i64 sides,.slice A k cap] 433 (0,0)
def gpcs(g sides:Nat)(A:Option Addr)(cap:Nat)(es:List Ed)(H:List HP):List HP:=blk g (YdR sides A es.length cap)::sl 438 4 A es.length cap (es.flatMap edF)::H
structure Rz where
 k:Nat
 ag:Bool
 far:List Int
 by_:List Int
structure RzOk(sides:Nat)(es:List Ed)(fuel:Nat)(res:List Int×List Int)(z:Rz):Prop where
 kf:z.k<=fuel
 ok:RelOk sides (-2000000000-2000000000*((fuel-z.k:Nat):Int)) (z.far,z.by_,z.ag)
 run:if z.ag=true then OW z.k es z.far z.by_=some res else(z.far,z.by_)=res
theorem Yl5(g sides:Nat)(es:List Ed)(far:List Int)(fuel:Nat)(res:List Int×List Int)(hs:1<=sides/\sides<=100)(hes:Ymw sides es)(hel:es.length<=2000)(hfu:fuel<=100000)(hfar:RelOk sides (-2000000000) (far,List.replicate sides (-1),true))(hrun:OW fuel es far (List.replicate sides (-1))=some res)
 {A AF:Option Addr}{cap capF:Nat}{B:Nat}{w0:World}{H:List HP}{w:World}(hw:St B w0 (gpcs g sides A cap es (ints AF capF far::H)) w):
 CX B w0 415 [.pointer (some ⟨g,0,none⟩),.slice AF far.length capF] w λv K=>∃gb,v=.tuple #[.slice AF res.1.length capF,.slice (some ⟨gb,0,none⟩) res.2.length sides]/\RelOk sides (-2000000000-2000000000*(fuel:Int)) (res.1,res.2,false)/\K=ints (some ⟨gb,0,none⟩) sides res.2::gpcs g sides A cap es (ints AF capF res.1::H):=by
 refine Yc Tryz.func415 Tryz.ntmps415 rfl rfl hw ?_
 unfold gpcs
 refine zX26 ?_<;>intros
 apply Ye _ Yq7
 exact za
 exact rfl
 exactλ_ hw=>(OX (-1) sides (by omega) (.blk (by(focus exact zc2))) (hw))
 rintro _ _ ⟨gb,rfl,rfl⟩
 have hrl:(List.replicate sides (-1:Int)).length=sides:=Rr
 refine zX8 ?_
 refine Yg (λ(z:Rz)=>[(7,.bool z.ag),(1,.slice AF z.far.length capF),(6,.slice (some ⟨gb,0,none⟩) z.by_.length sides),(0,.pointer (some ⟨g,0,none⟩))])
  (λz=>ints (some ⟨gb,0,none⟩) sides z.by_::blk g (YdR sides A es.length cap)::sl 438 4 A es.length cap (es.flatMap edF)::ints AF capF z.far::H) (λz=>RzOk sides es fuel res z) (λz=>z.k) ⟨fuel,true,far,List.replicate sides (-1)⟩ ⟨TJ _,by simp_all,hrun⟩ ?_ zc0 ?_
 ·exact zc1
 rintro⟨k,ag,fa,by_⟩ hz K hK
 obtain⟨hkf,hok,hrun⟩:=hz
 simp only at hkf hok hrun⊢
 cases ag with
 |false=>
  rw[Tf (by decide)]at hrun
  clear hK
  obtain⟨rfl,rfl⟩:fa=res.1/\by_=res.2:=by grind
  refine zX11 ?_
  apply YM;(iterate 3 exact rfl)
  refine⟨gb,rfl,⟨hok.l1,hok.l2,λv h0 h1=>?_⟩,rfl⟩
  have:=hok.low v h0 h1
  omega
 |true=>
  rw[Tn rfl]at hrun
  cases k with
  |zero=>cases hrun
  |succ k=>
   have hok0:RelOk sides (-2000000000-2000000000*((fuel-(k+1):Nat):Int)) (fa,by_,false):=⟨hok.l1,hok.l2,hok.low⟩
   obtain⟨low,hlow⟩:∃low:Int,-2000000000-2000000000*((fuel-(k+1):Nat):Int)=low:=⟨_,rfl⟩
   rw[hlow]at hok0
   have hlb: -300000000000000<=low:=by omega
   unfold OW at hrun
   refine zX2 ?_
   refine Yg (λ(j:Nat)=>[(22,.int .i64 j),(21,.int .i64 es.length),(20,.slice A es.length cap),(7,.bool (YU 0 (es.take j) (fa,by_,false)).2.2),(1,.slice AF (YU 0 (es.take j) (fa,by_,false)).1.length capF),(6,.slice (some ⟨gb,0,none⟩) (YU 0 (es.take j) (fa,by_,false)).2.1.length sides),(0,.pointer (some ⟨g,0,none⟩))])
    (λj=>ints (some ⟨gb,0,none⟩) sides (YU 0 (es.take j) (fa,by_,false)).2.1::blk g (YdR sides A es.length cap)::sl 438 4 A es.length cap (es.flatMap edF)::ints AF capF (YU 0 (es.take j) (fa,by_,false)).1::H) (λj=>j<=es.length) (λj=>es.length-j) 0 (Tm _) ?_ (λw hw=>hw) ?_
   ·exact zc1
   intro j hj K2 hK2
   by_cases hlt:j<es.length
   ·obtain⟨e,he⟩:∃e,es[j]? =some e:=⟨_,Ta hlt⟩
    have hem:=Tc he
    obtain⟨⟨e1,e2⟩,⟨e3,e4⟩,⟨e5,e6⟩,⟨e7,e8⟩⟩:=hes e hem
    have htl:(es.take j).length=j:=YgT
    have hst:YU 0 (es.take (j+1)) (fa,by_,false)=XI j e (YU 0 (es.take j) (fa,by_,false)):=by
     rw[TN,he]
     have:=YaW (es.take j) 0 e (fa,by_,false)
     rw[htl,RH]at this
     exact this
    have hpo:=Yaa hes (es.take j) 0 (fa,by_,false) low (λx hx=>SB hx) hok0
    rw[htl]at hpo
    obtain⟨⟨f2,b2,ag2⟩,hst2⟩:∃st,YU 0 (es.take j) (fa,by_,false)=st:=⟨_,rfl⟩
    rw[hst2]at hst hpo⊢
    obtain⟨p1,p2,p3⟩:=hpo
    simp only at p1 p2 p3
    have q1:=p3 e.f e1 e2
    have q2:=p3 e.t e3 e4
    have hgf:=X6 (far:=f2) (i:=e.f) (by omega)
    have hgt:=X6 (far:=f2) (i:=e.t) (by omega)
    have hnn:YP=1073741824:=rfl
    rw[hnn]at q1 q2
    dsimp only
    unfold XI at hst
    simp only[hnn]at hst
    by_cases hc:0<e.r/\Yf f2 e.f<1073741824/\Yf f2 e.f+e.c<Yf f2 e.t
    ·rw[Tn hc]at hst
     refine YnV ?_<;>intros
     have hl1:(f2.set e.t.toNat (Yf f2 e.f+e.c)).length=f2.length:=Rf
     have hl2:(b2.set e.t.toNat (j:Int)).length=b2.length:=Rf
     apply Yqe [3,4,5,14] [0,1,2,6,7,8,9,10,11,12,13,15] [16,17,18,19] [true] [true,true,false,false,true]
     kernel_rfl
     kernel_rfl
     exact zy
     exact zy
     (intro w hw;refine hw.perm ?_;focus exact zc3)
     (simp only[Yh,nthO];rfl)
     (simp only[Yh,nthO];rfl)
     (simp only[Yh,nthO];rfl)
     repeat'(first|(apply YqA;try exact zl)|(apply Ye9 T;(iterate 4 exact rfl);omega)|(apply XP T (f:=numF) (l:=f2) (i:=e.t.toNat) (a:=Yf f2 e.f+e.c);(iterate 3 exact rfl);exact zd;exact rfl;exactλ_=>rfl;exact rfl;omega)|(apply XP T (f:=numF) (l:=b2) (i:=e.t.toNat) (a:=(j:Int));(iterate 3 exact rfl);exact zd;exact rfl;exactλ_=>rfl;exact rfl;omega)|(apply Yl;try exact zl)|refine zgd ?_|fail)
     apply hK2 (j+1)
     ·omega
     ·omega
     ·rw[hst]
      dsimp only
      rw[hl1,hl2]
      exact zc1
     ·rw[hst]
      dsimp only
      unfold ints
      rw[hl1,hl2]
      exact zc0
    ·rw[Tf hc]at hst
     repeat'(first|refine zgd ?_|(refine zgf ?_ ?_<;>intro _<;>try exact zo)|(refine zgh ?_;intro _)|fail)
     all_goals(
      apply hK2 (j+1)
      ·omega
      ·omega
      ·rw[hst];exact zu
      ·rw[hst];exactλw hw=>hw.tail)
   ·obtain rfl:j=es.length:=by omega
    clear hK2
    have hpo:=Yaa hes es 0 (fa,by_,false) low (λx hx=>hx) hok0
    rw[TV]
    obtain⟨⟨f2,b2,ag2⟩,hst2⟩:∃st,YU 0 es (fa,by_,false)=st:=⟨_,rfl⟩
    rw[hst2]at hrun hpo⊢
    dsimp only at hrun⊢
    refine zX1 ?_<;>intros
    apply hK ⟨k,ag2,f2,b2⟩
    ·refine⟨by exact zc28,⟨hpo.l1,hpo.l2,λv h0 h1=>?_⟩,?_⟩
     ·have:=hpo.low v h0 h1
      simp only at this⊢
      omega
     ·simp only
      cases ag2
      ·rw[Tf (by decide)]at hrun⊢
       exact Tv hrun
      ·rw[Tn rfl]at hrun⊢
       exact hrun
    ·exact zc28
    ·exact zc1
    exact zc17
theorem Ysz(i:Nat)(hi:i<4611686018427387904):bits .xor .i64 (i:Int) 1=(twin i:Int):=by
 have e1:(BitVec.ofInt 64 (i:Int)).toNat=i:=by grind
 show IntKind.i64.wrap ((BitVec.ofInt 64 (i:Int)^^^BitVec.ofInt 64 1).toNat:Int)=_
 have e2:(BitVec.ofInt 64 (1:Int)).toNat=1:=by decide
 have e3:i^^^1=twin i:=by
  unfold twin
  rcases Nat.mod_two_eq_zero_or_one i with h|h
  ·rw[Tn h]
   obtain⟨k,rfl⟩:∃k,i=2*k:=⟨i/2,by omega⟩
   apply Nat.eq_of_testBit_eq
   intro j
   rw[Nat.testBit_xor]
   cases j with
   |zero=>simp
   |succ j=>
    grind
  ·rw[Tf (by omega)]
   obtain⟨k,rfl⟩:∃k,i=2*k+1:=⟨i/2,by omega⟩
   apply Nat.eq_of_testBit_eq
   intro j
   rw[Nat.testBit_xor]
   cases j with
   |zero=>simp
   |succ j=>
    grind
 grind [Go.IntKind.wrap_i64,twin]
structure Bz where
 k:Nat
 es:List Ed
 at_:Int
structure BzOk(fuel sides:Nat)(b:Int)(E:Nat)(by_:List Int)(s:Int)(res:List Ed)(z:Bz):Prop where
 kf:z.k<=fuel
 run:YbS z.k z.es by_ s z.at_=some res
 ein:EdsIn sides (b+2*((fuel-z.k:Nat):Int)) z.es
 len:z.es.length=E
 at_:0<=z.at_/\z.at_<sides
theorem YgE(g sides:Nat)(es:List Ed)(s t:Int)(fuel:Nat)(b:Int)(r:Int×Bool×List Ed)(hs:1<=sides/\sides<=100)(hes:EdsIn sides b es)(hb:1<=b/\b<=900000)(hel:es.length<=2000)(hfu:fuel<=100000)(hs0:0<=s/\s<sides)(ht0:0<=t/\t<sides)(hrun:Ycj fuel sides es s t=some r)
 {A:Option Addr}{cap:Nat}{B:Nat}{w0:World}{H:List HP}{w:World}(hw:St B w0 (gpcs g sides A cap es H) w):
 CX B w0 378 [.pointer (some ⟨g,0,none⟩),.int .i64 s,.int .i64 t] w λv K=>v=.tuple #[.int .i64 r.1,.bool r.2.1]/\(r.2.2.length=es.length/\EdsIn sides (b+2*(fuel:Int)) r.2.2/\ -300000000000000<=r.1/\r.1<=1073741824)/\K=gpcs g sides A cap r.2.2 H:=by
 refine Yc Tryz.func378 Tryz.ntmps378 rfl rfl hw ?_
 have hok:=hes.ok (by omega)
 have hnn:YP=1073741824:=rfl
 unfold gpcs
 refine zX26 ?_<;>intros
 apply Ye _ Yq7
 exact za
 exact rfl
 exactλ_ hw=>(OX 1073741824 sides (by omega) (.blk (by(focus exact zc2))) (hw))
 rintro _ _ ⟨gs,rfl,rfl⟩
 have hrl:(List.replicate sides (1073741824:Int)).length=sides:=Rr
 repeat'(first|(apply XP T (f:=numF) (l:=List.replicate sides (1073741824:Int)) (i:=s.toNat) (a:=0);(iterate 3 exact rfl);exact zd;exact rfl;exactλ_=>rfl;exact rfl;omega)|refine zgd ?_|fail)
 have hst:Zx sides s=(List.replicate sides (1073741824:Int)).set s.toNat 0:=rfl
 have hsl:(Zx sides s).length=(List.replicate sides (1073741824:Int)).length:=by rw[hst];exact Rf
 unfold Ycj at hrun
 cases hre:OW fuel es (Zx sides s) (List.replicate sides (-1))with
 |none=>rw[hre]at hrun;cases hrun
 |some fb=>
  rw[hre]at hrun
  obtain⟨far,by_⟩:=fb
  dsimp only at hrun
  rw[<-hst,<-hsl]
  apply XU (gpcs g sides A cap es (ints (some ⟨gs,0,none⟩) sides (Zx sides s)::H))
  ·unfold gpcs ints
   exact zc0
  apply Ye _ YxM
  exact za
  exact rfl
  exactλ_ hw=>(Yl5 g sides es (Zx sides s) fuel (far,by_) hs hok hel (by omega) (YpO hs0 _ Rr _) hre (hw))
  rintro _ _ ⟨gb,rfl,hro,rfl⟩
  obtain⟨l1,l2,hlow⟩:=hro
  simp only at l1 l2 hlow
  have hgt:=X6 (far:=far) (i:=t) (by omega)
  have hlt:=hlow t ht0.1 ht0.2
  rw[hnn]at hlt hrun
  unfold gpcs
  dsimp only
  by_cases hno:1073741824<=Yf far t
  ·rw[Tn hno]at hrun
   obtain rfl:=Tv hrun
   refine zX25 ?_<;>intros
   apply Yi (gpcs g sides A cap es H)
   ·unfold gpcs
    exact zc0
   apply YM;(iterate 3 exact rfl)
   exact⟨rfl,⟨rfl,hes.mono (by omega),show(-300000000000000:Int)<=0 by decide,show(0:Int)<=1073741824 by decide⟩,rfl⟩
  ·rw[Tf hno]at hrun
   cases hba:YbS fuel es by_ s t with
   |none=>rw[hba]at hrun;cases hrun
   |some res=>
    rw[hba]at hrun
    dsimp only at hrun
    obtain rfl:=Tv hrun
    refine zX25 ?_<;>intros
    refine Yg (λ(z:Bz)=>[(11,.int .i64 z.at_),(10,.slice (some ⟨gb,0,none⟩) by_.length sides),(9,.slice (some ⟨gs,0,none⟩) far.length sides),(0,.pointer (some ⟨g,0,none⟩)),(1,.int .i64 s),(2,.int .i64 t)])
     (λz=>ints (some ⟨gb,0,none⟩) sides by_::blk g (YdR sides A z.es.length cap)::sl 438 4 A z.es.length cap (z.es.flatMap edF)::ints (some ⟨gs,0,none⟩) sides far::H) (λz=>BzOk fuel sides b es.length by_ s res z) (λz=>z.k) ⟨fuel,es,t⟩ ⟨TJ _,hba,hes.mono (by omega),rfl,ht0⟩ ?_ (λw hw=>hw) ?_
    ·exact zc1
    rintro⟨k,e1,v⟩ ⟨hkf,hrun1,hein,hlen,⟨v0,v1⟩⟩ K hK
    simp only at hkf hrun1 hein hlen v0 v1⊢
    cases k with
    |zero=>cases hrun1
    |succ k=>
     unfold YbS at hrun1
     by_cases hvs:v=s
     ·rw[Tn hvs]at hrun1
      obtain rfl:=Tv hrun1
      clear hK
      refine zX0 ?_<;>intros
      apply Yi (gpcs g sides A cap e1 H)
      ·unfold gpcs
       exact zc0
      apply YM;(iterate 3 exact rfl)
      exact⟨rfl,⟨hlen,hein.mono (by omega),by omega,by omega⟩,rfl⟩
     ·rw[Tf hvs]at hrun1
      have hgv:=X6 (far:=by_) (i:=v) (by omega)
      obtain⟨i,hi⟩:∃i,Yf by_ v=i:=⟨_,rfl⟩
      rw[hi]at hrun1 hgv
      by_cases hneg:i<0
      ·rw[Tn hneg]at hrun1;cases hrun1
      rw[Tf hneg]at hrun1
      obtain⟨m,rfl⟩:∃m:Nat,i=m:=⟨i.toNat,by omega⟩
      rw[RU]at hrun1
      cases he:e1[m]? with
      |none=>rw[he]at hrun1;cases hrun1
      |some e=>
       rw[he]at hrun1
       dsimp only at hrun1
       by_cases htw:e1.length<=twin m
       ·rw[Tn htw]at hrun1;cases hrun1
       rw[Tf htw]at hrun1
       have hml:=(Tj.1 he).1
       have hmb:m<2000:=by omega
       have hxor:=Ysz m (by omega)
       have hm1:VR e1 m (-1)=e1.set m {e with r:=e.r-1}:=by unfold VR;rw[he];rfl
       obtain⟨f1,hf1⟩:∃f1,e1.set m {e with r:=e.r-1}=f1:=⟨_,rfl⟩
       have hfl1:f1.length=e1.length:=by rw[<-hf1];exact Rf
       have hin1:=YjU hein m (d:= -1) (by omega)
       rw[hm1,hf1]at hin1
       obtain⟨e2,he2⟩:∃x,f1[twin m]? =some x:=⟨_,Ta (by omega)⟩
       have hm2:VR f1 (twin m) 1=f1.set (twin m) {e2 with r:=e2.r+1}:=by unfold VR;rw[he2]
       obtain⟨f2,hf2⟩:∃f2,f1.set (twin m) {e2 with r:=e2.r+1}=f2:=⟨_,rfl⟩
       have hfl2:f2.length=e1.length:=by rw[<-hf2,Rf];exact hfl1
       have hin2:=YjU hin1 (twin m) (d:=1) (by omega)
       rw[hm2,hf2]at hin2
       rw[hm1,hf1,hm2,hf2]at hrun1
       obtain⟨_,_,_,hr1⟩:=hein e (Tc he)
       obtain⟨_,_,_,hr2⟩:=hin1 e2 (Tc he2)
       have hef:=(hein e (Tc he)).1
       have hem:(f1.set (twin m) {e2 with r:=e2.r+1})[m]? =some {e with r:=e.r-1}:=by
        rw[NW (Yug m),<-hf1,S0 hml]
       have hfl3:(f1.set (twin m) {e2 with r:=e2.r+1}).length=f1.length:=Rf
       refine zX3 ?_<;>intros
       apply YX [0,1,2,3,4,5,6,7,8,9,10,11,12,13] [14] [true,true,true]
       kernel_rfl
       kernel_rfl
       exact zy
       (simp only[Yh,nthO];rfl)
       (simp only[Yh,nthO];rfl)
       repeat'(first|(apply Ue T (f:=edF) (l:=e1) (i:=m) (q:=4) (o:=3) (b:=e) (b':={e with r:=e.r-1});(iterate 3 exact rfl);exact zd;exact he;exact rfl;exactλ_=>rfl;exact rfl;exact rfl)|refine zgd ?_|fail)
       rw[hf1]
       apply ZW (ints (some ⟨gb,0,none⟩) sides by_::blk g (YdR sides A f1.length cap)::sl 438 4 A f1.length cap (f1.flatMap edF)::ints (some ⟨gs,0,none⟩) sides far::H)
       ·rw[hfl1]
        exact zc0
       apply YX [0,1,2,3,4,5,6,7,8,9,10,11,12,13,14] [15] [true,true,true]
       kernel_rfl
       kernel_rfl
       exact zy
       (simp only[Yh,nthO];rfl)
       (simp only[Yh,nthO];rfl)
       repeat'(first|(apply Ywo;(iterate 3 exact rfl);rw[hxor])|(apply Ue T (f:=edF) (l:=f1) (i:=twin m) (q:=4) (o:=3) (b:=e2) (b':={e2 with r:=e2.r+1});(iterate 3 exact rfl);exact zd;exact he2;exact rfl;exactλ_=>rfl;exact rfl;exact rfl)|(apply ZX T (l:=f1.set (twin m) {e2 with r:=e2.r+1}) (f:=edF);(rw[hfl3];exact rfl);exact rfl;exact .sl zm;exact rfl;exactλ_=>rfl;exact rfl;exact rfl;omega)|refine zgd ?_|fail)
       apply hK ⟨k,f2,e.f⟩
       ·exact⟨by exact zc28,hrun1,hin2.mono zc28,by exact zc28,hef⟩
       ·exact zc28
       ·exact zc1
       ·dsimp only
        rw[hf2,show f1.length=f2.length by omega]
        exact zc0
end Go.Proofs.YtaholidehobiiaaGreatDoor
