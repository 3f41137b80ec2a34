/- Lemmas. -/
import Derived.Test.YtjommdkgfbhbdaaGreatDoorQ10
import Derived.Test.YtjommdkgfbhbdaaGreatDoorQ11
set_option maxRecDepth 100000
set_option maxHeartbeats 8000000
set_option linter.all false
namespace Go.Proofs.YtjommdkgfbhbdaaGreatDoor
open Go.RowKit Go.Eng Go.Nw Go.Rt
def wordF:List UInt8:=[102,108,111,119]
def wordR:List UInt8:=[114,111,117,116,101]
def Oy:List UInt8:=[98,111,117,110,100]
def Oz:List UInt8:=[115,108,111,116,115]
def inL(l:List Int)(a b:Int):Bool:=l.all λx=>decide (a<=x/\x<=b)
def rtOk(r l:List Int):Bool:=decide (2<=r.length/\r.length<=9)&&inL r 0 31&&decide (1<=l.length/\l.length<=64)&&inL l 0 511
def Jd(c:Clm):Bool:=decide (0<=c.flow/\c.flow<=255/\1<=c.routes.length/\c.routes.length<=2/\c.bounds.length=c.routes.length/\c.worst.length=c.routes.length/\c.slots.length=c.routes.length)&&
 inL c.bounds 1 512&&inL c.worst 0 511&&(List.range c.routes.length).all λi=>rtOk (rtAt c.routes i) (rtAt c.slots i)
def Ye4(c:List Clm)(i:Nat):Bool:=Jd (Uh c i)&&(decide (i=0)||decide ((Uh c (i-1)).flow<(Uh c i).flow))
def WJ(c:List Clm):Bool:=decide (c.length<=16)&&(List.range c.length).all (Ye4 c)
def Ymf(c:Clm)(i:Nat):List (List UInt8):=
 XW wordR (rtAt c.routes i)::((if i<c.bounds.length then [XW Oy [c.bounds.getD i 0,c.worst.getD i 0]]else [])++(if i<c.slots.length then [XW Oz (rtAt c.slots i)]else []))
def Yme(c:Clm):List (List UInt8):=XW wordF [c.flow]::(List.range c.routes.length).flatMap (Ymf c)
def Ymk(c:List Clm):List UInt8:=(c.flatMap Yme).flatMap λp=>p++[10]
def ZH(c:List Clm):List UInt8×Int:=if WJ c=false then([],1)else(Ymk c,0)
structure Pst where
 c:List Clm
 last:Nat
def Yk5:Pst:=⟨[],3⟩
structure FormD(c:Clm):Prop where
 f:0<=c.flow/\c.flow<=255
 n:1<=c.routes.length/\c.routes.length<=2
 b:c.bounds.length=c.routes.length
 w:c.worst.length=c.routes.length
 s:c.slots.length=c.routes.length
 bs:∀x∈c.bounds,1<=x/\x<=512
 ws:∀x∈c.worst,0<=x/\x<=511
 rs:∀i,i<c.routes.length->2<=(rtAt c.routes i).length/\(rtAt c.routes i).length<=9/\∀x∈rtAt c.routes i,0<=x/\x<=31
 ls:∀i,i<c.routes.length->1<=(rtAt c.slots i).length/\(rtAt c.slots i).length<=64/\∀x∈rtAt c.slots i,0<=x/\x<=511
variable {l:List Int}
theorem Yb5{a b:Int}:inL l a b=true↔∀x∈l,a<=x/\x<=b:=by
 grind [inL]
theorem Yki{c:Clm}:Jd c=true↔FormD c:=by
 unfold Jd
 simp only[Tq,Tm,Yb5,TL,TQ]
 constructor
 ·rintro⟨⟨⟨⟨h1,h2,h3,h4,h5,h6,h7⟩,h8⟩,h9⟩,h10⟩
  have hr:∀i,i<c.routes.length->_:=λi hi=>h10 i hi
  refine⟨⟨h1,h2⟩,⟨h3,h4⟩,h5,h6,h7,h8,h9,λi hi=>?_,λi hi=>?_⟩
  ·have:=hr i hi
   unfold rtOk at this
   simp_all [Yb5]
  ·have:=hr i hi
   unfold rtOk at this
   simp_all [Yb5]
 ·intro h
  refine⟨⟨⟨⟨h.f.1,h.f.2,h.n.1,h.n.2,h.b,h.w,h.s⟩,h.bs⟩,h.ws⟩,λi hi=>?_⟩
  have h1:=h.rs i hi
  have h2:=h.ls i hi
  simp_all [rtOk,Yb5]
variable {c:List Clm}{i:Nat}
theorem Yj0(h:i<c.length):c[i]? =some (Uh c i):=by
 grind [Uh]
theorem Ydd(h:WJ c=true):c.length<=16/\∀x∈c,FormD x:=by
 unfold WJ at h
 rw[Tq,Tm]at h
 refine⟨h.1,λx hx=>?_⟩
 obtain⟨i,hi⟩:=TP.1 hx
 have hl:=(Tu.1 hi).1
 have:=TL.1 h.2 i (TQ.2 hl)
 unfold Ye4 at this
 grind [Yj0,Yki]
theorem Yfm(h:i<l.length):l.getD i 0∈l:=by
 simp_all
structure Rdr(p:Pst):Prop where
 full:∀i x,p.c[i]? =some x->i+1<p.c.length->x.bounds.length=x.routes.length/\x.worst.length=x.routes.length/\x.slots.length=x.routes.length/\1<=x.routes.length/\x.routes.length<=2
 some_:p.c=[]->p.last=3
 at_:∀cs x,p.c=cs++[x]->
  (p.last=0/\x.routes=[]/\x.bounds=[]/\x.worst=[]/\x.slots=[])\/
  (p.last=1/\1<=x.routes.length/\x.routes.length<=2/\x.bounds.length+1=x.routes.length/\x.worst.length+1=x.routes.length/\x.slots.length+1=x.routes.length)\/
  (p.last=2/\1<=x.routes.length/\x.routes.length<=2/\x.bounds.length=x.routes.length/\x.worst.length=x.routes.length/\x.slots.length+1=x.routes.length)\/
  (p.last=3/\1<=x.routes.length/\x.routes.length<=2/\x.bounds.length=x.routes.length/\x.worst.length=x.routes.length/\x.slots.length=x.routes.length)
theorem Rdr.start:Rdr Yk5:=⟨λi x h=>by simp[Yk5]at h,λ_=>rfl,λcs x h=>by simp[Yk5]at h⟩
open Go.RowKit Go.Eng Go.Nw
theorem We(word:List UInt8)(l:List Int)(h:∀n∈l,0<=n/\n<10000)(h5:l.length<=100)(hwd:word.length<=100){A:Option Addr}{cap B:Nat}{w0:World}{H:List HP}{w:World}(ht:TabsB B w0)(hr:Rd B w0 H A (l.flatMap numF))(hw:St B w0 H w):
 CX B w0 171 [strV word,.slice A l.length cap] w λv K=>v=strV (Y0 word l)/\K=H:=by
 refine Ya Tryz.func171 Tryz.ntmps171 rfl rfl hw ?_
 repeat'(first|apply(zs1 ?_)|apply(zs2 ?_)|(apply zg4;refine zs9 ?_)|apply(zs65 ?_)|apply(zs68 ?_)|apply(zs69 ?_)|apply(zs70 ?_)|apply(zs73 ?_)|fail)
 refine Ye (λ(i:Nat)=>[(9,.int .i64 i),(8,.int .i64 l.length),(7,.slice A l.length cap),(0,strV (XW word (l.take i)))]) (λ_=>H) (λi=>i<=l.length) (λi=>l.length-i) 0 (Td _) ?_ (λw hw=>hw) ?_
 ·have e0:XW word (l.take 0)=word:=by simp[XW]
  rw[e0]
  exact zc1
 intro i hi K hK
 have hbl:=UJ (w:=word) (l:=l.take i) λn hn=>h n (RY hn)
 have hlt0:(l.take i).length<=100:=by grind
 by_cases hlt:i<l.length
 ·obtain⟨n,hn⟩:∃n,l[i]? =some n:=⟨_,Ta hlt⟩
  have hnb:=h n (Tc hn)
  have hil:=Ob hnb
  repeat'(first|((apply Yb YsD);exact za;exact rfl;exactλ_ hw=>(Yfo n (by omega) (by omega) ht hw))|(apply XY [32] (Lib.itoa n);(iterate 3 exact rfl);(show 1+_<=_;omega))|(apply XY (XW word (l.take i)) ([32]++Lib.itoa n);(iterate 3 exact rfl);(rw[Tt];show _+(1+_)<=_;omega))|apply(zs1 ?_)|apply(zs2 ?_)|(apply zg3;refine zs60 ?_)|(apply zg5;refine zs57 ?_)|(apply(zs17 ?_ ?_)<;>intro _<;>try exact zo)|(apply zg13;refine zs30 ?_)|apply(zs65 ?_)|apply(zs68 ?_)|apply(zs69 ?_)|apply(zs70 ?_)|(apply zg27;refine zs71 ?_)|apply(zs73 ?_)|apply(zs76 ?_)|apply(zs79 ?_)|fail)
  apply hK (i+1)
  ·show i+1<=l.length
   omega
  ·omega
  ·rw[TB,hn,RN,OD]
   exact zc1
  exact zc21
 exact zc13
variable {X:List Cel}
theorem OF{Y:List Cel}{k:Nat}(h:k<X.length):celL (X++Y) k=celL X k:=by
 grind [celL]
theorem YcF(X:List Cel)(c:Cel):celL (X++[c]) X.length=c:=by
 simp_all [celL]
theorem UK(X:List Cel)(c:Cel)(k:Nat):celL (c::X) (k+1)=celL X k:=by
 grind [celL]
theorem YaD(X:List Cel)(c:Cel):celL (c::X) 0=c:=rfl
theorem Ql(n:Net)(X Y:List Cel)(j:Nat)(node:Int):∀k,k<=X.length->Yu n (X++Y) j node k=Yu n X j node k
 |0,_=>rfl
 |k+1,h=>by rw[Yu,Yu,Ql n X Y j node k (by omega),OF (by omega)]
theorem YaH(n:Net)(X:List Cel)(c:Cel)(i:Nat)(node:Int):∀k,Yu n (c::X) (i+1) node (k+1)=(powN n (YF c) node+powN n (toC c) node)+Yu n X i node k
 |0=>by simp_all [Yu,YaD]
 |k+1=>by
  rw[Yu,YaH n X c i node k,Yu,UK]
  omega
theorem Qk(n:Net)(X:List Cel)(c:Cel)(node:Int)(j:Nat):∀k,k<=j->Yu n (c::X) 0 node (k+1)=Yu n X j node k
 |0,_=>by simp_all [Yu]
 |k+1,h=>by
  rw[Yu,Qk n X c node j k (by omega),Yu,UK,Tj (by omega),Tj (by omega)]
theorem YmZ(X:List Cel)(c:Cel)(i:Nat)(hi:i<X.length)(T:Cel->Bool):((List.range (X++[c]).length).any λk=>decide (k≠i)&&T (celL (X++[c]) k))=(((List.range X.length).any λk=>decide (k≠i)&&T (celL X k))||T c):=by
 rw[Tt,T9,Rq,S7]
 congr 1
 ·rw[Bool.eq_iff_iff,Rj,Rj]
  constructor
  ·grind [OF]
  ·grind [OF]
 ·rw[List.any_cons,List.any_nil,Bool.or_false,YcF,Tf (show X.length≠i by omega),RD]
theorem YmX(X:List Cel)(c:Cel)(i:Nat)(T:Cel->Bool):((List.range (c::X).length).any λk=>decide (k≠i+1)&&T (celL (c::X) k))=(T c||(List.range X.length).any λk=>decide (k≠i)&&T (celL X k)):=by
 rw[Ro,SE,List.any_cons,List.any_map,YaD,Tf (show 0≠i+1 by omega),RD]
 congr 1
 exact zc68
theorem YmY(X:List Cel)(c:Cel)(T:Cel->Bool):((List.range (X++[c]).length).any λk=>decide (k≠X.length)&&T (celL (X++[c]) k))=(List.range X.length).any λk=>T (celL X k):=by
 rw[Tt,T9,Rq,S7,List.any_cons,List.any_nil,Bool.or_false,show decide (X.length≠X.length)=false by simp,Nb,Bool.or_false]
 rw[Bool.eq_iff_iff,Rj,Rj]
 constructor
 ·rintro⟨k,hk,h⟩;refine⟨k,hk,?_⟩;simp_all [OF]
 ·rintro⟨k,hk,h⟩
  refine⟨k,hk,?_⟩
  have:=TQ.1 hk
  rw[OF this,Tq]
  grind
theorem YmW(X:List Cel)(c:Cel)(T:Cel->Bool):((List.range (c::X).length).any λk=>decide (k≠0)&&T (celL (c::X) k))=(List.range X.length).any λk=>T (celL X k):=by
 rw[Ro,SE,List.any_cons,List.any_map,show decide ((0:Nat)≠0)=false by simp,Nb,Nz]
 exact zc68
variable {c c':Cel}
theorem Ou{d:Cel}(hf:YF c=YF c')(ht:toC c=toC c'):Yx c d=Yx c' d/\Yx d c=Yx d c':=by
 unfold Yx;simp_all
theorem Ye9(n:Net)(X:List Cel)(c:Cel)(i:Nat)(hi:i<X.length)(node:Int):Yu n (X++[c]) i node (X++[c]).length=Yu n X i node X.length+(powN n (YF c) node+powN n (toC c) node):=by
 rw[Tt,T9,Yu,Ql n X [c] i node _ (TK _),Tj (by omega),YcF]
theorem YcS(n:Net)(X:List Cel)(c:Cel)(node:Int):Yu n (X++[c]) X.length node (X++[c]).length=Yu n X X.length node X.length:=by
 simp_all [Yu,Ql]
theorem Ydg{n:Net}(hf:YF c=YF c')(ht:toC c=toC c'):JE n (X++[c])=JE n (c'::X):=by
 have h1:∀i,i<X.length->ZM n (X++[c]) i=ZM n (c'::X) (i+1):=λi hi=>by
  unfold ZM
  rw[OF hi,UK,YmZ X c i hi,YmX,Ye9 n X c i hi,Ye9 n X c i hi,Ro,YaH,YaH,(Ou hf ht).2,hf,ht,Bool.or_comm (Yx _ c')]
  grind
 have h2:ZM n (X++[c]) X.length=ZM n (c'::X) 0:=by
  unfold ZM
  rw[YcF,YaD,YmY,YmW,YcS,YcS,Ro,Qk n X c' _ X.length _ (TK _),Qk n X c' _ X.length _ (TK _),hf,ht]
  have:(λk=>Yx c (celL X k))=λk=>Yx c' (celL X k):=funext λk=>(Ou hf ht).1
  rw[this]
 unfold JE
 rw[Tt,T9,Rq,List.all_append,Ro,SE,Ny,List.all_nil,Bool.and_true,Ny,List.all_map,h2,Bool.and_comm]
 grind
def fitE(n:Net)(l:List Cel)(slot o a b:Int):Bool:=!(l.any λd=>decide (d.1=slot)&&Yx d (0,0,a,b,0))&&JE n (l.filter (atP slot o)++[(0,0,a,b,0)])
def hasC(l:List Cel)(slot a b id:Int):Bool:=l.any λd=>decide (d.1=slot/\YF d=a/\toC d=b/\XE d=id)
def JL(n:Net)(s:Sch)(a b id slot:Int):Option Sch:=
 if hasC s.cells slot a b id=true then some s else((List.range s.off.toNat).find? λo:Nat=>fitE n s.cells slot o a b).map λo:Nat=>⟨s.len,s.off,insC s.cells (slot,(o:Int),a,b,id)⟩
def hopA(n:Net)(a b id:Int):Nat->Nat->Sch->Int->Option (Sch×Int)
 |_,0,s,z=>some (s,z)
 |0,_+1,_,_=>none
 |f+1,k+1,s,z=>match JL n s a b id (z.tmod s.len)with
  |some t=>hopA n a b id f k t (z+1)
  |none=>hopA n a b id f (k+1) s (z+1)
def relA(n:Net)(id endd:Int):List Lk->Sch->Int->Option Sch
 |[],s,_=>some s
 |l::ls,s,z=>match hopA n l.1 l.2.1 id (endd-z).toNat (Y2 l) s z with
  |none=>none
  |some (t,y)=>relA n id endd ls t y
def Yai(n:Net)(f:Flw)(ls:List Lk):Nat->Sch->Int->Option Sch
 |0,s,_=>some s
 |k+1,s,z=>if z<s.len then match relA n f.1 (z+f.2.2.2.2.2) ls s z with
  |none=>none
  |some t=>Yai n f ls k t (z+f.2.2.2.1)
  else some s
def JG(n:Net)(f:Flw):List (List Int)->Sch->Option Sch
 |[],s=>some s
 |r::rs,s=>match Yai n f (Yp n r) s.len.toNat s f.2.2.2.2.1 with
  |none=>none
  |some t=>JG n f rs t
end Go.Proofs.YtjommdkgfbhbdaaGreatDoor
namespace Go.Eng
open Go.RowKit
theorem J1(H:List HP):Perm H (H++[]):=zc28
section
variable {P:Program}{B:Nat}{w0:World}{Q:Exit->Act->World->Prop}{env:Env}{H:List HP}{m:Mode}{n:Shp}{ops:Array Oper}{rest:List Oper}{d:Nat}{ty:TypeId}{pos:String}{after:Array Edge}{xt yt:TypeId}{x y:Operand}{k:IntKind}{a b:Int}
theorem Yrb(hx:evo env x=some (.int k a))(hy:evo env y=some (.int k b))(hn:Nat.ble (d+1) n.k=true)(h:VL P m n B w0 ops Q rest ((d,.bool (decide (a=b)))::env) H):
 VL P m n B w0 ops Q (⟨some d,.binOp .eql xt x y yt,ty,pos,after,none⟩::rest) env H:=by
 refine YoC hx hy hn (λe=>?_) (λe=>?_)
 ·rwa [Tf e]at h
 ·rwa [Ti e]at h
theorem WS(T:Tab P){α:Type}{f:α->List Value}{l:List α}{t i q o k:Nat}{b:α}{x:Operand}{A:Option Addr}{vs:List Value}(hx:evo env x=some (sptr A (i*q+o)))(hr:Rd B w0 H A (l.flatMap f))(hb:l[i]? =some b)(hq:∀a,(f a).length=q)
 (ht:look T.ag t=some k) (ho:Nat.ble (o+k) q=true) (h0:Nat.blt 0 k=true) (hv:subL o k (f b)=vs) (hk:Nat.beq vs.length k=true) (hn:Nat.ble (d+1) n.k=true)
 (h:VL P m n B w0 ops Q rest ((d,.agg vs.toArray)::env) H):VL P m n B w0 ops Q (⟨some d,.load t x,ty,pos,after,none⟩::rest) env H:=by
 refine Yt rfl rfl hn rfl (λa w ha hw=>?_) h
 have hk:=Nat.eq_of_beq_eq_true hk
 have hk0:0<k:=by simp_all
 have hok:o+k<=q:=TR ho
 have hget:∀j v,vs[j]? =some v->(l.flatMap f)[i*q+o+j]? =some v:=λj v hj=>by
  have hlt:j<k:=by grind
  rw[Nat.add_assoc,UU hq l i (o+j) b hb (by omega)]
  rw[<-hv,subL,SA,Tn hlt,RS]at hj
  exact hj
 obtain⟨g,u,rfl,_⟩:=hr w hw _ _ (hget 0 _ (Ta (by omega)))
 have hl:=run_loadCells_list (P:=P) w ⟨g,u+(i*q+o),none⟩ vs (λj v hj=>by
  exact Yuj)
 rw[hk]at hl
 exact zc92
end
section
variable {P:Program}{ops:Array Oper}{Q:Exit->Act->World->Prop}
def NoQ:Exit->Act->World->Prop:=λ_ _ _=>False
theorem Yp2:¬LetsOut NoQ:=zc54
def Yej(P:Program)(ops:Array Oper)(S:World->Prop)(last:List Nat)(Z:Array Bool->Act->World->Prop):Nat->Array Bool->Act->World->Prop
 |0,listed,a,w=>(∀j,j<ops.size->last.contains j=false->listed.getD j false=true)/\Z listed a w
 |m+1,listed,a,w=>Region.ready .any ops listed≠[]/\∀i∈Region.ready .any ops listed,last.contains i=false/\wpOp P ops NoQ i (λa' w'=>S w'/\Yej P ops S last Z m (listed.setIfInBounds i true) a' w') a w
variable {o:Oper}{a:Act}{w:World}{K:Act->World->Prop}
theorem Yvc(h:o.wp P a w K NoQ):o.wpIn Fence.wide 0 P a w K Q:=by
 refine⟨λf _=>trivial,?_⟩
 unfold Oper.wp at h
 have hs:Oper.semAt Fence.wide.round a.eval o=execOp a.eval o:=Oper.semAt_none _ _
 rw[hs]
 generalize(execOp a.eval o).run P w=res at h⊢
 cases res with
 |ok x w'=>
  cases x<;>simp only[Oper.upon,Oper.uponIn]at h⊢<;>first
   |exact h
   |(refine⟨λhd=>by simp[Fence.wide]at hd,?_⟩
     refine CallsIn.mono (callsIn_wide.2 h) λe w'' he=>?_
     cases e with
     |returned u=>exact he
     |panicked c=>exact he.elim
     |outgrown=>obtain⟨_,_,he⟩:=he;exact he.elim)
   |(refine⟨λhd=>by simp[Fence.wide]at hd,λc cs _=>?_⟩
     obtain⟨v,w2,k1,k2⟩:=h c cs
     exact⟨v,w2,k1,stepsIn_wide.2 k2⟩)
   |exact h.elim
 |halt x w'=>cases x<;>simp only[Oper.upon,Oper.uponIn]at h⊢<;>first|exact h.elim|exact h
theorem Yb2{S:World->Prop}{last:List Nat}{Z:Array Bool->Act->World->Prop}{k:Nat}(hz:∀listed a w,Z listed a w->wpAnyIn Fence.wide 0 P .any ops Q k listed a w):∀(m:Nat) (listed:Array Bool) (a:Act) (w:World),Yej P ops S last Z m listed a w->wpAnyIn Fence.wide 0 P .any ops Q (m+k) listed a w
 |0,listed,a,w,h=>by rw[Ri];exact hz _ _ _ h.2
 |m+1,listed,a,w,h=>by
  rw[show m+1+k=(m+k)+1 by omega]
  refine⟨λe=>absurd e h.1,λi hi=>?_⟩
  have h2:=(h.2 i hi).2
  unfold wpOp at h2
  unfold wpOpIn
  cases ho:ops[i]? with
  |none=>rw[ho]at h2;exact Yb2 hz m _ _ _ h2.2
  |some o=>
   rw[ho]at h2
   simp only at h2⊢
   split
   ·rename_i hw
    rw[Tn hw]at h2
    rcases h2 with h2|⟨_,h2⟩
    ·exact Yvc (Oper.wp_mono (λa w h=>Yb2 hz m _ a w h.2) h2)
    grind [Yp2]
   ·rename_i hw
    rw[Tj hw]at h2
    exact⟨λf _=>trivial,Yb2 hz m _ _ w h2.2⟩
variable {i:Nat}
theorem Yef{listed:Array Bool}(h:listed.getD i true=false):listed.getD i false=false:=by
 grind
variable {last:List Nat}
theorem YjP{S:World->Prop}{Z:Array Bool->Act->World->Prop}{oi:Oper}{v:Value}(hi:ops[i]? =some oi)(hsel:∀(j:Nat) (o:Oper) cs b,ops[j]? =some o->o.op≠.select cs b)
 (hlast:∀j,last.contains j=true->∃f,ancB ops f j i=true) (hil:last.contains i=false):
 ∀(m:Nat) (listed:Array Bool) (a:Act) (w:World),Closed ops listed->
  (∀j oj,ops[j]? =some oj->j≠i->listed.getD j true=false->(∀e∈oj.after,Region.binds .any e=true->e.on≠i)->oi.apart ops oj=true)->
  i∈Region.ready .any ops listed->YieldsIf P ops S oi v a->S w->
  Yej P ops S last Z m (listed.setIfInBounds i true) (a.put oi.dst v) w->Yej P ops S last Z (m+1) listed a w:=by
 intro m
 induction m with
 |zero=>
  intro listed a w hcl _ hr hy hS H
  refine⟨λh=>(by simp_all),λj hj=>?_⟩
  by_cases hji:j=i
  ·subst hji;exact⟨hil,hy.wpOp hi hS ⟨hS,H⟩⟩
  ·obtain⟨hjun,oj,hoj,hall⟩:=mem_ready.1 hj
   have hun':=Yef (mem_ready.1 hr).1
   cases hc:last.contains j with
   |true=>
    grind [Wa]
   |false=>
    have h1:=H.1 j (Array.getElem?_eq_some_iff.1 hoj).1 hc
    rw[getD_set_ne false (NF hji),Yef hjun]at h1
    cases h1
 |succ m ih=>
  intro listed a w hcl hfree hr hy hS H
  refine⟨λh=>(by rw[h]at hr;cases hr),λj hj=>?_⟩
  by_cases hji:j=i
  ·subst hji;exact⟨hil,hy.wpOp hi hS ⟨hS,H⟩⟩
  ·obtain⟨hnl,h1⟩:=H.2 j (ready_mono hj hji)
   obtain⟨hjun,oj,hoj,hall⟩:=mem_ready.1 hj
   have hun':=Yef (mem_ready.1 hr).1
   have hnot:∀e∈oj.after,Region.binds .any e=true->e.on≠i:=by grind
   have h2:=wpOp_putIf hoj (hfree j oj hoj hji hjun hnot) (λcs b=>hsel i oi cs b hi) (λcs b=>hsel j oj cs b hoj) (λc a w h=>h.elim) hy h1
   have hfree':∀k ok,ops[k]? =some ok->k≠i->(listed.setIfInBounds j true).getD k true=false->
    (∀e∈ok.after,Region.binds .any e=true->e.on≠i)->oi.apart ops ok=true:=λk ok hk hki hu hno=>by
    exact zc26
   refine⟨hnl,wpOp_mono (λa' w' h3=>⟨h3.2.1,ih (listed.setIfInBounds j true) a' w' (hcl.set hj) hfree' (ready_mono hr (NF hji)) h3.1 h3.2.1 ?_⟩) h2⟩
   exact zc67
def YaM(ops:Array Oper):List Nat->Array Bool->Bool
 |[],listed=>(Region.ready .any ops listed).isEmpty
 |i::r,listed=>decide (Region.ready .any ops listed=[i])&&YaM ops r (listed.setIfInBounds i true)
def YdG(ops:Array Oper)(last:List Nat):List Nat->Array Bool->Bool
 |[],listed=>((List.range ops.size).all λj=>last.contains j||listed.getD j false)&&YaM ops last listed
 |i::rest,listed=>
  (match ops[i]? with
   |some o=>if eff o then decide (Region.ready .any ops listed=[i])else(Region.ready .any ops listed).contains i&&Region.free .any ops listed i
   |none=>false)&&YdG ops last rest (listed.setIfInBounds i true)
def YpR(ops:Array Oper)(last:List Nat):Bool:=
 last.all λj=>(List.range ops.size).all λi=>last.contains i||(match ops[i]? with|some o=>eff o|none=>false)||ancB ops ops.size j i
theorem Yks(h:YpR ops last=true):∀i oi,ops[i]? =some oi->eff oi=false->last.contains i=false->∀j,last.contains j=true->∃f,ancB ops f j i=true:=λi oi hi he hl j hj=>by
 exact Ymo
variable {l:List Oper}
theorem Yfx(hl:ops=l.toArray)(ho:ops[i]? =some o):nthO l i=o:=by
 grind [Yad]
theorem Ydc{l:List Oper}(hl:ops=l.toArray):∀(o2:List Nat) (listed:Array Bool) (a:Act) (w:World),YaM ops o2 listed=true->wpListIn Fence.wide 0 P ops Q (Yc l o2) a w->wpAnyIn Fence.wide 0 P .any ops Q o2.length listed a w
 |[],listed,a,w,hB,h=>⟨by grind [YaM],h⟩
 |i::r,listed,a,w,hB,h=>by
  simp only[YaM,Tq,Tm]at hB
  refine⟨λh0=>(by simp_all),λk hk=>?_⟩
  have hk':=hk
  obtain rfl:k=i:=by simp_all
  obtain⟨_,o,ho,_⟩:=mem_ready.1 hk'
  unfold wpOpIn
  simp only[ho]
  rw[Yc,Yfx hl ho]at h
  unfold wpListIn at h
  split
  ·rename_i hw
   rw[Tn hw]at h
   exact Oper.wpIn_mono (λa w h=>Ydc hl r _ a w hB.2 h) h
  ·rename_i hw
   rw[Tj hw]at h
   exact⟨h.1,Ydc hl r _ _ w hB.2 h.2⟩
def YQH(P:Program)(ops:Array Oper)(Q:Exit->Act->World->Prop)(l:List Oper):Exit->Act->World->Prop
 |.normal,a,w=>wpListIn Fence.wide 0 P ops Q l a w
 |_,_,_=>False
theorem YvB(h:o.wp P a w K (YQH P ops Q l)):o.wp P a w K NoQ:=by
 unfold Oper.wp at h⊢
 generalize(execOp a.eval o).run P w=r at*
 cases r with
 |ok nx w'=>
  exact zc42
 |halt x w'=>
  cases x<;>simp only[Oper.upon]at h⊢<;>exact h
theorem Un{S:World->Prop}{last:List Nat}(hs:Region.noSelect ops=true)(l:List Oper)(hl:ops=l.toArray)(hlast:YpR ops last=true):
 ∀(o1:List Nat) (listed:Array Bool) (a:Act) (w:World),Closed ops listed->(∀j∈o1,last.contains j=false)->YdG ops last o1 listed=true->S w->Yv P ops (YQH P ops Q (Yc l last)) S (Yc l o1) a w->
  Yej P ops S last (λlisted a w=>YaM ops last listed=true/\wpListIn Fence.wide 0 P ops Q (Yc l last) a w) o1.length listed a w
 |[],listed,a,w,_,_,hB,_,h=>by
  simp only[YdG,Tq]at hB
  refine⟨λj hj hc=>?_,hB.2,h⟩
  grind
 |i::rest,listed,a,w,hcl,hno,hB,hS,h=>by
  simp only[YdG,Tq]at hB
  obtain⟨h1,h2⟩:=hB
  have hno':∀j∈rest,last.contains j=false:=by simp_all
  cases ho:ops[i]? with
  |none=>simp_all
  |some o=>
   rw[ho]at h1
   simp only[Yc,Yfx hl ho]at h
   by_cases he:eff o=true
   ·simp only[he,Ni,Tm]at h1
    unfold Yv at h
    rw[Tn he]at h
    refine⟨λh0=>(by simp_all),λk hk=>?_⟩
    have hk':=hk
    rw[h1]at hk
    obtain rfl:k=i:=by simp_all
    refine⟨hno k (by simp),?_⟩
    unfold wpOp
    simp only[ho]
    by_cases hw:Region.wanted o (yielded ops a.tmps)=true
    ·rw[Tn hw]at h⊢
     exact .inl (YvB (Oper.wp_mono (λa' w' h'=>⟨h'.1,Un hs l hl hlast rest _ a' w' (hcl.set hk') hno' h2 h'.1 h'.2⟩) h))
    ·rw[Tj hw]at h⊢
     exact⟨hS,Un hs l hl hlast rest _ _ w (hcl.set hk') hno' h2 hS h⟩
   ·simp only[he]at h1
    simp only[RO,NC,Tq]at h1
    unfold Yv at h
    rw[Tj he]at h
    obtain⟨v,hy,h3⟩:=h
    have hr:i∈Region.ready .any ops listed:=by simpa using h1.1
    exact YjP ho (Region.noSelect_spec hs) (Yks hlast i o ho (by simpa using he) (hno i (by simp))) (hno i (by simp)) _ listed a w hcl (Region.free_spec ho h1.2) hr hy hS (Un hs l hl hlast rest _ _ w (hcl.set hr) hno' h2 hS h3)
end
section
variable {P:Program}{B:Nat}{w0:World}{Q:Exit->Act->World->Prop}{env:Env}{H:List HP}
variable {n:Nat}{ds:List Deferred}{l:List Oper}
theorem YmE{id:Nat}(o1 last:List Nat)(mask:List Bool){Hc F:List HP}(hm:P.follows .mixedOrders=true)
 (hB:(Region.noSelect l.toArray&&decide ((o1++last).length=l.toArray.size)&&YpR l.toArray last&&(o1.all λj=>!last.contains j)&&YdG l.toArray last o1 (Array.replicate l.toArray.size false))=true)
 (hsp:Split mask H Hc F) {l1 l2:List Oper}(hl1:Yc l o1=l1) (hl2:Yc l last=l2) (h:VL P (some (some F)) ⟨n,ds,none⟩ B w0 l.toArray (YQH P l.toArray Q l2) l1 env Hc):VC P ⟨n,ds,none⟩ B w0 (.region id l.toArray true) Q env H:=by
 simp only[Tq,Tm]at hB
 obtain⟨⟨⟨⟨h1,h2⟩,h3⟩,h4⟩,h5⟩:=hB
 refine⟨λa w ha hw=>?_⟩
 refine(wpIn_wide (n:=0)).1 (wpIn_region_any hm ?_)
 have hst:St B w0 (Hc++F) w.drew:=(hw.perm (XU hsp)).drew
 have hr:Yv P l.toArray (YQH P l.toArray Q l2) (St B w0 Hc) l1 a w.drew:=h.run a ha w.drew hst
 rw[<-hl1,<-hl2]at hr
 have hz:=Un (S:=St B w0 Hc) h1 l rfl h3 o1 _ a w.drew (X5 _ _) (λj hj=>by simp_all) h5 hst.prefix_ hr
 have:=Yb2 (k:=last.length) (Q:=Q) (λlisted a w hz=>Ydc rfl last listed a w hz.1 hz.2) o1.length _ a w.drew hz
 simp_all
theorem YoS{ops:Array Oper}(h:VQ ⟨n,ds,none⟩ B w0 (YQ P ops Q l) .normal env H):VQ ⟨n,ds,none⟩ B w0 (YQH P ops Q l) .normal env H:=⟨λa w ha hw=>h.run a w ha hw⟩
end
end Go.Eng
namespace Go.Proofs.YtjommdkgfbhbdaaGreatDoor
open Go.RowKit Go.Eng Go.Nw Go.Rt
def WayV(A:Option Addr)(l:List Int):Prop:=l=[]->A=none
structure Fz where
 at_:Int
 pre:List Int
 A:Option Addr
 cap:Nat
theorem Yh5{l:List Lk}{far:List Int}{to:Int}{nodes:Nat}(hl:ArcsOk nodes l)(hd:Dist nodes l to far){v:Int}(h0:0<=v)(h1:v<nodes)(hne:v≠to)(hlt:Yk far v<Xr):∀k j:Nat,(Yk far v).toNat<=k->(Yk far v).toNat<=j->Zd l far to k v=Zd l far to j v:=by
 intro k
 induction k generalizing v with
 |zero=>
  intro j hk hj
  have:=(YaB hl hd h0 h1 hne hlt).2
  omega
 |succ k ih=>
  intro j hk hj
  obtain⟨b1,b2,b3,_⟩:=YaB hl hd h0 h1 hne hlt
  cases j with
  |zero=>omega
  |succ j=>
   unfold Zd
   rw[Tj hne,Tj hne]
   by_cases hb:XO l far v=to
   ·cases k<;>cases j<;>simp[Zd,hb]
   grind
theorem Ykf(nodes:Nat)(l:List Lk)(s to:Int)(hn:nodes<=40)(hl:l.length<=1000000)(hok:ArcsOk nodes l)(hs:0<=s/\s<nodes)(hto:0<=to/\to<nodes){AL:Option Addr}{capL B:Nat}{w0:World}{H:List HP}{w:World}(hr:Rd B w0 H AL (l.flatMap lkF))(hw:St B w0 H w):
 CX B w0 238 [.int .i64 nodes,.slice AL l.length capL,.int .i64 s,.int .i64 to] w λv K=>∃A cap,v=.slice A (wayF l (Uj nodes l to) s to).length cap/\WayV A (wayF l (Uj nodes l to) s to)/\(Uj nodes l to).length=nodes/\Dist nodes l to (Uj nodes l to)/\K=ints A cap (wayF l (Uj nodes l to) s to)::H:=by
 refine Ya Tryz.func238 Tryz.ntmps238 rfl rfl hw ?_
 refine zX2 ?_
 apply Yg _ YwD
 exact za
 exact rfl
 exactλ_ hw=>(YcU nodes l to hn hl hok hto hr (hw))
 rintro _ _ ⟨gf,far,rfl,hd,rfl⟩
 rw[YhH hok hd]
 have hflen:=hd.len
 have hgs:=ZE (far:=far) (i:=s) (by omega)
 have hrs:=hd.range s hs.1 hs.2
 have hne:Xr=1073741824:=rfl
 unfold wayF
 by_cases hfar:Xr<=Yk far s
 ·rw[Tn hfar]
  rw[hne]at hfar
  refine zX25 ?_<;>intros
  apply Yf (ints none 0 []::H)
  ·exactλw hw=>hw.tail.nilSlice _ _
  apply Yd;exact rfl;exact rfl
  exact⟨none,0,rfl,λ_=>rfl,hflen,hd,rfl⟩
 rw[Tj hfar]
 rw[hne]at hfar
 refine zX79 ?_<;>intros
 rename_i g1
 have hf0:0<=Yk far s:=hrs.1
 refine Ye (λ(z:Fz)=>[(11,.int .i64 z.at_),(10,.slice z.A z.pre.length z.cap),(9,.slice (some ⟨gf,0,none⟩) far.length nodes),(1,.slice AL l.length capL),(3,.int .i64 to)])
  (λz=>ints z.A z.cap z.pre::ints (some ⟨gf,0,none⟩) nodes far::H) (λz=>(0<=z.at_/\z.at_<nodes)/\(0<=Yk far z.at_/\Yk far z.at_<1073741824)/\z.pre++Zd l far to (Yk far z.at_).toNat z.at_=s::Zd l far to (Yk far s).toNat s/\1<=z.pre.length/\z.pre.length+(Yk far z.at_).toNat<=1073741830) (λz=>(Yk far z.at_).toNat) ⟨s,[s],some ⟨g1,0,none⟩,1⟩ ⟨hs,⟨by omega,by omega⟩,rfl,by simp,by simp only[T9];omega⟩ ?_ (λw hw=>hw.blk_sl (cs:=numF s) (len:=1) (size:=1) rfl (by omega)) ?_
 ·exact zc1
 rintro⟨v,pre,A,cap⟩ ⟨⟨v0,v1⟩,⟨d0,d1⟩,hpre,hpl,hpm⟩ K hK
 simp only at v0 v1 d0 d1 hpre hpl hpm⊢
 have hgv:=ZE (far:=far) (i:=v) (by omega)
 by_cases hvt:v=to
 ·have hfl:Zd l far to (Yk far v).toNat v=[]:=by
   rw[hvt,hd.to0];rfl
  rw[hfl,Rr]at hpre
  clear hK
  refine zX0 ?_<;>intros
  apply Yf (ints A cap pre::H)
  ·exact zc0
  apply Yd;exact rfl;exact rfl
  rw[<-hpre]
  exact⟨A,cap,rfl,λh=>by rw[h]at hpl;simp at hpl,hflen,hd,rfl⟩
 obtain⟨b1,b2,b3,_⟩:=YaB hok hd v0 v1 hvt (by rw[hne];omega)
 obtain⟨bb,hbb⟩:∃bb,XO l far v=bb:=⟨_,rfl⟩
 refine zX1 ?_<;>intros
 refine Ye (λ(k:Nat)=>[(32,.int .i64 k),(31,.int .i64 l.length),(30,.slice AL l.length capL),(12,.int .i64 (XO (l.take k) far v)),(11,.int .i64 v),(10,.slice A pre.length cap),(9,.slice (some ⟨gf,0,none⟩) far.length nodes),(1,.slice AL l.length capL),(3,.int .i64 to)])
  (λ_=>ints A cap pre::ints (some ⟨gf,0,none⟩) nodes far::H) (λk=>k<=l.length) (λk=>l.length-k) 0 (Td _) ?_ (λw hw=>hw) ?_
 ·exact zc1
 intro k hk K2 hK2
 have hrl:Rd B w0 (ints A cap pre::ints (some ⟨gf,0,none⟩) nodes far::H) AL (l.flatMap lkF):=(hr.cons).cons
 by_cases hlt:k<l.length
 ·obtain⟨a,ha⟩:∃a,l[k]? =some a:=⟨_,Ta hlt⟩
  obtain⟨⟨a1,a2⟩,⟨a3,a4⟩,⟨a5,a6⟩⟩:=hok a (Tc ha)
  have hga:=ZE (far:=far) (i:=a.2.1) (by omega)
  have hra:=hd.range a.2.1 a3 a4
  rw[hne]at hra
  have hst:XO (l.take (k+1)) far v=Z6 far v (XO (l.take k) far v) a:=by
   rw[TB,ha];exact Ym3 _ _ _ _
  obtain⟨bk,hbk⟩:∃bk,XO (l.take k) far v=bk:=⟨_,rfl⟩
  rw[hbk]at hst
  rw[hbk]
  unfold Z6 at hst
  by_cases hc:a.1=v/\a.2.2+Yk far a.2.1=Yk far v/\(bk<0\/a.2.1<bk)
  ·rw[Tn hc]at hst
   repeat'(first|refine zgd ?_|(refine zgf ?_ ?_<;>intro _<;>try exact zo)|(refine zgh ?_;intro _)|fail)
   all_goals(
    apply hK2 (k+1)
    ·omega
    ·omega
    ·rw[hst];exact zu
    ·exactλw hw=>hw.tail)
  ·rw[Tj hc]at hst
   repeat'(first|refine zgd ?_|(refine zgf ?_ ?_<;>intro _<;>try exact zo)|(refine zgh ?_;intro _)|fail)
   all_goals(
    apply hK2 (k+1)
    ·omega
    ·omega
    ·rw[hst];exact zu
    ·exactλw hw=>hw.tail)
 ·obtain rfl:k=l.length:=by omega
  clear hK2
  rw[TI,hbb]
  rw[hbb]at b1 b2 b3
  have hfs:Zd l far to (Yk far v).toNat v=bb::Zd l far to (Yk far bb).toNat bb:=by
   obtain⟨j,hj⟩:∃j,(Yk far v).toNat=j+1:=⟨(Yk far v).toNat-1,by omega⟩
   rw[hj,show Zd l far to (j+1) v=if v=to then []else XO l far v::Zd l far to j (XO l far v) from rfl,Tj hvt,hbb]
   by_cases hbt:bb=to
   ·rw[hbt]
    cases j<;>simp[Zd,hd.to0]
   ·rw[Yh5 hok hd b1.1 b1.2 hbt (by rw[hne];omega) j _ (by omega) (TK _)]
  repeat'(first|refine zgc ?_|(refine zge ?_ ?_<;>intro _<;>try exact zo)|(refine zgh ?_;intro _)|(refine zgi ?_;intro _ _)|fail)
  rename_i A3 cap3
  apply hK ⟨bb,pre++[bb],A3,cap3⟩
  ·refine⟨b1,⟨b3,by exact zc57⟩,?_,by simp,?_⟩
   ·simp only
    rw[TV,List.singleton_append,<-hfs];exact hpre
   ·simp only[Tt,T9]
    omega
  ·exact zc57
  ·dsimp only
   rw[Tt,T9];exact zc1
  ·dsimp only
   rw[<-Yny]
   exact zc0
def dear(a:Lk):Lk:=(a.1,a.2.1,a.2.2*33+1)
noncomputable def Qv(n:Net)(s t:Int):List Int:=wayF ((JO n).map dear) (Uj n.nodes.toNat ((JO n).map dear) t) s t
noncomputable def Z5(n:Net)(s t:Int):List Int×Int:=
 if Zp n s t≠0 then([],Zp n s t)else if Qv n s t=[]then([],17)else if 9<(Qv n s t).length then([],21)else(Qv n s t,0)
variable {n:Net}
theorem Yrz(h:Ok n):ArcsOk n.nodes.toNat ((JO n).map dear):=by
 intro a ha
 obtain⟨b,hb,rfl⟩:=TD.1 ha
 obtain⟨i,hi,_,rfl⟩:=Yir.1 hb
 have hl:=h.lk i hi
 have h1:=hl.f0;have h2:=hl.f1;have h3:=hl.t0;have h4:=hl.t1;have h5:=hl.l0;have h6:=hl.l1
 grind [dear,YcA]
theorem YlS{s t:Int}(h:Zp n s t=0):Yl n=0/\(0<=s/\s<n.nodes)/\(0<=t/\t<n.nodes)/\s≠t:=by
 unfold Zp offE at h
 grind
variable {l:List Lk}{k:Nat}{a:Lk}
theorem YrT(h:l[k]? =some a):((l.take k).map dear++l.drop k)[k]? =some a:=by
 grind
theorem YrU(h:l[k]? =some a):((l.take k).map dear++l.drop k).set k (dear a)=(l.take (k+1)).map dear++l.drop (k+1):=by
 obtain⟨hk,rfl⟩:=Tu.1 h
 have hl:((l.take k).map dear).length=k:=by grind
 rw[SZ _ _ (by omega),hl,Nl,Rm hk,Nj,TB,Ta hk,Rf,TV]
 rfl
theorem YeR(n:NetM)(s t:Int){B:Nat}{w0:World}{H:List HP}{w:World}(hin:n.In B w0 H)(hw:St B w0 H w):
 CX B w0 156 [n.val,.int .i64 s,.int .i64 t] w λv K=>∃A cap,v=.tuple #[.slice A (Z5 n.net s t).1.length cap,.int .i64 (Z5 n.net s t).2]/\WayV A (Z5 n.net s t).1/\(Zp n.net s t=0->Dist n.net.nodes.toNat ((JO n.net).map dear) t (Uj n.net.nodes.toNat ((JO n.net).map dear) t))/\K=ints A cap (Z5 n.net s t).1::H:=by
 refine Ya Tryz.func156 Tryz.ntmps156 rfl rfl hw ?_
 (apply Xc;apply YW;apply YR;exact rfl;exact rfl;intro g)
 unfold Z5
 by_cases he:Zp n.net s t=0
 rotate_left
 ·rw[Tn he]
  repeat'(first|((apply Yb YlJ);exact za;exact rfl;exactλ_ hw=>(US n s t hin.cons hw))|refine zgb ?_|(refine zge ?_ ?_<;>intro _<;>try exact zo)|fail)
  (repeat apply Yi)
  apply ZQ 3 1
  apply YH;(iterate 3 exact rfl)
  exact⟨none,0,rfl,λ_=>rfl,λh=>absurd h he,rfl⟩
 rw[Tj (λh=>h he)]
 obtain⟨hck,⟨s0,s1⟩,⟨t0,t1⟩,hst⟩:=YlS he
 have hen:=λ{H:List HP}{w:World}(hin:n.In B w0 H) (hw:St B w0 H w)=>US n s t hin hw
 rw[he]at hen
 have hok:=YO hck
 have hn0:=hok.n0
 have hn1:=hok.n1
 have hnn:((n.net.nodes.toNat:Nat):Int)=n.net.nodes:=by omega
 have hnn2:n.net.nodes=n.nodes:=rfl
 have hal:(JO n.net).length<=128:=TX (Wb _ _) hok.k0
 have hdo:=Yrz hok
 obtain⟨L,hL⟩:∃L,JO n.net=L:=⟨_,rfl⟩
 rw[hL]at hal
 have hLo:=Ylw hok hnn.symm
 rw[hL]at hLo
 refine YtG ?_<;>intros
 apply Yg _ YsW
 exact za
 exact rfl
 exactλ_ hw=>(Ye2 n hin.cons hck (hw))
 rintro _ _ ⟨A,cap,rfl,rfl⟩
 rw[hL]
 refine zX7 ?_
 refine Ye (λ(k:Nat)=>[(24,.int .i64 k),(23,.int .i64 L.length),(9,.slice A L.length cap),(3,.pointer (some ⟨g,0,none⟩)),(1,.int .i64 s),(2,.int .i64 t)])
  (λk=>sl 268 3 A L.length cap (((L.take k).map dear++L.drop k).flatMap lkF)::netB g n::H) (λk=>k<=L.length) (λk=>L.length-k) 0 (Td _) ?_ (λw hw=>hw) ?_
 ·exact zc1
 intro k hk K hK
 have hml:((L.take k).map dear++L.drop k).length=L.length:=by simp;omega
 by_cases hlt:k<L.length
 ·obtain⟨a,ha⟩:∃a,L[k]? =some a:=⟨_,Ta hlt⟩
  obtain⟨_,_,⟨a5,a6⟩⟩:=hLo a (Tc ha)
  have hmg:=YrT ha
  have hms:=YrU ha
  rw[<-hml]
  repeat'(first|(apply VP T (f:=lkF) (l:=(L.take k).map dear++L.drop k) (i:=k) (q:=3) (o:=2) (b:=a) (b':=dear a);(iterate 3 exact rfl);exact zd;exact hmg;exact rfl;exactλ_=>rfl;exact rfl;exact rfl)|refine zgd ?_|(refine zge ?_ ?_<;>intro _<;>try exact zo)|fail)
  rw[hml,hms]
  apply hK (k+1)
  ·omega
  ·omega
  ·exact zc1
  exact zc21
 ·obtain rfl:k=L.length:=by omega
  clear hK
  rw[TI,SB,Rr]
  have hLl:(L.map dear).length=L.length:=To _
  rw[<-hLl]
  refine zX0 ?_<;>intros
  rw[show(Value.int .i64 n.nodes)=.int .i64 ((n.net.nodes.toNat:Nat):Int) by rw[hnn];rfl]
  rw[hL]at hdo
  apply Yg _ Ywk
  exact za
  exact rfl
  exactλ_ hw=>(Ykf n.net.nodes.toNat (L.map dear) s t (by omega) (by omega) hdo ⟨s0,by omega⟩ ⟨t0,by omega⟩ (.sl (by(focus exact zc2))) (hw))
  rintro _ _ ⟨A2,cap2,rfl,hway,hdl,hdd,rfl⟩
  have hsr:wayF (L.map dear) (Uj n.net.nodes.toNat (L.map dear) t) s t=Qv n.net s t:=by rw[<-hL];rfl
  rw[hL]at*
  rw[hsr]at hway⊢
  obtain⟨R,hR⟩:∃R,Qv n.net s t=R:=⟨_,rfl⟩
  rw[hR]at hway⊢
  by_cases hnil:R=[]
  ·rw[Tn hnil]
   have hA:=hway hnil
   subst hA
   refine zX6 ?_
   exact zc71
  ·rw[Tj hnil]
   have hRl:R.length<=1073741824:=by rw[<-hR];exact Ysp _ _ _ _
   have hpos:0<R.length:=List.length_pos_iff.2 hnil
   refine Yf3 (e:=3) (size:=1) (k:=R.length) (cap:=cap2) (A:=A2) (xs:=R.flatMap numF) TG hpos ?_
   rintro ga rfl
   by_cases h9:9<R.length
   ·rw[Tn h9]
    have hsh:=λ{H:List HP}{w:World}(hw:St B w0 H w)=>Yd2 R.length (A:=some ⟨ga,0,none⟩) (cap:=cap2) (by omega) hw
    rw[Tn h9]at hsh
    refine YtH ?_<;>intros
    exact zc71
   ·rw[Tj h9]
    have hsh:=λ{H:List HP}{w:World}(hw:St B w0 H w)=>Yd2 R.length (A:=some ⟨ga,0,none⟩) (cap:=cap2) (by omega) hw
    rw[Tj h9]at hsh
    refine YtH ?_<;>intros
    apply Yf (ints (some ⟨ga,0,none⟩) cap2 R::H)
    ·exactλw hw=>hw.perm (.cons _ (.dropK (.drop _ _)))
    apply YH;(iterate 3 exact rfl)
    exact⟨some ⟨ga,0,none⟩,cap2,rfl,λh=>absurd h hnil,λ_=>hdd,rfl⟩
def edF(e:Ed):List Value:=[.int .i64 e.f,.int .i64 e.t,.int .i64 e.c,.int .i64 e.r]
abbrev Yde(sides:Nat)(A:Option Addr)(k cap:Nat):Obj:=.cells #[.int .i64 sides,.slice A k cap] 419 (0,0)
def gpcs(g sides:Nat)(A:Option Addr)(cap:Nat)(es:List Ed)(H:List HP):List HP:=blk g (Yde sides A es.length cap)::sl 424 4 A es.length cap (es.flatMap edF)::H
structure Rz where
 k:Nat
 ag:Bool
 far:List Int
 by_:List Int
structure RzOk(sides:Nat)(es:List Ed)(fuel:Nat)(res:List Int×List Int)(z:Rz):Prop where
 kf:z.k<=fuel
 ok:RelOk sides (-2000000000-2000000000*((fuel-z.k:Nat):Int)) (z.far,z.by_,z.ag)
 run:if z.ag=true then YaZ z.k es z.far z.by_=some res else(z.far,z.by_)=res
theorem YkP(g sides:Nat)(es:List Ed)(far:List Int)(fuel:Nat)(res:List Int×List Int)(hs:1<=sides/\sides<=100)(hes:Ylh sides es)(hel:es.length<=2000)(hfu:fuel<=100000)(hfar:RelOk sides (-2000000000) (far,List.replicate sides (-1),true))(hrun:YaZ fuel es far (List.replicate sides (-1))=some res)
 {A AF:Option Addr}{cap capF:Nat}{B:Nat}{w0:World}{H:List HP}{w:World}(hw:St B w0 (gpcs g sides A cap es (ints AF capF far::H)) w):
 CX B w0 421 [.pointer (some ⟨g,0,none⟩),.slice AF far.length capF] w λv K=>∃gb,v=.tuple #[.slice AF res.1.length capF,.slice (some ⟨gb,0,none⟩) res.2.length sides]/\RelOk sides (-2000000000-2000000000*(fuel:Int)) (res.1,res.2,false)/\K=ints (some ⟨gb,0,none⟩) sides res.2::gpcs g sides A cap es (ints AF capF res.1::H):=by
 refine Ya Tryz.func421 Tryz.ntmps421 rfl rfl hw ?_
 unfold gpcs
 repeat'(first|refine zgd ?_|(refine zgh ?_;intro _)|fail)
 apply Yg _ Ypr
 exact za
 exact rfl
 exactλ_ hw=>(Ol (-1) sides (by omega) (.blk zm) (hw))
 rintro _ _ ⟨gb,rfl,rfl⟩
 have hrl:(List.replicate sides (-1:Int)).length=sides:=TS
 repeat'(first|refine zgb ?_|fail)
 refine Ye (λ(z:Rz)=>[(7,.bool z.ag),(1,.slice AF z.far.length capF),(6,.slice (some ⟨gb,0,none⟩) z.by_.length sides),(0,.pointer (some ⟨g,0,none⟩))])
  (λz=>ints (some ⟨gb,0,none⟩) sides z.by_::blk g (Yde sides A es.length cap)::sl 424 4 A es.length cap (es.flatMap edF)::ints AF capF z.far::H) (λz=>RzOk sides es fuel res z) (λz=>z.k) ⟨fuel,true,far,List.replicate sides (-1)⟩ ⟨TK _,by simpa using hfar,hrun⟩ ?_ zk ?_
 ·exact zu
 rintro⟨k,ag,fa,by_⟩ hz K hK
 obtain⟨hkf,hok,hrun⟩:=hz
 simp only at hkf hok hrun⊢
 cases ag with
 |false=>
  rw[Tj (by decide)]at hrun
  clear hK
  obtain⟨rfl,rfl⟩:fa=res.1/\by_=res.2:=by rw[<-hrun];exact⟨rfl,rfl⟩
  repeat'(first|refine zgc ?_|fail)
  apply YH;(iterate 3 exact rfl)
  refine⟨gb,rfl,⟨hok.l1,hok.l2,λv h0 h1=>?_⟩,rfl⟩
  have:=hok.low v h0 h1
  simp only at this⊢
  omega
 |true=>
  rw[Tn rfl]at hrun
  cases k with
  |zero=>cases hrun
  |succ k=>
   have hok0:RelOk sides (-2000000000-2000000000*((fuel-(k+1):Nat):Int)) (fa,by_,false):=⟨hok.l1,hok.l2,hok.low⟩
   obtain⟨low,hlow⟩:∃low:Int,-2000000000-2000000000*((fuel-(k+1):Nat):Int)=low:=⟨_,rfl⟩
   rw[hlow]at hok0
   have hlb: -300000000000000<=low:=by omega
   unfold YaZ at hrun
   repeat'(first|refine zgd ?_|fail)
   refine Ye (λ(j:Nat)=>[(22,.int .i64 j),(21,.int .i64 es.length),(20,.slice A es.length cap),(7,.bool (Xz 0 (es.take j) (fa,by_,false)).2.2),(1,.slice AF (Xz 0 (es.take j) (fa,by_,false)).1.length capF),(6,.slice (some ⟨gb,0,none⟩) (Xz 0 (es.take j) (fa,by_,false)).2.1.length sides),(0,.pointer (some ⟨g,0,none⟩))])
    (λj=>ints (some ⟨gb,0,none⟩) sides (Xz 0 (es.take j) (fa,by_,false)).2.1::blk g (Yde sides A es.length cap)::sl 424 4 A es.length cap (es.flatMap edF)::ints AF capF (Xz 0 (es.take j) (fa,by_,false)).1::H) (λj=>j<=es.length) (λj=>es.length-j) 0 (Td _) ?_ (λw hw=>hw) ?_
   ·exact zu
   intro j hj K2 hK2
   by_cases hlt:j<es.length
   ·obtain⟨e,he⟩:∃e,es[j]? =some e:=⟨_,Ta hlt⟩
    have hem:=Tc he
    obtain⟨⟨e1,e2⟩,⟨e3,e4⟩,⟨e5,e6⟩,⟨e7,e8⟩⟩:=hes e hem
    have htl:(es.take j).length=j:=by rw[TU];omega
    have hst:Xz 0 (es.take (j+1)) (fa,by_,false)=Ut j e (Xz 0 (es.take j) (fa,by_,false)):=by
     rw[TB,he]
     have:=Yah (es.take j) 0 e (fa,by_,false)
     rw[htl,Ri]at this
     exact this
    have hpo:=Qt hes (es.take j) 0 (fa,by_,false) low (λx hx=>RY hx) hok0
    rw[htl]at hpo
    obtain⟨⟨f2,b2,ag2⟩,hst2⟩:∃st,Xz 0 (es.take j) (fa,by_,false)=st:=⟨_,rfl⟩
    rw[hst2]at hst hpo⊢
    obtain⟨p1,p2,p3⟩:=hpo
    simp only at p1 p2 p3
    have q1:=p3 e.f e1 e2
    have q2:=p3 e.t e3 e4
    have hgf:=ZE (far:=f2) (i:=e.f) (by omega)
    have hgt:=ZE (far:=f2) (i:=e.t) (by omega)
    have hnn:Xr=1073741824:=rfl
    rw[hnn]at q1 q2
    dsimp only
    unfold Ut at hst
    simp only[hnn]at hst
    by_cases hc:0<e.r/\Yk f2 e.f<1073741824/\Yk f2 e.f+e.c<Yk f2 e.t
    ·rw[Tn hc]at hst
     repeat'(first|refine zgd ?_|(refine zge ?_ ?_<;>intro _<;>try exact zo)|(refine zgh ?_;intro _)|fail)
     have hl1:(f2.set e.t.toNat (Yk f2 e.f+e.c)).length=f2.length:=TE
     have hl2:(b2.set e.t.toNat (j:Int)).length=b2.length:=TE
     apply Yot [3,4,5,14] [0,1,2,6,7,8,9,10,11,12,13,15] [16,17,18,19] [true] [true,true,false,false,true]
     kernel_rfl
     kernel_rfl
     exact zy
     exact zy
     exact zk
     (simp only[Yc,nthO];rfl)
     (simp only[Yc,nthO];rfl)
     (simp only[Yc,nthO];rfl)
     repeat'(first|(apply YoQ;try exact zl)|(apply Yeq T;(iterate 4 exact rfl);omega)|(apply XI T (f:=numF) (l:=f2) (i:=e.t.toNat) (a:=Yk f2 e.f+e.c);(iterate 3 exact rfl);exact zd;exact rfl;exactλ_=>rfl;exact rfl;omega)|(apply XI T (f:=numF) (l:=b2) (i:=e.t.toNat) (a:=(j:Int));(iterate 3 exact rfl);exact zd;exact rfl;exactλ_=>rfl;exact rfl;omega)|(apply Yh;try exact zl)|refine zgd ?_|fail)
     apply hK2 (j+1)
     ·omega
     ·omega
     ·rw[hst]
      dsimp only
      rw[hl1,hl2]
      exact zu
     ·rw[hst]
      dsimp only
      unfold ints
      rw[hl1,hl2]
      exact zk
    ·rw[Tj hc]at hst
     repeat'(first|refine zgd ?_|(refine zge ?_ ?_<;>intro _<;>try exact zo)|(refine zgh ?_;intro _)|fail)
     all_goals(
      apply hK2 (j+1)
      ·omega
      ·omega
      ·rw[hst];exact zu
      ·rw[hst];exactλw hw=>hw.tail)
   ·obtain rfl:j=es.length:=by omega
    clear hK2
    have hpo:=Qt hes es 0 (fa,by_,false) low (λx hx=>hx) hok0
    rw[TI]
    obtain⟨⟨f2,b2,ag2⟩,hst2⟩:∃st,Xz 0 es (fa,by_,false)=st:=⟨_,rfl⟩
    rw[hst2]at hrun hpo⊢
    dsimp only at hrun⊢
    repeat'(first|refine zgc ?_|(refine zge ?_ ?_<;>intro _<;>try exact zo)|fail)
    apply hK ⟨k,ag2,f2,b2⟩
    ·refine⟨by simp only;omega,⟨hpo.l1,hpo.l2,λv h0 h1=>?_⟩,?_⟩
     ·have:=hpo.low v h0 h1
      simp only at this⊢
      omega
     ·simp only
      cases ag2
      ·rw[Tj (by decide)]at hrun⊢
       exact TJ hrun
      ·rw[Tn rfl]at hrun⊢
       exact hrun
    ·simp only;omega
    ·exact zu
    ·exactλw hw=>hw
theorem YqI(i:Nat)(hi:i<4611686018427387904):bits .xor .i64 (i:Int) 1=(twin i:Int):=by
 have e1:(BitVec.ofInt 64 (i:Int)).toNat=i:=by grind
 show IntKind.i64.wrap ((BitVec.ofInt 64 (i:Int)^^^BitVec.ofInt 64 1).toNat:Int)=_
 have e2:(BitVec.ofInt 64 (1:Int)).toNat=1:=by decide
 have e3:i^^^1=twin i:=by
  unfold twin
  rcases Nat.mod_two_eq_zero_or_one i with h|h
  ·rw[Tn h]
   obtain⟨k,rfl⟩:∃k,i=2*k:=⟨i/2,by omega⟩
   apply Nat.eq_of_testBit_eq
   intro j
   rw[Nat.testBit_xor]
   cases j with
   |zero=>simp
   |succ j=>
    grind
  ·rw[Tj (by omega)]
   obtain⟨k,rfl⟩:∃k,i=2*k+1:=⟨i/2,by omega⟩
   apply Nat.eq_of_testBit_eq
   intro j
   rw[Nat.testBit_xor]
   cases j with
   |zero=>simp
   |succ j=>
    grind
 grind [Go.IntKind.wrap_i64,twin]
structure Bz where
 k:Nat
 es:List Ed
 at_:Int
structure BzOk(fuel sides:Nat)(b:Int)(E:Nat)(by_:List Int)(s:Int)(res:List Ed)(z:Bz):Prop where
 kf:z.k<=fuel
 run:Yhv z.k z.es by_ s z.at_=some res
 ein:EdsIn sides (b+2*((fuel-z.k:Nat):Int)) z.es
 len:z.es.length=E
 at_:0<=z.at_/\z.at_<sides
theorem YfE(g sides:Nat)(es:List Ed)(s t:Int)(fuel:Nat)(b:Int)(r:Int×Bool×List Ed)(hs:1<=sides/\sides<=100)(hes:EdsIn sides b es)(hb:1<=b/\b<=900000)(hel:es.length<=2000)(hfu:fuel<=100000)(hs0:0<=s/\s<sides)(ht0:0<=t/\t<sides)(hrun:YfD fuel sides es s t=some r)
 {A:Option Addr}{cap:Nat}{B:Nat}{w0:World}{H:List HP}{w:World}(hw:St B w0 (gpcs g sides A cap es H) w):
 CX B w0 397 [.pointer (some ⟨g,0,none⟩),.int .i64 s,.int .i64 t] w λv K=>v=.tuple #[.int .i64 r.1,.bool r.2.1]/\(r.2.2.length=es.length/\EdsIn sides (b+2*(fuel:Int)) r.2.2/\ -300000000000000<=r.1/\r.1<=1073741824)/\K=gpcs g sides A cap r.2.2 H:=by
 refine Ya Tryz.func397 Tryz.ntmps397 rfl rfl hw ?_
 have hok:=hes.ok (by omega)
 have hnn:Xr=1073741824:=rfl
 unfold gpcs
 refine zX26 ?_<;>intros
 apply Yg _ Ypr
 exact za
 exact rfl
 exactλ_ hw=>(Ol 1073741824 sides (by omega) (.blk (by(focus exact zc2))) (hw))
 rintro _ _ ⟨gs,rfl,rfl⟩
 have hrl:(List.replicate sides (1073741824:Int)).length=sides:=TS
 repeat'(first|(apply XI T (f:=numF) (l:=List.replicate sides (1073741824:Int)) (i:=s.toNat) (a:=0);(iterate 3 exact rfl);exact zd;exact rfl;exactλ_=>rfl;exact rfl;omega)|refine zgd ?_|fail)
 have hst:Wv sides s=(List.replicate sides (1073741824:Int)).set s.toNat 0:=rfl
 have hsl:(Wv sides s).length=(List.replicate sides (1073741824:Int)).length:=by rw[hst];exact TE
 unfold YfD at hrun
 cases hre:YaZ fuel es (Wv sides s) (List.replicate sides (-1))with
 |none=>rw[hre]at hrun;cases hrun
 |some fb=>
  rw[hre]at hrun
  obtain⟨far,by_⟩:=fb
  dsimp only at hrun
  rw[<-hst,<-hsl]
  apply Zh (gpcs g sides A cap es (ints (some ⟨gs,0,none⟩) sides (Wv sides s)::H))
  ·unfold gpcs ints
   exact zc0
  apply Yg _ Yxh
  exact za
  exact rfl
  exactλ_ hw=>(YkP g sides es (Wv sides s) fuel (far,by_) hs hok hel (by omega) (Yn7 hs0 _ TS _) hre (hw))
  rintro _ _ ⟨gb,rfl,hro,rfl⟩
  obtain⟨l1,l2,hlow⟩:=hro
  simp only at l1 l2 hlow
  have hgt:=ZE (far:=far) (i:=t) (by omega)
  have hlt:=hlow t ht0.1 ht0.2
  rw[hnn]at hlt hrun
  unfold gpcs
  dsimp only
  by_cases hno:1073741824<=Yk far t
  ·rw[Tn hno]at hrun
   obtain rfl:=TJ hrun
   refine zX25 ?_<;>intros
   apply Yf (gpcs g sides A cap es H)
   ·unfold gpcs
    exact zc0
   apply YH;(iterate 3 exact rfl)
   exact⟨rfl,⟨rfl,hes.mono (by omega),show(-300000000000000:Int)<=0 by decide,show(0:Int)<=1073741824 by decide⟩,rfl⟩
  ·rw[Tj hno]at hrun
   cases hba:Yhv fuel es by_ s t with
   |none=>rw[hba]at hrun;cases hrun
   |some res=>
    rw[hba]at hrun
    dsimp only at hrun
    obtain rfl:=TJ hrun
    refine zX25 ?_<;>intros
    refine Ye (λ(z:Bz)=>[(11,.int .i64 z.at_),(10,.slice (some ⟨gb,0,none⟩) by_.length sides),(9,.slice (some ⟨gs,0,none⟩) far.length sides),(0,.pointer (some ⟨g,0,none⟩)),(1,.int .i64 s),(2,.int .i64 t)])
     (λz=>ints (some ⟨gb,0,none⟩) sides by_::blk g (Yde sides A z.es.length cap)::sl 424 4 A z.es.length cap (z.es.flatMap edF)::ints (some ⟨gs,0,none⟩) sides far::H) (λz=>BzOk fuel sides b es.length by_ s res z) (λz=>z.k) ⟨fuel,es,t⟩ ⟨TK _,hba,hes.mono (by omega),rfl,ht0⟩ ?_ (λw hw=>hw) ?_
    ·exact zc1
    rintro⟨k,e1,v⟩ ⟨hkf,hrun1,hein,hlen,⟨v0,v1⟩⟩ K hK
    simp only at hkf hrun1 hein hlen v0 v1⊢
    cases k with
    |zero=>cases hrun1
    |succ k=>
     unfold Yhv at hrun1
     by_cases hvs:v=s
     ·rw[Tn hvs]at hrun1
      obtain rfl:=TJ hrun1
      clear hK
      refine zX50 ?_<;>intros
      apply Yf (gpcs g sides A cap e1 H)
      ·unfold gpcs
       exact zc0
      apply YH;(iterate 3 exact rfl)
      exact⟨rfl,⟨hlen,hein.mono (by omega),by omega,by omega⟩,rfl⟩
     ·rw[Tj hvs]at hrun1
      have hgv:=ZE (far:=by_) (i:=v) (by omega)
      obtain⟨i,hi⟩:∃i,Yk by_ v=i:=⟨_,rfl⟩
      rw[hi]at hrun1 hgv
      by_cases hneg:i<0
      ·rw[Tn hneg]at hrun1;cases hrun1
      rw[Tj hneg]at hrun1
      obtain⟨m,rfl⟩:∃m:Nat,i=m:=⟨i.toNat,by omega⟩
      rw[Ry]at hrun1
      cases he:e1[m]? with
      |none=>rw[he]at hrun1;cases hrun1
      |some e=>
       rw[he]at hrun1
       dsimp only at hrun1
       by_cases htw:e1.length<=twin m
       ·rw[Tn htw]at hrun1;cases hrun1
       rw[Tj htw]at hrun1
       have hml:=(Tu.1 he).1
       have hmb:m<2000:=by omega
       have hxor:=YqI m (by omega)
       have hm1:Ybw e1 m (-1)=e1.set m {e with r:=e.r-1}:=by unfold Ybw;rw[he];rfl
       obtain⟨f1,hf1⟩:∃f1,e1.set m {e with r:=e.r-1}=f1:=⟨_,rfl⟩
       have hfl1:f1.length=e1.length:=by rw[<-hf1];exact TE
       have hin1:=Yiv hein m (d:= -1) (by omega)
       rw[hm1,hf1]at hin1
       obtain⟨e2,he2⟩:∃x,f1[twin m]? =some x:=⟨_,Ta (by omega)⟩
       have hm2:Ybw f1 (twin m) 1=f1.set (twin m) {e2 with r:=e2.r+1}:=by unfold Ybw;rw[he2]
       obtain⟨f2,hf2⟩:∃f2,f1.set (twin m) {e2 with r:=e2.r+1}=f2:=⟨_,rfl⟩
       have hfl2:f2.length=e1.length:=by rw[<-hf2,TE];exact hfl1
       have hin2:=Yiv hin1 (twin m) (d:=1) (by omega)
       rw[hm2,hf2]at hin2
       rw[hm1,hf1,hm2,hf2]at hrun1
       obtain⟨_,_,_,hr1⟩:=hein e (Tc he)
       obtain⟨_,_,_,hr2⟩:=hin1 e2 (Tc he2)
       have hef:=(hein e (Tc he)).1
       have hem:(f1.set (twin m) {e2 with r:=e2.r+1})[m]? =some {e with r:=e.r-1}:=by
        rw[Nu (Ysl m),<-hf1,SU hml]
       have hfl3:(f1.set (twin m) {e2 with r:=e2.r+1}).length=f1.length:=TE
       refine zX1 ?_<;>intros
       apply YA [0,1,2,3,4,5,6,7,8,9,10,11,12,13] [14] [true,true,true]
       kernel_rfl
       kernel_rfl
       exact zy
       (simp only[Yc,nthO];rfl)
       (simp only[Yc,nthO];rfl)
       repeat'(first|(apply VP T (f:=edF) (l:=e1) (i:=m) (q:=4) (o:=3) (b:=e) (b':={e with r:=e.r-1});(iterate 3 exact rfl);exact zd;exact he;exact rfl;exactλ_=>rfl;exact rfl;exact rfl)|refine zgd ?_|fail)
       rw[hf1]
       apply Y6 (ints (some ⟨gb,0,none⟩) sides by_::blk g (Yde sides A f1.length cap)::sl 424 4 A f1.length cap (f1.flatMap edF)::ints (some ⟨gs,0,none⟩) sides far::H)
       ·rw[hfl1]
        exact zc0
       apply YA [0,1,2,3,4,5,6,7,8,9,10,11,12,13,14] [15] [true,true,true]
       kernel_rfl
       kernel_rfl
       exact zy
       (simp only[Yc,nthO];rfl)
       (simp only[Yc,nthO];rfl)
       repeat'(first|(apply JR;(iterate 3 exact rfl);rw[hxor])|(apply VP T (f:=edF) (l:=f1) (i:=twin m) (q:=4) (o:=3) (b:=e2) (b':={e2 with r:=e2.r+1});(iterate 3 exact rfl);exact zd;exact he2;exact rfl;exactλ_=>rfl;exact rfl;exact rfl)|(apply Yba T (l:=f1.set (twin m) {e2 with r:=e2.r+1}) (f:=edF);(rw[hfl3];exact rfl);exact rfl;exact .sl zm;exact rfl;exactλ_=>rfl;exact rfl;exact rfl;omega)|refine zgd ?_|fail)
       apply hK ⟨k,f2,e.f⟩
       ·exact⟨by exact zc57,hrun1,hin2.mono zc57,by exact zc57,hef⟩
       ·exact zc57
       ·exact zc1
       ·dsimp only
        rw[hf2,show f1.length=f2.length by omega]
        exact zc0
variable {B:Nat}{w0 w:World}{H:List HP}
theorem Qu(n:NetM)(a:Int)(hw:St B w0 H w):
 CX B w0 305 [n.val,.int .i64 a] w λv K=>v=.bool (!offE n.net a)/\K=H:=by
 refine Ya Tryz.func305 Tryz.ntmps305 rfl rfl hw ?_
 have e7:n.net.nodes=n.nodes:=rfl
 unfold offE
 rw[e7]
 by_cases h:a<0\/n.nodes<=a
 ·rw[Tf h]
  repeat'(first|refine zgd ?_|(refine zgf ?_ ?_<;>intro _<;>try exact zo)|(refine zgh ?_;intro _)|fail)
  all_goals(apply Yi;apply Yd;exact rfl;exact rfl;simp_all)
 ·rw[Ti h]
  repeat'(first|refine zgc ?_|(refine zgf ?_ ?_<;>intro _<;>try exact zo)|(refine zgh ?_;intro _)|fail)
  all_goals(apply Yi;apply Yd;exact rfl;exact rfl;exact⟨rfl,rfl⟩)
theorem YdM(n:NetM)(s t:Int)(hin:n.In B w0 H)(hw:St B w0 H w):
 CX B w0 226 [n.val,.int .i64 s,.int .i64 t] w λv K=>v=.int .i64 (Zp n.net s t)/\K=H:=by
 refine Ya Tryz.func226 Tryz.ntmps226 rfl rfl hw ?_
 unfold Zp
 by_cases h0:Yl n.net=0
 rotate_left
 ·rw[Tn h0]
  repeat'(first|((apply Yb UR);exact za;exact rfl;exactλ_ hw=>(Vm n hin.cons hw))|refine zgb ?_|(refine zge ?_ ?_<;>intro _<;>try exact zo)|(refine zgh ?_;intro _)|fail)
  all_goals((repeat apply Yi);exact zc10)
 rw[Tj (λh=>h h0)]
 have hck:=λ{H:List HP}{w:World}(hin:n.In B w0 H) (hw:St B w0 H w)=>Vm n hin hw
 rw[h0]at hck
 have hns:=λ{H:List HP}{w:World}(hw:St B w0 H w)=>Qu n s hw
 have hnt:=λ{H:List HP}{w:World}(hw:St B w0 H w)=>Qu n t hw
 obtain⟨x1,hx1⟩:∃x,offE n.net s=x:=⟨_,rfl⟩
 obtain⟨x2,hx2⟩:∃x,offE n.net t=x:=⟨_,rfl⟩
 rw[hx1]at hns⊢
 rw[hx2]at hnt⊢
 cases x1 with
 |true=>
  rw[Tn (.inl rfl)]
  refine Ymn ?_<;>intros
  apply Yb Ybj
  exact za
  exact rfl
  exactλ_ hw=>(hns hw)
  refine zX3 ?_
  all_goals((repeat apply Yi);exact zc10)
 |false=>
  cases x2 with
  |true=>
   rw[Tn (.inr (.inl rfl))]
   refine Ymn ?_<;>intros
   apply Yb Ybj
   exact za
   exact rfl
   exactλ_ hw=>(hns hw)
   refine zX10 ?_
   apply Yb Ybj
   exact za
   exact rfl
   exactλ_ hw=>(hnt hw)
   refine zX3 ?_
   all_goals((repeat apply Yi);exact zc10)
  |false=>
   by_cases hst:s=t
   ·rw[Tn (.inr (.inr hst))]
    refine Ymn ?_<;>intros
    apply Yb Ybj
    exact za
    exact rfl
    exactλ_ hw=>(hns hw)
    refine zX10 ?_
    apply Yb Ybj
    exact za
    exact rfl
    exactλ_ hw=>(hnt hw)
    refine Yaw ?_<;>intros
    all_goals((repeat apply Yi);exact zc3)
   ·rw[Tj (by rintro(h|h|h);exact Bool.false_ne_true h;exact Bool.false_ne_true h;exact hst h)]
    refine Ymn ?_<;>intros
    apply Yb Ybj
    exact za
    exact rfl
    exactλ_ hw=>(hns hw)
    refine zX10 ?_
    apply Yb Ybj
    exact za
    exact rfl
    exactλ_ hw=>(hnt hw)
    refine Yaw ?_<;>intros
    all_goals((repeat apply Yi);exact zc3)
theorem Yez{r:List Int}{k:Nat}{x y:Int}(h:r[k]? =some x):(r.take (k+1)).contains y=((r.take k).contains y||decide (y=x)):=by
 simp_all [List.take_add_one]
theorem YeI(n:NetM)(s t:Int)(r:List Int){A:Option Addr}{cap:Nat}(hin:n.In B w0 H)(hck:Yl n.net=0)(hr:Rd B w0 H A (r.flatMap numF))(hlen:r.length<=1000000000000)(hw:St B w0 H w):
 CX B w0 271 [n.val,.int .i64 s,.int .i64 t,.slice A r.length cap] w λv K=>v=.int .i64 (JD n.net s t r)/\K=H:=by
 refine Ya Tryz.func271 Tryz.ntmps271 rfl rfl hw ?_
 have hok:=YO hck
 (apply Xc;apply YW;apply YR;exact rfl;exact rfl;intro g)
 unfold JD
 by_cases h1:r.length<2
 ·rw[Tn h1]
  refine zX1 ?_<;>intros
  exact zc20
 rw[Tj h1]
 by_cases h2:9<r.length
 ·rw[Tn h2]
  refine zX50 ?_<;>intros
  exact zc20
 rw[Tj h2]
 refine zX50 ?_<;>intros
 refine Ye (λ(k:Nat)=>[(9,.int .i64 k),(1,.int .i64 s),(2,.int .i64 t),(3,.slice A r.length cap),(4,.pointer (some ⟨g,0,none⟩))]) (λ_=>netB g n::H) (λk=>k<=r.length/\(r.take k).any (offE n.net)=false) (λk=>r.length-k) 0 ⟨Td _,rfl⟩ ?_ (λw hw=>hw) ?_
 ·exact zc1
 rintro k ⟨hk,hi⟩ K hK
 have hr1:Rd B w0 (netB g n::H) A (r.flatMap numF):=hr.cons
 by_cases hlt:k<r.length
 ·have hgk:=Xl (l:=r) (i:=k) hlt
  obtain⟨x,hx⟩:∃x,r.getD k 0=x:=⟨_,rfl⟩
  rw[hx]at hgk
  have hnd:=λ{H:List HP}{w:World}(hw:St B w0 H w)=>Qu n x hw
  have hst:=QK (p:=offE n.net) hgk
  cases ho:offE n.net x with
  |true=>
   rw[ho]at hnd
   rw[Tn (Yb3 hgk ho)]
   clear hK
   refine YtI ?_<;>intros
   exact zc20
  |false=>
   rw[ho]at hnd hst
   refine YtI ?_<;>intros
   apply hK (k+1)
   ·exact⟨by omega,by rw[hst,hi];rfl⟩
   ·omega
   ·exact zc1
   exact zc21
 obtain rfl:k=r.length:=by omega
 clear hK
 rw[TI]at hi
 rw[Tj (by rw[hi];decide)]
 have hg0:=Xl (l:=r) (i:=0) (by omega)
 have hg1:=Xl (l:=r) (i:=r.length-1) (by omega)
 have hgi:((r.length:Int)-1).toNat=r.length-1:=by omega
 rw[<-hgi]at hg1
 by_cases h4:r.getD 0 0≠s\/r.getD (r.length-1) 0≠t
 ·rw[Tn h4]
  rw[<-hgi]at h4
  by_cases h5:r.getD 0 0=s
  ·have h6:r.getD ((r.length:Int)-1).toNat 0≠t:=by
    rcases h4 with h|h
    ·exact absurd h5 h
    ·exact h
   refine zX50 ?_<;>intros
   exact zc20
  ·refine zX50 ?_<;>intros
   exact zc20
 rw[Tj h4]
 rw[<-hgi]at h4
 have h5:r.getD 0 0=s:=S5 λh=>h4 (.inl h)
 have h6:r.getD ((r.length:Int)-1).toNat 0=t:=S5 λh=>h4 (.inr h)
 clear h4
 refine zX50 ?_<;>intros
 clear hg0 hg1 h5 h6
 refine Ye (λ(k:Nat)=>[(10,.int .i64 k),(3,.slice A r.length cap),(4,.pointer (some ⟨g,0,none⟩))]) (λ_=>netB g n::H) (λk=>k<=r.length/\((List.range k).any λi=>(r.take i).contains (r.getD i 0))=false) (λk=>r.length-k) 0 ⟨Td _,rfl⟩ ?_ (λw hw=>hw) ?_
 ·exact zc1
 rintro k ⟨hk,hi2⟩ K hK
 by_cases hlt:k<r.length
 ·have hgk:=Xl (l:=r) (i:=k) hlt
  obtain⟨x,hx⟩:∃x,r.getD k 0=x:=⟨_,rfl⟩
  rw[hx]at hgk
  refine zX1 ?_<;>intros
  refine Ye (λ(j:Nat)=>[(11,.int .i64 j),(10,.int .i64 k),(3,.slice A r.length cap),(4,.pointer (some ⟨g,0,none⟩))]) (λ_=>netB g n::H) (λj=>j<=k/\(r.take j).contains x=false) (λj=>k-j) 0 ⟨Td _,rfl⟩ ?_ (λw hw=>hw) ?_
  ·exact zc1
  rintro j ⟨hj,hi3⟩ K2 hK2
  by_cases hlt2:j<k
  ·have hgj:=Xl (l:=r) (i:=j) (by omega)
   obtain⟨y,hy⟩:∃y,r.getD j 0=y:=⟨_,rfl⟩
   rw[hy]at hgj
   have hst:=Yez (y:=x) hgj
   by_cases hxy:x=y
   ·have hin2:(r.take k).contains x=true:=by
     rw[List.contains_iff_mem]
     have:(r.take k)[j]? =some y:=by rw[SA,Tn hlt2];exact hgj
     rw[hxy];exact Tc this
    have htw:Ov r=true:=QL (p:=λi=>(r.take i).contains (r.getD i 0)) hlt (by rw[hx];exact hin2)
    rw[Tn htw]
    clear hK hK2
    refine zX25 ?_<;>intros
    exact zc20
   ·refine zX25 ?_<;>intros
    apply hK2 (j+1)
    ·exact⟨by omega,by rw[hst,hi3,Ti hxy];rfl⟩
    ·omega
    ·exact zc1
    exact zc21
  ·obtain rfl:j=k:=by omega
   clear hK2
   refine zX0 ?_<;>intros
   apply hK (j+1)
   ·exact⟨by omega,OC hi2 (by rw[hx];exact hi3)⟩
   ·omega
   ·exact zc1
   exact zc21
 obtain rfl:k=r.length:=by omega
 clear hK
 have htw:Ov r=false:=hi2
 rw[Tj (by rw[htw];decide)]
 refine zX0 ?_<;>intros
 refine Ye (λ(k:Nat)=>[(12,.int .i64 ((k:Int)+1)),(3,.slice A r.length cap),(4,.pointer (some ⟨g,0,none⟩))]) (λ_=>netB g n::H) (λk=>k<=r.length-1/\((List.range k).any λi=>!YX n.net (r.getD i 0) (r.getD (i+1) 0))=false) (λk=>r.length-1-k) 0 ⟨Td _,rfl⟩ ?_ (λw hw=>hw) ?_
 ·exact zc1
 rintro k ⟨hk,hi3⟩ K hK
 by_cases hlt:k+1<r.length
 ·have hgk:=Xl (l:=r) (i:=k) (by omega)
  have hgk1:=Xl (l:=r) (i:=k+1) (by omega)
  have ei:((k:Int)+1-1).toNat=k:=by omega
  have ei1:((k:Int)+1).toNat=k+1:=by omega
  obtain⟨x,hx⟩:∃x,r.getD k 0=x:=⟨_,rfl⟩
  obtain⟨y,hy⟩:∃y,r.getD (k+1) 0=y:=⟨_,rfl⟩
  rw[hx,<-ei]at hgk
  rw[hy,<-ei1]at hgk1
  have hgd:=λ{H:List HP}{w:World}(hin:n.In B w0 H) (hw:St B w0 H w)=>YaO n x y hin hok hw
  obtain⟨b,hb⟩:∃b,YX n.net x y=b:=⟨_,rfl⟩
  rw[hb]at hgd
  cases b with
  |true=>
   refine YtJ ?_<;>intros
   apply hK (k+1)
   ·exact⟨by omega,OC hi3 (by rw[hx,hy,hb];rfl)⟩
   ·omega
   ·exact zc1
   exact zc21
  |false=>
   have hbr:J8 n.net r=true:=QL (k:=k) (by omega) (by rw[hx,hy,hb];rfl)
   rw[Tn hbr]
   clear hK
   refine YtJ ?_<;>intros
   exact zc20
 ·have ek:k=r.length-1:=by omega
  have hbr:J8 n.net r=false:=by rw[ek]at hi3;exact hi3
  rw[Tj (by rw[hbr];decide)]
  clear hK
  refine zX0 ?_<;>intros
  exact zc20
theorem Ype(A:Option Addr)(cap:Nat)(es:List Ed)(f t c:Int):sl 424 4 A (es.length+2) cap (es.flatMap edF++[Value.int .i64 f,.int .i64 t,.int .i64 c,.int .i64 1,.int .i64 t,.int .i64 f,.int .i64 (-c),.int .i64 0])=sl 424 4 A (es++Vs f t c).length cap ((es++Vs f t c).flatMap edF):=by
 grind [Vs,edF]
variable {B k:Nat}{w0 w:World}{H:List HP}
theorem Yhs(g sides:Nat)(es:List Ed)(f t c:Int)(hel:es.length<=100000)(hc: -1000000<=c/\c<=1000000){A:Option Addr}{cap:Nat}(hw:St B w0 (gpcs g sides A cap es H) w):
 CX B w0 420 [.pointer (some ⟨g,0,none⟩),.int .i64 f,.int .i64 t,.int .i64 c] w λv K=>∃A' cap',v=.tuple #[]/\K=gpcs g sides A' cap' (es++Vs f t c) H:=by
 refine Ya Tryz.func420 Tryz.ntmps420 rfl rfl hw ?_
 unfold gpcs
 repeat'(first|(apply YuV;exact rfl;exact rfl;omega)|refine zgd ?_|(refine zgh ?_;intro _)|(refine zgi ?_;intro _ _)|fail)
 rename_i A' cap'
 apply Yf (gpcs g sides A' cap' (es++Vs f t c) H)
 ·unfold gpcs
  have e1:(es++Vs f t c).length=es.length+2:=by simp[Vs]
  rw[<-Ype,e1]
  exact zc0
 apply JB;exact rfl
 exact⟨A',cap',rfl,rfl⟩
variable {closed:Int->Bool}
theorem YdF(h:closed (k:Int)=false):Z4 closed (k+1)=Z4 closed k++Vs (2*(k:Int)) (2*(k:Int)+1) 0:=by
 grind [Z4,Rq]
theorem Yfw(h:closed (k:Int)=true):Z4 closed (k+1)=Z4 closed k:=by
 grind [Z4,Rq]
theorem Qq(closed:Int->Bool):∀k,(Z4 closed k).length<=2*k
 |0=>by simp[Z4]
 |k+1=>by
  have:=Qq closed k
  cases h:closed (k:Int)
  ·rw[YdF h,Tt];simp[Vs];omega
  grind [Yfw]
theorem YjQ(l:List Lk)(a:Lk):UH (l++[a])=UH l++Vs (2*a.1+1) (2*a.2.1) a.2.2:=by grind [UH]
theorem Ye0(l:List Lk):(UH l).length=2*l.length:=by
 induction l with
 |nil=>rfl
 |cons a l ih=>
  grind [UH,Vs]
structure Sz where
 k:Nat
 A:Option Addr
 cap:Nat
theorem Yk4(nodes:Nat)(l:List Lk)(closed:Int->Bool)(gm clock:Nat)(ents:Ents)(hn:nodes<=1000)(hl:l.length<=1000)(hok:ArcsOk nodes l)(hmb:MB ents closed){AL:Option Addr}{capL:Nat}(hm:blk gm (mobj ents clock)∈H)(hr:Rd B w0 H AL (l.flatMap lkF))(hw:St B w0 H w):
 CX B w0 396 [.int .i64 nodes,.slice AL l.length capL,.map (some gm)] w λv K=>∃g A cap,v=.pointer (some ⟨g,0,none⟩)/\K=gpcs g (2*nodes) A cap (Qx nodes l closed) H:=by
 refine Ya Tryz.func396 Tryz.ntmps396 rfl rfl hw ?_
 refine zX26 ?_<;>intros
 rename_i g
 refine Ye (λ(z:Sz)=>[(16,.int .i64 z.k),(15,.int .i64 nodes),(7,.pointer (some ⟨g,0,none⟩)),(1,.slice AL l.length capL),(2,.map (some gm))])
  (λz=>gpcs g (2*nodes) z.A z.cap (Z4 closed z.k) H) (λz=>z.k<=nodes) (λz=>nodes-z.k) ⟨0,none,0⟩ (Td _) ?_ ?_ ?_
 ·exact zc1
 ·intro w hw
  have h5:=hw.nilSlice 424 4
  revert h5
  unfold gpcs
  exactλh5=>h5.perm (.swap _ _ _)
 rintro⟨k,A,cap⟩ hk K hK
 simp only at hk⊢
 have hnl:=Qq closed k
 by_cases hlt:k<nodes
 ·obtain⟨b,hb⟩:∃b,closed (k:Int)=b:=⟨_,rfl⟩
  have hmk:blk gm (mobj ents clock)∈gpcs g (2*nodes) A cap (Z4 closed k) H:=TO _ (TO _ hm)
  cases b with
  |true=>
   have e2:=Yfw hb
   unfold gpcs at hmk⊢
   repeat'(first|(apply Yhb (kt:=3) (et:=4);exact rfl;exact rfl;exact hmk;kernel_rfl;exact rfl;kernel_rfl;exact hmb;exact hb)|refine zgc ?_|(refine zge ?_ ?_<;>intro _<;>try exact zo)|fail)
   apply hK ⟨k+1,A,cap⟩
   ·exact zc57
   ·exact zc57
   ·exact zc1
   ·dsimp only
    rw[e2]
    exact YbM
  |false=>
   have e2:=YdF hb
   unfold gpcs at hmk
   repeat'(first|(apply Yhb (kt:=3) (et:=4);exact rfl;exact rfl;exact hmk;kernel_rfl;exact rfl;kernel_rfl;exact hmb;exact hb)|refine zgd ?_|(refine zge ?_ ?_<;>intro _<;>try exact zo)|fail)
   apply Yg _ Ytt
   exact za
   exact rfl
   exactλ_ hw=>(Yhs g (2*nodes) (Z4 closed k) (2*(k:Int)) (2*(k:Int)+1) 0 (by omega) (by omega) (hw))
   rintro _ _ ⟨A3,cap3,rfl,rfl⟩
   refine zX10 ?_
   apply hK ⟨k+1,A3,cap3⟩
   ·exact zc57
   ·exact zc57
   ·exact zc1
   ·dsimp only
    rw[e2]
    exact YbM
 ·obtain rfl:k=nodes:=by omega
  clear hK
  refine zX0 ?_<;>intros
  refine Ye (λ(z:Sz)=>[(33,.int .i64 z.k),(32,.int .i64 l.length),(31,.slice AL l.length capL),(7,.pointer (some ⟨g,0,none⟩))])
   (λz=>gpcs g (2*k) z.A z.cap (Z4 closed k++UH (l.take z.k)) H) (λz=>z.k<=l.length) (λz=>l.length-z.k) ⟨0,A,cap⟩ (Td _) ?_ ?_ ?_
  ·exact zc1
  ·dsimp only
   rw[Ns,show UH []=[] from rfl,Rr]
   exact YbM
  rintro⟨j,A2,cap2⟩ hj K hK
  simp only at hj⊢
  have hal:=Ye0 (l.take j)
  rw[TU]at hal
  by_cases hlt:j<l.length
  ·obtain⟨a,ha⟩:∃a,l[j]? =some a:=⟨_,Ta hlt⟩
   obtain⟨⟨a1,a2⟩,⟨a3,a4⟩,⟨a5,a6⟩⟩:=hok a (Tc ha)
   have e2:UH (l.take (j+1))=UH (l.take j)++Vs (2*a.1+1) (2*a.2.1) a.2.2:=by rw[TB,ha];exact YjQ _ _
   have hrk:Rd B w0 (gpcs g (2*k) A2 cap2 (Z4 closed k++UH (l.take j)) H) AL (l.flatMap lkF):=(hr.cons).cons
   refine zX46 ?_<;>intros
   rename_i ga
   apply Zh (gpcs g (2*k) A2 cap2 (Z4 closed k++UH (l.take j)) (blk ga (.cells #[.int .i64 a.1,.int .i64 a.2.1,.int .i64 a.2.2] 268 (0,0))::H))
   ·unfold gpcs
    exact zc0
   apply Yg _ Ytt
   exact za
   exact rfl
   exactλ_ hw=>(Yhs g (2*k) (Z4 closed k++UH (l.take j)) (2*a.1+1) (2*a.2.1) a.2.2 (by rw[Tt];omega) (by omega) (hw))
   rintro _ _ ⟨A3,cap3,rfl,rfl⟩
   refine zX10 ?_
   apply hK ⟨j+1,A3,cap3⟩
   ·exact zc57
   ·exact zc57
   ·exact zc1
   ·dsimp only
    rw[e2,<-TV]
    unfold gpcs
    exact zc0
  ·obtain rfl:j=l.length:=by omega
   clear hK
   rw[TI]
   refine zX0 ?_<;>intros
   apply Yd;exact rfl;exact rfl
   exact⟨g,A2,cap2,rfl,rfl⟩
open Go.RowKit Go.Eng Go.Nw
variable {B:Nat}{w0 w:World}{H:List HP}
theorem YiS(l:List Flw)(id:Int)(hlen:l.length<=1000){A:Option Addr}{cap:Nat}(hr:Rd B w0 H A (l.flatMap flwF))(hw:St B w0 H w):
 CX B w0 71 [.slice A l.length cap,.int .i64 id] w λv K=>v=.int .i64 (ZB l id)/\K=H:=by
 refine Ya Tryz.func71 Tryz.ntmps71 rfl rfl hw ?_
 refine zX7 ?_
 refine Ye (λ(i:Nat)=>[(5,.int .i64 i),(0,.slice A l.length cap),(1,.int .i64 id)]) (λ_=>H) (λi=>i<=l.length/\ZB l id=Ym (λf:Flw=>decide (f.1=id)) (l.drop i) i) (λi=>l.length-i) 0 ⟨Td _,by simp[ZB]⟩ ?_ (λw hw=>hw) ?_
 ·exact zc1
 rintro i ⟨hi,he⟩ K hK
 by_cases hlt:i<l.length
 ·have hget:l[i]? =some (Xa l i):=V1 hlt
  rw[Z9 _ l hget]at he
  by_cases h:(Xa l i).1=id
  ·rw[Tn (Tf h)]at he
   rw[he]
   refine zX25 ?_<;>intros
   exact zc3
  ·rw[Tj (by simpa using h)]at he
   refine zX25 ?_<;>intros
   apply hK (i+1)
   ·exact⟨by omega,he⟩
   ·omega
   ·exact zc1
   exact zc21
 ·refine zX0 ?_<;>intros
  apply Yd;exact rfl;exact rfl
  rw[he,Rb (by omega)]
  exact Qg
theorem YiX(s:SchM)(i:Nat)(hi:i<s.cells.length)(hl:s.cells.length<=1000)(hr:Rd B w0 H s.A (s.cells.flatMap celF))(hw:St B w0 H w):
 CX B w0 334 [s.val,.int .i64 i] w λv K=>∃A cap,v=.tuple #[.slice A (Yz s.sch i).length cap,.int .i64 (YC s.sch i)]/\K=cels A cap (Yz s.sch i)::H:=by
 refine Ya Tryz.func334 Tryz.ntmps334 rfl rfl hw ?_
 have hgi:s.cells[i]? =some (Yj s.sch i):=YM (s:=s.sch) hi
 obtain⟨c,hc⟩:∃c,Yj s.sch i=c:=⟨_,rfl⟩
 have hS:Yz s.sch i=s.cells.filter (Y9 c):=by unfold Yz;rw[hc];rfl
 have hA:YC s.sch i=((s.cells.take i).filter (Y9 c)).length:=by unfold YC;rw[hc];rfl
 rw[hS,hA]
 rw[hc]at hgi
 repeat'(first|(apply YK T;exact rfl;exact rfl;intro g5)|refine zgb ?_|(refine zgh ?_;intro _)|fail)
 rename_i gs
 refine Ye (λ(z:Nat×Option Addr×Nat)=>[(8,.int .i64 z.1),(6,.slice z.2.1 ((s.cells.take z.1).filter (Y9 c)).length z.2.2),(7,.int .i64 (if i<z.1 then(((s.cells.take i).filter (Y9 c)).length:Int)else 0)),(2,.pointer (some ⟨gs,0,none⟩)),(1,.int .i64 i)])
  (λz=>cels z.2.1 z.2.2 ((s.cells.take z.1).filter (Y9 c))::blk gs (.cells #[.int .i64 s.len,.int .i64 s.off,.slice s.A s.cells.length s.cap] 33 (0,0))::H) (λz=>z.1<=s.cells.length) (λz=>s.cells.length-z.1) (0,some ⟨g5,0,none⟩,0) (Td _) ?_ (λw hw=>hw) ?_
 ·exact zc1
 rintro⟨k,A,cap⟩ hk K hK
 dsimp only at hk⊢
 have hM:=Yno (p:=Y9 c) (l:=s.cells) (i:=k)
 by_cases hlt:k<s.cells.length
 ·have hget:s.cells[k]? =some (Yj s.sch k):=YM (s:=s.sch) hlt
  have hE:=YhW (p:=Y9 c) hget
  obtain⟨d,hd⟩:∃d,Yj s.sch k=d:=⟨_,rfl⟩
  rw[hd]at hE hget
  obtain⟨M,hMe⟩:∃M,(s.cells.take k).filter (Y9 c)=M:=⟨_,rfl⟩
  rw[hMe]at hE hM⊢
  obtain⟨a9,ha9⟩:∃a:Int,(if i<k then(((s.cells.take i).filter (Y9 c)).length:Int)else 0)=a:=⟨_,rfl⟩
  obtain⟨b9,hb9⟩:∃a:Int,(if i<k+1 then(((s.cells.take i).filter (Y9 c)).length:Int)else 0)=a:=⟨_,rfl⟩
  have hab:b9=if k=i then(M.length:Int)else a9:=by
   rw[<-hb9,<-ha9]
   by_cases e:k=i
   ·subst e;rw[Tn (by omega),Tn rfl,hMe]
   ·rw[Tj e]
    by_cases h:i<k
    ·rw[Tn (by omega),Tn h]
    ·rw[Tj (by omega),Tj h]
  rw[ha9]
  unfold cels
  have hpl:Y9 c d=true↔d.1=c.1/\d.2.1=c.2.1:=by unfold Y9;rw[Tm]
  by_cases hp:d.1=c.1/\d.2.1=c.2.1
  ·rw[Tn (hpl.2 hp)]at hE
   by_cases e:k=i
   ·rw[Tn e]at hab
    refine YqJ ?_<;>intros
    rename_i A9 cap9
    apply hK (k+1,A9,cap9)
    ·exact YfQ
    ·show _-(k+1)<_-k
     omega
    ·dsimp only
     rw[hE,hb9,hab,Tt]
     exact zc1
    ·intro w hw
     dsimp only
     rw[hE]
     rw[JU]at hw
     revert w
     exact zc0
   ·rw[Tj e]at hab
    refine YqJ ?_<;>intros
    rename_i A9 cap9
    apply hK (k+1,A9,cap9)
    ·exact YfQ
    ·show _-(k+1)<_-k
     omega
    ·dsimp only
     rw[hE,hb9,hab,Tt]
     exact zc1
    ·intro w hw
     dsimp only
     rw[hE]
     rw[JU]at hw
     revert w
     exact zc0
  ·rw[Tj (λh=>hp (hpl.1 h)),Rr]at hE
   have hki:k≠i:=λe=>by
    subst e
    rw[hc]at hd
    subst hd
    exact hp ⟨rfl,rfl⟩
   rw[Tj hki]at hab
   repeat'(first|refine zgd ?_|(refine zgf ?_ ?_<;>intro _<;>try exact zo)|fail)
   all_goals(
    apply hK (k+1,A,cap)
    ·show k+1<=_
     omega
    ·show _-(k+1)<_-k
     omega
    ·dsimp only
     rw[hE,hb9,hab]
     exact zu
    ·dsimp only
     rw[hE]
     exactλw hw=>hw)
 ·obtain rfl:k=s.cells.length:=by omega
  rw[TI,Tn hi]
  refine zX0 ?_<;>intros
  apply Yf (cels A cap (s.cells.filter (Y9 c))::H)
  ·exact zc0
  exact zc99
theorem Yn4{nodes:Nat}{l:List Lk}{closed:Int->Bool}(h:ArcsOk nodes l):EdsIn (2*nodes) 1 (Qx nodes l closed):=by
 intro e he
 rcases Rl.1 he with he|he
 ·obtain⟨v,hv,he⟩:=SV.1 he
  have hv:=TQ.1 hv
  split at he
  ·cases he
  ·simp only[Vs,RA,SJ,or_false]at he
   rcases he with rfl|rfl<;>simp only<;>omega
 ·obtain⟨a,ha,he⟩:=SV.1 he
  obtain⟨h1,h2,h3⟩:=h a ha
  simp only[Vs,RA,SJ,or_false]at he
  grind
theorem Yk3(nodes:Nat)(l:List Lk)(closed:Int->Bool):(Qx nodes l closed).length<=2*nodes+2*l.length:=by
 grind [Qx,Ye0,Qq]
variable {es:Ents}
theorem YnY{seen:Array Nat}{e:Int×Value×Nat}(he:e∈es)(hs:seen.contains e.2.2=false):(es.filter λx=>!(seen.push e.2.2).contains x.2.2).length<(es.filter λx=>!seen.contains x.2.2).length:=by
 have h1:(es.filter λx=>!(seen.push e.2.2).contains x.2.2)=(es.filter λx=>!seen.contains x.2.2).filter λx=>!(x.2.2==e.2.2):=by
  rw[List.filter_filter]
  grind
 rw[h1]
 refine List.length_filter_lt_length_iff_exists.2 ⟨e,RU.2 ⟨he,by simp_all⟩,by simp⟩
theorem Ypw(hn:(es.map λe=>e.2.2).Nodup){x y:Int×Value×Nat}(hx:x∈es)(hy:y∈es)(e:x.2.2=y.2.2):x=y:=by
 induction es with
 |nil=>cases hx
 |cons a l ih=>
  grind
def YuL(mo:Option Nat)(closed:Int->Bool)(H:List HP):Prop:=match mo with
 |none=>∀v,closed v=false
 |some gm=>∃ents clock,blk gm (mobj ents clock)∈H/\MB ents closed/\MOk ents clock
structure Mz(f:Int->Bool) where
 g:Nat
 es:Ents
 c:Nat
 mb:MB es f
 ok:MOk es c
structure Lz where
 es:Ents
 c:Nat
 seen:Array Nat
 f:Int->Bool
theorem Ym4(nodes:Nat)(l:List Lk)(a b to:Int)(mo:Option Nat)(closed:Int->Bool)(fuel:Nat)(r:Int×Bool×List Ed)(hn:1<=nodes/\nodes<=50)(hl:l.length<=900)(hok:ArcsOk nodes l)(ha:0<=a/\a<nodes)(hb:0<=b/\b<nodes)(ht:0<=to/\to<nodes)(hfu:fuel<=100000)(hrun:QM fuel nodes l a b to closed=some r)
 {AL:Option Addr}{capL B:Nat}{w0:World}{H:List HP}{w:World}(hmo:YuL mo closed H) (hr:Rd B w0 H AL (l.flatMap lkF)) (hw:St B w0 H w):
 CX B w0 348 [.int .i64 nodes,.slice AL l.length capL,.int .i64 a,.int .i64 b,.int .i64 to,.map mo] w λv K=>∃g A cap,v=.tuple #[.int .i64 r.1,.pointer (some ⟨g,0,none⟩),.bool r.2.1]/\(r.2.2.length<=2000/\EdsIn (2*nodes) 900000 r.2.2/\ -600000000000000<=r.1/\r.1<=3000000000)/\K=gpcs g (2*nodes) A cap r.2.2 H:=by
 refine Ya Tryz.func348 Tryz.ntmps348 rfl rfl hw ?_
 iterate 8 (first|refine zga ?_|fail)
 refine Zs (λ(z:Mz λv=>decide (v=a\/v=b\/v=to))=>[(15,.map (some z.g)),(0,.int .i64 nodes),(1,.slice AL l.length capL),(2,.int .i64 a),(3,.int .i64 b),(4,.int .i64 to),(5,.map mo)]) (λz=>blk z.g (mobj z.es z.c)::H) ?_ ?_
 ·intro K hK
  apply UC (.n1 1 (.n1 3 (.n1 5 (.n1 0 (.n3 2 (.n2 4 (.n1 6 (.n1 7 (.n1 8 .done))) 6 (.n1 4 (.n1 7 (.n1 8 .done)))) 4 (.n2 2 (.n1 6 (.n1 7 (.n1 8 .done))) 6 (.n1 2 (.n1 7 (.n1 8 .done)))) 6 (.n2 2 (.n1 4 (.n1 7 (.n1 8 .done))) 4 (.n1 2 (.n1 7 (.n1 8 .done))))))))) [] []
  kernel_rfl
  kernel_rfl
  exact zy
  exact rfl
  repeat'(first|(apply YjK;exact rfl;intro gs)|(apply Yrd (kt:=3) (et:=4);(iterate 3 exact rfl);kernel_rfl;(intro _ _;exact zd);(first|assumption|exact MB.nil);(first|assumption|exact MOk.nil);intro _ _ _ _)|(apply YoT;(simp only[nthO];rfl);(simp only[nthO];rfl);(simp only[nthO];rfl))|(apply YeZ;(simp only[nthO];rfl);(simp only[nthO];rfl))|(apply YeY;(simp only[nthO];rfl))|(apply UE;try exact zl)|(apply Yh;try exact zl)|refine zgd ?_|fail)
  all_goals(
   rename_i es3 c3 m3 o3
   refine hK ⟨gs,es3,c3,m3.ext λv=>?_,o3⟩ _ _ ?_ ?_
   ·by_cases h1:v=a<;>by_cases h2:v=b<;>by_cases h3:v=to<;>simp[h1,h2,h3]
   ·exact zu
   ·exactλw hw=>hw)
 rintro⟨gs,es0,c0,mb0,ok0⟩
 dsimp only
 apply Xc
 refine Zs (λ(z:Mz (U6 a b to closed))=>[(15,.map (some z.g)),(0,.int .i64 nodes),(1,.slice AL l.length capL),(2,.int .i64 a),(3,.int .i64 b),(4,.int .i64 to)]) (λz=>blk z.g (mobj z.es z.c)::H) ?_ ?_
 ·intro KK hKK
  cases mo with
  |none=>
   repeat'(first|(apply Yhk (kt:=3) (et:=4);exact rfl;kernel_rfl;exact rfl;intro it)|refine zgb ?_|fail)
   refine Ye (λ(_:Unit)=>[(28,.pointer (some ⟨it,0,none⟩)),(15,.map (some gs)),(0,.int .i64 nodes),(1,.slice AL l.length capL),(2,.int .i64 a),(3,.int .i64 b),(4,.int .i64 to)]) (λ_=>blk it (.mapIter none 0 #[] 0)::blk gs (mobj es0 c0)::H) (λ_=>True) (λ_=>0) () trivial ?_ (λw hw=>hw) ?_
   ·exact zc1
   intro _ _ K hK
   clear hK
   repeat'(first|(apply YjL;exact rfl;exact zm;exact rfl)|refine zgc ?_|fail)
   refine hKK ⟨gs,es0,c0,mb0.ext λv=>?_,ok0⟩ _ _ ?_ ?_
   ·unfold U6;rw[hmo v,Bool.or_false]
   ·exact zc1
   ·exact Yax
  |some gm=>
   obtain⟨ents,clock,hm,hmb,hmk⟩:=hmo
   repeat'(first|(apply YoI (kt:=3) (et:=4) (g:=gm);exact rfl;exact TO _ hm;kernel_rfl;exact rfl;intro it)|refine zgb ?_|fail)
   refine Ye (λ(_:Lz)=>[(28,.pointer (some ⟨it,0,none⟩)),(15,.map (some gs)),(0,.int .i64 nodes),(1,.slice AL l.length capL),(2,.int .i64 a),(3,.int .i64 b),(4,.int .i64 to)]) (λz=>blk it (.mapIter (some gm) clock z.seen clock)::blk gs (mobj z.es z.c)::H)
    (λz=>MB z.es z.f/\MOk z.es z.c/\(∀v,z.f v=true->U6 a b to closed v=true)/\(∀v,(v=a\/v=b\/v=to)->z.f v=true)/\∀e∈ents,z.seen.contains e.2.2=true->z.f e.1=true) (λz=>(ents.filter λx=>!z.seen.contains x.2.2).length) ⟨es0,c0,#[],λv=>decide (v=a\/v=b\/v=to)⟩ ⟨mb0,ok0,λv h=>by unfold U6;simp only at h;rw[h];rfl,λv h=>Tf h,λe _ h=>by simp at h⟩ ?_ (λw hw=>hw) ?_
   ·exact zc1
   rintro⟨es1,c1,seen,f⟩ ⟨i1,i2,i3,i4,i5⟩ K hK
   simp only at i1 i2 i3 i4 i5⊢
   repeat'(first|apply Xc|apply Yg1|apply YW|fail)
   apply Yri (g:=gm)
   ·exact rfl
   ·exact TO _ (TO _ hm)
   ·exact rfl
   ·intro _;exact zd
   ·exact hmk.lt
   ·exact TK _
   ·intro hall
    clear hK
    refine zX10 ?_
    refine hKK ⟨gs,es1,c1,i1.ext λv=>?_,i2⟩ _ _ ?_ ?_
    ·cases hs:U6 a b to closed v with
     |true=>
      unfold U6 at hs
      rcases RH _ _▸hs with h|h
      ·exact i4 v (TT h)
      ·obtain⟨e,he,rfl⟩:=hmb.at_ h
       exact i5 e he (hall e he)
     |false=>
      cases hf:f v with
      |false=>rfl
      |true=>rw[i3 v hf]at hs;cases hs
    ·exact zc1
    ·exact Yax
   ·rintro⟨ek,ev,eb⟩ he hseen
    simp only at hseen⊢
    have hec:=hmb.mem he
    repeat'(first|(apply YoB (g:=gm) (e:=(ek,ev,eb));exact rfl;exact TO _ (TO _ hm);exact zm;exact rfl;exact he;exact hmk.nd)|(apply Yrl (kt:=3) (et:=4);(iterate 3 exact rfl);kernel_rfl;(intro _ _;exact zd);exact i1;exact i2;intro es2 c2 m2 o2 _ _)|refine zgc ?_|fail)
    apply hK ⟨es2,c2,seen.push eb,λv=>decide (v=ek)||f v⟩
    ·refine⟨m2,o2,λv h=>?_,λv h=>?_,λe he2 h=>?_⟩
     ·simp only at h
      rcases RH _ _▸h with h|h
      ·obtain rfl:=TT h
       unfold U6
       rw[hec,Bool.or_true]
      ·exact i3 v h
     ·simp only;rw[i4 v h,Bool.or_true]
     ·simp only at h⊢
      rw[Array.contains_push]at h
      rcases RH _ _▸h with h|h
      ·rw[i5 e he2 h,Bool.or_true]
      ·have:e=(ek,ev,eb):=Ypw hmk.nd he2 he (by simpa using h)
       rw[this];simp
    ·exact YnY (e:=(ek,ev,eb)) he hseen
    ·exact zc1
    exact zc21
 rintro⟨gs2,es2,c2,mb2,ok2⟩
 dsimp only
 have hsl:=Yk3 nodes l (U6 a b to closed)
 have hsi:=Yn4 (closed:=U6 a b to closed) hok
 unfold QM at hrun
 cases h1:YfD fuel (2*nodes) (Qx nodes l (U6 a b to closed)) (2*a+1) (2*to)with
 |none=>rw[h1]at hrun;cases hrun
 |some r1=>
  rw[h1]at hrun
  obtain⟨x,ok,es1⟩:=r1
  dsimp only at hrun
  cases h2:YfD fuel (2*nodes) es1 (2*b+1) (2*to)with
  |none=>rw[h2]at hrun;cases hrun
  |some r2=>
   rw[h2]at hrun
   obtain⟨y,is,es3⟩:=r2
   obtain rfl:=TJ hrun
   refine zX2 ?_
   apply Yg _ Yw9
   exact za
   exact rfl
   exactλ_ hw=>(Yk4 nodes l (U6 a b to closed) gs2 c2 es2 (by omega) (by omega) hok mb2 TG hr.cons (hw))
   rintro _ _ ⟨g,A,cap,rfl,rfl⟩
   refine zX3 ?_
   apply Yg _ Ytq
   exact za
   exact rfl
   exactλ_ hw=>(YfE g (2*nodes) (Qx nodes l (U6 a b to closed)) (2*a+1) (2*to) fuel 1 (x,ok,es1) (by omega) hsi (by omega) (by omega) hfu (by omega) (by omega) h1 (hw))
   rintro _ _ ⟨rfl,⟨q1,q2,q3,q4⟩,rfl⟩
   dsimp only at q1 q2 q3 q4⊢
   refine zX3 ?_
   apply Yg _ Ytq
   exact za
   exact rfl
   exactλ_ hw=>(YfE g (2*nodes) es1 (2*b+1) (2*to) fuel (1+2*(fuel:Int)) (y,is,es3) (by omega) q2 (by omega) (by omega) hfu (by omega) (by omega) h2 (hw))
   rintro _ _ ⟨rfl,⟨p1,p2,p3,p4⟩,rfl⟩
   dsimp only at p1 p2 p3 p4⊢
   cases ok
   all_goals(
    repeat'(first|refine zgd ?_|fail)
    apply Yf (gpcs g (2*nodes) A cap es3 H)
    ·unfold gpcs
     exact zk
    apply J7;(iterate 4 exact rfl)
    exact⟨g,A,cap,rfl,⟨by omega,p2.mono (by omega),by omega,by omega⟩,rfl⟩)
variable {B:Nat}{w0 w:World}{H:List HP}
theorem YnF(n:NetM)(a b:Int)(hg:YX n.net a b=true)(hin:n.In B w0 H)(hw:St B w0 H w):
 CX B w0 307 [n.val,.int .i64 a,.int .i64 b] w λv K=>v=.int .i64 (Q9 n.net a b)/\K=H:=by
 refine Ya Tryz.func307 Tryz.ntmps307 rfl rfl hw ?_
 obtain⟨hpw,hrw,hlk,hmg,hs1,hs2,hs3,hs4⟩:=id hin
 (apply Xc;apply YW;apply YR;exact rfl;exact rfl;intro g)
 have hf:=VI hg
 have hfl:=XV hf
 have e7:n.net.links=n.links:=rfl
 rw[e7]at hfl
 have hlx:n.links[(Yq n.net a b).toNat]? =some (lnk n.net (Yq n.net a b).toNat):=Oe n.net hfl
 have hfi:=λ{H:List HP}{w:World}(hin:n.In B w0 H) (hw:St B w0 H w)=>V6 n a b hin hw
 have hlo:Q9 n.net a b=(lnk n.net (Yq n.net a b).toNat).2.2:=rfl
 obtain⟨fi,hfi2⟩:∃x,Yq n.net a b=x:=⟨_,rfl⟩
 rw[hfi2]at hfi hlx hf hfl hlo
 obtain⟨lk,hlk2⟩:∃x,lnk n.net fi.toNat=x:=⟨_,rfl⟩
 rw[hlk2]at hlx hlo
 have hlk3:Rd B w0 (netB g n::H) n.lA (n.links.flatMap lkF):=hlk.cons
 rw[hlo]
 repeat'(first|((apply Yn Yff);exact za;exact rfl;exactλ_ hw=>(hfi hin.cons hw))|(apply zg28;refine zs84 ?_)|refine zgd ?_|fail)
 exact zc20
theorem Ypv{n:Net}{s t:Int}(h:Zp n s t=0):Yl n=0/\(0<=s/\s<n.nodes)/\(0<=t/\t<n.nodes)/\s≠t:=by
 unfold Zp offE at h
 grind
theorem Ybz(n:NetM)(s t:Int)(r:List Int){A:Option Addr}{cap:Nat}(hin:n.In B w0 H)(hr:Rd B w0 H A (r.flatMap numF))(hlen:r.length<=1000000000000)(hw:St B w0 H w):
 CX B w0 186 [n.val,.int .i64 s,.int .i64 t,.slice A r.length cap] w λv K=>v=.int .i64 (Xu n.net s t r)/\K=H:=by
 refine Ya Tryz.func186 Tryz.ntmps186 rfl rfl hw ?_
 unfold Xu
 by_cases h0:Zp n.net s t=0
 ·have hck:=(Ypv h0).1
  have hen:=λ{H:List HP}{w:World}(hin:n.In B w0 H) (hw:St B w0 H w)=>YdM n s t hin hw
  rw[h0]at hen
  rw[Tj (λh=>h h0)]
  repeat'(first|((apply Yb YsU);exact za;exact rfl;exactλ_ hw=>(hen hin.cons hw))|((apply Yb Ywr);exact za;exact rfl;exactλ_ hw=>(YeI n s t r hin.cons hck hr.cons hlen hw))|refine zgb ?_|(refine zge ?_ ?_<;>intro _<;>try exact zo)|(refine zgh ?_;intro _)|fail)
  (repeat apply Yi);exact zc10
 ·rw[Tn h0]
  repeat'(first|((apply Yb YsU);exact za;exact rfl;exactλ_ hw=>(YdM n s t hin.cons hw))|refine zgb ?_|(refine zge ?_ ?_<;>intro _<;>try exact zo)|(refine zgh ?_;intro _)|fail)
  (repeat apply Yi);exact zc10
end Go.Proofs.YtjommdkgfbhbdaaGreatDoor
namespace Go.Eng
open Go.RowKit
section
variable {P:Program}{m:Mode}{n:Shp}{B d:Nat}{w0:World}{ops:Array Oper}{Q:Exit->Act->World->Prop}{rest:List Oper}{env:Env}{H:List HP}{ty:TypeId}{pos:String}{after:Array Edge}
variable {t e q bytes g o:Nat}{x y:Operand}{cs:Array Value}{ki k:IntKind}{i:Int}
theorem Ybb(T:Tab P){k:Nat}{v:Value}(hx:evo env x=some (.agg cs))(hy:evo env y=some (.int ki i))(ht:look T.ar t=some (k,e,1))(hs:OQ P e=true)(hn:Nat.ble (d+1) n.k=true)(hi:0<=i/\i<k)(hv:cs[i.toNat]? =some v)
 (h:VL P m n B w0 ops Q rest ((d,v)::env) H):VL P m n B w0 ops Q (⟨some d,.index t x y,ty,pos,after,none⟩::rest) env H:=by
 obtain⟨inf,hu,hinf,hs'⟩:=Jt (T.arra ht)
 refine Yt rfl rfl hn rfl (λa w ha hw=>?_) h
 simp[execOp,ha.eval hx,ha.eval hy,Instr.index,asIntOf,run_underlying hu,hi,sizeOf,typeInfo,hinf,hs',part,Xj hs,hv]
theorem Yg9(T:Tab P){k:Nat}(hx:evo env x=some (.agg cs))(hy:evo env y=some (.int ki i))(ht:look T.ar t=some (k,e,q))(hs:aggT P e=some q)(hn:Nat.ble (d+1) n.k=true)(hi:0<=i/\i<k)
 (h:VL P m n B w0 ops Q rest ((d,.agg (cs.extract (i.toNat*q) (i.toNat*q+q)))::env) H):VL P m n B w0 ops Q (⟨some d,.index t x y,ty,pos,after,none⟩::rest) env H:=by
 obtain⟨inf,hu,hinf,hs'⟩:=Jt (T.arra ht)
 refine Yt rfl rfl hn rfl (λa w ha hw=>?_) h
 simp[execOp,ha.eval hx,ha.eval hy,Instr.index,asIntOf,run_underlying hu,hi,sizeOf,typeInfo,hinf,hs',part,JJ hs]
def numA(k:IntKind)(l:List Int):Array Value:=(l.map (Value.int k)).toArray
variable {l:List Int}
theorem YiA{i:Nat}(h:i<l.length):(numA k l)[i]? =some (.int k l[i]):=by
 grind [numA]
variable {tt:TypeId}{K:List HP}
theorem QB(T:Tab P){kd cd mm c2:Nat}{ys l':List Int}{A2:Option Addr}(hx:evo env x=some (.slice (some ⟨g,o,none⟩) kd cd))(hy:evo env y=some (.slice A2 mm c2))(hr:Rd B w0 H A2 (ys.map (Value.int k)))
 (hl':l.take o++ys.take (min mm kd)++l.drop (o+min mm kd)=l') (hu:Upd (blk g (.cells (numA k l) tt (0,0))) (blk g (.cells (numA k l') tt (0,0))) H K) (ht:look T.sl t=some (e,1,bytes)) (hn:Nat.ble (d+1) n.k=true) (hb:o+kd<=l.length/\min mm kd<=ys.length/\0<min mm kd)
 (h:l'.length=l.length->VL P none n B w0 ops Q rest ((d,.int .i64 (min mm kd:Nat))::env) K):
 VL P none n B w0 ops Q (⟨some d,.call ⟨.builtin .copy,#[x,y],#[t,t]⟩,ty,pos,after,none⟩::rest) env H:=by
 obtain⟨hut,inf,z,hi,hz,hzs,hsi,hbi,hs0,hb0⟩:=YG (T.slic ht)
 have hlen:l'.length=l.length:=by
  grind
 refine XA (λv K'=>v=.int .i64 (min mm kd:Nat)/\K'=K) rfl rfl hn (λa w ha hw=>?_) (by rintro _ _ ⟨rfl,rfl⟩;exact h hlen)
 have hb0:w.heap[g]? =some (.cells (numA k l) tt (0,0)):=zc39
 have hcl:((ys.take (min mm kd)).map (Value.int k)).length=min mm kd:=by simp_all
 have hsome:∃a2,A2=some a2/\∀j v,((ys.take (min mm kd)).map (Value.int k))[j]? =some v->w.cell? (a2.add j)=some v:=by
  have h0:(ys.map (Value.int k))[0]? =some (.int k (ys[0]'(by omega))):=by simp_all
  obtain⟨g2',o2,rfl,_⟩:=hr w hw 0 _ h0
  refine⟨_,rfl,λj v hj=>?_⟩
  rw[NG,SA]at hj
  exact YtU
 obtain⟨a2,rfl,hsrc⟩:=hsome
 have hrun:=run_copy_row (P:=P) w t t ty e g o kd cd a2 mm c2 (numA k l) tt ((ys.take (min mm kd)).map (Value.int k)) hut (by rw[hi];simp[hsi]) hb0 hcl hsrc (by rw[hcl];unfold numA;simp;omega) (λv hv=>by obtain⟨z,_,rfl⟩:=TD.1 hv;rfl)
 have hnew:((numA k l).toList.take o++(ys.take (min mm kd)).map (Value.int k)++(numA k l).toList.drop (o+((ys.take (min mm kd)).map (Value.int k)).length)).toArray=numA k l':=by
  rw[hcl,<-hl']
  unfold numA
  simp only[Rf,NG,NA]
 rw[hnew,hcl]at hrun
 refine⟨_,K,w.setRow g (numA k l'),?_,hw.upd hu rfl rfl rfl (by simp[World.setRow]) λS1 ⟨h1,h2⟩=>⟨⟨h1,setRow_heap w g _ _ tt _ hb0⟩,λb hb _=>Yap (λe=>hb (e▸h1))⟩,rfl,rfl⟩
 simp only[execOp,resolve,invoke,builtin]
 have hmap:#[x,y].map a.eval=#[.slice (some ⟨g,o,none⟩) kd cd,.slice (some a2) mm c2]:=by simp[ha.eval hx,ha.eval hy]
 grind [Go.Sem.run_bind,Go.Sem.run_pure,Go.Result.andThen_ok,goInt]
theorem Xp:(numA k l).size=l.length:=by grind [numA]
theorem YfF:∀(pre cs vs:List Value),cs.length=vs.length->PutAt (pre++cs) pre.length vs (pre++vs)
 |pre,[],[],_=>PutAt.nil
 |pre,c::cs,v::vs,h=>by
  refine PutAt.cons (l1:=(pre++[v])++cs) ⟨by simp,by simp⟩ ?_
  have:=YfF (pre++[v]) cs vs (by simp_all)
  simp_all
theorem Ycz(k:IntKind):∀l:List Int,Ji (l.map (Value.int k))=true
 |[]=>rfl
 |_::l=>Ycz k l
theorem YbN(T:Tab P){k size:Nat}(hx:evo env x=some (.pointer (some ⟨g,o,none⟩)))(hy:evo env y=some (.int ki i))(ht:look T.ar t=some (k,e,size))(hn:Nat.ble (d+1) n.k=true)(hi:0<=i/\i<k)
 (h:VL P m n B w0 ops Q rest ((d,.slice (some ⟨g,o+i.toNat*size,none⟩) (k-i.toNat) (k-i.toNat))::env) H):
 VL P m n B w0 ops Q (⟨some d,.slice t x (some y) none none,ty,pos,after,none⟩::rest) env H:=by
 obtain⟨inf,hu,hinf,hs⟩:=Jt (T.arra ht)
 have h1:0<=i/\i<=k:=by omega
 have h2:k-i.toNat≠0:=by omega
 refine Yt rfl rfl hn rfl (λa w ha hw=>?_) h
 simp[execOp,ha.eval hx,ha.eval hy,Instr.sliceAt,Instr.sliceBounds,Instr.sliceBound,Instr.sureAddr,asIntOf,run_underlying hu,h1,sizeOf,typeInfo,hinf,hs,Addr.add_lit]
 omega
theorem X4(Φ:Value->Prop){f:Nat}{args:List Operand}{tys:Array TypeId}{vs:List Value}(hc:∀xs w,(callFunc f xs).run P w=.ok (.enter f xs) w)(hargs:Args env args vs)(hn:Nat.ble (d+1) n.k=true)
 (hcall:∀w,St B w0 H w->Calls P f vs.toArray w (Post B w0 λv K=>Φ v/\K=H)) (h:∀v,Φ v->VL P none n B w0 ops Q rest ((d,v)::env) H):
 VL P none n B w0 ops Q (⟨some d,.call ⟨.value (.func f),args.toArray,tys⟩,ty,pos,after,none⟩::rest) env H:=
 Yg _ hc hargs hn hcall (by rintro v _ ⟨hv,rfl⟩;exact h v hv)
theorem YjJ(T:Tab P){c:Int}{z:Value}(hx:evo env x=some (.int .i64 0))(hy:evo env y=some (.int .i64 c))(ht:look T.sl t=some (e,1,bytes))(hz:((P.info? e).bind (·.zero))=some z)(hz1:z.cells=#[z])(hn:Nat.ble (d+1) n.k=true)(hb:Nat.ble bytes 1000=true)(hc:0<=c/\c<=1000000)
 (h:∀g,VL P none n B w0 ops Q rest ((d,.slice (some ⟨g,0,none⟩) 0 c.toNat)::env) (sl e 1 (some ⟨g,0,none⟩) 0 c.toNat []::H)):VL P none n B w0 ops Q (⟨some d,.makeSlice t x y,ty,pos,after,none⟩::rest) env H:=by
 obtain⟨hu,i,z',hi,hz',_,hsi,hbi,_,_⟩:=YG (T.slic ht)
 obtain rfl:z'=z:=by simp_all
 have hb':=TR hb
 refine XA (λv K=>∃g,v=.slice (some ⟨g,0,none⟩) 0 c.toNat/\K=sl e 1 (some ⟨g,0,none⟩) 0 c.toNat []::H) rfl rfl hn (λa w ha hw=>?_) zc53
 have hbytes:(i.bytes:Int)*c<=281474976710656:=Yt7
 have hrun:=run_make (P:=P) w t e i z' hu hi hz' .i64 .i64 0 c (SK _) hc.1 hbytes (by omega)
 rw[hsi,RG,hz1]at hrun
 refine⟨_,_,w.alloc (.cells (madeCells #[z'] c.toNat) e),by simp only[execOp,ha.eval hx,ha.eval hy,Sem.run_bind,hrun,Result.andThen_ok,Sem.run_pure];rfl,?_,w.heap.size,rfl,rfl⟩
 have h2:=hw.alloc (.cells (madeCells #[z'] c.toNat) e)
 refine h2.upd (Upd.here _) rfl rfl rfl (TK _) λS1 ⟨h3,h4⟩=>⟨⟨⟨by simp,.inr ⟨w.heap.size,c.toNat,madeCells #[z'] c.toNat,rfl,Td _,h4,Td _,by grind [maxLen],by simp[size_madeCells],?_⟩⟩,λa ha=>by grind⟩,λ_ _ _=>rfl⟩
 simp
theorem YZ(T:Tab P){c0:Array Value}(hx:evo env x=some (.pointer (some ⟨g,0,none⟩)))(hy:evo env y=some (.agg (numA k l)))
 (hu:Upd (blk g (.cells c0 tt (0,0))) (blk g (.cells (numA k l) tt (0,0))) H K) (hl:c0.size=l.length) (ht:look T.ag t=some q) (hq:l.length=q)
 (h:VL P none n B w0 ops Q rest env K):VL P none n B w0 ops Q (⟨none,.store t x y,ty,pos,after,none⟩::rest) env H:=
 QD T (cs:=c0.toList) (cs':=l.map (Value.int k)) (tt:=tt) hx hy (Ycz k l) hu (YfF [] _ _ (by simp_all)) ht (by simp_all) h
end
end Go.Eng
