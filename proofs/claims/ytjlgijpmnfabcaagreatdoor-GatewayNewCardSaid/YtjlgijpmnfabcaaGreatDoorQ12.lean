/- Lemmas. -/
import Derived.Test.YtjlgijpmnfabcaaGreatDoorQ9
import Derived.Test.YtjlgijpmnfabcaaGreatDoorQ10
set_option maxRecDepth 100000
set_option maxHeartbeats 8000000
set_option linter.all false
namespace Go.Proofs.YtjlgijpmnfabcaaGreatDoor
open Go.RowKit Go.Eng Go.Nw Go.Rt
structure Pst where
 c:List Clm
 last:Nat
def Ykk:Pst:=⟨[],3⟩
structure Rdr(p:Pst):Prop where
 full:∀i x,p.c[i]? =some x->i+1<p.c.length->x.bounds.length=x.routes.length/\x.worst.length=x.routes.length/\x.slots.length=x.routes.length/\1<=x.routes.length/\x.routes.length<=2
 some_:p.c=[]->p.last=3
 at_:∀cs x,p.c=cs++[x]->
  (p.last=0/\x.routes=[]/\x.bounds=[]/\x.worst=[]/\x.slots=[])\/
  (p.last=1/\1<=x.routes.length/\x.routes.length<=2/\x.bounds.length+1=x.routes.length/\x.worst.length+1=x.routes.length/\x.slots.length+1=x.routes.length)\/
  (p.last=2/\1<=x.routes.length/\x.routes.length<=2/\x.bounds.length=x.routes.length/\x.worst.length=x.routes.length/\x.slots.length+1=x.routes.length)\/
  (p.last=3/\1<=x.routes.length/\x.routes.length<=2/\x.bounds.length=x.routes.length/\x.worst.length=x.routes.length/\x.slots.length=x.routes.length)
theorem Rdr.start:Rdr Ykk:=⟨λi x h=>by simp[Ykk]at h,λ_=>rfl,λcs x h=>by simp[Ykk]at h⟩
variable {X:List Cel}
theorem Oe{Y:List Cel}{k:Nat}(h:k<X.length):celL (X++Y) k=celL X k:=by
 grind [celL]
theorem Yb3(X:List Cel)(c:Cel):celL (X++[c]) X.length=c:=by
 simp_all [celL]
theorem Uh(X:List Cel)(c:Cel)(k:Nat):celL (c::X) (k+1)=celL X k:=by
 grind [celL]
theorem Yac(X:List Cel)(c:Cel):celL (c::X) 0=c:=rfl
theorem O1(n:Net)(X Y:List Cel)(j:Nat)(node:Int):∀k,k<=X.length->Yz n (X++Y) j node k=Yz n X j node k
 |0,_=>rfl
 |k+1,h=>by rw[Yz,Yz,O1 n X Y j node k (by omega),Oe (by omega)]
theorem Yaf(n:Net)(X:List Cel)(c:Cel)(i:Nat)(node:Int):∀k,Yz n (c::X) (i+1) node (k+1)=(powN n (YM c) node+powN n (toC c) node)+Yz n X i node k
 |0=>by simp_all [Yz,Yac]
 |k+1=>by
  rw[Yz,Yaf n X c i node k,Yz,Uh]
  omega
theorem O0(n:Net)(X:List Cel)(c:Cel)(node:Int)(j:Nat):∀k,k<=j->Yz n (c::X) 0 node (k+1)=Yz n X j node k
 |0,_=>by simp_all [Yz]
 |k+1,h=>by
  rw[Yz,O0 n X c node j k (by omega),Yz,Uh,Tf (by omega),Tf (by omega)]
theorem Yl8(X:List Cel)(c:Cel)(i:Nat)(hi:i<X.length)(T:Cel->Bool):((List.range (X++[c]).length).any λk=>decide (k≠i)&&T (celL (X++[c]) k))=(((List.range X.length).any λk=>decide (k≠i)&&T (celL X k))||T c):=by
 rw[Tq,TL,RI,Nj]
 congr 1
 ·rw[Bool.eq_iff_iff,TZ,TZ]
  constructor
  ·grind [Oe]
  ·grind [Oe]
 ·rw[List.any_cons,List.any_nil,Bool.or_false,Yb3,Ti (show X.length≠i by omega),RX]
theorem Yl6(X:List Cel)(c:Cel)(i:Nat)(T:Cel->Bool):((List.range (c::X).length).any λk=>decide (k≠i+1)&&T (celL (c::X) k))=(T c||(List.range X.length).any λk=>decide (k≠i)&&T (celL X k)):=by
 rw[TS,Sj,List.any_cons,List.any_map,Yac,Ti (show 0≠i+1 by omega),RX]
 congr 1
 exact zc60
theorem Yl7(X:List Cel)(c:Cel)(T:Cel->Bool):((List.range (X++[c]).length).any λk=>decide (k≠X.length)&&T (celL (X++[c]) k))=(List.range X.length).any λk=>T (celL X k):=by
 rw[Tq,TL,RI,Nj,List.any_cons,List.any_nil,Bool.or_false,show decide (X.length≠X.length)=false by simp,Bool.false_and,Bool.or_false]
 rw[Bool.eq_iff_iff,TZ,TZ]
 constructor
 ·rintro⟨k,hk,h⟩;refine⟨k,hk,?_⟩;simp_all [Oe]
 ·rintro⟨k,hk,h⟩
  refine⟨k,hk,?_⟩
  have:=Ro.1 hk
  rw[Oe this,Tt]
  grind
theorem Yl5(X:List Cel)(c:Cel)(T:Cel->Bool):((List.range (c::X).length).any λk=>decide (k≠0)&&T (celL (c::X) k))=(List.range X.length).any λk=>T (celL X k):=by
 rw[TS,Sj,List.any_cons,List.any_map,show decide ((0:Nat)≠0)=false by simp,Bool.false_and,Nu]
 exact zc60
variable {c c':Cel}
theorem W7{d:Cel}(hf:YM c=YM c')(ht:toC c=toC c'):YE c d=YE c' d/\YE d c=YE d c':=by
 unfold YE;simp_all
theorem Yet(n:Net)(X:List Cel)(c:Cel)(i:Nat)(hi:i<X.length)(node:Int):Yz n (X++[c]) i node (X++[c]).length=Yz n X i node X.length+(powN n (YM c) node+powN n (toC c) node):=by
 rw[Tq,TL,Yz,O1 n X [c] i node _ (TQ _),Tf (by omega),Yb3]
theorem Ycf(n:Net)(X:List Cel)(c:Cel)(node:Int):Yz n (X++[c]) X.length node (X++[c]).length=Yz n X X.length node X.length:=by
 simp_all [Yz,O1]
theorem YcD{n:Net}(hf:YM c=YM c')(ht:toC c=toC c'):Jm n (X++[c])=Jm n (c'::X):=by
 have h1:∀i,i<X.length->Zy n (X++[c]) i=Zy n (c'::X) (i+1):=λi hi=>by
  unfold Zy
  rw[Oe hi,Uh,Yl8 X c i hi,Yl6,Yet n X c i hi,Yet n X c i hi,TS,Yaf,Yaf,(W7 hf ht).2,hf,ht,Bool.or_comm (YE _ c')]
  grind
 have h2:Zy n (X++[c]) X.length=Zy n (c'::X) 0:=by
  unfold Zy
  rw[Yb3,Yac,Yl7,Yl5,Ycf,Ycf,TS,O0 n X c' _ X.length _ (TQ _),O0 n X c' _ X.length _ (TQ _),hf,ht]
  have:(λk=>YE c (celL X k))=λk=>YE c' (celL X k):=funext λk=>(W7 hf ht).1
  rw[this]
 unfold Jm
 rw[Tq,TL,RI,List.all_append,TS,Sj,Ni,List.all_nil,Bool.and_true,Ni,List.all_map,h2,Bool.and_comm]
 grind
def fitE(n:Net)(l:List Cel)(slot o a b:Int):Bool:=!(l.any λd=>decide (d.1=slot)&&YE d (0,0,a,b,0))&&Jm n (l.filter (atP slot o)++[(0,0,a,b,0)])
def hasC(l:List Cel)(slot a b id:Int):Bool:=l.any λd=>decide (d.1=slot/\YM d=a/\toC d=b/\Zw d=id)
def Js(n:Net)(s:Sch)(a b id slot:Int):Option Sch:=
 if hasC s.cells slot a b id=true then some s else((List.range s.off.toNat).find? λo:Nat=>fitE n s.cells slot o a b).map λo:Nat=>⟨s.len,s.off,insC s.cells (slot,(o:Int),a,b,id)⟩
def hopA(n:Net)(a b id:Int):Nat->Nat->Sch->Int->Option (Sch×Int)
 |_,0,s,z=>some (s,z)
 |0,_+1,_,_=>none
 |f+1,k+1,s,z=>match Js n s a b id (z.tmod s.len)with
  |some t=>hopA n a b id f k t (z+1)
  |none=>hopA n a b id f (k+1) s (z+1)
def relA(n:Net)(id endd:Int):List Lk->Sch->Int->Option Sch
 |[],s,_=>some s
 |l::ls,s,z=>match hopA n l.1 l.2.1 id (endd-z).toNat (Y6 l) s z with
  |none=>none
  |some (t,y)=>relA n id endd ls t y
def Yfd(n:Net)(f:Flw)(ls:List Lk):Nat->Sch->Int->Option Sch
 |0,s,_=>some s
 |k+1,s,z=>if z<s.len then match relA n f.1 (z+f.2.2.2.2.2) ls s z with
  |none=>none
  |some t=>Yfd n f ls k t (z+f.2.2.2.1)
  else some s
def V9(n:Net)(f:Flw):List (List Int)->Sch->Option Sch
 |[],s=>some s
 |r::rs,s=>match Yfd n f (YH n r) s.len.toNat s f.2.2.2.2.1 with
  |none=>none
  |some t=>V9 n f rs t
end Go.Proofs.YtjlgijpmnfabcaaGreatDoor
namespace Go.Eng
open Go.RowKit
theorem JM(H:List HP):Perm H (H++[]):=zc33
section
variable {P:Program}{B:Nat}{w0:World}{Q:Exit->Act->World->Prop}{env:Env}{H:List HP}{m:Mode}{n:Shp}{ops:Array Oper}{rest:List Oper}{d:Nat}{ty:TypeId}{pos:String}{after:Array Edge}{xt yt:TypeId}{x y:Operand}{k:IntKind}{a b:Int}
theorem Yqg(hx:evo env x=some (.int k a))(hy:evo env y=some (.int k b))(hn:Nat.ble (d+1) n.k=true)(h:VL P m n B w0 ops Q rest ((d,.bool (decide (a=b)))::env) H):
 VL P m n B w0 ops Q (⟨some d,.binOp .eql xt x y yt,ty,pos,after,none⟩::rest) env H:=by
 refine Ynz hx hy hn (λe=>?_) (λe=>?_)
 ·rwa [Ti e]at h
 ·rwa [Tj e]at h
theorem Vr(T:Tab P){α:Type}{f:α->List Value}{l:List α}{t i q o k:Nat}{b:α}{x:Operand}{A:Option Addr}{vs:List Value}(hx:evo env x=some (sptr A (i*q+o)))(hr:Rd B w0 H A (l.flatMap f))(hb:l[i]? =some b)(hq:∀a,(f a).length=q)
 (ht:look T.ag t=some k) (ho:Nat.ble (o+k) q=true) (h0:Nat.blt 0 k=true) (hv:subL o k (f b)=vs) (hk:Nat.beq vs.length k=true) (hn:Nat.ble (d+1) n.k=true)
 (h:VL P m n B w0 ops Q rest ((d,.agg vs.toArray)::env) H):VL P m n B w0 ops Q (⟨some d,.load t x,ty,pos,after,none⟩::rest) env H:=by
 refine YP rfl rfl hn rfl (λa w ha hw=>?_) h
 have hk:=Nat.eq_of_beq_eq_true hk
 have hk0:0<k:=by simp_all
 have hok:o+k<=q:=TV ho
 have hget:∀j v,vs[j]? =some v->(l.flatMap f)[i*q+o+j]? =some v:=λj v hj=>by
  have hlt:j<k:=by grind
  rw[Nat.add_assoc,WK hq l i (o+j) b hb (by omega)]
  rw[<-hv,subL,SB,Tm hlt,Ss]at hj
  exact hj
 obtain⟨g,u,rfl,_⟩:=hr w hw _ _ (hget 0 _ (Ta (by omega)))
 have hl:=run_loadCells_list (P:=P) w ⟨g,u+(i*q+o),none⟩ vs (λj v hj=>by
  exact Yti)
 rw[hk]at hl
 exact zc86
end
section
variable {P:Program}{ops:Array Oper}{Q:Exit->Act->World->Prop}
def NoQ:Exit->Act->World->Prop:=λ_ _ _=>False
theorem Yo0:¬LetsOut NoQ:=zc46
def Ydu(P:Program)(ops:Array Oper)(S:World->Prop)(last:List Nat)(Z:Array Bool->Act->World->Prop):Nat->Array Bool->Act->World->Prop
 |0,listed,a,w=>(∀j,j<ops.size->last.contains j=false->listed.getD j false=true)/\Z listed a w
 |m+1,listed,a,w=>Region.ready .any ops listed≠[]/\∀i∈Region.ready .any ops listed,last.contains i=false/\wpOp P ops NoQ i (λa' w'=>S w'/\Ydu P ops S last Z m (listed.setIfInBounds i true) a' w') a w
variable {o:Oper}{a:Act}{w:World}{K:Act->World->Prop}
theorem Yub(h:o.wp P a w K NoQ):o.wpIn Fence.wide 0 P a w K Q:=by
 refine⟨λf _=>trivial,?_⟩
 unfold Oper.wp at h
 have hs:Oper.semAt Fence.wide.round a.eval o=execOp a.eval o:=Oper.semAt_none _ _
 rw[hs]
 generalize(execOp a.eval o).run P w=res at h⊢
 cases res with
 |ok x w'=>
  cases x<;>simp only[Oper.upon,Oper.uponIn]at h⊢<;>first
   |exact h
   |(refine⟨λhd=>by simp[Fence.wide]at hd,?_⟩
     refine CallsIn.mono (callsIn_wide.2 h) λe w'' he=>?_
     cases e with
     |returned u=>exact he
     |panicked c=>exact he.elim
     |outgrown=>obtain⟨_,_,he⟩:=he;exact he.elim)
   |(refine⟨λhd=>by simp[Fence.wide]at hd,λc cs _=>?_⟩
     obtain⟨v,w2,k1,k2⟩:=h c cs
     exact⟨v,w2,k1,stepsIn_wide.2 k2⟩)
   |exact h.elim
 |halt x w'=>cases x<;>simp only[Oper.upon,Oper.uponIn]at h⊢<;>first|exact h.elim|exact h
theorem Ybs{S:World->Prop}{last:List Nat}{Z:Array Bool->Act->World->Prop}{k:Nat}(hz:∀listed a w,Z listed a w->wpAnyIn Fence.wide 0 P .any ops Q k listed a w):∀(m:Nat) (listed:Array Bool) (a:Act) (w:World),Ydu P ops S last Z m listed a w->wpAnyIn Fence.wide 0 P .any ops Q (m+k) listed a w
 |0,listed,a,w,h=>by rw[Ry];exact hz _ _ _ h.2
 |m+1,listed,a,w,h=>by
  rw[show m+1+k=(m+k)+1 by omega]
  refine⟨λe=>absurd e h.1,λi hi=>?_⟩
  have h2:=(h.2 i hi).2
  unfold wpOp at h2
  unfold wpOpIn
  cases ho:ops[i]? with
  |none=>rw[ho]at h2;exact Ybs hz m _ _ _ h2.2
  |some o=>
   rw[ho]at h2
   simp only at h2⊢
   split
   ·rename_i hw
    rw[Tm hw]at h2
    rcases h2 with h2|⟨_,h2⟩
    ·exact Yub (Oper.wp_mono (λa w h=>Ybs hz m _ a w h.2) h2)
    grind [Yo0]
   ·rename_i hw
    rw[Tf hw]at h2
    exact⟨λf _=>trivial,Ybs hz m _ _ w h2.2⟩
variable {i:Nat}
theorem Yds{listed:Array Bool}(h:listed.getD i true=false):listed.getD i false=false:=by
 grind
variable {last:List Nat}
theorem Yjd{S:World->Prop}{Z:Array Bool->Act->World->Prop}{oi:Oper}{v:Value}(hi:ops[i]? =some oi)(hsel:∀(j:Nat) (o:Oper) cs b,ops[j]? =some o->o.op≠.select cs b)
 (hlast:∀j,last.contains j=true->∃f,ancB ops f j i=true) (hil:last.contains i=false):
 ∀(m:Nat) (listed:Array Bool) (a:Act) (w:World),Closed ops listed->
  (∀j oj,ops[j]? =some oj->j≠i->listed.getD j true=false->(∀e∈oj.after,Region.binds .any e=true->e.on≠i)->oi.apart ops oj=true)->
  i∈Region.ready .any ops listed->YieldsIf P ops S oi v a->S w->
  Ydu P ops S last Z m (listed.setIfInBounds i true) (a.put oi.dst v) w->Ydu P ops S last Z (m+1) listed a w:=by
 intro m
 induction m with
 |zero=>
  intro listed a w hcl _ hr hy hS H
  refine⟨λh=>(by simp_all),λj hj=>?_⟩
  by_cases hji:j=i
  ·subst hji;exact⟨hil,hy.wpOp hi hS ⟨hS,H⟩⟩
  ·obtain⟨hjun,oj,hoj,hall⟩:=mem_ready.1 hj
   have hun':=Yds (mem_ready.1 hr).1
   cases hc:last.contains j with
   |true=>
    grind [UL]
   |false=>
    have h1:=H.1 j (Array.getElem?_eq_some_iff.1 hoj).1 hc
    rw[getD_set_ne false (Nn hji),Yds hjun]at h1
    cases h1
 |succ m ih=>
  intro listed a w hcl hfree hr hy hS H
  refine⟨λh=>(by rw[h]at hr;cases hr),λj hj=>?_⟩
  by_cases hji:j=i
  ·subst hji;exact⟨hil,hy.wpOp hi hS ⟨hS,H⟩⟩
  ·obtain⟨hnl,h1⟩:=H.2 j (ready_mono hj hji)
   obtain⟨hjun,oj,hoj,hall⟩:=mem_ready.1 hj
   have hun':=Yds (mem_ready.1 hr).1
   have hnot:∀e∈oj.after,Region.binds .any e=true->e.on≠i:=by grind
   have h2:=wpOp_putIf hoj (hfree j oj hoj hji hjun hnot) (λcs b=>hsel i oi cs b hi) (λcs b=>hsel j oj cs b hoj) (λc a w h=>h.elim) hy h1
   have hfree':∀k ok,ops[k]? =some ok->k≠i->(listed.setIfInBounds j true).getD k true=false->
    (∀e∈ok.after,Region.binds .any e=true->e.on≠i)->oi.apart ops ok=true:=λk ok hk hki hu hno=>by
    exact zc25
   refine⟨hnl,wpOp_mono (λa' w' h3=>⟨h3.2.1,ih (listed.setIfInBounds j true) a' w' (hcl.set hj) hfree' (ready_mono hr (Nn hji)) h3.1 h3.2.1 ?_⟩) h2⟩
   exact zc59
def Yal(ops:Array Oper):List Nat->Array Bool->Bool
 |[],listed=>(Region.ready .any ops listed).isEmpty
 |i::r,listed=>decide (Region.ready .any ops listed=[i])&&Yal ops r (listed.setIfInBounds i true)
def YcW(ops:Array Oper)(last:List Nat):List Nat->Array Bool->Bool
 |[],listed=>((List.range ops.size).all λj=>last.contains j||listed.getD j false)&&Yal ops last listed
 |i::rest,listed=>
  (match ops[i]? with
   |some o=>if eff o then decide (Region.ready .any ops listed=[i])else(Region.ready .any ops listed).contains i&&Region.free .any ops listed i
   |none=>false)&&YcW ops last rest (listed.setIfInBounds i true)
def YoP(ops:Array Oper)(last:List Nat):Bool:=
 last.all λj=>(List.range ops.size).all λi=>last.contains i||(match ops[i]? with|some o=>eff o|none=>false)||ancB ops ops.size j i
theorem YjI(h:YoP ops last=true):∀i oi,ops[i]? =some oi->eff oi=false->last.contains i=false->∀j,last.contains j=true->∃f,ancB ops f j i=true:=λi oi hi he hl j hj=>by
 exact zc92
variable {l:List Oper}
theorem Ye5(hl:ops=l.toArray)(ho:ops[i]? =some o):nthO l i=o:=by
 grind [QN]
theorem YcA{l:List Oper}(hl:ops=l.toArray):∀(o2:List Nat) (listed:Array Bool) (a:Act) (w:World),Yal ops o2 listed=true->wpListIn Fence.wide 0 P ops Q (Yh l o2) a w->wpAnyIn Fence.wide 0 P .any ops Q o2.length listed a w
 |[],listed,a,w,hB,h=>⟨by grind [Yal],h⟩
 |i::r,listed,a,w,hB,h=>by
  simp only[Yal,Tt,To]at hB
  refine⟨λh0=>(by simp_all),λk hk=>?_⟩
  have hk':=hk
  obtain rfl:k=i:=by simp_all
  obtain⟨_,o,ho,_⟩:=mem_ready.1 hk'
  unfold wpOpIn
  simp only[ho]
  rw[Yh,Ye5 hl ho]at h
  unfold wpListIn at h
  split
  ·rename_i hw
   rw[Tm hw]at h
   exact Oper.wpIn_mono (λa w h=>YcA hl r _ a w hB.2 h) h
  ·rename_i hw
   rw[Tf hw]at h
   exact⟨h.1,YcA hl r _ _ w hB.2 h.2⟩
def YQH(P:Program)(ops:Array Oper)(Q:Exit->Act->World->Prop)(l:List Oper):Exit->Act->World->Prop
 |.normal,a,w=>wpListIn Fence.wide 0 P ops Q l a w
 |_,_,_=>False
theorem Yuy(h:o.wp P a w K (YQH P ops Q l)):o.wp P a w K NoQ:=by
 unfold Oper.wp at h⊢
 generalize(execOp a.eval o).run P w=r at*
 cases r with
 |ok nx w'=>
  exact zc40
 |halt x w'=>
  cases x<;>simp only[Oper.upon]at h⊢<;>exact h
theorem VW{S:World->Prop}{last:List Nat}(hs:Region.noSelect ops=true)(l:List Oper)(hl:ops=l.toArray)(hlast:YoP ops last=true):
 ∀(o1:List Nat) (listed:Array Bool) (a:Act) (w:World),Closed ops listed->(∀j∈o1,last.contains j=false)->YcW ops last o1 listed=true->S w->YB P ops (YQH P ops Q (Yh l last)) S (Yh l o1) a w->
  Ydu P ops S last (λlisted a w=>Yal ops last listed=true/\wpListIn Fence.wide 0 P ops Q (Yh l last) a w) o1.length listed a w
 |[],listed,a,w,_,_,hB,_,h=>by
  simp only[YcW,Tt]at hB
  refine⟨λj hj hc=>?_,hB.2,h⟩
  grind
 |i::rest,listed,a,w,hcl,hno,hB,hS,h=>by
  simp only[YcW,Tt]at hB
  obtain⟨h1,h2⟩:=hB
  have hno':∀j∈rest,last.contains j=false:=by simp_all
  cases ho:ops[i]? with
  |none=>simp_all
  |some o=>
   rw[ho]at h1
   simp only[Yh,Ye5 hl ho]at h
   by_cases he:eff o=true
   ·simp only[he,SZ,To]at h1
    unfold YB at h
    rw[Tm he]at h
    refine⟨λh0=>(by simp_all),λk hk=>?_⟩
    have hk':=hk
    rw[h1]at hk
    obtain rfl:k=i:=by simp_all
    refine⟨hno k (by simp),?_⟩
    unfold wpOp
    simp only[ho]
    by_cases hw:Region.wanted o (yielded ops a.tmps)=true
    ·rw[Tm hw]at h⊢
     exact .inl (Yuy (Oper.wp_mono (λa' w' h'=>⟨h'.1,VW hs l hl hlast rest _ a' w' (hcl.set hk') hno' h2 h'.1 h'.2⟩) h))
    ·rw[Tf hw]at h⊢
     exact⟨hS,VW hs l hl hlast rest _ _ w (hcl.set hk') hno' h2 hS h⟩
   ·simp only[he]at h1
    simp only[RZ,Nz,Tt]at h1
    unfold YB at h
    rw[Tf he]at h
    obtain⟨v,hy,h3⟩:=h
    have hr:i∈Region.ready .any ops listed:=by simpa using h1.1
    exact Yjd ho (Region.noSelect_spec hs) (YjI hlast i o ho (by simpa using he) (hno i (by simp))) (hno i (by simp)) _ listed a w hcl (Region.free_spec ho h1.2) hr hy hS (VW hs l hl hlast rest _ _ w (hcl.set hr) hno' h2 hS h3)
end
section
variable {P:Program}{B:Nat}{w0:World}{Q:Exit->Act->World->Prop}{env:Env}{H:List HP}
variable {n:Nat}{ds:List Deferred}{l:List Oper}
theorem YlQ{id:Nat}(o1 last:List Nat)(mask:List Bool){Hc F:List HP}(hm:P.follows .mixedOrders=true)
 (hB:(Region.noSelect l.toArray&&decide ((o1++last).length=l.toArray.size)&&YoP l.toArray last&&(o1.all λj=>!last.contains j)&&YcW l.toArray last o1 (Array.replicate l.toArray.size false))=true)
 (hsp:Split mask H Hc F) {l1 l2:List Oper}(hl1:Yh l o1=l1) (hl2:Yh l last=l2) (h:VL P (some (some F)) ⟨n,ds,none⟩ B w0 l.toArray (YQH P l.toArray Q l2) l1 env Hc):VC P ⟨n,ds,none⟩ B w0 (.region id l.toArray true) Q env H:=by
 simp only[Tt,To]at hB
 obtain⟨⟨⟨⟨h1,h2⟩,h3⟩,h4⟩,h5⟩:=hB
 refine⟨λa w ha hw=>?_⟩
 refine(wpIn_wide (n:=0)).1 (wpIn_region_any hm ?_)
 have hst:St B w0 (Hc++F) w.drew:=(hw.perm (XL hsp)).drew
 have hr:YB P l.toArray (YQH P l.toArray Q l2) (St B w0 Hc) l1 a w.drew:=h.run a ha w.drew hst
 rw[<-hl1,<-hl2]at hr
 have hz:=VW (S:=St B w0 Hc) h1 l rfl h3 o1 _ a w.drew (XQ _ _) (λj hj=>by simp_all) h5 hst.prefix_ hr
 have:=Ybs (k:=last.length) (Q:=Q) (λlisted a w hz=>YcA rfl last listed a w hz.1 hz.2) o1.length _ a w.drew hz
 simp_all
theorem YnQ{ops:Array Oper}(h:VQ ⟨n,ds,none⟩ B w0 (YQ P ops Q l) .normal env H):VQ ⟨n,ds,none⟩ B w0 (YQH P ops Q l) .normal env H:=⟨λa w ha hw=>h.run a w ha hw⟩
end
end Go.Eng
namespace Go.Proofs.YtjlgijpmnfabcaaGreatDoor
open Go.RowKit Go.Eng Go.Nw Go.Rt
def WayV(A:Option Addr)(l:List Int):Prop:=l=[]->A=none
structure Fz where
 at_:Int
 pre:List Int
 A:Option Addr
 cap:Nat
theorem Yhy{l:List Lk}{far:List Int}{to:Int}{nodes:Nat}(hl:ArcsOk nodes l)(hd:Dist nodes l to far){v:Int}(h0:0<=v)(h1:v<nodes)(hne:v≠to)(hlt:Yl far v<Xo):∀k j:Nat,(Yl far v).toNat<=k->(Yl far v).toNat<=j->XZ l far to k v=XZ l far to j v:=by
 intro k
 induction k generalizing v with
 |zero=>
  intro j hk hj
  have:=(Yaa hl hd h0 h1 hne hlt).2
  omega
 |succ k ih=>
  intro j hk hj
  obtain⟨b1,b2,b3,_⟩:=Yaa hl hd h0 h1 hne hlt
  cases j with
  |zero=>omega
  |succ j=>
   unfold XZ
   rw[Tf hne,Tf hne]
   by_cases hb:XI l far v=to
   ·cases k<;>cases j<;>simp[XZ,hb]
   grind
theorem Ycw(nodes:Nat)(l:List Lk)(s to:Int)(hn:nodes<=40)(hl:l.length<=1000000)(hok:ArcsOk nodes l)(hs:0<=s/\s<nodes)(hto:0<=to/\to<nodes){AL:Option Addr}{capL B:Nat}{w0:World}{H:List HP}{w:World}(hr:Rd B w0 H AL (l.flatMap lkF))(hw:St B w0 H w):
 CX B w0 343 [.int .i64 nodes,.slice AL l.length capL,.int .i64 s,.int .i64 to] w λv K=>∃A cap,v=.slice A (wayF l (J8 nodes l to) s to).length cap/\WayV A (wayF l (J8 nodes l to) s to)/\(J8 nodes l to).length=nodes/\Dist nodes l to (J8 nodes l to)/\K=ints A cap (wayF l (J8 nodes l to) s to)::H:=by
 refine Yc Tryz.func343 Tryz.ntmps343 rfl rfl hw ?_
 refine zX4 ?_
 apply Yi _ Yon
 exact za
 exact rfl
 exactλ_ hw=>(Vv nodes l to hn hl hok hto hr (hw))
 rintro _ _ ⟨gf,far,rfl,hd,rfl⟩
 rw[Qs hok hd]
 have hflen:=hd.len
 have hgs:=XN (far:=far) (i:=s) (by omega)
 have hrs:=hd.range s hs.1 hs.2
 have hne:Xo=1073741824:=rfl
 unfold wayF
 by_cases hfar:Xo<=Yl far s
 ·rw[Tm hfar]
  rw[hne]at hfar
  refine zX24 ?_<;>intros
  apply Yg (ints none 0 []::H)
  ·exactλw hw=>hw.tail.nilSlice _ _
  apply Yd;exact rfl;exact rfl
  exact⟨none,0,rfl,λ_=>rfl,hflen,hd,rfl⟩
 rw[Tf hfar]
 rw[hne]at hfar
 refine YpK ?_<;>intros
 rename_i g1
 have hf0:0<=Yl far s:=hrs.1
 refine Yf (λ(z:Fz)=>[(11,.int .i64 z.at_),(10,.slice z.A z.pre.length z.cap),(9,.slice (some ⟨gf,0,none⟩) far.length nodes),(1,.slice AL l.length capL),(3,.int .i64 to)])
  (λz=>ints z.A z.cap z.pre::ints (some ⟨gf,0,none⟩) nodes far::H) (λz=>(0<=z.at_/\z.at_<nodes)/\(0<=Yl far z.at_/\Yl far z.at_<1073741824)/\z.pre++XZ l far to (Yl far z.at_).toNat z.at_=s::XZ l far to (Yl far s).toNat s/\1<=z.pre.length/\z.pre.length+(Yl far z.at_).toNat<=1073741830) (λz=>(Yl far z.at_).toNat) ⟨s,[s],some ⟨g1,0,none⟩,1⟩ ⟨hs,⟨by omega,by omega⟩,rfl,by simp,by simp only[TL];omega⟩ ?_ (λw hw=>hw.blk_sl (cs:=numF s) (len:=1) (size:=1) rfl (by omega)) ?_
 ·exact zc1
 rintro⟨v,pre,A,cap⟩ ⟨⟨v0,v1⟩,⟨d0,d1⟩,hpre,hpl,hpm⟩ K hK
 simp only at v0 v1 d0 d1 hpre hpl hpm⊢
 have hgv:=XN (far:=far) (i:=v) (by omega)
 by_cases hvt:v=to
 ·have hfl:XZ l far to (Yl far v).toNat v=[]:=by
   rw[hvt,hd.to0];rfl
  rw[hfl,Rw]at hpre
  clear hK
  refine zX1 ?_<;>intros
  apply Yg (ints A cap pre::H)
  ·exact zc0
  apply Yd;exact rfl;exact rfl
  rw[<-hpre]
  exact⟨A,cap,rfl,λh=>by rw[h]at hpl;simp at hpl,hflen,hd,rfl⟩
 obtain⟨b1,b2,b3,_⟩:=Yaa hok hd v0 v1 hvt (by rw[hne];omega)
 obtain⟨bb,hbb⟩:∃bb,XI l far v=bb:=⟨_,rfl⟩
 refine zX3 ?_<;>intros
 refine Yf (λ(k:Nat)=>[(32,.int .i64 k),(31,.int .i64 l.length),(30,.slice AL l.length capL),(12,.int .i64 (XI (l.take k) far v)),(11,.int .i64 v),(10,.slice A pre.length cap),(9,.slice (some ⟨gf,0,none⟩) far.length nodes),(1,.slice AL l.length capL),(3,.int .i64 to)])
  (λ_=>ints A cap pre::ints (some ⟨gf,0,none⟩) nodes far::H) (λk=>k<=l.length) (λk=>l.length-k) 0 (Tc _) ?_ (λw hw=>hw) ?_
 ·exact zc1
 intro k hk K2 hK2
 have hrl:Rd B w0 (ints A cap pre::ints (some ⟨gf,0,none⟩) nodes far::H) AL (l.flatMap lkF):=(hr.cons).cons
 by_cases hlt:k<l.length
 ·obtain⟨a,ha⟩:∃a,l[k]? =some a:=⟨_,Ta hlt⟩
  obtain⟨⟨a1,a2⟩,⟨a3,a4⟩,⟨a5,a6⟩⟩:=hok a (Td ha)
  have hga:=XN (far:=far) (i:=a.2.1) (by omega)
  have hra:=hd.range a.2.1 a3 a4
  rw[hne]at hra
  have hst:XI (l.take (k+1)) far v=ZU far v (XI (l.take k) far v) a:=by
   rw[TB,ha];exact Ymc _ _ _ _
  obtain⟨bk,hbk⟩:∃bk,XI (l.take k) far v=bk:=⟨_,rfl⟩
  rw[hbk]at hst
  rw[hbk]
  unfold ZU at hst
  by_cases hc:a.1=v/\a.2.2+Yl far a.2.1=Yl far v/\(bk<0\/a.2.1<bk)
  ·rw[Tm hc]at hst
   repeat'(first|refine zgd ?_|(refine zge ?_ ?_<;>intro _<;>try exact zo)|(refine zgh ?_;intro _)|fail)
   all_goals(
    apply hK2 (k+1)
    ·omega
    ·omega
    ·rw[hst];exact zu
    ·exactλw hw=>hw.tail)
  ·rw[Tf hc]at hst
   repeat'(first|refine zgd ?_|(refine zge ?_ ?_<;>intro _<;>try exact zo)|(refine zgh ?_;intro _)|fail)
   all_goals(
    apply hK2 (k+1)
    ·omega
    ·omega
    ·rw[hst];exact zu
    ·exactλw hw=>hw.tail)
 ·obtain rfl:k=l.length:=by omega
  clear hK2
  rw[TC,hbb]
  rw[hbb]at b1 b2 b3
  have hfs:XZ l far to (Yl far v).toNat v=bb::XZ l far to (Yl far bb).toNat bb:=by
   obtain⟨j,hj⟩:∃j,(Yl far v).toNat=j+1:=⟨(Yl far v).toNat-1,by omega⟩
   rw[hj,show XZ l far to (j+1) v=if v=to then []else XI l far v::XZ l far to j (XI l far v) from rfl,Tf hvt,hbb]
   by_cases hbt:bb=to
   ·rw[hbt]
    cases j<;>simp[XZ,hd.to0]
   ·rw[Yhy hok hd b1.1 b1.2 hbt (by rw[hne];omega) j _ (by omega) (TQ _)]
  refine YpL ?_<;>intros
  rename_i A3 cap3
  apply hK ⟨bb,pre++[bb],A3,cap3⟩
  ·refine⟨b1,⟨b3,by exact zc37⟩,?_,by simp,?_⟩
   ·simp only
    rw[Rq,List.singleton_append,<-hfs];exact hpre
   ·simp only[Tq,TL]
    omega
  ·exact zc37
  ·dsimp only
   rw[Tq,TL];exact zc1
  ·dsimp only
   rw[<-YmB]
   exact zc0
def dear(a:Lk):Lk:=(a.1,a.2.1,a.2.2*33+1)
noncomputable def U8(n:Net)(s t:Int):List Int:=wayF ((JW n).map dear) (J8 n.nodes.toNat ((JW n).map dear) t) s t
noncomputable def Zr(n:Net)(s t:Int):List Int×Int:=
 if Zm n s t≠0 then([],Zm n s t)else if U8 n s t=[]then([],17)else if 9<(U8 n s t).length then([],21)else(U8 n s t,0)
variable {n:Net}
theorem YqC(h:Ok n):ArcsOk n.nodes.toNat ((JW n).map dear):=by
 intro a ha
 obtain⟨b,hb,rfl⟩:=TI.1 ha
 obtain⟨i,hi,_,rfl⟩:=YhZ.1 hb
 have hl:=h.lk i hi
 have h1:=hl.f0;have h2:=hl.f1;have h3:=hl.t0;have h4:=hl.t1;have h5:=hl.l0;have h6:=hl.l1
 grind [dear,YbX]
theorem Ylh{s t:Int}(h:Zm n s t=0):Ym n=0/\(0<=s/\s<n.nodes)/\(0<=t/\t<n.nodes)/\s≠t:=by
 unfold Zm offE at h
 grind
variable {l:List Lk}{k:Nat}{a:Lk}
theorem YqZ(h:l[k]? =some a):((l.take k).map dear++l.drop k)[k]? =some a:=by
 grind
theorem Yq0(h:l[k]? =some a):((l.take k).map dear++l.drop k).set k (dear a)=(l.take (k+1)).map dear++l.drop (k+1):=by
 obtain⟨hk,rfl⟩:=Tn.1 h
 have hl:((l.take k).map dear).length=k:=by grind
 rw[SX _ _ (by omega),hl,Nr,T8 hk,List.set_cons_zero,TB,Ta hk,TX,Rq]
 rfl
theorem Yd9(n:NetM)(s t:Int){B:Nat}{w0:World}{H:List HP}{w:World}(hin:n.In B w0 H)(hw:St B w0 H w):
 CX B w0 267 [n.val,.int .i64 s,.int .i64 t] w λv K=>∃A cap,v=.tuple #[.slice A (Zr n.net s t).1.length cap,.int .i64 (Zr n.net s t).2]/\WayV A (Zr n.net s t).1/\(Zm n.net s t=0->Dist n.net.nodes.toNat ((JW n.net).map dear) t (J8 n.net.nodes.toNat ((JW n.net).map dear) t))/\K=ints A cap (Zr n.net s t).1::H:=by
 refine Yc Tryz.func267 Tryz.ntmps267 rfl rfl hw ?_
 (apply Y0;apply YL;apply Yy;exact rfl;exact rfl;intro g)
 unfold Zr
 by_cases he:Zm n.net s t=0
 rotate_left
 ·rw[Tm he]
  repeat'(first|((first|apply Ya OI|apply Yb OI);exact za;exact rfl;exactλ_ hw=>(Vk n s t hin.cons hw))|refine zgb ?_|(refine zge ?_ ?_<;>intro _<;>try exact zo)|fail)
  (repeat apply Yk)
  apply Xk 3 1
  apply Yo;(iterate 3 exact rfl)
  exact⟨none,0,rfl,λ_=>rfl,λh=>absurd h he,rfl⟩
 rw[Tf (λh=>h he)]
 obtain⟨hck,⟨s0,s1⟩,⟨t0,t1⟩,hst⟩:=Ylh he
 have hen:=λ{H:List HP}{w:World}(hin:n.In B w0 H) (hw:St B w0 H w)=>Vk n s t hin hw
 rw[he]at hen
 have hok:=YN hck
 have hn0:=hok.n0
 have hn1:=hok.n1
 have hnn:((n.net.nodes.toNat:Nat):Int)=n.net.nodes:=by omega
 have hnn2:n.net.nodes=n.nodes:=rfl
 have hal:(JW n.net).length<=128:=T0 (UM _ _) hok.k0
 have hdo:=YqC hok
 obtain⟨L,hL⟩:∃L,JW n.net=L:=⟨_,rfl⟩
 rw[hL]at hal
 have hLo:=YkD hok hnn.symm
 rw[hL]at hLo
 refine YpM ?_<;>intros
 apply Yi _ Ysp
 exact za
 exact rfl
 exactλ_ hw=>(Yem n hin.cons hck (hw))
 rintro _ _ ⟨A,cap,rfl,rfl⟩
 rw[hL]
 refine zX7 ?_
 refine Yf (λ(k:Nat)=>[(24,.int .i64 k),(23,.int .i64 L.length),(9,.slice A L.length cap),(3,.pointer (some ⟨g,0,none⟩)),(1,.int .i64 s),(2,.int .i64 t)])
  (λk=>sl 383 3 A L.length cap (((L.take k).map dear++L.drop k).flatMap lkF)::netB g n::H) (λk=>k<=L.length) (λk=>L.length-k) 0 (Tc _) ?_ (λw hw=>hw) ?_
 ·exact zc1
 intro k hk K hK
 have hml:((L.take k).map dear++L.drop k).length=L.length:=by simp;omega
 by_cases hlt:k<L.length
 ·obtain⟨a,ha⟩:∃a,L[k]? =some a:=⟨_,Ta hlt⟩
  obtain⟨_,_,⟨a5,a6⟩⟩:=hLo a (Td ha)
  have hmg:=YqZ ha
  have hms:=Yq0 ha
  rw[<-hml]
  repeat'(first|(apply Vs T (f:=lkF) (l:=(L.take k).map dear++L.drop k) (i:=k) (q:=3) (o:=2) (b:=a) (b':=dear a);(iterate 3 exact rfl);exact zd;exact hmg;exact rfl;exactλ_=>rfl;exact rfl;exact rfl)|refine zgd ?_|(refine zge ?_ ?_<;>intro _<;>try exact zo)|fail)
  rw[hml,hms]
  apply hK (k+1)
  ·omega
  ·omega
  ·exact zc1
  exact zc20
 ·obtain rfl:k=L.length:=by omega
  clear hK
  rw[TC,RV,Rw]
  have hLl:(L.map dear).length=L.length:=Tu _
  rw[<-hLl]
  refine zX1 ?_<;>intros
  rw[show(Value.int .i64 n.nodes)=.int .i64 ((n.net.nodes.toNat:Nat):Int) by rw[hnn];rfl]
  rw[hL]at hdo
  apply Yi _ Yom
  exact za
  exact rfl
  exactλ_ hw=>(Ycw n.net.nodes.toNat (L.map dear) s t (by omega) (by omega) hdo ⟨s0,by omega⟩ ⟨t0,by omega⟩ (.sl (by(focus exact zc2))) (hw))
  rintro _ _ ⟨A2,cap2,rfl,hway,hdl,hdd,rfl⟩
  have hsr:wayF (L.map dear) (J8 n.net.nodes.toNat (L.map dear) t) s t=U8 n.net s t:=by rw[<-hL];rfl
  rw[hL]at*
  rw[hsr]at hway⊢
  obtain⟨R,hR⟩:∃R,U8 n.net s t=R:=⟨_,rfl⟩
  rw[hR]at hway⊢
  by_cases hnil:R=[]
  ·rw[Tm hnil]
   have hA:=hway hnil
   subst hA
   refine zX6 ?_
   exact zc65
  ·rw[Tf hnil]
   have hRl:R.length<=1073741824:=by rw[<-hR];exact Ygz _ _ _ _
   have hpos:0<R.length:=Nc.2 hnil
   refine Ybp (e:=3) (size:=1) (k:=R.length) (cap:=cap2) (A:=A2) (xs:=R.flatMap numF) TM hpos ?_
   rintro ga rfl
   by_cases h9:9<R.length
   ·rw[Tm h9]
    have hsh:=λ{H:List HP}{w:World}(hw:St B w0 H w)=>U9 R.length (A:=some ⟨ga,0,none⟩) (cap:=cap2) (by omega) hw
    rw[Tm h9]at hsh
    repeat'(first|(apply Zo;(iterate 3 exact rfl))|((first|apply Ya Wm|apply Yb Wm);exact za;exact rfl;exactλ_ hw=>(hsh hw))|refine zgb ?_|(refine zge ?_ ?_<;>intro _<;>try exact zo)|fail)
    exact zc65
   ·rw[Tf h9]
    have hsh:=λ{H:List HP}{w:World}(hw:St B w0 H w)=>U9 R.length (A:=some ⟨ga,0,none⟩) (cap:=cap2) (by omega) hw
    rw[Tf h9]at hsh
    repeat'(first|(apply Zo;(iterate 3 exact rfl))|((first|apply Ya Wm|apply Yb Wm);exact za;exact rfl;exactλ_ hw=>(hsh hw))|refine zga ?_|(refine zge ?_ ?_<;>intro _<;>try exact zo)|fail)
    apply Yg (ints (some ⟨ga,0,none⟩) cap2 R::H)
    ·exactλw hw=>hw.perm (.cons _ (.dropK (.drop _ _)))
    apply Yo;(iterate 3 exact rfl)
    exact⟨some ⟨ga,0,none⟩,cap2,rfl,λh=>absurd h hnil,λ_=>hdd,rfl⟩
def edF(e:Ed):List Value:=[.int .i64 e.f,.int .i64 e.t,.int .i64 e.c,.int .i64 e.r]
abbrev YcB(sides:Nat)(A:Option Addr)(k cap:Nat):Obj:=.cells #[.int .i64 sides,.slice A k cap] 473 (0,0)
def gpcs(g sides:Nat)(A:Option Addr)(cap:Nat)(es:List Ed)(H:List HP):List HP:=blk g (YcB sides A es.length cap)::sl 478 4 A es.length cap (es.flatMap edF)::H
structure Rz where
 k:Nat
 ag:Bool
 far:List Int
 by_:List Int
structure RzOk(sides:Nat)(es:List Ed)(fuel:Nat)(res:List Int×List Int)(z:Rz):Prop where
 kf:z.k<=fuel
 ok:RelOk sides (-2000000000-2000000000*((fuel-z.k:Nat):Int)) (z.far,z.by_,z.ag)
 run:if z.ag=true then Yau z.k es z.far z.by_=some res else(z.far,z.by_)=res
theorem Yj4(g sides:Nat)(es:List Ed)(far:List Int)(fuel:Nat)(res:List Int×List Int)(hs:1<=sides/\sides<=100)(hes:Yku sides es)(hel:es.length<=2000)(hfu:fuel<=100000)(hfar:RelOk sides (-2000000000) (far,List.replicate sides (-1),true))(hrun:Yau fuel es far (List.replicate sides (-1))=some res)
 {A AF:Option Addr}{cap capF:Nat}{B:Nat}{w0:World}{H:List HP}{w:World}(hw:St B w0 (gpcs g sides A cap es (ints AF capF far::H)) w):
 CX B w0 441 [.pointer (some ⟨g,0,none⟩),.slice AF far.length capF] w λv K=>∃gb,v=.tuple #[.slice AF res.1.length capF,.slice (some ⟨gb,0,none⟩) res.2.length sides]/\RelOk sides (-2000000000-2000000000*(fuel:Int)) (res.1,res.2,false)/\K=ints (some ⟨gb,0,none⟩) sides res.2::gpcs g sides A cap es (ints AF capF res.1::H):=by
 refine Yc Tryz.func441 Tryz.ntmps441 rfl rfl hw ?_
 unfold gpcs
 repeat'(first|refine zgd ?_|(refine zgh ?_;intro _)|fail)
 apply Yi _ Yop
 exact za
 exact rfl
 exactλ_ hw=>(WZ (-1) sides (by omega) (.blk zm) (hw))
 rintro _ _ ⟨gb,rfl,rfl⟩
 have hrl:(List.replicate sides (-1:Int)).length=sides:=TN
 repeat'(first|refine zgb ?_|fail)
 refine Yf (λ(z:Rz)=>[(7,.bool z.ag),(1,.slice AF z.far.length capF),(6,.slice (some ⟨gb,0,none⟩) z.by_.length sides),(0,.pointer (some ⟨g,0,none⟩))])
  (λz=>ints (some ⟨gb,0,none⟩) sides z.by_::blk g (YcB sides A es.length cap)::sl 478 4 A es.length cap (es.flatMap edF)::ints AF capF z.far::H) (λz=>RzOk sides es fuel res z) (λz=>z.k) ⟨fuel,true,far,List.replicate sides (-1)⟩ ⟨TQ _,by simpa using hfar,hrun⟩ ?_ zk ?_
 ·exact zu
 rintro⟨k,ag,fa,by_⟩ hz K hK
 obtain⟨hkf,hok,hrun⟩:=hz
 simp only at hkf hok hrun⊢
 cases ag with
 |false=>
  rw[Tf (by decide)]at hrun
  clear hK
  obtain⟨rfl,rfl⟩:fa=res.1/\by_=res.2:=by rw[<-hrun];exact⟨rfl,rfl⟩
  repeat'(first|refine zgc ?_|fail)
  apply Yo;(iterate 3 exact rfl)
  refine⟨gb,rfl,⟨hok.l1,hok.l2,λv h0 h1=>?_⟩,rfl⟩
  have:=hok.low v h0 h1
  simp only at this⊢
  omega
 |true=>
  rw[Tm rfl]at hrun
  cases k with
  |zero=>cases hrun
  |succ k=>
   have hok0:RelOk sides (-2000000000-2000000000*((fuel-(k+1):Nat):Int)) (fa,by_,false):=⟨hok.l1,hok.l2,hok.low⟩
   obtain⟨low,hlow⟩:∃low:Int,-2000000000-2000000000*((fuel-(k+1):Nat):Int)=low:=⟨_,rfl⟩
   rw[hlow]at hok0
   have hlb: -300000000000000<=low:=by omega
   unfold Yau at hrun
   repeat'(first|refine zgd ?_|fail)
   refine Yf (λ(j:Nat)=>[(22,.int .i64 j),(21,.int .i64 es.length),(20,.slice A es.length cap),(7,.bool (Xz 0 (es.take j) (fa,by_,false)).2.2),(1,.slice AF (Xz 0 (es.take j) (fa,by_,false)).1.length capF),(6,.slice (some ⟨gb,0,none⟩) (Xz 0 (es.take j) (fa,by_,false)).2.1.length sides),(0,.pointer (some ⟨g,0,none⟩))])
    (λj=>ints (some ⟨gb,0,none⟩) sides (Xz 0 (es.take j) (fa,by_,false)).2.1::blk g (YcB sides A es.length cap)::sl 478 4 A es.length cap (es.flatMap edF)::ints AF capF (Xz 0 (es.take j) (fa,by_,false)).1::H) (λj=>j<=es.length) (λj=>es.length-j) 0 (Tc _) ?_ (λw hw=>hw) ?_
   ·exact zu
   intro j hj K2 hK2
   by_cases hlt:j<es.length
   ·obtain⟨e,he⟩:∃e,es[j]? =some e:=⟨_,Ta hlt⟩
    have hem:=Td he
    obtain⟨⟨e1,e2⟩,⟨e3,e4⟩,⟨e5,e6⟩,⟨e7,e8⟩⟩:=hes e hem
    have htl:(es.take j).length=j:=by rw[TJ];omega
    have hst:Xz 0 (es.take (j+1)) (fa,by_,false)=V2 j e (Xz 0 (es.take j) (fa,by_,false)):=by
     rw[TB,he]
     have:=QR (es.take j) 0 e (fa,by_,false)
     rw[htl,Ry]at this
     exact this
    have hpo:=O8 hes (es.take j) 0 (fa,by_,false) low (λx hx=>SC hx) hok0
    rw[htl]at hpo
    obtain⟨⟨f2,b2,ag2⟩,hst2⟩:∃st,Xz 0 (es.take j) (fa,by_,false)=st:=⟨_,rfl⟩
    rw[hst2]at hst hpo⊢
    obtain⟨p1,p2,p3⟩:=hpo
    simp only at p1 p2 p3
    have q1:=p3 e.f e1 e2
    have q2:=p3 e.t e3 e4
    have hgf:=XN (far:=f2) (i:=e.f) (by omega)
    have hgt:=XN (far:=f2) (i:=e.t) (by omega)
    have hnn:Xo=1073741824:=rfl
    rw[hnn]at q1 q2
    dsimp only
    unfold V2 at hst
    simp only[hnn]at hst
    by_cases hc:0<e.r/\Yl f2 e.f<1073741824/\Yl f2 e.f+e.c<Yl f2 e.t
    ·rw[Tm hc]at hst
     repeat'(first|refine zgd ?_|(refine zgf ?_ ?_<;>intro _<;>try exact zo)|(refine zgh ?_;intro _)|fail)
     have hl1:(f2.set e.t.toNat (Yl f2 e.f+e.c)).length=f2.length:=TY
     have hl2:(b2.set e.t.toNat (j:Int)).length=b2.length:=TY
     apply Ynu [3,4,5,14] [0,1,2,6,7,8,9,10,11,12,13,15] [16,17,18,19] [true] [true,true,false,false,true]
     kernel_rfl
     kernel_rfl
     exact zy
     exact zy
     exact zk
     (simp only[Yh,nthO];rfl)
     (simp only[Yh,nthO];rfl)
     (simp only[Yh,nthO];rfl)
     repeat'(first|(apply YnO;try exact zl)|(apply YdB T;(iterate 4 exact rfl);omega)|(apply Xt T (f:=numF) (l:=f2) (i:=e.t.toNat) (a:=Yl f2 e.f+e.c);(iterate 3 exact rfl);exact zd;exact rfl;exactλ_=>rfl;exact rfl;omega)|(apply Xt T (f:=numF) (l:=b2) (i:=e.t.toNat) (a:=(j:Int));(iterate 3 exact rfl);exact zd;exact rfl;exactλ_=>rfl;exact rfl;omega)|(apply Yj;try exact zl)|refine zgd ?_|fail)
     apply hK2 (j+1)
     ·omega
     ·omega
     ·rw[hst]
      dsimp only
      rw[hl1,hl2]
      exact zu
     ·rw[hst]
      dsimp only
      unfold ints
      rw[hl1,hl2]
      exact zk
    ·rw[Tf hc]at hst
     repeat'(first|refine zgd ?_|(refine zgf ?_ ?_<;>intro _<;>try exact zo)|(refine zgh ?_;intro _)|fail)
     all_goals(
      apply hK2 (j+1)
      ·omega
      ·omega
      ·rw[hst];exact zu
      ·rw[hst];exactλw hw=>hw.tail)
   ·obtain rfl:j=es.length:=by omega
    clear hK2
    have hpo:=O8 hes es 0 (fa,by_,false) low (λx hx=>hx) hok0
    rw[TC]
    obtain⟨⟨f2,b2,ag2⟩,hst2⟩:∃st,Xz 0 es (fa,by_,false)=st:=⟨_,rfl⟩
    rw[hst2]at hrun hpo⊢
    dsimp only at hrun⊢
    repeat'(first|refine zgc ?_|(refine zge ?_ ?_<;>intro _<;>try exact zo)|fail)
    apply hK ⟨k,ag2,f2,b2⟩
    ·refine⟨by simp only;omega,⟨hpo.l1,hpo.l2,λv h0 h1=>?_⟩,?_⟩
     ·have:=hpo.low v h0 h1
      simp only at this⊢
      omega
     ·simp only
      cases ag2
      ·rw[Tf (by decide)]at hrun⊢
       exact Tz hrun
      ·rw[Tm rfl]at hrun⊢
       exact hrun
    ·simp only;omega
    ·exact zu
    ·exactλw hw=>hw
theorem YpJ(i:Nat)(hi:i<4611686018427387904):bits .xor .i64 (i:Int) 1=(twin i:Int):=by
 have e1:(BitVec.ofInt 64 (i:Int)).toNat=i:=by grind
 show IntKind.i64.wrap ((BitVec.ofInt 64 (i:Int)^^^BitVec.ofInt 64 1).toNat:Int)=_
 have e2:(BitVec.ofInt 64 (1:Int)).toNat=1:=by decide
 have e3:i^^^1=twin i:=by
  unfold twin
  rcases Nat.mod_two_eq_zero_or_one i with h|h
  ·rw[Tm h]
   obtain⟨k,rfl⟩:∃k,i=2*k:=⟨i/2,by omega⟩
   apply Nat.eq_of_testBit_eq
   intro j
   rw[Nat.testBit_xor]
   cases j with
   |zero=>simp
   |succ j=>
    grind
  ·rw[Tf (by omega)]
   obtain⟨k,rfl⟩:∃k,i=2*k+1:=⟨i/2,by omega⟩
   apply Nat.eq_of_testBit_eq
   intro j
   rw[Nat.testBit_xor]
   cases j with
   |zero=>simp
   |succ j=>
    grind
 grind [Go.IntKind.wrap_i64,twin]
structure Bz where
 k:Nat
 es:List Ed
 at_:Int
structure BzOk(fuel sides:Nat)(b:Int)(E:Nat)(by_:List Int)(s:Int)(res:List Ed)(z:Bz):Prop where
 kf:z.k<=fuel
 run:Yg4 z.k z.es by_ s z.at_=some res
 ein:EdsIn sides (b+2*((fuel-z.k:Nat):Int)) z.es
 len:z.es.length=E
 at_:0<=z.at_/\z.at_<sides
theorem Yfc(g sides:Nat)(es:List Ed)(s t:Int)(fuel:Nat)(b:Int)(r:Int×Bool×List Ed)(hs:1<=sides/\sides<=100)(hes:EdsIn sides b es)(hb:1<=b/\b<=900000)(hel:es.length<=2000)(hfu:fuel<=100000)(hs0:0<=s/\s<sides)(ht0:0<=t/\t<sides)(hrun:Yfb fuel sides es s t=some r)
 {A:Option Addr}{cap:Nat}{B:Nat}{w0:World}{H:List HP}{w:World}(hw:St B w0 (gpcs g sides A cap es H) w):
 CX B w0 421 [.pointer (some ⟨g,0,none⟩),.int .i64 s,.int .i64 t] w λv K=>v=.tuple #[.int .i64 r.1,.bool r.2.1]/\(r.2.2.length=es.length/\EdsIn sides (b+2*(fuel:Int)) r.2.2/\ -300000000000000<=r.1/\r.1<=1073741824)/\K=gpcs g sides A cap r.2.2 H:=by
 refine Yc Tryz.func421 Tryz.ntmps421 rfl rfl hw ?_
 have hok:=hes.ok (by omega)
 have hnn:Xo=1073741824:=rfl
 unfold gpcs
 refine zX25 ?_<;>intros
 apply Yi _ Yop
 exact za
 exact rfl
 exactλ_ hw=>(WZ 1073741824 sides (by omega) (.blk (by(focus exact zc2))) (hw))
 rintro _ _ ⟨gs,rfl,rfl⟩
 have hrl:(List.replicate sides (1073741824:Int)).length=sides:=TN
 repeat'(first|(apply Xt T (f:=numF) (l:=List.replicate sides (1073741824:Int)) (i:=s.toNat) (a:=0);(iterate 3 exact rfl);exact zd;exact rfl;exactλ_=>rfl;exact rfl;omega)|refine zgd ?_|fail)
 have hst:Wa sides s=(List.replicate sides (1073741824:Int)).set s.toNat 0:=rfl
 have hsl:(Wa sides s).length=(List.replicate sides (1073741824:Int)).length:=by rw[hst];exact TY
 unfold Yfb at hrun
 cases hre:Yau fuel es (Wa sides s) (List.replicate sides (-1))with
 |none=>rw[hre]at hrun;cases hrun
 |some fb=>
  rw[hre]at hrun
  obtain⟨far,by_⟩:=fb
  dsimp only at hrun
  rw[<-hst,<-hsl]
  apply Zz (gpcs g sides A cap es (ints (some ⟨gs,0,none⟩) sides (Wa sides s)::H))
  ·unfold gpcs ints
   exact zc0
  apply Yi _ YvF
  exact za
  exact rfl
  exactλ_ hw=>(Yj4 g sides es (Wa sides s) fuel (far,by_) hs hok hel (by omega) (Yne hs0 _ TN _) hre (hw))
  rintro _ _ ⟨gb,rfl,hro,rfl⟩
  obtain⟨l1,l2,hlow⟩:=hro
  simp only at l1 l2 hlow
  have hgt:=XN (far:=far) (i:=t) (by omega)
  have hlt:=hlow t ht0.1 ht0.2
  rw[hnn]at hlt hrun
  unfold gpcs
  dsimp only
  by_cases hno:1073741824<=Yl far t
  ·rw[Tm hno]at hrun
   obtain rfl:=Tz hrun
   refine zX24 ?_<;>intros
   apply Yg (gpcs g sides A cap es H)
   ·unfold gpcs
    exact zc0
   apply Yo;(iterate 3 exact rfl)
   exact⟨rfl,⟨rfl,hes.mono (by omega),show(-300000000000000:Int)<=0 by decide,show(0:Int)<=1073741824 by decide⟩,rfl⟩
  ·rw[Tf hno]at hrun
   cases hba:Yg4 fuel es by_ s t with
   |none=>rw[hba]at hrun;cases hrun
   |some res=>
    rw[hba]at hrun
    dsimp only at hrun
    obtain rfl:=Tz hrun
    refine zX24 ?_<;>intros
    refine Yf (λ(z:Bz)=>[(11,.int .i64 z.at_),(10,.slice (some ⟨gb,0,none⟩) by_.length sides),(9,.slice (some ⟨gs,0,none⟩) far.length sides),(0,.pointer (some ⟨g,0,none⟩)),(1,.int .i64 s),(2,.int .i64 t)])
     (λz=>ints (some ⟨gb,0,none⟩) sides by_::blk g (YcB sides A z.es.length cap)::sl 478 4 A z.es.length cap (z.es.flatMap edF)::ints (some ⟨gs,0,none⟩) sides far::H) (λz=>BzOk fuel sides b es.length by_ s res z) (λz=>z.k) ⟨fuel,es,t⟩ ⟨TQ _,hba,hes.mono (by omega),rfl,ht0⟩ ?_ (λw hw=>hw) ?_
    ·exact zc1
    rintro⟨k,e1,v⟩ ⟨hkf,hrun1,hein,hlen,⟨v0,v1⟩⟩ K hK
    simp only at hkf hrun1 hein hlen v0 v1⊢
    cases k with
    |zero=>cases hrun1
    |succ k=>
     unfold Yg4 at hrun1
     by_cases hvs:v=s
     ·rw[Tm hvs]at hrun1
      obtain rfl:=Tz hrun1
      clear hK
      refine zX0 ?_<;>intros
      apply Yg (gpcs g sides A cap e1 H)
      ·unfold gpcs
       exact zc0
      apply Yo;(iterate 3 exact rfl)
      exact⟨rfl,⟨hlen,hein.mono (by omega),by omega,by omega⟩,rfl⟩
     ·rw[Tf hvs]at hrun1
      have hgv:=XN (far:=by_) (i:=v) (by omega)
      obtain⟨i,hi⟩:∃i,Yl by_ v=i:=⟨_,rfl⟩
      rw[hi]at hrun1 hgv
      by_cases hneg:i<0
      ·rw[Tm hneg]at hrun1;cases hrun1
      rw[Tf hneg]at hrun1
      obtain⟨m,rfl⟩:∃m:Nat,i=m:=⟨i.toNat,by omega⟩
      rw[RD]at hrun1
      cases he:e1[m]? with
      |none=>rw[he]at hrun1;cases hrun1
      |some e=>
       rw[he]at hrun1
       dsimp only at hrun1
       by_cases htw:e1.length<=twin m
       ·rw[Tm htw]at hrun1;cases hrun1
       rw[Tf htw]at hrun1
       have hml:=(Tn.1 he).1
       have hmb:m<2000:=by omega
       have hxor:=YpJ m (by omega)
       have hm1:Ya1 e1 m (-1)=e1.set m {e with r:=e.r-1}:=by unfold Ya1;rw[he];rfl
       obtain⟨f1,hf1⟩:∃f1,e1.set m {e with r:=e.r-1}=f1:=⟨_,rfl⟩
       have hfl1:f1.length=e1.length:=by rw[<-hf1];exact TY
       have hin1:=Yh2 hein m (d:= -1) (by omega)
       rw[hm1,hf1]at hin1
       obtain⟨e2,he2⟩:∃x,f1[twin m]? =some x:=⟨_,Ta (by omega)⟩
       have hm2:Ya1 f1 (twin m) 1=f1.set (twin m) {e2 with r:=e2.r+1}:=by unfold Ya1;rw[he2]
       obtain⟨f2,hf2⟩:∃f2,f1.set (twin m) {e2 with r:=e2.r+1}=f2:=⟨_,rfl⟩
       have hfl2:f2.length=e1.length:=by rw[<-hf2,TY];exact hfl1
       have hin2:=Yh2 hin1 (twin m) (d:=1) (by omega)
       rw[hm2,hf2]at hin2
       rw[hm1,hf1,hm2,hf2]at hrun1
       obtain⟨_,_,_,hr1⟩:=hein e (Td he)
       obtain⟨_,_,_,hr2⟩:=hin1 e2 (Td he2)
       have hef:=(hein e (Td he)).1
       have hem:(f1.set (twin m) {e2 with r:=e2.r+1})[m]? =some {e with r:=e.r-1}:=by
        rw[List.getElem?_set_ne (Yrs m),<-hf1,List.getElem?_set_self hml]
       have hfl3:(f1.set (twin m) {e2 with r:=e2.r+1}).length=f1.length:=TY
       refine zX3 ?_<;>intros
       apply YG [0,1,2,3,4,5,6,7,8,9,10,11,12,13] [14] [true,true,true]
       kernel_rfl
       kernel_rfl
       exact zy
       (simp only[Yh,nthO];rfl)
       (simp only[Yh,nthO];rfl)
       repeat'(first|(apply Vs T (f:=edF) (l:=e1) (i:=m) (q:=4) (o:=3) (b:=e) (b':={e with r:=e.r-1});(iterate 3 exact rfl);exact zd;exact he;exact rfl;exactλ_=>rfl;exact rfl;exact rfl)|refine zgd ?_|fail)
       rw[hf1]
       apply YW (ints (some ⟨gb,0,none⟩) sides by_::blk g (YcB sides A f1.length cap)::sl 478 4 A f1.length cap (f1.flatMap edF)::ints (some ⟨gs,0,none⟩) sides far::H)
       ·rw[hfl1]
        exact zc0
       apply YG [0,1,2,3,4,5,6,7,8,9,10,11,12,13,14] [15] [true,true,true]
       kernel_rfl
       kernel_rfl
       exact zy
       (simp only[Yh,nthO];rfl)
       (simp only[Yh,nthO];rfl)
       repeat'(first|(apply Yt1;(iterate 3 exact rfl);rw[hxor])|(apply Vs T (f:=edF) (l:=f1) (i:=twin m) (q:=4) (o:=3) (b:=e2) (b':={e2 with r:=e2.r+1});(iterate 3 exact rfl);exact zd;exact he2;exact rfl;exactλ_=>rfl;exact rfl;exact rfl)|(apply Zf T (l:=f1.set (twin m) {e2 with r:=e2.r+1}) (f:=edF);(rw[hfl3];exact rfl);exact rfl;exact .sl zm;exact rfl;exactλ_=>rfl;exact rfl;exact rfl;omega)|refine zgd ?_|fail)
       apply hK ⟨k,f2,e.f⟩
       ·exact⟨by exact zc37,hrun1,hin2.mono zc37,by exact zc37,hef⟩
       ·exact zc37
       ·exact zc1
       ·dsimp only
        rw[hf2,show f1.length=f2.length by omega]
        exact zc0
theorem Yog(A:Option Addr)(cap:Nat)(es:List Ed)(f t c:Int):sl 478 4 A (es.length+2) cap (es.flatMap edF++[Value.int .i64 f,.int .i64 t,.int .i64 c,.int .i64 1,.int .i64 t,.int .i64 f,.int .i64 (-c),.int .i64 0])=sl 478 4 A (es++Vb f t c).length cap ((es++Vb f t c).flatMap edF):=by
 grind [Vb,edF]
variable {B k:Nat}{w0 w:World}{H:List HP}
theorem YgZ(g sides:Nat)(es:List Ed)(f t c:Int)(hel:es.length<=100000)(hc: -1000000<=c/\c<=1000000){A:Option Addr}{cap:Nat}(hw:St B w0 (gpcs g sides A cap es H) w):
 CX B w0 440 [.pointer (some ⟨g,0,none⟩),.int .i64 f,.int .i64 t,.int .i64 c] w λv K=>∃A' cap',v=.tuple #[]/\K=gpcs g sides A' cap' (es++Vb f t c) H:=by
 refine Yc Tryz.func440 Tryz.ntmps440 rfl rfl hw ?_
 unfold gpcs
 repeat'(first|(apply YtU;exact rfl;exact rfl;omega)|refine zgd ?_|(refine zgh ?_;intro _)|(refine zgi ?_;intro _ _)|fail)
 rename_i A' cap'
 apply Yg (gpcs g sides A' cap' (es++Vb f t c) H)
 ·unfold gpcs
  have e1:(es++Vb f t c).length=es.length+2:=by simp[Vb]
  rw[<-Yog,e1]
  exact zc0
 apply Vd;exact rfl
 exact⟨A',cap',rfl,rfl⟩
variable {closed:Int->Bool}
theorem YcV(h:closed (k:Int)=false):ZS closed (k+1)=ZS closed k++Vb (2*(k:Int)) (2*(k:Int)+1) 0:=by
 grind [ZS,RI]
theorem Ye4(h:closed (k:Int)=true):ZS closed (k+1)=ZS closed k:=by
 grind [ZS,RI]
theorem O7(closed:Int->Bool):∀k,(ZS closed k).length<=2*k
 |0=>by simp[ZS]
 |k+1=>by
  have:=O7 closed k
  cases h:closed (k:Int)
  ·rw[YcV h,Tq];simp[Vb];omega
  grind [Ye4]
theorem Yje(l:List Lk)(a:Lk):Ug (l++[a])=Ug l++Vb (2*a.1+1) (2*a.2.1) a.2.2:=by grind [Ug]
theorem Yek(l:List Lk):(Ug l).length=2*l.length:=by
 induction l with
 |nil=>rfl
 |cons a l ih=>
  grind [Ug,Vb]
structure Sz where
 k:Nat
 A:Option Addr
 cap:Nat
theorem Yki(nodes:Nat)(l:List Lk)(closed:Int->Bool)(gm clock:Nat)(ents:Ents)(hn:nodes<=1000)(hl:l.length<=1000)(hok:ArcsOk nodes l)(hmb:MB ents closed){AL:Option Addr}{capL:Nat}(hm:blk gm (mobj ents clock)∈H)(hr:Rd B w0 H AL (l.flatMap lkF))(hw:St B w0 H w):
 CX B w0 420 [.int .i64 nodes,.slice AL l.length capL,.map (some gm)] w λv K=>∃g A cap,v=.pointer (some ⟨g,0,none⟩)/\K=gpcs g (2*nodes) A cap (Qb nodes l closed) H:=by
 refine Yc Tryz.func420 Tryz.ntmps420 rfl rfl hw ?_
 refine zX25 ?_<;>intros
 rename_i g
 refine Yf (λ(z:Sz)=>[(16,.int .i64 z.k),(15,.int .i64 nodes),(7,.pointer (some ⟨g,0,none⟩)),(1,.slice AL l.length capL),(2,.map (some gm))])
  (λz=>gpcs g (2*nodes) z.A z.cap (ZS closed z.k) H) (λz=>z.k<=nodes) (λz=>nodes-z.k) ⟨0,none,0⟩ (Tc _) ?_ ?_ ?_
 ·exact zc1
 ·intro w hw
  have h5:=hw.nilSlice 478 4
  revert h5
  unfold gpcs
  exactλh5=>h5.perm (.swap _ _ _)
 rintro⟨k,A,cap⟩ hk K hK
 simp only at hk⊢
 have hnl:=O7 closed k
 by_cases hlt:k<nodes
 ·obtain⟨b,hb⟩:∃b,closed (k:Int)=b:=⟨_,rfl⟩
  have hmk:blk gm (mobj ents clock)∈gpcs g (2*nodes) A cap (ZS closed k) H:=TP _ (TP _ hm)
  cases b with
  |true=>
   have e2:=Ye4 hb
   unfold gpcs at hmk⊢
   refine YsO ?_<;>intros
   apply hK ⟨k+1,A,cap⟩
   ·exact zc37
   ·exact zc37
   ·exact zc1
   ·dsimp only
    rw[e2]
    exactλw hw=>hw
  |false=>
   have e2:=YcV hb
   unfold gpcs at hmk
   refine YsO ?_<;>intros
   apply Yi _ YsH
   exact za
   exact rfl
   exactλ_ hw=>(YgZ g (2*nodes) (ZS closed k) (2*(k:Int)) (2*(k:Int)+1) 0 (by omega) (by omega) (hw))
   rintro _ _ ⟨A3,cap3,rfl,rfl⟩
   refine zX9 ?_
   apply hK ⟨k+1,A3,cap3⟩
   ·exact zc37
   ·exact zc37
   ·exact zc1
   ·dsimp only
    rw[e2]
    exactλw hw=>hw
 ·obtain rfl:k=nodes:=by omega
  clear hK
  refine zX1 ?_<;>intros
  refine Yf (λ(z:Sz)=>[(33,.int .i64 z.k),(32,.int .i64 l.length),(31,.slice AL l.length capL),(7,.pointer (some ⟨g,0,none⟩))])
   (λz=>gpcs g (2*k) z.A z.cap (ZS closed k++Ug (l.take z.k)) H) (λz=>z.k<=l.length) (λz=>l.length-z.k) ⟨0,A,cap⟩ (Tc _) ?_ ?_ ?_
  ·exact zc1
  ·dsimp only
   rw[S8,show Ug []=[] from rfl,Rw]
   exactλw hw=>hw
  rintro⟨j,A2,cap2⟩ hj K hK
  simp only at hj⊢
  have hal:=Yek (l.take j)
  rw[TJ]at hal
  by_cases hlt:j<l.length
  ·obtain⟨a,ha⟩:∃a,l[j]? =some a:=⟨_,Ta hlt⟩
   obtain⟨⟨a1,a2⟩,⟨a3,a4⟩,⟨a5,a6⟩⟩:=hok a (Td ha)
   have e2:Ug (l.take (j+1))=Ug (l.take j)++Vb (2*a.1+1) (2*a.2.1) a.2.2:=by rw[TB,ha];exact Yje _ _
   have hrk:Rd B w0 (gpcs g (2*k) A2 cap2 (ZS closed k++Ug (l.take j)) H) AL (l.flatMap lkF):=(hr.cons).cons
   refine zX44 ?_<;>intros
   rename_i ga
   apply Zz (gpcs g (2*k) A2 cap2 (ZS closed k++Ug (l.take j)) (blk ga (.cells #[.int .i64 a.1,.int .i64 a.2.1,.int .i64 a.2.2] 383 (0,0))::H))
   ·unfold gpcs
    exact zc0
   apply Yi _ YsH
   exact za
   exact rfl
   exactλ_ hw=>(YgZ g (2*k) (ZS closed k++Ug (l.take j)) (2*a.1+1) (2*a.2.1) a.2.2 (by rw[Tq];omega) (by omega) (hw))
   rintro _ _ ⟨A3,cap3,rfl,rfl⟩
   refine zX9 ?_
   apply hK ⟨j+1,A3,cap3⟩
   ·exact zc37
   ·exact zc37
   ·exact zc1
   ·dsimp only
    rw[e2,<-Rq]
    unfold gpcs
    exact zc0
  ·obtain rfl:j=l.length:=by omega
   clear hK
   rw[TC]
   refine zX1 ?_<;>intros
   apply Yd;exact rfl;exact rfl
   exact⟨g,A2,cap2,rfl,rfl⟩
theorem Yna{nodes:Nat}{l:List Lk}{closed:Int->Bool}(h:ArcsOk nodes l):EdsIn (2*nodes) 1 (Qb nodes l closed):=by
 intro e he
 rcases Re.1 he with he|he
 ·obtain⟨v,hv,he⟩:=SO.1 he
  have hv:=Ro.1 hv
  split at he
  ·cases he
  ·simp only[Vb,RA,R9,NA]at he
   rcases he with rfl|rfl<;>simp only<;>omega
 ·obtain⟨a,ha,he⟩:=SO.1 he
  obtain⟨h1,h2,h3⟩:=h a ha
  simp only[Vb,RA,R9,NA]at he
  grind
theorem Ykh(nodes:Nat)(l:List Lk)(closed:Int->Bool):(Qb nodes l closed).length<=2*nodes+2*l.length:=by
 grind [Qb,Yek,O7]
variable {es:Ents}
theorem Ym6{seen:Array Nat}{e:Int×Value×Nat}(he:e∈es)(hs:seen.contains e.2.2=false):(es.filter λx=>!(seen.push e.2.2).contains x.2.2).length<(es.filter λx=>!seen.contains x.2.2).length:=by
 have h1:(es.filter λx=>!(seen.push e.2.2).contains x.2.2)=(es.filter λx=>!seen.contains x.2.2).filter λx=>!(x.2.2==e.2.2):=by
  rw[List.filter_filter]
  grind
 rw[h1]
 refine List.length_filter_lt_length_iff_exists.2 ⟨e,RH.2 ⟨he,by simp_all⟩,by simp⟩
theorem Yot(hn:(es.map λe=>e.2.2).Nodup){x y:Int×Value×Nat}(hx:x∈es)(hy:y∈es)(e:x.2.2=y.2.2):x=y:=by
 induction es with
 |nil=>cases hx
 |cons a l ih=>
  grind
def YtJ(mo:Option Nat)(closed:Int->Bool)(H:List HP):Prop:=match mo with
 |none=>∀v,closed v=false
 |some gm=>∃ents clock,blk gm (mobj ents clock)∈H/\MB ents closed/\MOk ents clock
structure Mz(f:Int->Bool) where
 g:Nat
 es:Ents
 c:Nat
 mb:MB es f
 ok:MOk es c
structure Lz where
 es:Ents
 c:Nat
 seen:Array Nat
 f:Int->Bool
theorem Yen(nodes:Nat)(l:List Lk)(a b to:Int)(mo:Option Nat)(closed:Int->Bool)(fuel:Nat)(r:Int×Bool×List Ed)(hn:1<=nodes/\nodes<=50)(hl:l.length<=900)(hok:ArcsOk nodes l)(ha:0<=a/\a<nodes)(hb:0<=b/\b<nodes)(ht:0<=to/\to<nodes)(hfu:fuel<=100000)(hrun:Oy fuel nodes l a b to closed=some r)
 {AL:Option Addr}{capL B:Nat}{w0:World}{H:List HP}{w:World}(hmo:YtJ mo closed H) (hr:Rd B w0 H AL (l.flatMap lkF)) (hw:St B w0 H w):
 CX B w0 391 [.int .i64 nodes,.slice AL l.length capL,.int .i64 a,.int .i64 b,.int .i64 to,.map mo] w λv K=>∃g A cap,v=.tuple #[.int .i64 r.1,.pointer (some ⟨g,0,none⟩),.bool r.2.1]/\(r.2.2.length<=2000/\EdsIn (2*nodes) 900000 r.2.2/\ -600000000000000<=r.1/\r.1<=3000000000)/\K=gpcs g (2*nodes) A cap r.2.2 H:=by
 refine Yc Tryz.func391 Tryz.ntmps391 rfl rfl hw ?_
 iterate 8 (first|refine zga ?_|fail)
 refine Zt (λ(z:Mz λv=>decide (v=a\/v=b\/v=to))=>[(15,.map (some z.g)),(0,.int .i64 nodes),(1,.slice AL l.length capL),(2,.int .i64 a),(3,.int .i64 b),(4,.int .i64 to),(5,.map mo)]) (λz=>blk z.g (mobj z.es z.c)::H) ?_ ?_
 ·intro K hK
  apply Ud (.n1 1 (.n1 3 (.n1 5 (.n1 0 (.n3 2 (.n2 4 (.n1 6 (.n1 7 (.n1 8 .done))) 6 (.n1 4 (.n1 7 (.n1 8 .done)))) 4 (.n2 2 (.n1 6 (.n1 7 (.n1 8 .done))) 6 (.n1 2 (.n1 7 (.n1 8 .done)))) 6 (.n2 2 (.n1 4 (.n1 7 (.n1 8 .done))) 4 (.n1 2 (.n1 7 (.n1 8 .done))))))))) [] []
  kernel_rfl
  kernel_rfl
  exact zy
  exact rfl
  repeat'(first|(apply YbQ;exact rfl;intro gs)|(apply Yqi (kt:=3) (et:=4);(iterate 3 exact rfl);kernel_rfl;(intro _ _;exact zd);(first|assumption|exact MB.nil);(first|assumption|exact MOk.nil);intro _ _ _ _)|(apply YnR;(simp only[nthO];rfl);(simp only[nthO];rfl);(simp only[nthO];rfl))|(apply Yej;(simp only[nthO];rfl);(simp only[nthO];rfl))|(apply Yei;(simp only[nthO];rfl))|(apply Ue;try exact zl)|(apply Yj;try exact zl)|refine zgd ?_|fail)
  all_goals(
   rename_i es3 c3 m3 o3
   refine hK ⟨gs,es3,c3,m3.ext λv=>?_,o3⟩ _ _ ?_ ?_
   ·by_cases h1:v=a<;>by_cases h2:v=b<;>by_cases h3:v=to<;>simp[h1,h2,h3]
   ·exact zu
   ·exactλw hw=>hw)
 rintro⟨gs,es0,c0,mb0,ok0⟩
 dsimp only
 apply Y0
 refine Zt (λ(z:Mz (UC a b to closed))=>[(15,.map (some z.g)),(0,.int .i64 nodes),(1,.slice AL l.length capL),(2,.int .i64 a),(3,.int .i64 b),(4,.int .i64 to)]) (λz=>blk z.g (mobj z.es z.c)::H) ?_ ?_
 ·intro KK hKK
  cases mo with
  |none=>
   repeat'(first|(apply YgW (kt:=3) (et:=4);exact rfl;kernel_rfl;exact rfl;intro it)|refine zgb ?_|fail)
   refine Yf (λ(_:Unit)=>[(28,.pointer (some ⟨it,0,none⟩)),(15,.map (some gs)),(0,.int .i64 nodes),(1,.slice AL l.length capL),(2,.int .i64 a),(3,.int .i64 b),(4,.int .i64 to)]) (λ_=>blk it (.mapIter none 0 #[] 0)::blk gs (mobj es0 c0)::H) (λ_=>True) (λ_=>0) () trivial ?_ (λw hw=>hw) ?_
   ·exact zc1
   intro _ _ K hK
   clear hK
   repeat'(first|(apply Yjb;exact rfl;exact zm;exact rfl)|refine zgc ?_|fail)
   refine hKK ⟨gs,es0,c0,mb0.ext λv=>?_,ok0⟩ _ _ ?_ ?_
   ·unfold UC;rw[hmo v,Bool.or_false]
   ·exact zc1
   ·exact zc62
  |some gm=>
   obtain⟨ents,clock,hm,hmb,hmk⟩:=hmo
   repeat'(first|(apply YnG (kt:=3) (et:=4) (g:=gm);exact rfl;exact TP _ hm;kernel_rfl;exact rfl;intro it)|refine zgb ?_|fail)
   refine Yf (λ(_:Lz)=>[(28,.pointer (some ⟨it,0,none⟩)),(15,.map (some gs)),(0,.int .i64 nodes),(1,.slice AL l.length capL),(2,.int .i64 a),(3,.int .i64 b),(4,.int .i64 to)]) (λz=>blk it (.mapIter (some gm) clock z.seen clock)::blk gs (mobj z.es z.c)::H)
    (λz=>MB z.es z.f/\MOk z.es z.c/\(∀v,z.f v=true->UC a b to closed v=true)/\(∀v,(v=a\/v=b\/v=to)->z.f v=true)/\∀e∈ents,z.seen.contains e.2.2=true->z.f e.1=true) (λz=>(ents.filter λx=>!z.seen.contains x.2.2).length) ⟨es0,c0,#[],λv=>decide (v=a\/v=b\/v=to)⟩ ⟨mb0,ok0,λv h=>by unfold UC;simp only at h;rw[h];rfl,λv h=>Ti h,λe _ h=>by simp at h⟩ ?_ (λw hw=>hw) ?_
   ·exact zc1
   rintro⟨es1,c1,seen,f⟩ ⟨i1,i2,i3,i4,i5⟩ K hK
   simp only at i1 i2 i3 i4 i5⊢
   repeat'(first|apply Y0|apply YgD|apply YL|fail)
   apply Yqn (g:=gm)
   ·exact rfl
   ·exact TP _ (TP _ hm)
   ·exact rfl
   ·intro _;exact zd
   ·exact hmk.lt
   ·exact TQ _
   ·intro hall
    clear hK
    refine zX9 ?_
    refine hKK ⟨gs,es1,c1,i1.ext λv=>?_,i2⟩ _ _ ?_ ?_
    ·cases hs:UC a b to closed v with
     |true=>
      unfold UC at hs
      rcases RU _ _▸hs with h|h
      ·exact i4 v (TR h)
      ·obtain⟨e,he,rfl⟩:=hmb.at_ h
       exact i5 e he (hall e he)
     |false=>
      cases hf:f v with
      |false=>rfl
      |true=>rw[i3 v hf]at hs;cases hs
    ·exact zc1
    ·exact zc62
   ·rintro⟨ek,ev,eb⟩ he hseen
    simp only at hseen⊢
    have hec:=hmb.mem he
    repeat'(first|(apply Yny (g:=gm) (e:=(ek,ev,eb));exact rfl;exact TP _ (TP _ hm);exact zm;exact rfl;exact he;exact hmk.nd)|(apply YkB (kt:=3) (et:=4);(iterate 3 exact rfl);kernel_rfl;(intro _ _;exact zd);exact i1;exact i2;intro es2 c2 m2 o2 _ _)|refine zgc ?_|fail)
    apply hK ⟨es2,c2,seen.push eb,λv=>decide (v=ek)||f v⟩
    ·refine⟨m2,o2,λv h=>?_,λv h=>?_,λe he2 h=>?_⟩
     ·simp only at h
      rcases RU _ _▸h with h|h
      ·obtain rfl:=TR h
       unfold UC
       rw[hec,Bool.or_true]
      ·exact i3 v h
     ·simp only;rw[i4 v h,Bool.or_true]
     ·simp only at h⊢
      rw[Array.contains_push]at h
      rcases RU _ _▸h with h|h
      ·rw[i5 e he2 h,Bool.or_true]
      ·have:e=(ek,ev,eb):=Yot hmk.nd he2 he (by simpa using h)
       rw[this];simp
    ·exact Ym6 (e:=(ek,ev,eb)) he hseen
    ·exact zc1
    exact zc20
 rintro⟨gs2,es2,c2,mb2,ok2⟩
 dsimp only
 have hsl:=Ykh nodes l (UC a b to closed)
 have hsi:=Yna (closed:=UC a b to closed) hok
 unfold Oy at hrun
 cases h1:Yfb fuel (2*nodes) (Qb nodes l (UC a b to closed)) (2*a+1) (2*to)with
 |none=>rw[h1]at hrun;cases hrun
 |some r1=>
  rw[h1]at hrun
  obtain⟨x,ok,es1⟩:=r1
  dsimp only at hrun
  cases h2:Yfb fuel (2*nodes) es1 (2*b+1) (2*to)with
  |none=>rw[h2]at hrun;cases hrun
  |some r2=>
   rw[h2]at hrun
   obtain⟨y,is,es3⟩:=r2
   obtain rfl:=Tz hrun
   refine zX4 ?_
   apply Yi _ Yvy
   exact za
   exact rfl
   exactλ_ hw=>(Yki nodes l (UC a b to closed) gs2 c2 es2 (by omega) (by omega) hok mb2 TM hr.cons (hw))
   rintro _ _ ⟨g,A,cap,rfl,rfl⟩
   refine zX2 ?_
   apply Yi _ YsE
   exact za
   exact rfl
   exactλ_ hw=>(Yfc g (2*nodes) (Qb nodes l (UC a b to closed)) (2*a+1) (2*to) fuel 1 (x,ok,es1) (by omega) hsi (by omega) (by omega) hfu (by omega) (by omega) h1 (hw))
   rintro _ _ ⟨rfl,⟨q1,q2,q3,q4⟩,rfl⟩
   dsimp only at q1 q2 q3 q4⊢
   refine zX2 ?_
   apply Yi _ YsE
   exact za
   exact rfl
   exactλ_ hw=>(Yfc g (2*nodes) es1 (2*b+1) (2*to) fuel (1+2*(fuel:Int)) (y,is,es3) (by omega) q2 (by omega) (by omega) hfu (by omega) (by omega) h2 (hw))
   rintro _ _ ⟨rfl,⟨p1,p2,p3,p4⟩,rfl⟩
   dsimp only at p1 p2 p3 p4⊢
   cases ok
   all_goals(
    repeat'(first|refine zgc ?_|fail)
    apply Yg (gpcs g (2*nodes) A cap es3 H)
    ·unfold gpcs
     exact zk
    apply ZK;(iterate 4 exact rfl)
    exact⟨g,A,cap,rfl,⟨by omega,p2.mono (by omega),by omega,by omega⟩,rfl⟩)
variable {B:Nat}{w0 w:World}{H:List HP}
theorem Qa(n:NetM)(a:Int)(hw:St B w0 H w):
 CX B w0 376 [n.val,.int .i64 a] w λv K=>v=.bool (!offE n.net a)/\K=H:=by
 refine Yc Tryz.func376 Tryz.ntmps376 rfl rfl hw ?_
 have e7:n.net.nodes=n.nodes:=rfl
 unfold offE
 rw[e7]
 by_cases h:a<0\/n.nodes<=a
 ·rw[Ti h]
  repeat'(first|refine zgc ?_|(refine zgf ?_ ?_<;>intro _<;>try exact zo)|(refine zgh ?_;intro _)|fail)
  all_goals(apply Yk;apply Yd;exact rfl;exact rfl;simp_all)
 ·rw[Tj h]
  repeat'(first|refine zgc ?_|(refine zgf ?_ ?_<;>intro _<;>try exact zo)|(refine zgh ?_;intro _)|fail)
  all_goals(apply Yk;apply Yd;exact rfl;exact rfl;exact⟨rfl,rfl⟩)
theorem Yc2(n:NetM)(s t:Int)(hin:n.In B w0 H)(hw:St B w0 H w):
 CX B w0 306 [n.val,.int .i64 s,.int .i64 t] w λv K=>v=.int .i64 (Zm n.net s t)/\K=H:=by
 refine Yc Tryz.func306 Tryz.ntmps306 rfl rfl hw ?_
 unfold Zm
 by_cases h0:Ym n.net=0
 rotate_left
 ·rw[Tm h0]
  repeat'(first|((first|apply Ya Xy|apply Yb Xy);exact za;exact rfl;exactλ_ hw=>(ZE n hin.cons hw))|refine zgb ?_|(refine zge ?_ ?_<;>intro _<;>try exact zo)|(refine zgh ?_;intro _)|fail)
  all_goals((repeat apply Yk);exact zc13)
 rw[Tf (λh=>h h0)]
 have hck:=λ{H:List HP}{w:World}(hin:n.In B w0 H) (hw:St B w0 H w)=>ZE n hin hw
 rw[h0]at hck
 have hns:=λ{H:List HP}{w:World}(hw:St B w0 H w)=>Qa n s hw
 have hnt:=λ{H:List HP}{w:World}(hw:St B w0 H w)=>Qa n t hw
 obtain⟨x1,hx1⟩:∃x,offE n.net s=x:=⟨_,rfl⟩
 obtain⟨x2,hx2⟩:∃x,offE n.net t=x:=⟨_,rfl⟩
 rw[hx1]at hns⊢
 rw[hx2]at hnt⊢
 cases x1 with
 |true=>
  rw[Tm (.inl rfl)]
  refine YlB ?_<;>intros
  first|apply Ya J9|apply Yb J9
  exact za
  exact rfl
  exactλ_ hw=>(hns hw)
  refine zX2 ?_
  all_goals((repeat apply Yk);exact zc13)
 |false=>
  cases x2 with
  |true=>
   rw[Tm (.inr (.inl rfl))]
   refine YlB ?_<;>intros
   first|apply Ya J9|apply Yb J9
   exact za
   exact rfl
   exactλ_ hw=>(hns hw)
   refine zX2 ?_
   first|apply Ya J9|apply Yb J9
   exact za
   exact rfl
   exactλ_ hw=>(hnt hw)
   refine zX2 ?_
   all_goals((repeat apply Yk);exact zc13)
  |false=>
   by_cases hst:s=t
   ·rw[Tm (.inr (.inr hst))]
    refine YlB ?_<;>intros
    first|apply Ya J9|apply Yb J9
    exact za
    exact rfl
    exactλ_ hw=>(hns hw)
    refine zX2 ?_
    first|apply Ya J9|apply Yb J9
    exact za
    exact rfl
    exactλ_ hw=>(hnt hw)
    refine zX0 ?_<;>intros
    all_goals((repeat apply Yk);exact zc3)
   ·rw[Tf (by rintro(h|h|h);exact Bool.false_ne_true h;exact Bool.false_ne_true h;exact hst h)]
    refine YlB ?_<;>intros
    first|apply Ya J9|apply Yb J9
    exact za
    exact rfl
    exactλ_ hw=>(hns hw)
    refine zX2 ?_
    first|apply Ya J9|apply Yb J9
    exact za
    exact rfl
    exactλ_ hw=>(hnt hw)
    refine zX0 ?_<;>intros
    all_goals((repeat apply Yk);exact zc3)
theorem YdL{r:List Int}{k:Nat}{x y:Int}(h:r[k]? =some x):(r.take (k+1)).contains y=((r.take k).contains y||decide (y=x)):=by
 simp_all [List.take_add_one]
theorem YdY(n:NetM)(s t:Int)(r:List Int){A:Option Addr}{cap:Nat}(hin:n.In B w0 H)(hck:Ym n.net=0)(hr:Rd B w0 H A (r.flatMap numF))(hlen:r.length<=1000000000000)(hw:St B w0 H w):
 CX B w0 312 [n.val,.int .i64 s,.int .i64 t,.slice A r.length cap] w λv K=>v=.int .i64 (Jj n.net s t r)/\K=H:=by
 refine Yc Tryz.func312 Tryz.ntmps312 rfl rfl hw ?_
 have hok:=YN hck
 (apply Y0;apply YL;apply Yy;exact rfl;exact rfl;intro g)
 unfold Jj
 by_cases h1:r.length<2
 ·rw[Tm h1]
  refine zX3 ?_<;>intros
  exact zc21
 rw[Tf h1]
 by_cases h2:9<r.length
 ·rw[Tm h2]
  refine zX24 ?_<;>intros
  exact zc21
 rw[Tf h2]
 refine zX24 ?_<;>intros
 refine Yf (λ(k:Nat)=>[(9,.int .i64 k),(1,.int .i64 s),(2,.int .i64 t),(3,.slice A r.length cap),(4,.pointer (some ⟨g,0,none⟩))]) (λ_=>netB g n::H) (λk=>k<=r.length/\(r.take k).any (offE n.net)=false) (λk=>r.length-k) 0 ⟨Tc _,rfl⟩ ?_ (λw hw=>hw) ?_
 ·exact zc1
 rintro k ⟨hk,hi⟩ K hK
 have hr1:Rd B w0 (netB g n::H) A (r.flatMap numF):=hr.cons
 by_cases hlt:k<r.length
 ·have hgk:=Xd (l:=r) (i:=k) hlt
  obtain⟨x,hx⟩:∃x,r.getD k 0=x:=⟨_,rfl⟩
  rw[hx]at hgk
  have hnd:=λ{H:List HP}{w:World}(hw:St B w0 H w)=>Qa n x hw
  have hst:=Qm (p:=offE n.net) hgk
  cases ho:offE n.net x with
  |true=>
   rw[ho]at hnd
   rw[Tm (Ybt hgk ho)]
   clear hK
   refine YsT ?_<;>intros
   exact zc21
  |false=>
   rw[ho]at hnd hst
   refine YsT ?_<;>intros
   apply hK (k+1)
   ·exact⟨by omega,by rw[hst,hi];rfl⟩
   ·omega
   ·exact zc1
   exact zc20
 obtain rfl:k=r.length:=by omega
 clear hK
 rw[TC]at hi
 rw[Tf (by rw[hi];decide)]
 have hg0:=Xd (l:=r) (i:=0) (by omega)
 have hg1:=Xd (l:=r) (i:=r.length-1) (by omega)
 have hgi:((r.length:Int)-1).toNat=r.length-1:=by omega
 rw[<-hgi]at hg1
 by_cases h4:r.getD 0 0≠s\/r.getD (r.length-1) 0≠t
 ·rw[Tm h4]
  rw[<-hgi]at h4
  by_cases h5:r.getD 0 0=s
  ·have h6:r.getD ((r.length:Int)-1).toNat 0≠t:=by
    rcases h4 with h|h
    ·exact absurd h5 h
    ·exact h
   refine zX0 ?_<;>intros
   exact zc21
  ·refine zX0 ?_<;>intros
   exact zc21
 rw[Tf h4]
 rw[<-hgi]at h4
 have h5:r.getD 0 0=s:=SH λh=>h4 (.inl h)
 have h6:r.getD ((r.length:Int)-1).toNat 0=t:=SH λh=>h4 (.inr h)
 clear h4
 refine zX0 ?_<;>intros
 clear hg0 hg1 h5 h6
 refine Yf (λ(k:Nat)=>[(10,.int .i64 k),(3,.slice A r.length cap),(4,.pointer (some ⟨g,0,none⟩))]) (λ_=>netB g n::H) (λk=>k<=r.length/\((List.range k).any λi=>(r.take i).contains (r.getD i 0))=false) (λk=>r.length-k) 0 ⟨Tc _,rfl⟩ ?_ (λw hw=>hw) ?_
 ·exact zc1
 rintro k ⟨hk,hi2⟩ K hK
 by_cases hlt:k<r.length
 ·have hgk:=Xd (l:=r) (i:=k) hlt
  obtain⟨x,hx⟩:∃x,r.getD k 0=x:=⟨_,rfl⟩
  rw[hx]at hgk
  refine zX3 ?_<;>intros
  refine Yf (λ(j:Nat)=>[(11,.int .i64 j),(10,.int .i64 k),(3,.slice A r.length cap),(4,.pointer (some ⟨g,0,none⟩))]) (λ_=>netB g n::H) (λj=>j<=k/\(r.take j).contains x=false) (λj=>k-j) 0 ⟨Tc _,rfl⟩ ?_ (λw hw=>hw) ?_
  ·exact zc1
  rintro j ⟨hj,hi3⟩ K2 hK2
  by_cases hlt2:j<k
  ·have hgj:=Xd (l:=r) (i:=j) (by omega)
   obtain⟨y,hy⟩:∃y,r.getD j 0=y:=⟨_,rfl⟩
   rw[hy]at hgj
   have hst:=YdL (y:=x) hgj
   by_cases hxy:x=y
   ·have hin2:(r.take k).contains x=true:=by
     rw[List.contains_iff_mem]
     have:(r.take k)[j]? =some y:=by rw[SB,Tm hlt2];exact hgj
     rw[hxy];exact Td this
    have htw:W8 r=true:=Qn (p:=λi=>(r.take i).contains (r.getD i 0)) hlt (by rw[hx];exact hin2)
    rw[Tm htw]
    clear hK hK2
    refine zX0 ?_<;>intros
    exact zc21
   ·refine zX0 ?_<;>intros
    apply hK2 (j+1)
    ·exact⟨by omega,by rw[hst,hi3,Tj hxy];rfl⟩
    ·omega
    ·exact zc1
    exact zc20
  ·obtain rfl:j=k:=by omega
   clear hK2
   refine zX1 ?_<;>intros
   apply hK (j+1)
   ·exact⟨by omega,Oc hi2 (by rw[hx];exact hi3)⟩
   ·omega
   ·exact zc1
   exact zc20
 obtain rfl:k=r.length:=by omega
 clear hK
 have htw:W8 r=false:=hi2
 rw[Tf (by rw[htw];decide)]
 refine zX1 ?_<;>intros
 refine Yf (λ(k:Nat)=>[(12,.int .i64 ((k:Int)+1)),(3,.slice A r.length cap),(4,.pointer (some ⟨g,0,none⟩))]) (λ_=>netB g n::H) (λk=>k<=r.length-1/\((List.range k).any λi=>!YX n.net (r.getD i 0) (r.getD (i+1) 0))=false) (λk=>r.length-1-k) 0 ⟨Tc _,rfl⟩ ?_ (λw hw=>hw) ?_
 ·exact zc1
 rintro k ⟨hk,hi3⟩ K hK
 by_cases hlt:k+1<r.length
 ·have hgk:=Xd (l:=r) (i:=k) (by omega)
  have hgk1:=Xd (l:=r) (i:=k+1) (by omega)
  have ei:((k:Int)+1-1).toNat=k:=by omega
  have ei1:((k:Int)+1).toNat=k+1:=by omega
  obtain⟨x,hx⟩:∃x,r.getD k 0=x:=⟨_,rfl⟩
  obtain⟨y,hy⟩:∃y,r.getD (k+1) 0=y:=⟨_,rfl⟩
  rw[hx,<-ei]at hgk
  rw[hy,<-ei1]at hgk1
  have hgd:=λ{H:List HP}{w:World}(hin:n.In B w0 H) (hw:St B w0 H w)=>Yao n x y hin hok hw
  obtain⟨b,hb⟩:∃b,YX n.net x y=b:=⟨_,rfl⟩
  rw[hb]at hgd
  cases b with
  |true=>
   refine YsU ?_<;>intros
   apply hK (k+1)
   ·exact⟨by omega,Oc hi3 (by rw[hx,hy,hb];rfl)⟩
   ·omega
   ·exact zc1
   exact zc20
  |false=>
   have hbr:JS n.net r=true:=Qn (k:=k) (by omega) (by rw[hx,hy,hb];rfl)
   rw[Tm hbr]
   clear hK
   refine YsU ?_<;>intros
   exact zc21
 ·have ek:k=r.length-1:=by omega
  have hbr:JS n.net r=false:=by rw[ek]at hi3;exact hi3
  rw[Tf (by rw[hbr];decide)]
  clear hK
  refine zX1 ?_<;>intros
  exact zc21
open Go.RowKit Go.Eng Go.Nw
variable {B:Nat}{w0 w:World}{H:List HP}
theorem Yim(l:List Flw)(id:Int)(hlen:l.length<=1000){A:Option Addr}{cap:Nat}(hr:Rd B w0 H A (l.flatMap flwF))(hw:St B w0 H w):
 CX B w0 303 [.slice A l.length cap,.int .i64 id] w λv K=>v=.int .i64 (Zv l id)/\K=H:=by
 refine Yc Tryz.func303 Tryz.ntmps303 rfl rfl hw ?_
 refine zX7 ?_
 refine Yf (λ(i:Nat)=>[(5,.int .i64 i),(0,.slice A l.length cap),(1,.int .i64 id)]) (λ_=>H) (λi=>i<=l.length/\Zv l id=Yq (λf:Flw=>decide (f.1=id)) (l.drop i) i) (λi=>l.length-i) 0 ⟨Tc _,by simp[Zv]⟩ ?_ (λw hw=>hw) ?_
 ·exact zc1
 rintro i ⟨hi,he⟩ K hK
 by_cases hlt:i<l.length
 ·have hget:l[i]? =some (Y3 l i):=Vy hlt
  rw[ZX _ l hget]at he
  by_cases h:(Y3 l i).1=id
  ·rw[Tm (Ti h)]at he
   rw[he]
   refine zX0 ?_<;>intros
   exact zc3
  ·rw[Tf (by simpa using h)]at he
   refine zX0 ?_<;>intros
   apply hK (i+1)
   ·exact⟨by omega,he⟩
   ·omega
   ·exact zc1
   exact zc20
 ·refine zX1 ?_<;>intros
  apply Yd;exact rfl;exact rfl
  rw[he,Rm (by omega)]
  exact OX
theorem Yir(s:SchM)(i:Nat)(hi:i<s.cells.length)(hl:s.cells.length<=1000)(hr:Rd B w0 H s.A (s.cells.flatMap celF))(hw:St B w0 H w):
 CX B w0 384 [s.val,.int .i64 i] w λv K=>∃A cap,v=.tuple #[.slice A (YI s.sch i).length cap,.int .i64 (YJ s.sch i)]/\K=cels A cap (YI s.sch i)::H:=by
 refine Yc Tryz.func384 Tryz.ntmps384 rfl rfl hw ?_
 have hgi:s.cells[i]? =some (Yn s.sch i):=YS (s:=s.sch) hi
 obtain⟨c,hc⟩:∃c,Yn s.sch i=c:=⟨_,rfl⟩
 have hS:YI s.sch i=s.cells.filter (Xb c):=by unfold YI;rw[hc];rfl
 have hA:YJ s.sch i=((s.cells.take i).filter (Xb c)).length:=by unfold YJ;rw[hc];rfl
 rw[hS,hA]
 rw[hc]at hgi
 repeat'(first|(apply Yr T;exact rfl;exact rfl;intro g5)|refine zgb ?_|(refine zgh ?_;intro _)|fail)
 rename_i gs
 refine Yf (λ(z:Nat×Option Addr×Nat)=>[(8,.int .i64 z.1),(6,.slice z.2.1 ((s.cells.take z.1).filter (Xb c)).length z.2.2),(7,.int .i64 (if i<z.1 then(((s.cells.take i).filter (Xb c)).length:Int)else 0)),(2,.pointer (some ⟨gs,0,none⟩)),(1,.int .i64 i)])
  (λz=>cels z.2.1 z.2.2 ((s.cells.take z.1).filter (Xb c))::blk gs (.cells #[.int .i64 s.len,.int .i64 s.off,.slice s.A s.cells.length s.cap] 30 (0,0))::H) (λz=>z.1<=s.cells.length) (λz=>s.cells.length-z.1) (0,some ⟨g5,0,none⟩,0) (Tc _) ?_ (λw hw=>hw) ?_
 ·exact zc1
 rintro⟨k,A,cap⟩ hk K hK
 dsimp only at hk⊢
 have hM:=Ymr (p:=Xb c) (l:=s.cells) (i:=k)
 by_cases hlt:k<s.cells.length
 ·have hget:s.cells[k]? =some (Yn s.sch k):=YS (s:=s.sch) hlt
  have hE:=Yhp (p:=Xb c) hget
  obtain⟨d,hd⟩:∃d,Yn s.sch k=d:=⟨_,rfl⟩
  rw[hd]at hE hget
  obtain⟨M,hMe⟩:∃M,(s.cells.take k).filter (Xb c)=M:=⟨_,rfl⟩
  rw[hMe]at hE hM⊢
  obtain⟨a9,ha9⟩:∃a:Int,(if i<k then(((s.cells.take i).filter (Xb c)).length:Int)else 0)=a:=⟨_,rfl⟩
  obtain⟨b9,hb9⟩:∃a:Int,(if i<k+1 then(((s.cells.take i).filter (Xb c)).length:Int)else 0)=a:=⟨_,rfl⟩
  have hab:b9=if k=i then(M.length:Int)else a9:=by
   rw[<-hb9,<-ha9]
   by_cases e:k=i
   ·subst e;rw[Tm (by omega),Tm rfl,hMe]
   ·rw[Tf e]
    by_cases h:i<k
    ·rw[Tm (by omega),Tm h]
    ·rw[Tf (by omega),Tf h]
  rw[ha9]
  unfold cels
  have hpl:Xb c d=true↔d.1=c.1/\d.2.1=c.2.1:=by unfold Xb;rw[To]
  by_cases hp:d.1=c.1/\d.2.1=c.2.1
  ·rw[Tm (hpl.2 hp)]at hE
   by_cases e:k=i
   ·rw[Tm e]at hab
    refine YsV ?_<;>intros
    rename_i A9 cap9
    apply hK (k+1,A9,cap9)
    ·exact Yfs
    ·show _-(k+1)<_-k
     omega
    ·dsimp only
     rw[hE,hb9,hab,Tq]
     exact zc1
    ·intro w hw
     dsimp only
     rw[hE]
     rw[JE]at hw
     revert w
     exact zc0
   ·rw[Tf e]at hab
    refine YsV ?_<;>intros
    rename_i A9 cap9
    apply hK (k+1,A9,cap9)
    ·exact Yfs
    ·show _-(k+1)<_-k
     omega
    ·dsimp only
     rw[hE,hb9,hab,Tq]
     exact zc1
    ·intro w hw
     dsimp only
     rw[hE]
     rw[JE]at hw
     revert w
     exact zc0
  ·rw[Tf (λh=>hp (hpl.1 h)),Rw]at hE
   have hki:k≠i:=λe=>by
    subst e
    rw[hc]at hd
    subst hd
    exact hp ⟨rfl,rfl⟩
   rw[Tf hki]at hab
   repeat'(first|refine zgd ?_|(refine zge ?_ ?_<;>intro _<;>try exact zo)|fail)
   all_goals(
    apply hK (k+1,A,cap)
    ·show k+1<=_
     omega
    ·show _-(k+1)<_-k
     omega
    ·dsimp only
     rw[hE,hb9,hab]
     exact zu
    ·dsimp only
     rw[hE]
     exactλw hw=>hw)
 ·obtain rfl:k=s.cells.length:=by omega
  rw[TC,Tm hi]
  refine zX1 ?_<;>intros
  apply Yg (cels A cap (s.cells.filter (Xb c))::H)
  ·exact zc0
  apply Yo;(iterate 3 exact rfl)
  exact YlG
variable {B:Nat}{w0 w:World}{H:List HP}
theorem YmM(n:NetM)(a b:Int)(hg:YX n.net a b=true)(hin:n.In B w0 H)(hw:St B w0 H w):
 CX B w0 378 [n.val,.int .i64 a,.int .i64 b] w λv K=>v=.int .i64 (QJ n.net a b)/\K=H:=by
 refine Yc Tryz.func378 Tryz.ntmps378 rfl rfl hw ?_
 obtain⟨hpw,hrw,hlk,hmg,hs1,hs2,hs3,hs4⟩:=id hin
 (apply Y0;apply YL;apply Yy;exact rfl;exact rfl;intro g)
 have hf:=Vl hg
 have hfl:=XM hf
 have e7:n.net.links=n.links:=rfl
 rw[e7]at hfl
 have hlx:n.links[(Yu n.net a b).toNat]? =some (lnk n.net (Yu n.net a b).toNat):=WP n.net hfl
 have hfi:=λ{H:List HP}{w:World}(hin:n.In B w0 H) (hw:St B w0 H w)=>VF n a b hin hw
 have hlo:QJ n.net a b=(lnk n.net (Yu n.net a b).toNat).2.2:=rfl
 obtain⟨fi,hfi2⟩:∃x,Yu n.net a b=x:=⟨_,rfl⟩
 rw[hfi2]at hfi hlx hf hfl hlo
 obtain⟨lk,hlk2⟩:∃x,lnk n.net fi.toNat=x:=⟨_,rfl⟩
 rw[hlk2]at hlx hlo
 have hlk3:Rd B w0 (netB g n::H) n.lA (n.links.flatMap lkF):=hlk.cons
 rw[hlo]
 repeat'(first|((first|apply Ya Wn|apply Yb Wn);exact za;exact rfl;exactλ_ hw=>(hfi hin.cons hw))|(apply zg28;refine zs84 ?_)|refine zgd ?_|fail)
 exact zc21
theorem Yos{n:Net}{s t:Int}(h:Zm n s t=0):Ym n=0/\(0<=s/\s<n.nodes)/\(0<=t/\t<n.nodes)/\s≠t:=by
 unfold Zm offE at h
 grind
theorem Ya5(n:NetM)(s t:Int)(r:List Int){A:Option Addr}{cap:Nat}(hin:n.In B w0 H)(hr:Rd B w0 H A (r.flatMap numF))(hlen:r.length<=1000000000000)(hw:St B w0 H w):
 CX B w0 226 [n.val,.int .i64 s,.int .i64 t,.slice A r.length cap] w λv K=>v=.int .i64 (Xu n.net s t r)/\K=H:=by
 refine Yc Tryz.func226 Tryz.ntmps226 rfl rfl hw ?_
 unfold Xu
 by_cases h0:Zm n.net s t=0
 ·have hck:=(Yos h0).1
  have hen:=λ{H:List HP}{w:World}(hin:n.In B w0 H) (hw:St B w0 H w)=>Yc2 n s t hin hw
  rw[h0]at hen
  rw[Tf (λh=>h h0)]
  repeat'(first|((first|apply Ya Yk6|apply Yb Yk6);exact za;exact rfl;exactλ_ hw=>(hen hin.cons hw))|((first|apply Ya Ysj|apply Yb Ysj);exact za;exact rfl;exactλ_ hw=>(YdY n s t r hin.cons hck hr.cons hlen hw))|refine zgb ?_|(refine zge ?_ ?_<;>intro _<;>try exact zo)|(refine zgh ?_;intro _)|fail)
  (repeat apply Yk);exact zc13
 ·rw[Tm h0]
  repeat'(first|((first|apply Ya Yk6|apply Yb Yk6);exact za;exact rfl;exactλ_ hw=>(Yc2 n s t hin.cons hw))|refine zgb ?_|(refine zge ?_ ?_<;>intro _<;>try exact zo)|(refine zgh ?_;intro _)|fail)
  (repeat apply Yk);exact zc13
end Go.Proofs.YtjlgijpmnfabcaaGreatDoor
