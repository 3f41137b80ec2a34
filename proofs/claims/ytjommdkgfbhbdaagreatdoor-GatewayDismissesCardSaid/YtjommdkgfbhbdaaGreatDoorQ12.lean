/- Lemmas. -/
import Derived.Test.YtjommdkgfbhbdaaGreatDoorQ9
import Derived.Test.YtjommdkgfbhbdaaGreatDoorQ10
set_option maxRecDepth 100000
set_option maxHeartbeats 8000000
set_option linter.all false
namespace Go.Proofs.YtjommdkgfbhbdaaGreatDoor
open Go.RowKit Go.Eng Go.Nw Go.Rt
variable {X:List Cel}
theorem W9{Y:List Cel}{k:Nat}(h:k<X.length):celL (X++Y) k=celL X k:=by
 grind [celL]
theorem Yca(X:List Cel)(c:Cel):celL (X++[c]) X.length=c:=by
 simp_all [celL]
theorem Ub(X:List Cel)(c:Cel)(k:Nat):celL (c::X) (k+1)=celL X k:=by
 grind [celL]
theorem Q8(X:List Cel)(c:Cel):celL (c::X) 0=c:=rfl
theorem OP(n:Net)(X Y:List Cel)(j:Nat)(node:Int):∀k,k<=X.length->Yy n (X++Y) j node k=Yy n X j node k
 |0,_=>rfl
 |k+1,h=>by rw[Yy,Yy,OP n X Y j node k (by omega),W9 (by omega)]
theorem Yab(n:Net)(X:List Cel)(c:Cel)(i:Nat)(node:Int):∀k,Yy n (c::X) (i+1) node (k+1)=(powN n (YM c) node+powN n (toC c) node)+Yy n X i node k
 |0=>by simp_all [Yy,Q8]
 |k+1=>by
  rw[Yy,Yab n X c i node k,Yy,Ub]
  omega
theorem OO(n:Net)(X:List Cel)(c:Cel)(node:Int)(j:Nat):∀k,k<=j->Yy n (c::X) 0 node (k+1)=Yy n X j node k
 |0,_=>by simp_all [Yy]
 |k+1,h=>by
  rw[Yy,OO n X c node j k (by omega),Yy,Ub,Tf (by omega),Tf (by omega)]
theorem YmC(X:List Cel)(c:Cel)(i:Nat)(hi:i<X.length)(T:Cel->Bool):((List.range (X++[c]).length).any λk=>decide (k≠i)&&T (celL (X++[c]) k))=(((List.range X.length).any λk=>decide (k≠i)&&T (celL X k))||T c):=by
 rw[Tt,TP,RH,NG]
 congr 1
 ·rw[Bool.eq_iff_iff,TM,TM]
  constructor
  ·grind [W9]
  ·grind [W9]
 ·rw[NE,List.any_nil,NN,Yca,Ti (show X.length≠i by omega),RN]
theorem YmA(X:List Cel)(c:Cel)(i:Nat)(T:Cel->Bool):((List.range (c::X).length).any λk=>decide (k≠i+1)&&T (celL (c::X) k))=(T c||(List.range X.length).any λk=>decide (k≠i)&&T (celL X k)):=by
 rw[Rf,Sv,NE,List.any_map,Q8,Ti (show 0≠i+1 by omega),RN]
 congr 1
 exact zc76
theorem YmB(X:List Cel)(c:Cel)(T:Cel->Bool):((List.range (X++[c]).length).any λk=>decide (k≠X.length)&&T (celL (X++[c]) k))=(List.range X.length).any λk=>T (celL X k):=by
 rw[Tt,TP,RH,NG,NE,List.any_nil,NN,show decide (X.length≠X.length)=false by simp,NI,NN]
 rw[Bool.eq_iff_iff,TM,TM]
 constructor
 ·rintro⟨k,hk,h⟩;refine⟨k,hk,?_⟩;simp_all [W9]
 ·rintro⟨k,hk,h⟩
  refine⟨k,hk,?_⟩
  have:=Rq.1 hk
  rw[W9 this,Tq]
  grind
theorem Ymz(X:List Cel)(c:Cel)(T:Cel->Bool):((List.range (c::X).length).any λk=>decide (k≠0)&&T (celL (c::X) k))=(List.range X.length).any λk=>T (celL X k):=by
 rw[Rf,Sv,NE,List.any_map,show decide ((0:Nat)≠0)=false by simp,NI,NF]
 exact zc76
variable {c c':Cel}
theorem W3{d:Cel}(hf:YM c=YM c')(ht:toC c=toC c'):YE c d=YE c' d/\YE d c=YE d c':=by
 unfold YE;simp_all
theorem YeE(n:Net)(X:List Cel)(c:Cel)(i:Nat)(hi:i<X.length)(node:Int):Yy n (X++[c]) i node (X++[c]).length=Yy n X i node X.length+(powN n (YM c) node+powN n (toC c) node):=by
 rw[Tt,TP,Yy,OP n X [c] i node _ (TS _),Tf (by omega),Yca]
theorem Ycq(n:Net)(X:List Cel)(c:Cel)(node:Int):Yy n (X++[c]) X.length node (X++[c]).length=Yy n X X.length node X.length:=by
 simp_all [Yy,OP]
theorem YcP{n:Net}(hf:YM c=YM c')(ht:toC c=toC c'):Jn n (X++[c])=Jn n (c'::X):=by
 have h1:∀i,i<X.length->ZB n (X++[c]) i=ZB n (c'::X) (i+1):=λi hi=>by
  unfold ZB
  rw[W9 hi,Ub,YmC X c i hi,YmA,YeE n X c i hi,YeE n X c i hi,Rf,Yab,Yab,(W3 hf ht).2,hf,ht,Bool.or_comm (YE _ c')]
  grind
 have h2:ZB n (X++[c]) X.length=ZB n (c'::X) 0:=by
  unfold ZB
  rw[Yca,Q8,YmB,Ymz,Ycq,Ycq,Rf,OO n X c' _ X.length _ (TS _),OO n X c' _ X.length _ (TS _),hf,ht]
  have:(λk=>YE c (celL X k))=λk=>YE c' (celL X k):=funext λk=>(W3 hf ht).1
  rw[this]
 unfold Jn
 rw[Tt,TP,RH,List.all_append,Rf,Sv,ND,List.all_nil,Bool.and_true,ND,List.all_map,h2,Bool.and_comm]
 grind
def fitE(n:Net)(l:List Cel)(slot o a b:Int):Bool:=!(l.any λd=>decide (d.1=slot)&&YE d (0,0,a,b,0))&&Jn n (l.filter (atP slot o)++[(0,0,a,b,0)])
def hasC(l:List Cel)(slot a b id:Int):Bool:=l.any λd=>decide (d.1=slot/\YM d=a/\toC d=b/\Y6 d=id)
def Js(n:Net)(s:Sch)(a b id slot:Int):Option Sch:=
 if hasC s.cells slot a b id=true then some s else((List.range s.off.toNat).find? λo:Nat=>fitE n s.cells slot o a b).map λo:Nat=>⟨s.len,s.off,insC s.cells (slot,(o:Int),a,b,id)⟩
def hopA(n:Net)(a b id:Int):Nat->Nat->Sch->Int->Option (Sch×Int)
 |_,0,s,z=>some (s,z)
 |0,_+1,_,_=>none
 |f+1,k+1,s,z=>match Js n s a b id (z.tmod s.len)with
  |some t=>hopA n a b id f k t (z+1)
  |none=>hopA n a b id f (k+1) s (z+1)
def relA(n:Net)(id endd:Int):List Lk->Sch->Int->Option Sch
 |[],s,_=>some s
 |l::ls,s,z=>match hopA n l.1 l.2.1 id (endd-z).toNat (Y1 l) s z with
  |none=>none
  |some (t,y)=>relA n id endd ls t y
def Yfc(n:Net)(f:Flw)(ls:List Lk):Nat->Sch->Int->Option Sch
 |0,s,_=>some s
 |k+1,s,z=>if z<s.len then match relA n f.1 (z+f.2.2.2.2.2) ls s z with
  |none=>none
  |some t=>Yfc n f ls k t (z+f.2.2.2.1)
  else some s
def V1(n:Net)(f:Flw):List (List Int)->Sch->Option Sch
 |[],s=>some s
 |r::rs,s=>match Yfc n f (Yr n r) s.len.toNat s f.2.2.2.2.1 with
  |none=>none
  |some t=>V1 n f rs t
end Go.Proofs.YtjommdkgfbhbdaaGreatDoor
namespace Go.Eng
open Go.RowKit
theorem JI(H:List HP):Perm H (H++[]):=zc37
section
variable {P:Program}{B:Nat}{w0:World}{Q:Exit->Act->World->Prop}{env:Env}{H:List HP}{m:Mode}{n:Shp}{ops:Array Oper}{rest:List Oper}{d:Nat}{ty:TypeId}{pos:String}{after:Array Edge}{xt yt:TypeId}{x y:Operand}{k:IntKind}{a b:Int}
theorem Yq8(hx:evo env x=some (.int k a))(hy:evo env y=some (.int k b))(hn:Nat.ble (d+1) n.k=true)(h:VL P m n B w0 ops Q rest ((d,.bool (decide (a=b)))::env) H):
 VL P m n B w0 ops Q (⟨some d,.binOp .eql xt x y yt,ty,pos,after,none⟩::rest) env H:=by
 refine Yn6 hx hy hn (λe=>?_) (λe=>?_)
 ·rwa [Ti e]at h
 ·rwa [Tn e]at h
theorem Vn(T:Tab P){α:Type}{f:α->List Value}{l:List α}{t i q o k:Nat}{b:α}{x:Operand}{A:Option Addr}{vs:List Value}(hx:evo env x=some (sptr A (i*q+o)))(hr:Rd B w0 H A (l.flatMap f))(hb:l[i]? =some b)(hq:∀a,(f a).length=q)
 (ht:look T.ag t=some k) (ho:Nat.ble (o+k) q=true) (h0:Nat.blt 0 k=true) (hv:subL o k (f b)=vs) (hk:Nat.beq vs.length k=true) (hn:Nat.ble (d+1) n.k=true)
 (h:VL P m n B w0 ops Q rest ((d,.agg vs.toArray)::env) H):VL P m n B w0 ops Q (⟨some d,.load t x,ty,pos,after,none⟩::rest) env H:=by
 refine YO rfl rfl hn rfl (λa w ha hw=>?_) h
 have hk:=Nat.eq_of_beq_eq_true hk
 have hk0:0<k:=by simp_all
 have hok:o+k<=q:=TV ho
 have hget:∀j v,vs[j]? =some v->(l.flatMap f)[i*q+o+j]? =some v:=λj v hj=>by
  have hlt:j<k:=by grind
  rw[Nat.add_assoc,WK hq l i (o+j) b hb (by omega)]
  rw[<-hv,subL,RL,To hlt,RZ]at hj
  exact hj
 obtain⟨g,u,rfl,_⟩:=hr w hw _ _ (hget 0 _ (Ta (by omega)))
 have hl:=run_loadCells_list (P:=P) w ⟨g,u+(i*q+o),none⟩ vs (λj v hj=>by
  exact YuB)
 rw[hk]at hl
 exact Yua
end
section
variable {P:Program}{ops:Array Oper}{Q:Exit->Act->World->Prop}
def NoQ:Exit->Act->World->Prop:=λ_ _ _=>False
theorem YpJ:¬LetsOut NoQ:=zc59
def YdP(P:Program)(ops:Array Oper)(S:World->Prop)(last:List Nat)(Z:Array Bool->Act->World->Prop):Nat->Array Bool->Act->World->Prop
 |0,listed,a,w=>(∀j,j<ops.size->last.contains j=false->listed.getD j false=true)/\Z listed a w
 |m+1,listed,a,w=>Region.ready .any ops listed≠[]/\∀i∈Region.ready .any ops listed,last.contains i=false/\wpOp P ops NoQ i (λa' w'=>S w'/\YdP P ops S last Z m (listed.setIfInBounds i true) a' w') a w
variable {o:Oper}{a:Act}{w:World}{K:Act->World->Prop}
theorem Yvs(h:o.wp P a w K NoQ):o.wpIn Fence.wide 0 P a w K Q:=by
 refine⟨λf _=>trivial,?_⟩
 unfold Oper.wp at h
 have hs:Oper.semAt Fence.wide.round a.eval o=execOp a.eval o:=Oper.semAt_none _ _
 rw[hs]
 generalize(execOp a.eval o).run P w=res at h⊢
 cases res with
 |ok x w'=>
  cases x<;>simp only[Oper.upon,Oper.uponIn]at h⊢<;>first
   |exact h
   |(refine⟨λhd=>by simp[Fence.wide]at hd,?_⟩
     refine CallsIn.mono (callsIn_wide.2 h) λe w'' he=>?_
     cases e with
     |returned u=>exact he
     |panicked c=>exact he.elim
     |outgrown=>obtain⟨_,_,he⟩:=he;exact he.elim)
   |(refine⟨λhd=>by simp[Fence.wide]at hd,λc cs _=>?_⟩
     obtain⟨v,w2,k1,k2⟩:=h c cs
     exact⟨v,w2,k1,stepsIn_wide.2 k2⟩)
   |exact h.elim
 |halt x w'=>cases x<;>simp only[Oper.upon,Oper.uponIn]at h⊢<;>first|exact h.elim|exact h
theorem Ybw{S:World->Prop}{last:List Nat}{Z:Array Bool->Act->World->Prop}{k:Nat}(hz:∀listed a w,Z listed a w->wpAnyIn Fence.wide 0 P .any ops Q k listed a w):∀(m:Nat) (listed:Array Bool) (a:Act) (w:World),YdP P ops S last Z m listed a w->wpAnyIn Fence.wide 0 P .any ops Q (m+k) listed a w
 |0,listed,a,w,h=>by rw[Rl];exact hz _ _ _ h.2
 |m+1,listed,a,w,h=>by
  rw[show m+1+k=(m+k)+1 by omega]
  refine⟨λe=>absurd e h.1,λi hi=>?_⟩
  have h2:=(h.2 i hi).2
  unfold wpOp at h2
  unfold wpOpIn
  cases ho:ops[i]? with
  |none=>rw[ho]at h2;exact Ybw hz m _ _ _ h2.2
  |some o=>
   rw[ho]at h2
   simp only at h2⊢
   split
   ·rename_i hw
    rw[To hw]at h2
    rcases h2 with h2|⟨_,h2⟩
    ·exact Yvs (Oper.wp_mono (λa w h=>Ybw hz m _ a w h.2) h2)
    grind [YpJ]
   ·rename_i hw
    rw[Tf hw]at h2
    exact⟨λf _=>trivial,Ybw hz m _ _ w h2.2⟩
variable {i:Nat}
theorem YdM{listed:Array Bool}(h:listed.getD i true=false):listed.getD i false=false:=by
 grind
variable {last:List Nat}
theorem YjD{S:World->Prop}{Z:Array Bool->Act->World->Prop}{oi:Oper}{v:Value}(hi:ops[i]? =some oi)(hsel:∀(j:Nat) (o:Oper) cs b,ops[j]? =some o->o.op≠.select cs b)
 (hlast:∀j,last.contains j=true->∃f,ancB ops f j i=true) (hil:last.contains i=false):
 ∀(m:Nat) (listed:Array Bool) (a:Act) (w:World),Closed ops listed->
  (∀j oj,ops[j]? =some oj->j≠i->listed.getD j true=false->(∀e∈oj.after,Region.binds .any e=true->e.on≠i)->oi.apart ops oj=true)->
  i∈Region.ready .any ops listed->YieldsIf P ops S oi v a->S w->
  YdP P ops S last Z m (listed.setIfInBounds i true) (a.put oi.dst v) w->YdP P ops S last Z (m+1) listed a w:=by
 intro m
 induction m with
 |zero=>
  intro listed a w hcl _ hr hy hS H
  refine⟨λh=>(by simp_all),λj hj=>?_⟩
  by_cases hji:j=i
  ·subst hji;exact⟨hil,hy.wpOp hi hS ⟨hS,H⟩⟩
  ·obtain⟨hjun,oj,hoj,hall⟩:=mem_ready.1 hj
   have hun':=YdM (mem_ready.1 hr).1
   cases hc:last.contains j with
   |true=>
    grind [UK]
   |false=>
    have h1:=H.1 j (Array.getElem?_eq_some_iff.1 hoj).1 hc
    rw[getD_set_ne false (NM hji),YdM hjun]at h1
    cases h1
 |succ m ih=>
  intro listed a w hcl hfree hr hy hS H
  refine⟨λh=>(by rw[h]at hr;cases hr),λj hj=>?_⟩
  by_cases hji:j=i
  ·subst hji;exact⟨hil,hy.wpOp hi hS ⟨hS,H⟩⟩
  ·obtain⟨hnl,h1⟩:=H.2 j (ready_mono hj hji)
   obtain⟨hjun,oj,hoj,hall⟩:=mem_ready.1 hj
   have hun':=YdM (mem_ready.1 hr).1
   have hnot:∀e∈oj.after,Region.binds .any e=true->e.on≠i:=by grind
   have h2:=wpOp_putIf hoj (hfree j oj hoj hji hjun hnot) (λcs b=>hsel i oi cs b hi) (λcs b=>hsel j oj cs b hoj) (λc a w h=>h.elim) hy h1
   have hfree':∀k ok,ops[k]? =some ok->k≠i->(listed.setIfInBounds j true).getD k true=false->
    (∀e∈ok.after,Region.binds .any e=true->e.on≠i)->oi.apart ops ok=true:=λk ok hk hki hu hno=>by
    exact zc27
   refine⟨hnl,wpOp_mono (λa' w' h3=>⟨h3.2.1,ih (listed.setIfInBounds j true) a' w' (hcl.set hj) hfree' (ready_mono hr (NM hji)) h3.1 h3.2.1 ?_⟩) h2⟩
   exact zc75
def Yag(ops:Array Oper):List Nat->Array Bool->Bool
 |[],listed=>(Region.ready .any ops listed).isEmpty
 |i::r,listed=>decide (Region.ready .any ops listed=[i])&&Yag ops r (listed.setIfInBounds i true)
def Ydg(ops:Array Oper)(last:List Nat):List Nat->Array Bool->Bool
 |[],listed=>((List.range ops.size).all λj=>last.contains j||listed.getD j false)&&Yag ops last listed
 |i::rest,listed=>
  (match ops[i]? with
   |some o=>if eff o then decide (Region.ready .any ops listed=[i])else(Region.ready .any ops listed).contains i&&Region.free .any ops listed i
   |none=>false)&&Ydg ops last rest (listed.setIfInBounds i true)
def Ypx(ops:Array Oper)(last:List Nat):Bool:=
 last.all λj=>(List.range ops.size).all λi=>last.contains i||(match ops[i]? with|some o=>eff o|none=>false)||ancB ops ops.size j i
theorem Ykg(h:Ypx ops last=true):∀i oi,ops[i]? =some oi->eff oi=false->last.contains i=false->∀j,last.contains j=true->∃f,ancB ops f j i=true:=λi oi hi he hl j hj=>by
 exact Yl0
variable {l:List Oper}
theorem Ye5(hl:ops=l.toArray)(ho:ops[i]? =some o):nthO l i=o:=by
 grind [QF]
theorem YcM{l:List Oper}(hl:ops=l.toArray):∀(o2:List Nat) (listed:Array Bool) (a:Act) (w:World),Yag ops o2 listed=true->wpListIn Fence.wide 0 P ops Q (Yd l o2) a w->wpAnyIn Fence.wide 0 P .any ops Q o2.length listed a w
 |[],listed,a,w,hB,h=>⟨by grind [Yag],h⟩
 |i::r,listed,a,w,hB,h=>by
  simp only[Yag,Tq,Tm]at hB
  refine⟨λh0=>(by simp_all),λk hk=>?_⟩
  have hk':=hk
  obtain rfl:k=i:=by simp_all
  obtain⟨_,o,ho,_⟩:=mem_ready.1 hk'
  unfold wpOpIn
  simp only[ho]
  rw[Yd,Ye5 hl ho]at h
  unfold wpListIn at h
  split
  ·rename_i hw
   rw[To hw]at h
   exact Oper.wpIn_mono (λa w h=>YcM hl r _ a w hB.2 h) h
  ·rename_i hw
   rw[Tf hw]at h
   exact⟨h.1,YcM hl r _ _ w hB.2 h.2⟩
def YQH(P:Program)(ops:Array Oper)(Q:Exit->Act->World->Prop)(l:List Oper):Exit->Act->World->Prop
 |.normal,a,w=>wpListIn Fence.wide 0 P ops Q l a w
 |_,_,_=>False
theorem YvS(h:o.wp P a w K (YQH P ops Q l)):o.wp P a w K NoQ:=by
 unfold Oper.wp at h⊢
 generalize(execOp a.eval o).run P w=r at*
 cases r with
 |ok nx w'=>
  exact zc50
 |halt x w'=>
  cases x<;>simp only[Oper.upon]at h⊢<;>exact h
theorem VK{S:World->Prop}{last:List Nat}(hs:Region.noSelect ops=true)(l:List Oper)(hl:ops=l.toArray)(hlast:Ypx ops last=true):
 ∀(o1:List Nat) (listed:Array Bool) (a:Act) (w:World),Closed ops listed->(∀j∈o1,last.contains j=false)->Ydg ops last o1 listed=true->S w->YA P ops (YQH P ops Q (Yd l last)) S (Yd l o1) a w->
  YdP P ops S last (λlisted a w=>Yag ops last listed=true/\wpListIn Fence.wide 0 P ops Q (Yd l last) a w) o1.length listed a w
 |[],listed,a,w,_,_,hB,_,h=>by
  simp only[Ydg,Tq]at hB
  refine⟨λj hj hc=>?_,hB.2,h⟩
  grind
 |i::rest,listed,a,w,hcl,hno,hB,hS,h=>by
  simp only[Ydg,Tq]at hB
  obtain⟨h1,h2⟩:=hB
  have hno':∀j∈rest,last.contains j=false:=by simp_all
  cases ho:ops[i]? with
  |none=>simp_all
  |some o=>
   rw[ho]at h1
   simp only[Yd,Ye5 hl ho]at h
   by_cases he:eff o=true
   ·simp only[he,Nn,Tm]at h1
    unfold YA at h
    rw[To he]at h
    refine⟨λh0=>(by simp_all),λk hk=>?_⟩
    have hk':=hk
    rw[h1]at hk
    obtain rfl:k=i:=by simp_all
    refine⟨hno k (by simp),?_⟩
    unfold wpOp
    simp only[ho]
    by_cases hw:Region.wanted o (yielded ops a.tmps)=true
    ·rw[To hw]at h⊢
     exact .inl (YvS (Oper.wp_mono (λa' w' h'=>⟨h'.1,VK hs l hl hlast rest _ a' w' (hcl.set hk') hno' h2 h'.1 h'.2⟩) h))
    ·rw[Tf hw]at h⊢
     exact⟨hS,VK hs l hl hlast rest _ _ w (hcl.set hk') hno' h2 hS h⟩
   ·simp only[he]at h1
    simp only[Sl,NS,Tq]at h1
    unfold YA at h
    rw[Tf he]at h
    obtain⟨v,hy,h3⟩:=h
    have hr:i∈Region.ready .any ops listed:=by simpa using h1.1
    exact YjD ho (Region.noSelect_spec hs) (Ykg hlast i o ho (by simpa using he) (hno i (by simp))) (hno i (by simp)) _ listed a w hcl (Region.free_spec ho h1.2) hr hy hS (VK hs l hl hlast rest _ _ w (hcl.set hr) hno' h2 hS h3)
end
section
variable {P:Program}{B:Nat}{w0:World}{Q:Exit->Act->World->Prop}{env:Env}{H:List HP}
variable {n:Nat}{ds:List Deferred}{l:List Oper}
theorem Ymi{id:Nat}(o1 last:List Nat)(mask:List Bool){Hc F:List HP}(hm:P.follows .mixedOrders=true)
 (hB:(Region.noSelect l.toArray&&decide ((o1++last).length=l.toArray.size)&&Ypx l.toArray last&&(o1.all λj=>!last.contains j)&&Ydg l.toArray last o1 (Array.replicate l.toArray.size false))=true)
 (hsp:Split mask H Hc F) {l1 l2:List Oper}(hl1:Yd l o1=l1) (hl2:Yd l last=l2) (h:VL P (some (some F)) ⟨n,ds,none⟩ B w0 l.toArray (YQH P l.toArray Q l2) l1 env Hc):VC P ⟨n,ds,none⟩ B w0 (.region id l.toArray true) Q env H:=by
 simp only[Tq,Tm]at hB
 obtain⟨⟨⟨⟨h1,h2⟩,h3⟩,h4⟩,h5⟩:=hB
 refine⟨λa w ha hw=>?_⟩
 refine(wpIn_wide (n:=0)).1 (wpIn_region_any hm ?_)
 have hst:St B w0 (Hc++F) w.drew:=(hw.perm (XO hsp)).drew
 have hr:YA P l.toArray (YQH P l.toArray Q l2) (St B w0 Hc) l1 a w.drew:=h.run a ha w.drew hst
 rw[<-hl1,<-hl2]at hr
 have hz:=VK (S:=St B w0 Hc) h1 l rfl h3 o1 _ a w.drew (XV _ _) (λj hj=>by simp_all) h5 hst.prefix_ hr
 have:=Ybw (k:=last.length) (Q:=Q) (λlisted a w hz=>YcM rfl last listed a w hz.1 hz.2) o1.length _ a w.drew hz
 simp_all
theorem Yoo{ops:Array Oper}(h:VQ ⟨n,ds,none⟩ B w0 (YQ P ops Q l) .normal env H):VQ ⟨n,ds,none⟩ B w0 (YQH P ops Q l) .normal env H:=⟨λa w ha hw=>h.run a w ha hw⟩
end
end Go.Eng
namespace Go.Proofs.YtjommdkgfbhbdaaGreatDoor
open Go.RowKit Go.Eng Go.Nw Go.Rt
def WayV(A:Option Addr)(l:List Int):Prop:=l=[]->A=none
structure Fz where
 at_:Int
 pre:List Int
 A:Option Addr
 cap:Nat
theorem YhR{l:List Lk}{far:List Int}{to:Int}{nodes:Nat}(hl:ArcsOk nodes l)(hd:Dist nodes l to far){v:Int}(h0:0<=v)(h1:v<nodes)(hne:v≠to)(hlt:Yk far v<Xy):∀k j:Nat,(Yk far v).toNat<=k->(Yk far v).toNat<=j->X7 l far to k v=X7 l far to j v:=by
 intro k
 induction k generalizing v with
 |zero=>
  intro j hk hj
  have:=(Q6 hl hd h0 h1 hne hlt).2
  omega
 |succ k ih=>
  intro j hk hj
  obtain⟨b1,b2,b3,_⟩:=Q6 hl hd h0 h1 hne hlt
  cases j with
  |zero=>omega
  |succ j=>
   unfold X7
   rw[Tf hne,Tf hne]
   by_cases hb:XL l far v=to
   ·cases k<;>cases j<;>simp[X7,hb]
   grind
theorem Yj5(nodes:Nat)(l:List Lk)(s to:Int)(hn:nodes<=40)(hl:l.length<=1000000)(hok:ArcsOk nodes l)(hs:0<=s/\s<nodes)(hto:0<=to/\to<nodes){AL:Option Addr}{capL B:Nat}{w0:World}{H:List HP}{w:World}(hr:Rd B w0 H AL (l.flatMap lkF))(hw:St B w0 H w):
 CX B w0 238 [.int .i64 nodes,.slice AL l.length capL,.int .i64 s,.int .i64 to] w λv K=>∃A cap,v=.slice A (wayF l (VH nodes l to) s to).length cap/\WayV A (wayF l (VH nodes l to) s to)/\(VH nodes l to).length=nodes/\Dist nodes l to (VH nodes l to)/\K=ints A cap (wayF l (VH nodes l to) s to)::H:=by
 refine Ya Tryz.func238 Tryz.ntmps238 rfl rfl hw ?_
 refine zX2 ?_
 apply Yg _ Yxh
 exact za
 exact rfl
 exactλ_ hw=>(Ycs nodes l to hn hl hok hto hr (hw))
 rintro _ _ ⟨gf,far,rfl,hd,rfl⟩
 rw[Yhp hok hd]
 have hflen:=hd.len
 have hgs:=Zu (far:=far) (i:=s) (by omega)
 have hrs:=hd.range s hs.1 hs.2
 have hne:Xy=1073741824:=rfl
 unfold wayF
 by_cases hfar:Xy<=Yk far s
 ·rw[To hfar]
  rw[hne]at hfar
  refine zX25 ?_<;>intros
  apply Yf (ints none 0 []::H)
  ·exactλw hw=>hw.tail.nilSlice _ _
  apply Yc;exact rfl;exact rfl
  exact⟨none,0,rfl,λ_=>rfl,hflen,hd,rfl⟩
 rw[Tf hfar]
 rw[hne]at hfar
 refine Yqw ?_<;>intros
 rename_i g1
 have hf0:0<=Yk far s:=hrs.1
 refine Ye (λ(z:Fz)=>[(11,.int .i64 z.at_),(10,.slice z.A z.pre.length z.cap),(9,.slice (some ⟨gf,0,none⟩) far.length nodes),(1,.slice AL l.length capL),(3,.int .i64 to)])
  (λz=>ints z.A z.cap z.pre::ints (some ⟨gf,0,none⟩) nodes far::H) (λz=>(0<=z.at_/\z.at_<nodes)/\(0<=Yk far z.at_/\Yk far z.at_<1073741824)/\z.pre++X7 l far to (Yk far z.at_).toNat z.at_=s::X7 l far to (Yk far s).toNat s/\1<=z.pre.length/\z.pre.length+(Yk far z.at_).toNat<=1073741830) (λz=>(Yk far z.at_).toNat) ⟨s,[s],some ⟨g1,0,none⟩,1⟩ ⟨hs,⟨by omega,by omega⟩,rfl,by simp,by simp only[TP];omega⟩ ?_ (λw hw=>hw.blk_sl (cs:=numF s) (len:=1) (size:=1) rfl (by omega)) ?_
 ·exact zc1
 rintro⟨v,pre,A,cap⟩ ⟨⟨v0,v1⟩,⟨d0,d1⟩,hpre,hpl,hpm⟩ K hK
 simp only at v0 v1 d0 d1 hpre hpl hpm⊢
 have hgv:=Zu (far:=far) (i:=v) (by omega)
 by_cases hvt:v=to
 ·have hfl:X7 l far to (Yk far v).toNat v=[]:=by
   rw[hvt,hd.to0];rfl
  rw[hfl,Ru]at hpre
  clear hK
  refine zX1 ?_<;>intros
  apply Yf (ints A cap pre::H)
  ·exact zc0
  apply Yc;exact rfl;exact rfl
  rw[<-hpre]
  exact⟨A,cap,rfl,λh=>by rw[h]at hpl;simp at hpl,hflen,hd,rfl⟩
 obtain⟨b1,b2,b3,_⟩:=Q6 hok hd v0 v1 hvt (by rw[hne];omega)
 obtain⟨bb,hbb⟩:∃bb,XL l far v=bb:=⟨_,rfl⟩
 refine zX0 ?_<;>intros
 refine Ye (λ(k:Nat)=>[(32,.int .i64 k),(31,.int .i64 l.length),(30,.slice AL l.length capL),(12,.int .i64 (XL (l.take k) far v)),(11,.int .i64 v),(10,.slice A pre.length cap),(9,.slice (some ⟨gf,0,none⟩) far.length nodes),(1,.slice AL l.length capL),(3,.int .i64 to)])
  (λ_=>ints A cap pre::ints (some ⟨gf,0,none⟩) nodes far::H) (λk=>k<=l.length) (λk=>l.length-k) 0 (Td _) ?_ (λw hw=>hw) ?_
 ·exact zc1
 intro k hk K2 hK2
 have hrl:Rd B w0 (ints A cap pre::ints (some ⟨gf,0,none⟩) nodes far::H) AL (l.flatMap lkF):=(hr.cons).cons
 by_cases hlt:k<l.length
 ·obtain⟨a,ha⟩:∃a,l[k]? =some a:=⟨_,Ta hlt⟩
  obtain⟨⟨a1,a2⟩,⟨a3,a4⟩,⟨a5,a6⟩⟩:=hok a (Tc ha)
  have hga:=Zu (far:=far) (i:=a.2.1) (by omega)
  have hra:=hd.range a.2.1 a3 a4
  rw[hne]at hra
  have hst:XL (l.take (k+1)) far v=ZW far v (XL (l.take k) far v) a:=by
   rw[TD,ha];exact YmG _ _ _ _
  obtain⟨bk,hbk⟩:∃bk,XL (l.take k) far v=bk:=⟨_,rfl⟩
  rw[hbk]at hst
  rw[hbk]
  unfold ZW at hst
  by_cases hc:a.1=v/\a.2.2+Yk far a.2.1=Yk far v/\(bk<0\/a.2.1<bk)
  ·rw[To hc]at hst
   repeat'(first|refine zgd ?_|(refine zge ?_ ?_<;>intro _<;>try exact zo)|(refine zgh ?_;intro _)|fail)
   all_goals(
    apply hK2 (k+1)
    ·omega
    ·omega
    ·rw[hst];exact zu
    ·exactλw hw=>hw.tail)
  ·rw[Tf hc]at hst
   repeat'(first|refine zgd ?_|(refine zge ?_ ?_<;>intro _<;>try exact zo)|(refine zgh ?_;intro _)|fail)
   all_goals(
    apply hK2 (k+1)
    ·omega
    ·omega
    ·rw[hst];exact zu
    ·exactλw hw=>hw.tail)
 ·obtain rfl:k=l.length:=by omega
  clear hK2
  rw[TC,hbb]
  rw[hbb]at b1 b2 b3
  have hfs:X7 l far to (Yk far v).toNat v=bb::X7 l far to (Yk far bb).toNat bb:=by
   obtain⟨j,hj⟩:∃j,(Yk far v).toNat=j+1:=⟨(Yk far v).toNat-1,by omega⟩
   rw[hj,show X7 l far to (j+1) v=if v=to then []else XL l far v::X7 l far to j (XL l far v) from rfl,Tf hvt,hbb]
   by_cases hbt:bb=to
   ·rw[hbt]
    cases j<;>simp[X7,hd.to0]
   ·rw[YhR hok hd b1.1 b1.2 hbt (by rw[hne];omega) j _ (by omega) (TS _)]
  repeat'(first|refine zgc ?_|(refine zge ?_ ?_<;>intro _<;>try exact zo)|(refine zgh ?_;intro _)|(refine zgi ?_;intro _ _)|fail)
  rename_i A3 cap3
  apply hK ⟨bb,pre++[bb],A3,cap3⟩
  ·refine⟨b1,⟨b3,by exact zc62⟩,?_,by simp,?_⟩
   ·simp only
    rw[Ro,List.singleton_append,<-hfs];exact hpre
   ·simp only[Tt,TP]
    omega
  ·exact zc62
  ·dsimp only
   rw[Tt,TP];exact zc1
  ·dsimp only
   rw[<-Ym8]
   exact zc0
def dear(a:Lk):Lk:=(a.1,a.2.1,a.2.2*33+1)
noncomputable def Wa(n:Net)(s t:Int):List Int:=wayF ((Jx n).map dear) (VH n.nodes.toNat ((Jx n).map dear) t) s t
noncomputable def Zw(n:Net)(s t:Int):List Int×Int:=
 if Zq n s t≠0 then([],Zq n s t)else if Wa n s t=[]then([],17)else if 9<(Wa n s t).length then([],21)else(Wa n s t,0)
variable {n:Net}
theorem Yrx(h:Ok n):ArcsOk n.nodes.toNat ((Jx n).map dear):=by
 intro a ha
 obtain⟨b,hb,rfl⟩:=TG.1 ha
 obtain⟨i,hi,_,rfl⟩:=Yij.1 hb
 have hl:=h.lk i hi
 have h1:=hl.f0;have h2:=hl.f1;have h3:=hl.t0;have h4:=hl.t1;have h5:=hl.l0;have h6:=hl.l1
 grind [dear,Yb4]
theorem Ylw{s t:Int}(h:Zq n s t=0):Yo n=0/\(0<=s/\s<n.nodes)/\(0<=t/\t<n.nodes)/\s≠t:=by
 unfold Zq offE at h
 grind
variable {l:List Lk}{k:Nat}{a:Lk}
theorem YrW(h:l[k]? =some a):((l.take k).map dear++l.drop k)[k]? =some a:=by
 grind
theorem YrX(h:l[k]? =some a):((l.take k).map dear++l.drop k).set k (dear a)=(l.take (k+1)).map dear++l.drop (k+1):=by
 obtain⟨hk,rfl⟩:=Tj.1 h
 have hl:((l.take k).map dear).length=k:=by grind
 rw[Nj _ _ (by omega),hl,NK,T0 hk,List.set_cons_zero,TD,Ta hk,TY,Ro]
 rfl
theorem Yeq(n:NetM)(s t:Int){B:Nat}{w0:World}{H:List HP}{w:World}(hin:n.In B w0 H)(hw:St B w0 H w):
 CX B w0 156 [n.val,.int .i64 s,.int .i64 t] w λv K=>∃A cap,v=.tuple #[.slice A (Zw n.net s t).1.length cap,.int .i64 (Zw n.net s t).2]/\WayV A (Zw n.net s t).1/\(Zq n.net s t=0->Dist n.net.nodes.toNat ((Jx n.net).map dear) t (VH n.net.nodes.toNat ((Jx n.net).map dear) t))/\K=ints A cap (Zw n.net s t).1::H:=by
 refine Ya Tryz.func156 Tryz.ntmps156 rfl rfl hw ?_
 (apply Y5;apply YL;apply Yx;exact rfl;exact rfl;intro g)
 unfold Zw
 by_cases he:Zq n.net s t=0
 rotate_left
 ·rw[To he]
  repeat'(first|((apply Yb Ylq);exact za;exact rfl;exactλ_ hw=>(Uj n s t hin.cons hw))|refine zgb ?_|(refine zge ?_ ?_<;>intro _<;>try exact zo)|fail)
  (repeat apply Yj)
  apply Xx 3 1
  apply YJ;(iterate 3 exact rfl)
  exact⟨none,0,rfl,λ_=>rfl,λh=>absurd h he,rfl⟩
 rw[Tf (λh=>h he)]
 obtain⟨hck,⟨s0,s1⟩,⟨t0,t1⟩,hst⟩:=Ylw he
 have hen:=λ{H:List HP}{w:World}(hin:n.In B w0 H) (hw:St B w0 H w)=>Uj n s t hin hw
 rw[he]at hen
 have hok:=YP hck
 have hn0:=hok.n0
 have hn1:=hok.n1
 have hnn:((n.net.nodes.toNat:Nat):Int)=n.net.nodes:=by omega
 have hnn2:n.net.nodes=n.nodes:=rfl
 have hal:(Jx n.net).length<=128:=TX (UL _ _) hok.k0
 have hdo:=Yrx hok
 obtain⟨L,hL⟩:∃L,Jx n.net=L:=⟨_,rfl⟩
 rw[hL]at hal
 have hLo:=Ylf hok hnn.symm
 rw[hL]at hLo
 refine YtH ?_<;>intros
 apply Yg _ Ys5
 exact za
 exact rfl
 exactλ_ hw=>(YeA n hin.cons hck (hw))
 rintro _ _ ⟨A,cap,rfl,rfl⟩
 rw[hL]
 refine zX9 ?_
 refine Ye (λ(k:Nat)=>[(24,.int .i64 k),(23,.int .i64 L.length),(9,.slice A L.length cap),(3,.pointer (some ⟨g,0,none⟩)),(1,.int .i64 s),(2,.int .i64 t)])
  (λk=>sl 268 3 A L.length cap (((L.take k).map dear++L.drop k).flatMap lkF)::netB g n::H) (λk=>k<=L.length) (λk=>L.length-k) 0 (Td _) ?_ (λw hw=>hw) ?_
 ·exact zc1
 intro k hk K hK
 have hml:((L.take k).map dear++L.drop k).length=L.length:=by simp;omega
 by_cases hlt:k<L.length
 ·obtain⟨a,ha⟩:∃a,L[k]? =some a:=⟨_,Ta hlt⟩
  obtain⟨_,_,⟨a5,a6⟩⟩:=hLo a (Tc ha)
  have hmg:=YrW ha
  have hms:=YrX ha
  rw[<-hml]
  repeat'(first|(apply Vo T (f:=lkF) (l:=(L.take k).map dear++L.drop k) (i:=k) (q:=3) (o:=2) (b:=a) (b':=dear a);(iterate 3 exact rfl);exact zd;exact hmg;exact rfl;exactλ_=>rfl;exact rfl;exact rfl)|refine zgd ?_|(refine zge ?_ ?_<;>intro _<;>try exact zo)|fail)
  rw[hml,hms]
  apply hK (k+1)
  ·omega
  ·omega
  ·exact zc1
  exact zc18
 ·obtain rfl:k=L.length:=by omega
  clear hK
  rw[TC,Ss,Ru]
  have hLl:(L.map dear).length=L.length:=Tu _
  rw[<-hLl]
  refine zX1 ?_<;>intros
  rw[show(Value.int .i64 n.nodes)=.int .i64 ((n.net.nodes.toNat:Nat):Int) by rw[hnn];rfl]
  rw[hL]at hdo
  apply Yg _ YwS
  exact za
  exact rfl
  exactλ_ hw=>(Yj5 n.net.nodes.toNat (L.map dear) s t (by omega) (by omega) hdo ⟨s0,by omega⟩ ⟨t0,by omega⟩ (.sl (by(focus exact zc2))) (hw))
  rintro _ _ ⟨A2,cap2,rfl,hway,hdl,hdd,rfl⟩
  have hsr:wayF (L.map dear) (VH n.net.nodes.toNat (L.map dear) t) s t=Wa n.net s t:=by rw[<-hL];rfl
  rw[hL]at*
  rw[hsr]at hway⊢
  obtain⟨R,hR⟩:∃R,Wa n.net s t=R:=⟨_,rfl⟩
  rw[hR]at hway⊢
  by_cases hnil:R=[]
  ·rw[To hnil]
   have hA:=hway hnil
   subst hA
   refine zX8 ?_
   exact zc80
  ·rw[Tf hnil]
   have hRl:R.length<=1073741824:=by rw[<-hR];exact Ysu _ _ _ _
   have hpos:0<R.length:=NB.2 hnil
   refine Ybs (e:=3) (size:=1) (k:=R.length) (cap:=cap2) (A:=A2) (xs:=R.flatMap numF) TN hpos ?_
   rintro ga rfl
   by_cases h9:9<R.length
   ·rw[To h9]
    have hsh:=λ{H:List HP}{w:World}(hw:St B w0 H w)=>Ydz R.length (A:=some ⟨ga,0,none⟩) (cap:=cap2) (by omega) hw
    rw[To h9]at hsh
    repeat'(first|(apply ZN;(iterate 3 exact rfl))|((apply Yb Ys6);exact za;exact rfl;exactλ_ hw=>(hsh hw))|refine zgb ?_|(refine zge ?_ ?_<;>intro _<;>try exact zo)|fail)
    exact zc80
   ·rw[Tf h9]
    have hsh:=λ{H:List HP}{w:World}(hw:St B w0 H w)=>Ydz R.length (A:=some ⟨ga,0,none⟩) (cap:=cap2) (by omega) hw
    rw[Tf h9]at hsh
    repeat'(first|(apply ZN;(iterate 3 exact rfl))|((apply Yb Ys6);exact za;exact rfl;exactλ_ hw=>(hsh hw))|refine zga ?_|(refine zge ?_ ?_<;>intro _<;>try exact zo)|fail)
    apply Yf (ints (some ⟨ga,0,none⟩) cap2 R::H)
    ·exactλw hw=>hw.perm (.cons _ (.dropK (.drop _ _)))
    apply YJ;(iterate 3 exact rfl)
    exact⟨some ⟨ga,0,none⟩,cap2,rfl,λh=>absurd h hnil,λ_=>hdd,rfl⟩
def edF(e:Ed):List Value:=[.int .i64 e.f,.int .i64 e.t,.int .i64 e.c,.int .i64 e.r]
abbrev YcN(sides:Nat)(A:Option Addr)(k cap:Nat):Obj:=.cells #[.int .i64 sides,.slice A k cap] 419 (0,0)
def gpcs(g sides:Nat)(A:Option Addr)(cap:Nat)(es:List Ed)(H:List HP):List HP:=blk g (YcN sides A es.length cap)::sl 424 4 A es.length cap (es.flatMap edF)::H
structure Rz where
 k:Nat
 ag:Bool
 far:List Int
 by_:List Int
structure RzOk(sides:Nat)(es:List Ed)(fuel:Nat)(res:List Int×List Int)(z:Rz):Prop where
 kf:z.k<=fuel
 ok:RelOk sides (-2000000000-2000000000*((fuel-z.k:Nat):Int)) (z.far,z.by_,z.ag)
 run:if z.ag=true then Yaq z.k es z.far z.by_=some res else(z.far,z.by_)=res
theorem YkE(g sides:Nat)(es:List Ed)(far:List Int)(fuel:Nat)(res:List Int×List Int)(hs:1<=sides/\sides<=100)(hes:Yk6 sides es)(hel:es.length<=2000)(hfu:fuel<=100000)(hfar:RelOk sides (-2000000000) (far,List.replicate sides (-1),true))(hrun:Yaq fuel es far (List.replicate sides (-1))=some res)
 {A AF:Option Addr}{cap capF:Nat}{B:Nat}{w0:World}{H:List HP}{w:World}(hw:St B w0 (gpcs g sides A cap es (ints AF capF far::H)) w):
 CX B w0 421 [.pointer (some ⟨g,0,none⟩),.slice AF far.length capF] w λv K=>∃gb,v=.tuple #[.slice AF res.1.length capF,.slice (some ⟨gb,0,none⟩) res.2.length sides]/\RelOk sides (-2000000000-2000000000*(fuel:Int)) (res.1,res.2,false)/\K=ints (some ⟨gb,0,none⟩) sides res.2::gpcs g sides A cap es (ints AF capF res.1::H):=by
 refine Ya Tryz.func421 Tryz.ntmps421 rfl rfl hw ?_
 unfold gpcs
 repeat'(first|refine zgd ?_|(refine zgh ?_;intro _)|fail)
 apply Yg _ Yo6
 exact za
 exact rfl
 exactλ_ hw=>(WW (-1) sides (by omega) (.blk zm) (hw))
 rintro _ _ ⟨gb,rfl,rfl⟩
 have hrl:(List.replicate sides (-1:Int)).length=sides:=TR
 repeat'(first|refine zgb ?_|fail)
 refine Ye (λ(z:Rz)=>[(7,.bool z.ag),(1,.slice AF z.far.length capF),(6,.slice (some ⟨gb,0,none⟩) z.by_.length sides),(0,.pointer (some ⟨g,0,none⟩))])
  (λz=>ints (some ⟨gb,0,none⟩) sides z.by_::blk g (YcN sides A es.length cap)::sl 424 4 A es.length cap (es.flatMap edF)::ints AF capF z.far::H) (λz=>RzOk sides es fuel res z) (λz=>z.k) ⟨fuel,true,far,List.replicate sides (-1)⟩ ⟨TS _,by simpa using hfar,hrun⟩ ?_ zk ?_
 ·exact zu
 rintro⟨k,ag,fa,by_⟩ hz K hK
 obtain⟨hkf,hok,hrun⟩:=hz
 simp only at hkf hok hrun⊢
 cases ag with
 |false=>
  rw[Tf (by decide)]at hrun
  clear hK
  obtain⟨rfl,rfl⟩:fa=res.1/\by_=res.2:=by rw[<-hrun];exact⟨rfl,rfl⟩
  repeat'(first|refine zgc ?_|fail)
  apply YJ;(iterate 3 exact rfl)
  refine⟨gb,rfl,⟨hok.l1,hok.l2,λv h0 h1=>?_⟩,rfl⟩
  have:=hok.low v h0 h1
  simp only at this⊢
  omega
 |true=>
  rw[To rfl]at hrun
  cases k with
  |zero=>cases hrun
  |succ k=>
   have hok0:RelOk sides (-2000000000-2000000000*((fuel-(k+1):Nat):Int)) (fa,by_,false):=⟨hok.l1,hok.l2,hok.low⟩
   obtain⟨low,hlow⟩:∃low:Int,-2000000000-2000000000*((fuel-(k+1):Nat):Int)=low:=⟨_,rfl⟩
   rw[hlow]at hok0
   have hlb: -300000000000000<=low:=by omega
   unfold Yaq at hrun
   repeat'(first|refine zgd ?_|fail)
   refine Ye (λ(j:Nat)=>[(22,.int .i64 j),(21,.int .i64 es.length),(20,.slice A es.length cap),(7,.bool (XC 0 (es.take j) (fa,by_,false)).2.2),(1,.slice AF (XC 0 (es.take j) (fa,by_,false)).1.length capF),(6,.slice (some ⟨gb,0,none⟩) (XC 0 (es.take j) (fa,by_,false)).2.1.length sides),(0,.pointer (some ⟨g,0,none⟩))])
    (λj=>ints (some ⟨gb,0,none⟩) sides (XC 0 (es.take j) (fa,by_,false)).2.1::blk g (YcN sides A es.length cap)::sl 424 4 A es.length cap (es.flatMap edF)::ints AF capF (XC 0 (es.take j) (fa,by_,false)).1::H) (λj=>j<=es.length) (λj=>es.length-j) 0 (Td _) ?_ (λw hw=>hw) ?_
   ·exact zu
   intro j hj K2 hK2
   by_cases hlt:j<es.length
   ·obtain⟨e,he⟩:∃e,es[j]? =some e:=⟨_,Ta hlt⟩
    have hem:=Tc he
    obtain⟨⟨e1,e2⟩,⟨e3,e4⟩,⟨e5,e6⟩,⟨e7,e8⟩⟩:=hes e hem
    have htl:(es.take j).length=j:=by rw[TO];omega
    have hst:XC 0 (es.take (j+1)) (fa,by_,false)=VS j e (XC 0 (es.take j) (fa,by_,false)):=by
     rw[TD,he]
     have:=QJ (es.take j) 0 e (fa,by_,false)
     rw[htl,Rl]at this
     exact this
    have hpo:=OZ hes (es.take j) 0 (fa,by_,false) low (λx hx=>SJ hx) hok0
    rw[htl]at hpo
    obtain⟨⟨f2,b2,ag2⟩,hst2⟩:∃st,XC 0 (es.take j) (fa,by_,false)=st:=⟨_,rfl⟩
    rw[hst2]at hst hpo⊢
    obtain⟨p1,p2,p3⟩:=hpo
    simp only at p1 p2 p3
    have q1:=p3 e.f e1 e2
    have q2:=p3 e.t e3 e4
    have hgf:=Zu (far:=f2) (i:=e.f) (by omega)
    have hgt:=Zu (far:=f2) (i:=e.t) (by omega)
    have hnn:Xy=1073741824:=rfl
    rw[hnn]at q1 q2
    dsimp only
    unfold VS at hst
    simp only[hnn]at hst
    by_cases hc:0<e.r/\Yk f2 e.f<1073741824/\Yk f2 e.f+e.c<Yk f2 e.t
    ·rw[To hc]at hst
     repeat'(first|refine zgd ?_|(refine zgf ?_ ?_<;>intro _<;>try exact zo)|(refine zgh ?_;intro _)|fail)
     have hl1:(f2.set e.t.toNat (Yk f2 e.f+e.c)).length=f2.length:=T8
     have hl2:(b2.set e.t.toNat (j:Int)).length=b2.length:=T8
     apply Yn1 [3,4,5,14] [0,1,2,6,7,8,9,10,11,12,13,15] [16,17,18,19] [true] [true,true,false,false,true]
     kernel_rfl
     kernel_rfl
     exact zy
     exact zy
     exact zk
     (simp only[Yd,nthO];rfl)
     (simp only[Yd,nthO];rfl)
     (simp only[Yd,nthO];rfl)
     repeat'(first|(apply Yom;try exact zl)|(apply YdX T;(iterate 4 exact rfl);omega)|(apply XH T (f:=numF) (l:=f2) (i:=e.t.toNat) (a:=Yk f2 e.f+e.c);(iterate 3 exact rfl);exact zd;exact rfl;exactλ_=>rfl;exact rfl;omega)|(apply XH T (f:=numF) (l:=b2) (i:=e.t.toNat) (a:=(j:Int));(iterate 3 exact rfl);exact zd;exact rfl;exactλ_=>rfl;exact rfl;omega)|(apply Yh;try exact zl)|refine zgd ?_|fail)
     apply hK2 (j+1)
     ·omega
     ·omega
     ·rw[hst]
      dsimp only
      rw[hl1,hl2]
      exact zu
     ·rw[hst]
      dsimp only
      unfold ints
      rw[hl1,hl2]
      exact zk
    ·rw[Tf hc]at hst
     repeat'(first|refine zgd ?_|(refine zgf ?_ ?_<;>intro _<;>try exact zo)|(refine zgh ?_;intro _)|fail)
     all_goals(
      apply hK2 (j+1)
      ·omega
      ·omega
      ·rw[hst];exact zu
      ·rw[hst];exactλw hw=>hw.tail)
   ·obtain rfl:j=es.length:=by omega
    clear hK2
    have hpo:=OZ hes es 0 (fa,by_,false) low (λx hx=>hx) hok0
    rw[TC]
    obtain⟨⟨f2,b2,ag2⟩,hst2⟩:∃st,XC 0 es (fa,by_,false)=st:=⟨_,rfl⟩
    rw[hst2]at hrun hpo⊢
    dsimp only at hrun⊢
    repeat'(first|refine zgc ?_|(refine zge ?_ ?_<;>intro _<;>try exact zo)|fail)
    apply hK ⟨k,ag2,f2,b2⟩
    ·refine⟨by simp only;omega,⟨hpo.l1,hpo.l2,λv h0 h1=>?_⟩,?_⟩
     ·have:=hpo.low v h0 h1
      simp only at this⊢
      omega
     ·simp only
      cases ag2
      ·rw[Tf (by decide)]at hrun⊢
       exact Tz hrun
      ·rw[To rfl]at hrun⊢
       exact hrun
    ·simp only;omega
    ·exact zu
    ·exactλw hw=>hw
theorem Yqu(i:Nat)(hi:i<4611686018427387904):bits .xor .i64 (i:Int) 1=(twin i:Int):=by
 have e1:(BitVec.ofInt 64 (i:Int)).toNat=i:=by grind
 show IntKind.i64.wrap ((BitVec.ofInt 64 (i:Int)^^^BitVec.ofInt 64 1).toNat:Int)=_
 have e2:(BitVec.ofInt 64 (1:Int)).toNat=1:=by decide
 have e3:i^^^1=twin i:=by
  unfold twin
  rcases Nat.mod_two_eq_zero_or_one i with h|h
  ·rw[To h]
   obtain⟨k,rfl⟩:∃k,i=2*k:=⟨i/2,by omega⟩
   apply Nat.eq_of_testBit_eq
   intro j
   rw[Nat.testBit_xor]
   cases j with
   |zero=>simp
   |succ j=>
    grind
  ·rw[Tf (by omega)]
   obtain⟨k,rfl⟩:∃k,i=2*k+1:=⟨i/2,by omega⟩
   apply Nat.eq_of_testBit_eq
   intro j
   rw[Nat.testBit_xor]
   cases j with
   |zero=>simp
   |succ j=>
    grind
 grind [Go.IntKind.wrap_i64,twin]
structure Bz where
 k:Nat
 es:List Ed
 at_:Int
structure BzOk(fuel sides:Nat)(b:Int)(E:Nat)(by_:List Int)(s:Int)(res:List Ed)(z:Bz):Prop where
 kf:z.k<=fuel
 run:Yhb z.k z.es by_ s z.at_=some res
 ein:EdsIn sides (b+2*((fuel-z.k:Nat):Int)) z.es
 len:z.es.length=E
 at_:0<=z.at_/\z.at_<sides
theorem Yfb(g sides:Nat)(es:List Ed)(s t:Int)(fuel:Nat)(b:Int)(r:Int×Bool×List Ed)(hs:1<=sides/\sides<=100)(hes:EdsIn sides b es)(hb:1<=b/\b<=900000)(hel:es.length<=2000)(hfu:fuel<=100000)(hs0:0<=s/\s<sides)(ht0:0<=t/\t<sides)(hrun:Yfa fuel sides es s t=some r)
 {A:Option Addr}{cap:Nat}{B:Nat}{w0:World}{H:List HP}{w:World}(hw:St B w0 (gpcs g sides A cap es H) w):
 CX B w0 397 [.pointer (some ⟨g,0,none⟩),.int .i64 s,.int .i64 t] w λv K=>v=.tuple #[.int .i64 r.1,.bool r.2.1]/\(r.2.2.length=es.length/\EdsIn sides (b+2*(fuel:Int)) r.2.2/\ -300000000000000<=r.1/\r.1<=1073741824)/\K=gpcs g sides A cap r.2.2 H:=by
 refine Ya Tryz.func397 Tryz.ntmps397 rfl rfl hw ?_
 have hok:=hes.ok (by omega)
 have hnn:Xy=1073741824:=rfl
 unfold gpcs
 refine zX26 ?_<;>intros
 apply Yg _ Yo6
 exact za
 exact rfl
 exactλ_ hw=>(WW 1073741824 sides (by omega) (.blk (by(focus exact zc2))) (hw))
 rintro _ _ ⟨gs,rfl,rfl⟩
 have hrl:(List.replicate sides (1073741824:Int)).length=sides:=TR
 repeat'(first|(apply XH T (f:=numF) (l:=List.replicate sides (1073741824:Int)) (i:=s.toNat) (a:=0);(iterate 3 exact rfl);exact zd;exact rfl;exactλ_=>rfl;exact rfl;omega)|refine zgd ?_|fail)
 have hst:Wb sides s=(List.replicate sides (1073741824:Int)).set s.toNat 0:=rfl
 have hsl:(Wb sides s).length=(List.replicate sides (1073741824:Int)).length:=by rw[hst];exact T8
 unfold Yfa at hrun
 cases hre:Yaq fuel es (Wb sides s) (List.replicate sides (-1))with
 |none=>rw[hre]at hrun;cases hrun
 |some fb=>
  rw[hre]at hrun
  obtain⟨far,by_⟩:=fb
  dsimp only at hrun
  rw[<-hst,<-hsl]
  apply ZV (gpcs g sides A cap es (ints (some ⟨gs,0,none⟩) sides (Wb sides s)::H))
  ·unfold gpcs ints
   exact zc0
  apply Yg _ YxQ
  exact za
  exact rfl
  exactλ_ hw=>(YkE g sides es (Wb sides s) fuel (far,by_) hs hok hel (by omega) (YnH hs0 _ TR _) hre (hw))
  rintro _ _ ⟨gb,rfl,hro,rfl⟩
  obtain⟨l1,l2,hlow⟩:=hro
  simp only at l1 l2 hlow
  have hgt:=Zu (far:=far) (i:=t) (by omega)
  have hlt:=hlow t ht0.1 ht0.2
  rw[hnn]at hlt hrun
  unfold gpcs
  dsimp only
  by_cases hno:1073741824<=Yk far t
  ·rw[To hno]at hrun
   obtain rfl:=Tz hrun
   refine zX25 ?_<;>intros
   apply Yf (gpcs g sides A cap es H)
   ·unfold gpcs
    exact zc0
   apply YJ;(iterate 3 exact rfl)
   exact⟨rfl,⟨rfl,hes.mono (by omega),show(-300000000000000:Int)<=0 by decide,show(0:Int)<=1073741824 by decide⟩,rfl⟩
  ·rw[Tf hno]at hrun
   cases hba:Yhb fuel es by_ s t with
   |none=>rw[hba]at hrun;cases hrun
   |some res=>
    rw[hba]at hrun
    dsimp only at hrun
    obtain rfl:=Tz hrun
    refine zX25 ?_<;>intros
    refine Ye (λ(z:Bz)=>[(11,.int .i64 z.at_),(10,.slice (some ⟨gb,0,none⟩) by_.length sides),(9,.slice (some ⟨gs,0,none⟩) far.length sides),(0,.pointer (some ⟨g,0,none⟩)),(1,.int .i64 s),(2,.int .i64 t)])
     (λz=>ints (some ⟨gb,0,none⟩) sides by_::blk g (YcN sides A z.es.length cap)::sl 424 4 A z.es.length cap (z.es.flatMap edF)::ints (some ⟨gs,0,none⟩) sides far::H) (λz=>BzOk fuel sides b es.length by_ s res z) (λz=>z.k) ⟨fuel,es,t⟩ ⟨TS _,hba,hes.mono (by omega),rfl,ht0⟩ ?_ (λw hw=>hw) ?_
    ·exact zc1
    rintro⟨k,e1,v⟩ ⟨hkf,hrun1,hein,hlen,⟨v0,v1⟩⟩ K hK
    simp only at hkf hrun1 hein hlen v0 v1⊢
    cases k with
    |zero=>cases hrun1
    |succ k=>
     unfold Yhb at hrun1
     by_cases hvs:v=s
     ·rw[To hvs]at hrun1
      obtain rfl:=Tz hrun1
      clear hK
      refine zX50 ?_<;>intros
      apply Yf (gpcs g sides A cap e1 H)
      ·unfold gpcs
       exact zc0
      apply YJ;(iterate 3 exact rfl)
      exact⟨rfl,⟨hlen,hein.mono (by omega),by omega,by omega⟩,rfl⟩
     ·rw[Tf hvs]at hrun1
      have hgv:=Zu (far:=by_) (i:=v) (by omega)
      obtain⟨i,hi⟩:∃i,Yk by_ v=i:=⟨_,rfl⟩
      rw[hi]at hrun1 hgv
      by_cases hneg:i<0
      ·rw[To hneg]at hrun1;cases hrun1
      rw[Tf hneg]at hrun1
      obtain⟨m,rfl⟩:∃m:Nat,i=m:=⟨i.toNat,by omega⟩
      rw[Rm]at hrun1
      cases he:e1[m]? with
      |none=>rw[he]at hrun1;cases hrun1
      |some e=>
       rw[he]at hrun1
       dsimp only at hrun1
       by_cases htw:e1.length<=twin m
       ·rw[To htw]at hrun1;cases hrun1
       rw[Tf htw]at hrun1
       have hml:=(Tj.1 he).1
       have hmb:m<2000:=by omega
       have hxor:=Yqu m (by omega)
       have hm1:YaW e1 m (-1)=e1.set m {e with r:=e.r-1}:=by unfold YaW;rw[he];rfl
       obtain⟨f1,hf1⟩:∃f1,e1.set m {e with r:=e.r-1}=f1:=⟨_,rfl⟩
       have hfl1:f1.length=e1.length:=by rw[<-hf1];exact T8
       have hin1:=Yin hein m (d:= -1) (by omega)
       rw[hm1,hf1]at hin1
       obtain⟨e2,he2⟩:∃x,f1[twin m]? =some x:=⟨_,Ta (by omega)⟩
       have hm2:YaW f1 (twin m) 1=f1.set (twin m) {e2 with r:=e2.r+1}:=by unfold YaW;rw[he2]
       obtain⟨f2,hf2⟩:∃f2,f1.set (twin m) {e2 with r:=e2.r+1}=f2:=⟨_,rfl⟩
       have hfl2:f2.length=e1.length:=by rw[<-hf2,T8];exact hfl1
       have hin2:=Yin hin1 (twin m) (d:=1) (by omega)
       rw[hm2,hf2]at hin2
       rw[hm1,hf1,hm2,hf2]at hrun1
       obtain⟨_,_,_,hr1⟩:=hein e (Tc he)
       obtain⟨_,_,_,hr2⟩:=hin1 e2 (Tc he2)
       have hef:=(hein e (Tc he)).1
       have hem:(f1.set (twin m) {e2 with r:=e2.r+1})[m]? =some {e with r:=e.r-1}:=by
        rw[List.getElem?_set_ne (Yss m),<-hf1,Nc hml]
       have hfl3:(f1.set (twin m) {e2 with r:=e2.r+1}).length=f1.length:=T8
       refine zX0 ?_<;>intros
       apply YC [0,1,2,3,4,5,6,7,8,9,10,11,12,13] [14] [true,true,true]
       kernel_rfl
       kernel_rfl
       exact zy
       (simp only[Yd,nthO];rfl)
       (simp only[Yd,nthO];rfl)
       repeat'(first|(apply Vo T (f:=edF) (l:=e1) (i:=m) (q:=4) (o:=3) (b:=e) (b':={e with r:=e.r-1});(iterate 3 exact rfl);exact zd;exact he;exact rfl;exactλ_=>rfl;exact rfl;exact rfl)|refine zgd ?_|fail)
       rw[hf1]
       apply YX (ints (some ⟨gb,0,none⟩) sides by_::blk g (YcN sides A f1.length cap)::sl 424 4 A f1.length cap (f1.flatMap edF)::ints (some ⟨gs,0,none⟩) sides far::H)
       ·rw[hfl1]
        exact zc0
       apply YC [0,1,2,3,4,5,6,7,8,9,10,11,12,13,14] [15] [true,true,true]
       kernel_rfl
       kernel_rfl
       exact zy
       (simp only[Yd,nthO];rfl)
       (simp only[Yd,nthO];rfl)
       repeat'(first|(apply Yvi;(iterate 3 exact rfl);rw[hxor])|(apply Vo T (f:=edF) (l:=f1) (i:=twin m) (q:=4) (o:=3) (b:=e2) (b':={e2 with r:=e2.r+1});(iterate 3 exact rfl);exact zd;exact he2;exact rfl;exactλ_=>rfl;exact rfl;exact rfl)|(apply Wv T (l:=f1.set (twin m) {e2 with r:=e2.r+1}) (f:=edF);(rw[hfl3];exact rfl);exact rfl;exact .sl zm;exact rfl;exactλ_=>rfl;exact rfl;exact rfl;omega)|refine zgd ?_|fail)
       apply hK ⟨k,f2,e.f⟩
       ·exact⟨by exact zc62,hrun1,hin2.mono zc62,by exact zc62,hef⟩
       ·exact zc62
       ·exact zc1
       ·dsimp only
        rw[hf2,show f1.length=f2.length by omega]
        exact zc0
theorem YoT(A:Option Addr)(cap:Nat)(es:List Ed)(f t c:Int):sl 424 4 A (es.length+2) cap (es.flatMap edF++[Value.int .i64 f,.int .i64 t,.int .i64 c,.int .i64 1,.int .i64 t,.int .i64 f,.int .i64 (-c),.int .i64 0])=sl 424 4 A (es++J5 f t c).length cap ((es++J5 f t c).flatMap edF):=by
 grind [J5,edF]
variable {B k:Nat}{w0 w:World}{H:List HP}
theorem Yg7(g sides:Nat)(es:List Ed)(f t c:Int)(hel:es.length<=100000)(hc: -1000000<=c/\c<=1000000){A:Option Addr}{cap:Nat}(hw:St B w0 (gpcs g sides A cap es H) w):
 CX B w0 420 [.pointer (some ⟨g,0,none⟩),.int .i64 f,.int .i64 t,.int .i64 c] w λv K=>∃A' cap',v=.tuple #[]/\K=gpcs g sides A' cap' (es++J5 f t c) H:=by
 refine Ya Tryz.func420 Tryz.ntmps420 rfl rfl hw ?_
 unfold gpcs
 repeat'(first|(apply Yva;exact rfl;exact rfl;omega)|refine zgd ?_|(refine zgh ?_;intro _)|(refine zgi ?_;intro _ _)|fail)
 rename_i A' cap'
 apply Yf (gpcs g sides A' cap' (es++J5 f t c) H)
 ·unfold gpcs
  have e1:(es++J5 f t c).length=es.length+2:=by simp[J5]
  rw[<-YoT,e1]
  exact zc0
 apply J8;exact rfl
 exact⟨A',cap',rfl,rfl⟩
variable {closed:Int->Bool}
theorem Ydf(h:closed (k:Int)=false):ZU closed (k+1)=ZU closed k++J5 (2*(k:Int)) (2*(k:Int)+1) 0:=by
 grind [ZU,RH]
theorem Ye4(h:closed (k:Int)=true):ZU closed (k+1)=ZU closed k:=by
 grind [ZU,RH]
theorem OX(closed:Int->Bool):∀k,(ZU closed k).length<=2*k
 |0=>by simp[ZU]
 |k+1=>by
  have:=OX closed k
  cases h:closed (k:Int)
  ·rw[Ydf h,Tt];simp[J5];omega
  grind [Ye4]
theorem YjE(l:List Lk)(a:Lk):V9 (l++[a])=V9 l++J5 (2*a.1+1) (2*a.2.1) a.2.2:=by grind [V9]
theorem Yey(l:List Lk):(V9 l).length=2*l.length:=by
 induction l with
 |nil=>rfl
 |cons a l ih=>
  grind [V9,J5]
structure Sz where
 k:Nat
 A:Option Addr
 cap:Nat
theorem YkS(nodes:Nat)(l:List Lk)(closed:Int->Bool)(gm clock:Nat)(ents:Ents)(hn:nodes<=1000)(hl:l.length<=1000)(hok:ArcsOk nodes l)(hmb:MB ents closed){AL:Option Addr}{capL:Nat}(hm:blk gm (mobj ents clock)∈H)(hr:Rd B w0 H AL (l.flatMap lkF))(hw:St B w0 H w):
 CX B w0 396 [.int .i64 nodes,.slice AL l.length capL,.map (some gm)] w λv K=>∃g A cap,v=.pointer (some ⟨g,0,none⟩)/\K=gpcs g (2*nodes) A cap (O3 nodes l closed) H:=by
 refine Ya Tryz.func396 Tryz.ntmps396 rfl rfl hw ?_
 refine zX26 ?_<;>intros
 rename_i g
 refine Ye (λ(z:Sz)=>[(16,.int .i64 z.k),(15,.int .i64 nodes),(7,.pointer (some ⟨g,0,none⟩)),(1,.slice AL l.length capL),(2,.map (some gm))])
  (λz=>gpcs g (2*nodes) z.A z.cap (ZU closed z.k) H) (λz=>z.k<=nodes) (λz=>nodes-z.k) ⟨0,none,0⟩ (Td _) ?_ ?_ ?_
 ·exact zc1
 ·intro w hw
  have h5:=hw.nilSlice 424 4
  revert h5
  unfold gpcs
  exactλh5=>h5.perm (.swap _ _ _)
 rintro⟨k,A,cap⟩ hk K hK
 simp only at hk⊢
 have hnl:=OX closed k
 by_cases hlt:k<nodes
 ·obtain⟨b,hb⟩:∃b,closed (k:Int)=b:=⟨_,rfl⟩
  have hmk:blk gm (mobj ents clock)∈gpcs g (2*nodes) A cap (ZU closed k) H:=TK _ (TK _ hm)
  cases b with
  |true=>
   have e2:=Ye4 hb
   unfold gpcs at hmk⊢
   refine YtI ?_<;>intros
   apply hK ⟨k+1,A,cap⟩
   ·exact zc62
   ·exact zc62
   ·exact zc1
   ·dsimp only
    rw[e2]
    exactλw hw=>hw
  |false=>
   have e2:=Ydf hb
   unfold gpcs at hmk
   refine YtI ?_<;>intros
   apply Yg _ Ytw
   exact za
   exact rfl
   exactλ_ hw=>(Yg7 g (2*nodes) (ZU closed k) (2*(k:Int)) (2*(k:Int)+1) 0 (by omega) (by omega) (hw))
   rintro _ _ ⟨A3,cap3,rfl,rfl⟩
   refine zX11 ?_
   apply hK ⟨k+1,A3,cap3⟩
   ·exact zc62
   ·exact zc62
   ·exact zc1
   ·dsimp only
    rw[e2]
    exactλw hw=>hw
 ·obtain rfl:k=nodes:=by omega
  clear hK
  refine zX1 ?_<;>intros
  refine Ye (λ(z:Sz)=>[(33,.int .i64 z.k),(32,.int .i64 l.length),(31,.slice AL l.length capL),(7,.pointer (some ⟨g,0,none⟩))])
   (λz=>gpcs g (2*k) z.A z.cap (ZU closed k++V9 (l.take z.k)) H) (λz=>z.k<=l.length) (λz=>l.length-z.k) ⟨0,A,cap⟩ (Td _) ?_ ?_ ?_
  ·exact zc1
  ·dsimp only
   rw[Ns,show V9 []=[] from rfl,Ru]
   exactλw hw=>hw
  rintro⟨j,A2,cap2⟩ hj K hK
  simp only at hj⊢
  have hal:=Yey (l.take j)
  rw[TO]at hal
  by_cases hlt:j<l.length
  ·obtain⟨a,ha⟩:∃a,l[j]? =some a:=⟨_,Ta hlt⟩
   obtain⟨⟨a1,a2⟩,⟨a3,a4⟩,⟨a5,a6⟩⟩:=hok a (Tc ha)
   have e2:V9 (l.take (j+1))=V9 (l.take j)++J5 (2*a.1+1) (2*a.2.1) a.2.2:=by rw[TD,ha];exact YjE _ _
   have hrk:Rd B w0 (gpcs g (2*k) A2 cap2 (ZU closed k++V9 (l.take j)) H) AL (l.flatMap lkF):=(hr.cons).cons
   refine zX45 ?_<;>intros
   rename_i ga
   apply ZV (gpcs g (2*k) A2 cap2 (ZU closed k++V9 (l.take j)) (blk ga (.cells #[.int .i64 a.1,.int .i64 a.2.1,.int .i64 a.2.2] 268 (0,0))::H))
   ·unfold gpcs
    exact zc0
   apply Yg _ Ytw
   exact za
   exact rfl
   exactλ_ hw=>(Yg7 g (2*k) (ZU closed k++V9 (l.take j)) (2*a.1+1) (2*a.2.1) a.2.2 (by rw[Tt];omega) (by omega) (hw))
   rintro _ _ ⟨A3,cap3,rfl,rfl⟩
   refine zX11 ?_
   apply hK ⟨j+1,A3,cap3⟩
   ·exact zc62
   ·exact zc62
   ·exact zc1
   ·dsimp only
    rw[e2,<-Ro]
    unfold gpcs
    exact zc0
  ·obtain rfl:j=l.length:=by omega
   clear hK
   rw[TC]
   refine zX1 ?_<;>intros
   apply Yc;exact rfl;exact rfl
   exact⟨g,A2,cap2,rfl,rfl⟩
theorem YnD{nodes:Nat}{l:List Lk}{closed:Int->Bool}(h:ArcsOk nodes l):EdsIn (2*nodes) 1 (O3 nodes l closed):=by
 intro e he
 rcases T9.1 he with he|he
 ·obtain⟨v,hv,he⟩:=SN.1 he
  have hv:=Rq.1 hv
  split at he
  ·cases he
  ·simp only[J5,Rr,R9,NR]at he
   rcases he with rfl|rfl<;>simp only<;>omega
 ·obtain⟨a,ha,he⟩:=SN.1 he
  obtain⟨h1,h2,h3⟩:=h a ha
  simp only[J5,Rr,R9,NR]at he
  grind
theorem YkR(nodes:Nat)(l:List Lk)(closed:Int->Bool):(O3 nodes l closed).length<=2*nodes+2*l.length:=by
 grind [O3,Yey,OX]
variable {es:Ents}
theorem Ynx{seen:Array Nat}{e:Int×Value×Nat}(he:e∈es)(hs:seen.contains e.2.2=false):(es.filter λx=>!(seen.push e.2.2).contains x.2.2).length<(es.filter λx=>!seen.contains x.2.2).length:=by
 have h1:(es.filter λx=>!(seen.push e.2.2).contains x.2.2)=(es.filter λx=>!seen.contains x.2.2).filter λx=>!(x.2.2==e.2.2):=by
  rw[SH]
  grind
 rw[h1]
 refine List.length_filter_lt_length_iff_exists.2 ⟨e,RB.2 ⟨he,by simp_all⟩,by simp⟩
theorem Ypb(hn:(es.map λe=>e.2.2).Nodup){x y:Int×Value×Nat}(hx:x∈es)(hy:y∈es)(e:x.2.2=y.2.2):x=y:=by
 induction es with
 |nil=>cases hx
 |cons a l ih=>
  grind
def Yu0(mo:Option Nat)(closed:Int->Bool)(H:List HP):Prop:=match mo with
 |none=>∀v,closed v=false
 |some gm=>∃ents clock,blk gm (mobj ents clock)∈H/\MB ents closed/\MOk ents clock
structure Mz(f:Int->Bool) where
 g:Nat
 es:Ents
 c:Nat
 mb:MB es f
 ok:MOk es c
structure Lz where
 es:Ents
 c:Nat
 seen:Array Nat
 f:Int->Bool
theorem YmJ(nodes:Nat)(l:List Lk)(a b to:Int)(mo:Option Nat)(closed:Int->Bool)(fuel:Nat)(r:Int×Bool×List Ed)(hn:1<=nodes/\nodes<=50)(hl:l.length<=900)(hok:ArcsOk nodes l)(ha:0<=a/\a<nodes)(hb:0<=b/\b<nodes)(ht:0<=to/\to<nodes)(hfu:fuel<=100000)(hrun:Ov fuel nodes l a b to closed=some r)
 {AL:Option Addr}{capL B:Nat}{w0:World}{H:List HP}{w:World}(hmo:Yu0 mo closed H) (hr:Rd B w0 H AL (l.flatMap lkF)) (hw:St B w0 H w):
 CX B w0 348 [.int .i64 nodes,.slice AL l.length capL,.int .i64 a,.int .i64 b,.int .i64 to,.map mo] w λv K=>∃g A cap,v=.tuple #[.int .i64 r.1,.pointer (some ⟨g,0,none⟩),.bool r.2.1]/\(r.2.2.length<=2000/\EdsIn (2*nodes) 900000 r.2.2/\ -600000000000000<=r.1/\r.1<=3000000000)/\K=gpcs g (2*nodes) A cap r.2.2 H:=by
 refine Ya Tryz.func348 Tryz.ntmps348 rfl rfl hw ?_
 iterate 8 (first|refine zga ?_|fail)
 refine Z1 (λ(z:Mz λv=>decide (v=a\/v=b\/v=to))=>[(15,.map (some z.g)),(0,.int .i64 nodes),(1,.slice AL l.length capL),(2,.int .i64 a),(3,.int .i64 b),(4,.int .i64 to),(5,.map mo)]) (λz=>blk z.g (mobj z.es z.c)::H) ?_ ?_
 ·intro K hK
  apply V6 (.n1 1 (.n1 3 (.n1 5 (.n1 0 (.n3 2 (.n2 4 (.n1 6 (.n1 7 (.n1 8 .done))) 6 (.n1 4 (.n1 7 (.n1 8 .done)))) 4 (.n2 2 (.n1 6 (.n1 7 (.n1 8 .done))) 6 (.n1 2 (.n1 7 (.n1 8 .done)))) 6 (.n2 2 (.n1 4 (.n1 7 (.n1 8 .done))) 4 (.n1 2 (.n1 7 (.n1 8 .done))))))))) [] []
  kernel_rfl
  kernel_rfl
  exact zy
  exact rfl
  repeat'(first|(apply Yjy;exact rfl;intro gs)|(apply Yra (kt:=3) (et:=4);(iterate 3 exact rfl);kernel_rfl;(intro _ _;exact zd);(first|assumption|exact MB.nil);(first|assumption|exact MOk.nil);intro _ _ _ _)|(apply Yop;(simp only[nthO];rfl);(simp only[nthO];rfl);(simp only[nthO];rfl))|(apply Yex;(simp only[nthO];rfl);(simp only[nthO];rfl))|(apply Yew;(simp only[nthO];rfl))|(apply V7;try exact zl)|(apply Yh;try exact zl)|refine zgd ?_|fail)
  all_goals(
   rename_i es3 c3 m3 o3
   refine hK ⟨gs,es3,c3,m3.ext λv=>?_,o3⟩ _ _ ?_ ?_
   ·by_cases h1:v=a<;>by_cases h2:v=b<;>by_cases h3:v=to<;>simp[h1,h2,h3]
   ·exact zu
   ·exactλw hw=>hw)
 rintro⟨gs,es0,c0,mb0,ok0⟩
 dsimp only
 apply Y5
 refine Z1 (λ(z:Mz (UB a b to closed))=>[(15,.map (some z.g)),(0,.int .i64 nodes),(1,.slice AL l.length capL),(2,.int .i64 a),(3,.int .i64 b),(4,.int .i64 to)]) (λz=>blk z.g (mobj z.es z.c)::H) ?_ ?_
 ·intro KK hKK
  cases mo with
  |none=>
   repeat'(first|(apply Yg3 (kt:=3) (et:=4);exact rfl;kernel_rfl;exact rfl;intro it)|refine zgb ?_|fail)
   refine Ye (λ(_:Unit)=>[(28,.pointer (some ⟨it,0,none⟩)),(15,.map (some gs)),(0,.int .i64 nodes),(1,.slice AL l.length capL),(2,.int .i64 a),(3,.int .i64 b),(4,.int .i64 to)]) (λ_=>blk it (.mapIter none 0 #[] 0)::blk gs (mobj es0 c0)::H) (λ_=>True) (λ_=>0) () trivial ?_ (λw hw=>hw) ?_
   ·exact zc1
   intro _ _ K hK
   clear hK
   repeat'(first|(apply Yjz;exact rfl;exact zm;exact rfl)|refine zgc ?_|fail)
   refine hKK ⟨gs,es0,c0,mb0.ext λv=>?_,ok0⟩ _ _ ?_ ?_
   ·unfold UB;rw[hmo v,NN]
   ·exact zc1
   ·exact QZ
  |some gm=>
   obtain⟨ents,clock,hm,hmb,hmk⟩:=hmo
   repeat'(first|(apply Yoe (kt:=3) (et:=4) (g:=gm);exact rfl;exact TK _ hm;kernel_rfl;exact rfl;intro it)|refine zgb ?_|fail)
   refine Ye (λ(_:Lz)=>[(28,.pointer (some ⟨it,0,none⟩)),(15,.map (some gs)),(0,.int .i64 nodes),(1,.slice AL l.length capL),(2,.int .i64 a),(3,.int .i64 b),(4,.int .i64 to)]) (λz=>blk it (.mapIter (some gm) clock z.seen clock)::blk gs (mobj z.es z.c)::H)
    (λz=>MB z.es z.f/\MOk z.es z.c/\(∀v,z.f v=true->UB a b to closed v=true)/\(∀v,(v=a\/v=b\/v=to)->z.f v=true)/\∀e∈ents,z.seen.contains e.2.2=true->z.f e.1=true) (λz=>(ents.filter λx=>!z.seen.contains x.2.2).length) ⟨es0,c0,#[],λv=>decide (v=a\/v=b\/v=to)⟩ ⟨mb0,ok0,λv h=>by unfold UB;simp only at h;rw[h];rfl,λv h=>Ti h,λe _ h=>by simp at h⟩ ?_ (λw hw=>hw) ?_
   ·exact zc1
   rintro⟨es1,c1,seen,f⟩ ⟨i1,i2,i3,i4,i5⟩ K hK
   simp only at i1 i2 i3 i4 i5⊢
   repeat'(first|apply Y5|apply YgH|apply YL|fail)
   apply Yrf (g:=gm)
   ·exact rfl
   ·exact TK _ (TK _ hm)
   ·exact rfl
   ·intro _;exact zd
   ·exact hmk.lt
   ·exact TS _
   ·intro hall
    clear hK
    refine zX11 ?_
    refine hKK ⟨gs,es1,c1,i1.ext λv=>?_,i2⟩ _ _ ?_ ?_
    ·cases hs:UB a b to closed v with
     |true=>
      unfold UB at hs
      rcases R7 _ _▸hs with h|h
      ·exact i4 v (TI h)
      ·obtain⟨e,he,rfl⟩:=hmb.at_ h
       exact i5 e he (hall e he)
     |false=>
      cases hf:f v with
      |false=>rfl
      |true=>rw[i3 v hf]at hs;cases hs
    ·exact zc1
    ·exact QZ
   ·rintro⟨ek,ev,eb⟩ he hseen
    simp only at hseen⊢
    have hec:=hmb.mem he
    repeat'(first|(apply Yn5 (g:=gm) (e:=(ek,ev,eb));exact rfl;exact TK _ (TK _ hm);exact zm;exact rfl;exact he;exact hmk.nd)|(apply Yri (kt:=3) (et:=4);(iterate 3 exact rfl);kernel_rfl;(intro _ _;exact zd);exact i1;exact i2;intro es2 c2 m2 o2 _ _)|refine zgc ?_|fail)
    apply hK ⟨es2,c2,seen.push eb,λv=>decide (v=ek)||f v⟩
    ·refine⟨m2,o2,λv h=>?_,λv h=>?_,λe he2 h=>?_⟩
     ·simp only at h
      rcases R7 _ _▸h with h|h
      ·obtain rfl:=TI h
       unfold UB
       rw[hec,Bool.or_true]
      ·exact i3 v h
     ·simp only;rw[i4 v h,Bool.or_true]
     ·simp only at h⊢
      rw[Array.contains_push]at h
      rcases R7 _ _▸h with h|h
      ·rw[i5 e he2 h,Bool.or_true]
      ·have:e=(ek,ev,eb):=Ypb hmk.nd he2 he (by simpa using h)
       rw[this];simp
    ·exact Ynx (e:=(ek,ev,eb)) he hseen
    ·exact zc1
    exact zc18
 rintro⟨gs2,es2,c2,mb2,ok2⟩
 dsimp only
 have hsl:=YkR nodes l (UB a b to closed)
 have hsi:=YnD (closed:=UB a b to closed) hok
 unfold Ov at hrun
 cases h1:Yfa fuel (2*nodes) (O3 nodes l (UB a b to closed)) (2*a+1) (2*to)with
 |none=>rw[h1]at hrun;cases hrun
 |some r1=>
  rw[h1]at hrun
  obtain⟨x,ok,es1⟩:=r1
  dsimp only at hrun
  cases h2:Yfa fuel (2*nodes) es1 (2*b+1) (2*to)with
  |none=>rw[h2]at hrun;cases hrun
  |some r2=>
   rw[h2]at hrun
   obtain⟨y,is,es3⟩:=r2
   obtain rfl:=Tz hrun
   refine zX2 ?_
   apply Yg _ YxI
   exact za
   exact rfl
   exactλ_ hw=>(YkS nodes l (UB a b to closed) gs2 c2 es2 (by omega) (by omega) hok mb2 TN hr.cons (hw))
   rintro _ _ ⟨g,A,cap,rfl,rfl⟩
   refine zX3 ?_
   apply Yg _ Ytt
   exact za
   exact rfl
   exactλ_ hw=>(Yfb g (2*nodes) (O3 nodes l (UB a b to closed)) (2*a+1) (2*to) fuel 1 (x,ok,es1) (by omega) hsi (by omega) (by omega) hfu (by omega) (by omega) h1 (hw))
   rintro _ _ ⟨rfl,⟨q1,q2,q3,q4⟩,rfl⟩
   dsimp only at q1 q2 q3 q4⊢
   refine zX3 ?_
   apply Yg _ Ytt
   exact za
   exact rfl
   exactλ_ hw=>(Yfb g (2*nodes) es1 (2*b+1) (2*to) fuel (1+2*(fuel:Int)) (y,is,es3) (by omega) q2 (by omega) (by omega) hfu (by omega) (by omega) h2 (hw))
   rintro _ _ ⟨rfl,⟨p1,p2,p3,p4⟩,rfl⟩
   dsimp only at p1 p2 p3 p4⊢
   cases ok
   all_goals(
    repeat'(first|refine zgc ?_|fail)
    apply Yf (gpcs g (2*nodes) A cap es3 H)
    ·unfold gpcs
     exact zk
    apply Jh;(iterate 4 exact rfl)
    exact⟨g,A,cap,rfl,⟨by omega,p2.mono (by omega),by omega,by omega⟩,rfl⟩)
variable {B:Nat}{w0 w:World}{H:List HP}
theorem O0(n:NetM)(a:Int)(hw:St B w0 H w):
 CX B w0 305 [n.val,.int .i64 a] w λv K=>v=.bool (!offE n.net a)/\K=H:=by
 refine Ya Tryz.func305 Tryz.ntmps305 rfl rfl hw ?_
 have e7:n.net.nodes=n.nodes:=rfl
 unfold offE
 rw[e7]
 by_cases h:a<0\/n.nodes<=a
 ·rw[Ti h]
  repeat'(first|refine zgc ?_|(refine zgf ?_ ?_<;>intro _<;>try exact zo)|(refine zgh ?_;intro _)|fail)
  all_goals(apply Yj;apply Yc;exact rfl;exact rfl;simp_all)
 ·rw[Tn h]
  repeat'(first|refine zgc ?_|(refine zgf ?_ ?_<;>intro _<;>try exact zo)|(refine zgh ?_;intro _)|fail)
  all_goals(apply Yj;apply Yc;exact rfl;exact rfl;exact⟨rfl,rfl⟩)
theorem Ydm(n:NetM)(s t:Int)(hin:n.In B w0 H)(hw:St B w0 H w):
 CX B w0 226 [n.val,.int .i64 s,.int .i64 t] w λv K=>v=.int .i64 (Zq n.net s t)/\K=H:=by
 refine Ya Tryz.func226 Tryz.ntmps226 rfl rfl hw ?_
 unfold Zq
 by_cases h0:Yo n.net=0
 rotate_left
 ·rw[To h0]
  repeat'(first|((apply Yb Wk);exact za;exact rfl;exactλ_ hw=>(JX n hin.cons hw))|refine zgb ?_|(refine zge ?_ ?_<;>intro _<;>try exact zo)|(refine zgh ?_;intro _)|fail)
  all_goals((repeat apply Yj);exact zc9)
 rw[Tf (λh=>h h0)]
 have hck:=λ{H:List HP}{w:World}(hin:n.In B w0 H) (hw:St B w0 H w)=>JX n hin hw
 rw[h0]at hck
 have hns:=λ{H:List HP}{w:World}(hw:St B w0 H w)=>O0 n s hw
 have hnt:=λ{H:List HP}{w:World}(hw:St B w0 H w)=>O0 n t hw
 obtain⟨x1,hx1⟩:∃x,offE n.net s=x:=⟨_,rfl⟩
 obtain⟨x2,hx2⟩:∃x,offE n.net t=x:=⟨_,rfl⟩
 rw[hx1]at hns⊢
 rw[hx2]at hnt⊢
 cases x1 with
 |true=>
  rw[To (.inl rfl)]
  refine YlZ ?_<;>intros
  apply Yb YaE
  exact za
  exact rfl
  exactλ_ hw=>(hns hw)
  refine zX3 ?_
  all_goals((repeat apply Yj);exact zc9)
 |false=>
  cases x2 with
  |true=>
   rw[To (.inr (.inl rfl))]
   refine YlZ ?_<;>intros
   apply Yb YaE
   exact za
   exact rfl
   exactλ_ hw=>(hns hw)
   refine zX3 ?_
   apply Yb YaE
   exact za
   exact rfl
   exactλ_ hw=>(hnt hw)
   refine zX3 ?_
   all_goals((repeat apply Yj);exact zc9)
  |false=>
   by_cases hst:s=t
   ·rw[To (.inr (.inr hst))]
    refine YlZ ?_<;>intros
    apply Yb YaE
    exact za
    exact rfl
    exactλ_ hw=>(hns hw)
    refine zX3 ?_
    apply Yb YaE
    exact za
    exact rfl
    exactλ_ hw=>(hnt hw)
    refine zX50 ?_<;>intros
    all_goals((repeat apply Yj);exact zc3)
   ·rw[Tf (by rintro(h|h|h);exact Bool.false_ne_true h;exact Bool.false_ne_true h;exact hst h)]
    refine YlZ ?_<;>intros
    apply Yb YaE
    exact za
    exact rfl
    exactλ_ hw=>(hns hw)
    refine zX3 ?_
    apply Yb YaE
    exact za
    exact rfl
    exactλ_ hw=>(hnt hw)
    refine zX50 ?_<;>intros
    all_goals((repeat apply Yj);exact zc3)
theorem Yd5{r:List Int}{k:Nat}{x y:Int}(h:r[k]? =some x):(r.take (k+1)).contains y=((r.take k).contains y||decide (y=x)):=by
 simp_all [List.take_add_one]
theorem Yeg(n:NetM)(s t:Int)(r:List Int){A:Option Addr}{cap:Nat}(hin:n.In B w0 H)(hck:Yo n.net=0)(hr:Rd B w0 H A (r.flatMap numF))(hlen:r.length<=1000000000000)(hw:St B w0 H w):
 CX B w0 271 [n.val,.int .i64 s,.int .i64 t,.slice A r.length cap] w λv K=>v=.int .i64 (Jk n.net s t r)/\K=H:=by
 refine Ya Tryz.func271 Tryz.ntmps271 rfl rfl hw ?_
 have hok:=YP hck
 (apply Y5;apply YL;apply Yx;exact rfl;exact rfl;intro g)
 unfold Jk
 by_cases h1:r.length<2
 ·rw[To h1]
  refine zX0 ?_<;>intros
  exact zc21
 rw[Tf h1]
 by_cases h2:9<r.length
 ·rw[To h2]
  refine zX25 ?_<;>intros
  exact zc21
 rw[Tf h2]
 refine zX25 ?_<;>intros
 refine Ye (λ(k:Nat)=>[(9,.int .i64 k),(1,.int .i64 s),(2,.int .i64 t),(3,.slice A r.length cap),(4,.pointer (some ⟨g,0,none⟩))]) (λ_=>netB g n::H) (λk=>k<=r.length/\(r.take k).any (offE n.net)=false) (λk=>r.length-k) 0 ⟨Td _,rfl⟩ ?_ (λw hw=>hw) ?_
 ·exact zc1
 rintro k ⟨hk,hi⟩ K hK
 have hr1:Rd B w0 (netB g n::H) A (r.flatMap numF):=hr.cons
 by_cases hlt:k<r.length
 ·have hgk:=Xq (l:=r) (i:=k) hlt
  obtain⟨x,hx⟩:∃x,r.getD k 0=x:=⟨_,rfl⟩
  rw[hx]at hgk
  have hnd:=λ{H:List HP}{w:World}(hw:St B w0 H w)=>O0 n x hw
  have hst:=Qf (p:=offE n.net) hgk
  cases ho:offE n.net x with
  |true=>
   rw[ho]at hnd
   rw[To (Ybx hgk ho)]
   clear hK
   refine YtU ?_<;>intros
   exact zc21
  |false=>
   rw[ho]at hnd hst
   refine YtU ?_<;>intros
   apply hK (k+1)
   ·exact⟨by omega,by rw[hst,hi];rfl⟩
   ·omega
   ·exact zc1
   exact zc18
 obtain rfl:k=r.length:=by omega
 clear hK
 rw[TC]at hi
 rw[Tf (by rw[hi];decide)]
 have hg0:=Xq (l:=r) (i:=0) (by omega)
 have hg1:=Xq (l:=r) (i:=r.length-1) (by omega)
 have hgi:((r.length:Int)-1).toNat=r.length-1:=by omega
 rw[<-hgi]at hg1
 by_cases h4:r.getD 0 0≠s\/r.getD (r.length-1) 0≠t
 ·rw[To h4]
  rw[<-hgi]at h4
  by_cases h5:r.getD 0 0=s
  ·have h6:r.getD ((r.length:Int)-1).toNat 0≠t:=by
    rcases h4 with h|h
    ·exact absurd h5 h
    ·exact h
   refine zX50 ?_<;>intros
   exact zc21
  ·refine zX50 ?_<;>intros
   exact zc21
 rw[Tf h4]
 rw[<-hgi]at h4
 have h5:r.getD 0 0=s:=SC λh=>h4 (.inl h)
 have h6:r.getD ((r.length:Int)-1).toNat 0=t:=SC λh=>h4 (.inr h)
 clear h4
 refine zX50 ?_<;>intros
 clear hg0 hg1 h5 h6
 refine Ye (λ(k:Nat)=>[(10,.int .i64 k),(3,.slice A r.length cap),(4,.pointer (some ⟨g,0,none⟩))]) (λ_=>netB g n::H) (λk=>k<=r.length/\((List.range k).any λi=>(r.take i).contains (r.getD i 0))=false) (λk=>r.length-k) 0 ⟨Td _,rfl⟩ ?_ (λw hw=>hw) ?_
 ·exact zc1
 rintro k ⟨hk,hi2⟩ K hK
 by_cases hlt:k<r.length
 ·have hgk:=Xq (l:=r) (i:=k) hlt
  obtain⟨x,hx⟩:∃x,r.getD k 0=x:=⟨_,rfl⟩
  rw[hx]at hgk
  refine zX0 ?_<;>intros
  refine Ye (λ(j:Nat)=>[(11,.int .i64 j),(10,.int .i64 k),(3,.slice A r.length cap),(4,.pointer (some ⟨g,0,none⟩))]) (λ_=>netB g n::H) (λj=>j<=k/\(r.take j).contains x=false) (λj=>k-j) 0 ⟨Td _,rfl⟩ ?_ (λw hw=>hw) ?_
  ·exact zc1
  rintro j ⟨hj,hi3⟩ K2 hK2
  by_cases hlt2:j<k
  ·have hgj:=Xq (l:=r) (i:=j) (by omega)
   obtain⟨y,hy⟩:∃y,r.getD j 0=y:=⟨_,rfl⟩
   rw[hy]at hgj
   have hst:=Yd5 (y:=x) hgj
   by_cases hxy:x=y
   ·have hin2:(r.take k).contains x=true:=by
     rw[List.contains_iff_mem]
     have:(r.take k)[j]? =some y:=by rw[RL,To hlt2];exact hgj
     rw[hxy];exact Tc this
    have htw:W4 r=true:=Qg (p:=λi=>(r.take i).contains (r.getD i 0)) hlt (by rw[hx];exact hin2)
    rw[To htw]
    clear hK hK2
    refine zX50 ?_<;>intros
    exact zc21
   ·refine zX50 ?_<;>intros
    apply hK2 (j+1)
    ·exact⟨by omega,by rw[hst,hi3,Tn hxy];rfl⟩
    ·omega
    ·exact zc1
    exact zc18
  ·obtain rfl:j=k:=by omega
   clear hK2
   refine zX1 ?_<;>intros
   apply hK (j+1)
   ·exact⟨by omega,W7 hi2 (by rw[hx];exact hi3)⟩
   ·omega
   ·exact zc1
   exact zc18
 obtain rfl:k=r.length:=by omega
 clear hK
 have htw:W4 r=false:=hi2
 rw[Tf (by rw[htw];decide)]
 refine zX1 ?_<;>intros
 refine Ye (λ(k:Nat)=>[(12,.int .i64 ((k:Int)+1)),(3,.slice A r.length cap),(4,.pointer (some ⟨g,0,none⟩))]) (λ_=>netB g n::H) (λk=>k<=r.length-1/\((List.range k).any λi=>!YZ n.net (r.getD i 0) (r.getD (i+1) 0))=false) (λk=>r.length-1-k) 0 ⟨Td _,rfl⟩ ?_ (λw hw=>hw) ?_
 ·exact zc1
 rintro k ⟨hk,hi3⟩ K hK
 by_cases hlt:k+1<r.length
 ·have hgk:=Xq (l:=r) (i:=k) (by omega)
  have hgk1:=Xq (l:=r) (i:=k+1) (by omega)
  have ei:((k:Int)+1-1).toNat=k:=by omega
  have ei1:((k:Int)+1).toNat=k+1:=by omega
  obtain⟨x,hx⟩:∃x,r.getD k 0=x:=⟨_,rfl⟩
  obtain⟨y,hy⟩:∃y,r.getD (k+1) 0=y:=⟨_,rfl⟩
  rw[hx,<-ei]at hgk
  rw[hy,<-ei1]at hgk1
  have hgd:=λ{H:List HP}{w:World}(hin:n.In B w0 H) (hw:St B w0 H w)=>Yaj n x y hin hok hw
  obtain⟨b,hb⟩:∃b,YZ n.net x y=b:=⟨_,rfl⟩
  rw[hb]at hgd
  cases b with
  |true=>
   refine YtV ?_<;>intros
   apply hK (k+1)
   ·exact⟨by omega,W7 hi3 (by rw[hx,hy,hb];rfl)⟩
   ·omega
   ·exact zc1
   exact zc18
  |false=>
   have hbr:JM n.net r=true:=Qg (k:=k) (by omega) (by rw[hx,hy,hb];rfl)
   rw[To hbr]
   clear hK
   refine YtV ?_<;>intros
   exact zc21
 ·have ek:k=r.length-1:=by omega
  have hbr:JM n.net r=false:=by rw[ek]at hi3;exact hi3
  rw[Tf (by rw[hbr];decide)]
  clear hK
  refine zX1 ?_<;>intros
  exact zc21
open Go.ChangeShapes Go.WideShapes Go.ChangeAt Go.RowKit Go.Eng Go.Nw Go.Rt
section
variable {H:Type}{enc:TypeId×Value->H}{W:World}{spare:Nat->Bool}{held:Bool}
structure RtG(W:World)(r:RowM):Prop where
 old:Old W r.A (r.xs.flatMap numF)
 len:r.xs.length<=9223372036854775807
 cap:r.xs.length<=r.cap
 good:∀z∈r.xs,I64 z
theorem YpT:Opn enc Tryz.prog W spare held 127 rowF (RtG W):=
 JH (Zs (q:=1) Tryz.underlying127 (by kernel_rfl) (by decide) op_i) YlL (λ_=>rfl) (λ_ h=>⟨h.old,TX h.len maxL,h.cap,h.good⟩)
theorem Ygb:Opn enc Tryz.prog W spare held 24 rowF (RtG W):=
 JH Yga YlL (λ_=>rfl) (λ_ h=>⟨h.old,TX h.len maxL,h.cap,h.good⟩)
theorem Ye6:Opn enc Tryz.prog W spare held 91 (λs:SlM RowM=>[s.val]) (SlG W rowF (RtG W)):=Zs (q:=1) Tryz.underlying91 (by kernel_rfl) (by decide) YpT
theorem YpS:Opn enc Tryz.prog W spare held 22 (λs:SlM RowM=>[s.val]) (SlG W rowF (RtG W)):=Zs (q:=1) Tryz.underlying22 (by kernel_rfl) (by decide) Ygb
structure RqG(W:World)(x:RqM):Prop where
 f:FlwG x.f
 old:Old W x.A (x.rows.flatMap rowF)
 len:x.rows.length<=9223372036854775807
 cap:x.rows.length<=x.cap
 good:∀r∈x.rows,RtG W r
theorem Ykw:Opn enc Tryz.prog W spare held 93 rqF (RqG W):=
 JH (Ze (ts:=[45,91]) (by kernel_rfl) (Ys Yr4 (Ys Ye6 Jm)))
  (λx=>⟨x.1,x.2.1.A,x.2.1.cap,x.2.1.xs⟩) (λx=>by simp[rqF,flwF,SlM.val]) (λx h=>by
   obtain⟨h1,h2,_⟩:=h
   exact⟨h1,h2.old,TX h2.len maxL,h2.cap,h2.good⟩)
theorem Yiu:Opn enc Tryz.prog W spare held 30 (λs:SlM RqM=>[s.val]) (SlG W rqF (RqG W)):=Zs (q:=7) Tryz.underlying30 (by kernel_rfl) (by decide) Ykw
structure ClG(W:World)(c:ClM):Prop where
 f:I64 c.flow
 rt:Old W c.rA (c.rs.flatMap rowF)
 rg:∀r∈c.rs,RtG W r
 bd:RtG W ⟨c.bA,c.bcap,c.bs⟩
 ws:RtG W ⟨c.wA,c.wcap,c.ws⟩
 st:Old W c.sA (c.ss.flatMap rowF)
 sg:∀r∈c.ss,RtG W r
 rl:c.rs.length<=9223372036854775807
 sl:c.ss.length<=9223372036854775807
 rc:c.rs.length<=c.rcap
 sc:c.ss.length<=c.scap
theorem YpQ:Opn enc Tryz.prog W spare held 189 clF (ClG W):=
 JH (Ze (ts:=[3,91,24,24,22]) (by kernel_rfl) (Ys op_i (Ys Ye6 (Ys Ygb (Ys Ygb (Ys YpS Jm))))))
  (λx=>⟨x.1,x.2.1.A,x.2.1.cap,x.2.1.xs,x.2.2.1.A,x.2.2.1.cap,x.2.2.1.xs,x.2.2.2.1.A,x.2.2.2.1.cap,x.2.2.2.1.xs,x.2.2.2.2.1.A,x.2.2.2.2.1.cap,x.2.2.2.2.1.xs⟩) (λx=>by simp[clF,numF,rowF,SlM.val]) (λx h=>by
   obtain⟨h1,h2,h3,h4,h5,_⟩:=h
   exact⟨h1,h2.old,h2.good,h3,h4,h5.old,h5.good,TX h2.len maxL,TX h5.len maxL,h2.cap,h5.cap⟩)
theorem Yno:Opn enc Tryz.prog W spare held 35 (λs:SlM ClM=>[s.val]) (SlG W clF (ClG W)):=Zs (q:=5) Tryz.underlying35 (by kernel_rfl) (by decide) YpQ
end
open Go.RowKit Go.Eng Go.Nw
variable {B:Nat}{w0 w:World}{H:List HP}
theorem Ya1(l:List Flw)(id:Int)(hlen:l.length<=1000){A:Option Addr}{cap:Nat}(hr:Rd B w0 H A (l.flatMap flwF))(hw:St B w0 H w):
 CX B w0 71 [.slice A l.length cap,.int .i64 id] w λv K=>v=.int .i64 (Zr l id)/\K=H:=by
 refine Ya Tryz.func71 Tryz.ntmps71 rfl rfl hw ?_
 refine zX9 ?_
 refine Ye (λ(i:Nat)=>[(5,.int .i64 i),(0,.slice A l.length cap),(1,.int .i64 id)]) (λ_=>H) (λi=>i<=l.length/\Zr l id=Yp (λf:Flw=>decide (f.1=id)) (l.drop i) i) (λi=>l.length-i) 0 ⟨Td _,by simp[Zr]⟩ ?_ (λw hw=>hw) ?_
 ·exact zc1
 rintro i ⟨hi,he⟩ K hK
 by_cases hlt:i<l.length
 ·have hget:l[i]? =some (Y4 l i):=Vt hlt
  rw[Jo _ l hget]at he
  by_cases h:(Y4 l i).1=id
  ·rw[To (Ti h)]at he
   rw[he]
   refine zX50 ?_<;>intros
   exact zc3
  ·rw[Tf (by simpa using h)]at he
   refine zX50 ?_<;>intros
   apply hK (i+1)
   ·exact⟨by omega,he⟩
   ·omega
   ·exact zc1
   exact zc18
 ·refine zX1 ?_<;>intros
  apply Yc;exact rfl;exact rfl
  rw[he,Rn (by omega)]
  exact Q3
theorem YiL(s:SchM)(i:Nat)(hi:i<s.cells.length)(hl:s.cells.length<=1000)(hr:Rd B w0 H s.A (s.cells.flatMap celF))(hw:St B w0 H w):
 CX B w0 334 [s.val,.int .i64 i] w λv K=>∃A cap,v=.tuple #[.slice A (YH s.sch i).length cap,.int .i64 (YK s.sch i)]/\K=cels A cap (YH s.sch i)::H:=by
 refine Ya Tryz.func334 Tryz.ntmps334 rfl rfl hw ?_
 have hgi:s.cells[i]? =some (Yl s.sch i):=YS (s:=s.sch) hi
 obtain⟨c,hc⟩:∃c,Yl s.sch i=c:=⟨_,rfl⟩
 have hS:YH s.sch i=s.cells.filter (Xg c):=by unfold YH;rw[hc];rfl
 have hA:YK s.sch i=((s.cells.take i).filter (Xg c)).length:=by unfold YK;rw[hc];rfl
 rw[hS,hA]
 rw[hc]at hgi
 repeat'(first|(apply Yw T;exact rfl;exact rfl;intro g5)|refine zgb ?_|(refine zgh ?_;intro _)|fail)
 rename_i gs
 refine Ye (λ(z:Nat×Option Addr×Nat)=>[(8,.int .i64 z.1),(6,.slice z.2.1 ((s.cells.take z.1).filter (Xg c)).length z.2.2),(7,.int .i64 (if i<z.1 then(((s.cells.take i).filter (Xg c)).length:Int)else 0)),(2,.pointer (some ⟨gs,0,none⟩)),(1,.int .i64 i)])
  (λz=>cels z.2.1 z.2.2 ((s.cells.take z.1).filter (Xg c))::blk gs (.cells #[.int .i64 s.len,.int .i64 s.off,.slice s.A s.cells.length s.cap] 33 (0,0))::H) (λz=>z.1<=s.cells.length) (λz=>s.cells.length-z.1) (0,some ⟨g5,0,none⟩,0) (Td _) ?_ (λw hw=>hw) ?_
 ·exact zc1
 rintro⟨k,A,cap⟩ hk K hK
 dsimp only at hk⊢
 have hM:=YeO (p:=Xg c) (l:=s.cells) (i:=k)
 by_cases hlt:k<s.cells.length
 ·have hget:s.cells[k]? =some (Yl s.sch k):=YS (s:=s.sch) hlt
  have hE:=YaL (p:=Xg c) hget
  obtain⟨d,hd⟩:∃d,Yl s.sch k=d:=⟨_,rfl⟩
  rw[hd]at hE hget
  obtain⟨M,hMe⟩:∃M,(s.cells.take k).filter (Xg c)=M:=⟨_,rfl⟩
  rw[hMe]at hE hM⊢
  obtain⟨a9,ha9⟩:∃a:Int,(if i<k then(((s.cells.take i).filter (Xg c)).length:Int)else 0)=a:=⟨_,rfl⟩
  obtain⟨b9,hb9⟩:∃a:Int,(if i<k+1 then(((s.cells.take i).filter (Xg c)).length:Int)else 0)=a:=⟨_,rfl⟩
  have hab:b9=if k=i then(M.length:Int)else a9:=by
   rw[<-hb9,<-ha9]
   by_cases e:k=i
   ·subst e;rw[To (by omega),To rfl,hMe]
   ·rw[Tf e]
    by_cases h:i<k
    ·rw[To (by omega),To h]
    ·rw[Tf (by omega),Tf h]
  rw[ha9]
  unfold cels
  have hpl:Xg c d=true↔d.1=c.1/\d.2.1=c.2.1:=by unfold Xg;rw[Tm]
  by_cases hp:d.1=c.1/\d.2.1=c.2.1
  ·rw[To (hpl.2 hp)]at hE
   by_cases e:k=i
   ·rw[To e]at hab
    refine Yft ?_<;>intros
    rename_i A9 cap9
    apply hK (k+1,A9,cap9)
    ·exact Yfu
    ·show _-(k+1)<_-k
     omega
    ·dsimp only
     rw[hE,hb9,hab,Tt]
     exact zc1
    ·intro w hw
     dsimp only
     rw[hE]
     rw[Z7]at hw
     revert w
     exact zc0
   ·rw[Tf e]at hab
    refine Yft ?_<;>intros
    rename_i A9 cap9
    apply hK (k+1,A9,cap9)
    ·exact Yfu
    ·show _-(k+1)<_-k
     omega
    ·dsimp only
     rw[hE,hb9,hab,Tt]
     exact zc1
    ·intro w hw
     dsimp only
     rw[hE]
     rw[Z7]at hw
     revert w
     exact zc0
  ·rw[Tf (λh=>hp (hpl.1 h)),Ru]at hE
   have hki:k≠i:=λe=>by
    subst e
    rw[hc]at hd
    subst hd
    exact hp ⟨rfl,rfl⟩
   rw[Tf hki]at hab
   repeat'(first|refine zgd ?_|(refine zge ?_ ?_<;>intro _<;>try exact zo)|fail)
   all_goals(
    apply hK (k+1,A,cap)
    ·show k+1<=_
     omega
    ·show _-(k+1)<_-k
     omega
    ·dsimp only
     rw[hE,hb9,hab]
     exact zu
    ·dsimp only
     rw[hE]
     exactλw hw=>hw)
 ·obtain rfl:k=s.cells.length:=by omega
  rw[TC,To hi]
  refine zX1 ?_<;>intros
  apply Yf (cels A cap (s.cells.filter (Xg c))::H)
  ·exact zc0
  exact YqG
variable {B:Nat}{w0 w:World}{H:List HP}
theorem Ynf(n:NetM)(a b:Int)(hg:YZ n.net a b=true)(hin:n.In B w0 H)(hw:St B w0 H w):
 CX B w0 307 [n.val,.int .i64 a,.int .i64 b] w λv K=>v=.int .i64 (QB n.net a b)/\K=H:=by
 refine Ya Tryz.func307 Tryz.ntmps307 rfl rfl hw ?_
 obtain⟨hpw,hrw,hlk,hmg,hs1,hs2,hs3,hs4⟩:=id hin
 (apply Y5;apply YL;apply Yx;exact rfl;exact rfl;intro g)
 have hf:=Vi hg
 have hfl:=XP hf
 have e7:n.net.links=n.links:=rfl
 rw[e7]at hfl
 have hlx:n.links[(Yv n.net a b).toNat]? =some (lnk n.net (Yv n.net a b).toNat):=WQ n.net hfl
 have hfi:=λ{H:List HP}{w:World}(hin:n.In B w0 H) (hw:St B w0 H w)=>Vy n a b hin hw
 have hlo:QB n.net a b=(lnk n.net (Yv n.net a b).toNat).2.2:=rfl
 obtain⟨fi,hfi2⟩:∃x,Yv n.net a b=x:=⟨_,rfl⟩
 rw[hfi2]at hfi hlx hf hfl hlo
 obtain⟨lk,hlk2⟩:∃x,lnk n.net fi.toNat=x:=⟨_,rfl⟩
 rw[hlk2]at hlx hlo
 have hlk3:Rd B w0 (netB g n::H) n.lA (n.links.flatMap lkF):=hlk.cons
 rw[hlo]
 repeat'(first|((apply Ym YeK);exact za;exact rfl;exactλ_ hw=>(hfi hin.cons hw))|(apply zg28;refine zs84 ?_)|refine zgd ?_|fail)
 exact zc21
theorem Ypa{n:Net}{s t:Int}(h:Zq n s t=0):Yo n=0/\(0<=s/\s<n.nodes)/\(0<=t/\t<n.nodes)/\s≠t:=by
 unfold Zq offE at h
 grind
theorem YaZ(n:NetM)(s t:Int)(r:List Int){A:Option Addr}{cap:Nat}(hin:n.In B w0 H)(hr:Rd B w0 H A (r.flatMap numF))(hlen:r.length<=1000000000000)(hw:St B w0 H w):
 CX B w0 186 [n.val,.int .i64 s,.int .i64 t,.slice A r.length cap] w λv K=>v=.int .i64 (Xw n.net s t r)/\K=H:=by
 refine Ya Tryz.func186 Tryz.ntmps186 rfl rfl hw ?_
 unfold Xw
 by_cases h0:Zq n.net s t=0
 ·have hck:=(Ypa h0).1
  have hen:=λ{H:List HP}{w:World}(hin:n.In B w0 H) (hw:St B w0 H w)=>Ydm n s t hin hw
  rw[h0]at hen
  rw[Tf (λh=>h h0)]
  repeat'(first|((apply Yb Ys3);exact za;exact rfl;exactλ_ hw=>(hen hin.cons hw))|((apply Yb YwY);exact za;exact rfl;exactλ_ hw=>(Yeg n s t r hin.cons hck hr.cons hlen hw))|refine zgb ?_|(refine zge ?_ ?_<;>intro _<;>try exact zo)|(refine zgh ?_;intro _)|fail)
  (repeat apply Yj);exact zc9
 ·rw[To h0]
  repeat'(first|((apply Yb Ys3);exact za;exact rfl;exactλ_ hw=>(Ydm n s t hin.cons hw))|refine zgb ?_|(refine zge ?_ ?_<;>intro _<;>try exact zo)|(refine zgh ?_;intro _)|fail)
  (repeat apply Yj);exact zc9
end Go.Proofs.YtjommdkgfbhbdaaGreatDoor
