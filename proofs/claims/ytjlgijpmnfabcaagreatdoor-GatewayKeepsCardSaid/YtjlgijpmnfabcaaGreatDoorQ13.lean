/- Lemmas. -/
import Derived.Test.YtjlgijpmnfabcaaGreatDoorQ10
import Derived.Test.YtjlgijpmnfabcaaGreatDoorQ11
set_option maxRecDepth 100000
set_option maxHeartbeats 8000000
set_option linter.all false
namespace Go.Proofs.YtjlgijpmnfabcaaGreatDoor
open Go.RowKit Go.Eng Go.Nw Go.Rt
structure Pst where
 c:List Clm
 last:Nat
def YkL:Pst:=⟨[],3⟩
structure Rdr(p:Pst):Prop where
 full:∀i x,p.c[i]? =some x->i+1<p.c.length->x.bounds.length=x.routes.length/\x.worst.length=x.routes.length/\x.slots.length=x.routes.length/\1<=x.routes.length/\x.routes.length<=2
 some_:p.c=[]->p.last=3
 at_:∀cs x,p.c=cs++[x]->
  (p.last=0/\x.routes=[]/\x.bounds=[]/\x.worst=[]/\x.slots=[])\/
  (p.last=1/\1<=x.routes.length/\x.routes.length<=2/\x.bounds.length+1=x.routes.length/\x.worst.length+1=x.routes.length/\x.slots.length+1=x.routes.length)\/
  (p.last=2/\1<=x.routes.length/\x.routes.length<=2/\x.bounds.length=x.routes.length/\x.worst.length=x.routes.length/\x.slots.length+1=x.routes.length)\/
  (p.last=3/\1<=x.routes.length/\x.routes.length<=2/\x.bounds.length=x.routes.length/\x.worst.length=x.routes.length/\x.slots.length=x.routes.length)
theorem Rdr.start:Rdr YkL:=⟨λi x h=>by simp[YkL]at h,λ_=>rfl,λcs x h=>by simp[YkL]at h⟩
variable {X:List Cel}
theorem Od{Y:List Cel}{k:Nat}(h:k<X.length):celL (X++Y) k=celL X k:=by
 grind [celL]
theorem Ycb(X:List Cel)(c:Cel):celL (X++[c]) X.length=c:=by
 simp_all [celL]
theorem Ui(X:List Cel)(c:Cel)(k:Nat):celL (c::X) (k+1)=celL X k:=by
 grind [celL]
theorem Q8(X:List Cel)(c:Cel):celL (c::X) 0=c:=rfl
theorem OP(n:Net)(X Y:List Cel)(j:Nat)(node:Int):∀k,k<=X.length->YD n (X++Y) j node k=YD n X j node k
 |0,_=>rfl
 |k+1,h=>by rw[YD,YD,OP n X Y j node k (by omega),Od (by omega)]
theorem Yaa(n:Net)(X:List Cel)(c:Cel)(i:Nat)(node:Int):∀k,YD n (c::X) (i+1) node (k+1)=(powN n (Yr c) node+powN n (toC c) node)+YD n X i node k
 |0=>by simp_all [YD,Q8]
 |k+1=>by
  rw[YD,Yaa n X c i node k,YD,Ui]
  omega
theorem OO(n:Net)(X:List Cel)(c:Cel)(node:Int)(j:Nat):∀k,k<=j->YD n (c::X) 0 node (k+1)=YD n X j node k
 |0,_=>by simp_all [YD]
 |k+1,h=>by
  rw[YD,OO n X c node j k (by omega),YD,Ui,Tf (by omega),Tf (by omega)]
theorem YmC(X:List Cel)(c:Cel)(i:Nat)(hi:i<X.length)(T:Cel->Bool):((List.range (X++[c]).length).any λk=>decide (k≠i)&&T (celL (X++[c]) k))=(((List.range X.length).any λk=>decide (k≠i)&&T (celL X k))||T c):=by
 rw[Tt,TO,RL,List.any_append]
 congr 1
 ·rw[NM,Rf,Rf]
  constructor
  ·grind [Od]
  ·grind [Od]
 ·rw[List.any_cons,List.any_nil,NW,Ycb,Tj (show X.length≠i by omega),SB]
theorem YmA(X:List Cel)(c:Cel)(i:Nat)(T:Cel->Bool):((List.range (c::X).length).any λk=>decide (k≠i+1)&&T (celL (c::X) k))=(T c||(List.range X.length).any λk=>decide (k≠i)&&T (celL X k)):=by
 rw[TZ,SE,List.any_cons,List.any_map,Q8,Tj (show 0≠i+1 by omega),SB]
 congr 1
 exact zc57
theorem YmB(X:List Cel)(c:Cel)(T:Cel->Bool):((List.range (X++[c]).length).any λk=>decide (k≠X.length)&&T (celL (X++[c]) k))=(List.range X.length).any λk=>T (celL X k):=by
 rw[Tt,TO,RL,List.any_append,List.any_cons,List.any_nil,NW,show decide (X.length≠X.length)=false by simp,NV,NW]
 rw[NM,Rf,Rf]
 constructor
 ·rintro⟨k,hk,h⟩;refine⟨k,hk,?_⟩;simp_all [Od]
 ·rintro⟨k,hk,h⟩
  refine⟨k,hk,?_⟩
  have:=Ru.1 hk
  rw[Od this,To]
  grind
theorem Ymz(X:List Cel)(c:Cel)(T:Cel->Bool):((List.range (c::X).length).any λk=>decide (k≠0)&&T (celL (c::X) k))=(List.range X.length).any λk=>T (celL X k):=by
 rw[TZ,SE,List.any_cons,List.any_map,show decide ((0:Nat)≠0)=false by simp,NV,NX]
 exact zc57
variable {c c':Cel}
theorem W9{d:Cel}(hf:Yr c=Yr c')(ht:toC c=toC c'):YI c d=YI c' d/\YI d c=YI d c':=by
 unfold YI;simp_all
theorem YeF(n:Net)(X:List Cel)(c:Cel)(i:Nat)(hi:i<X.length)(node:Int):YD n (X++[c]) i node (X++[c]).length=YD n X i node X.length+(powN n (Yr c) node+powN n (toC c) node):=by
 rw[Tt,TO,YD,OP n X [c] i node _ (TM _),Tf (by omega),Ycb]
theorem Ycp(n:Net)(X:List Cel)(c:Cel)(node:Int):YD n (X++[c]) X.length node (X++[c]).length=YD n X X.length node X.length:=by
 simp_all [YD,OP]
theorem YcS{n:Net}(hf:Yr c=Yr c')(ht:toC c=toC c'):Jm n (X++[c])=Jm n (c'::X):=by
 have h1:∀i,i<X.length->Zm n (X++[c]) i=Zm n (c'::X) (i+1):=λi hi=>by
  unfold Zm
  rw[Od hi,Ui,YmC X c i hi,YmA,YeF n X c i hi,YeF n X c i hi,TZ,Yaa,Yaa,(W9 hf ht).2,hf,ht,Bool.or_comm (YI _ c')]
  grind
 have h2:Zm n (X++[c]) X.length=Zm n (c'::X) 0:=by
  unfold Zm
  rw[Ycb,Q8,YmB,Ymz,Ycp,Ycp,TZ,OO n X c' _ X.length _ (TM _),OO n X c' _ X.length _ (TM _),hf,ht]
  have:(λk=>YI c (celL X k))=λk=>YI c' (celL X k):=funext λk=>(W9 hf ht).1
  rw[this]
 unfold Jm
 rw[Tt,TO,RL,List.all_append,TZ,SE,NL,List.all_nil,Bool.and_true,NL,List.all_map,h2,Bool.and_comm]
 grind
def fitE(n:Net)(l:List Cel)(slot o a b:Int):Bool:=!(l.any λd=>decide (d.1=slot)&&YI d (0,0,a,b,0))&&Jm n (l.filter (atP slot o)++[(0,0,a,b,0)])
def hasC(l:List Cel)(slot a b id:Int):Bool:=l.any λd=>decide (d.1=slot/\Yr d=a/\toC d=b/\Xr d=id)
def Jt(n:Net)(s:Sch)(a b id slot:Int):Option Sch:=
 if hasC s.cells slot a b id=true then some s else((List.range s.off.toNat).find? λo:Nat=>fitE n s.cells slot o a b).map λo:Nat=>⟨s.len,s.off,insC s.cells (slot,(o:Int),a,b,id)⟩
def hopA(n:Net)(a b id:Int):Nat->Nat->Sch->Int->Option (Sch×Int)
 |_,0,s,z=>some (s,z)
 |0,_+1,_,_=>none
 |f+1,k+1,s,z=>match Jt n s a b id (z.tmod s.len)with
  |some t=>hopA n a b id f k t (z+1)
  |none=>hopA n a b id f (k+1) s (z+1)
def relA(n:Net)(id endd:Int):List Lk->Sch->Int->Option Sch
 |[],s,_=>some s
 |l::ls,s,z=>match hopA n l.1 l.2.1 id (endd-z).toNat (YV l) s z with
  |none=>none
  |some (t,y)=>relA n id endd ls t y
def Yfp(n:Net)(f:Flw)(ls:List Lk):Nat->Sch->Int->Option Sch
 |0,s,_=>some s
 |k+1,s,z=>if z<s.len then match relA n f.1 (z+f.2.2.2.2.2) ls s z with
  |none=>none
  |some t=>Yfp n f ls k t (z+f.2.2.2.1)
  else some s
def Ub(n:Net)(f:Flw):List (List Int)->Sch->Option Sch
 |[],s=>some s
 |r::rs,s=>match Yfp n f (YB n r) s.len.toNat s f.2.2.2.2.1 with
  |none=>none
  |some t=>Ub n f rs t
end Go.Proofs.YtjlgijpmnfabcaaGreatDoor
namespace Go.Eng
open Go.RowKit
section
variable {P:Program}{ops:Array Oper}{Q:Exit->Act->World->Prop}
def NoQ:Exit->Act->World->Prop:=λ_ _ _=>False
theorem YpQ:¬LetsOut NoQ:=zc45
def YdP(P:Program)(ops:Array Oper)(S:World->Prop)(last:List Nat)(Z:Array Bool->Act->World->Prop):Nat->Array Bool->Act->World->Prop
 |0,listed,a,w=>(∀j,j<ops.size->last.contains j=false->listed.getD j false=true)/\Z listed a w
 |m+1,listed,a,w=>Region.ready .any ops listed≠[]/\∀i∈Region.ready .any ops listed,last.contains i=false/\wpOp P ops NoQ i (λa' w'=>S w'/\YdP P ops S last Z m (listed.setIfInBounds i true) a' w') a w
variable {o:Oper}{a:Act}{w:World}{K:Act->World->Prop}
theorem Yvb(h:o.wp P a w K NoQ):o.wpIn Fence.wide 0 P a w K Q:=by
 refine⟨λf _=>trivial,?_⟩
 unfold Oper.wp at h
 have hs:Oper.semAt Fence.wide.round a.eval o=execOp a.eval o:=Oper.semAt_none _ _
 rw[hs]
 generalize(execOp a.eval o).run P w=res at h⊢
 cases res with
 |ok x w'=>
  cases x<;>simp only[Oper.upon,Oper.uponIn]at h⊢<;>first
   |exact h
   |(refine⟨λhd=>by simp[Fence.wide]at hd,?_⟩
     refine CallsIn.mono (callsIn_wide.2 h) λe w'' he=>?_
     cases e with
     |returned u=>exact he
     |panicked c=>exact he.elim
     |outgrown=>obtain⟨_,_,he⟩:=he;exact he.elim)
   |(refine⟨λhd=>by simp[Fence.wide]at hd,λc cs _=>?_⟩
     obtain⟨v,w2,k1,k2⟩:=h c cs
     exact⟨v,w2,k1,stepsIn_wide.2 k2⟩)
   |exact h.elim
 |halt x w'=>cases x<;>simp only[Oper.upon,Oper.uponIn]at h⊢<;>first|exact h.elim|exact h
theorem Ybx{S:World->Prop}{last:List Nat}{Z:Array Bool->Act->World->Prop}{k:Nat}(hz:∀listed a w,Z listed a w->wpAnyIn Fence.wide 0 P .any ops Q k listed a w):∀(m:Nat) (listed:Array Bool) (a:Act) (w:World),YdP P ops S last Z m listed a w->wpAnyIn Fence.wide 0 P .any ops Q (m+k) listed a w
 |0,listed,a,w,h=>by rw[RV];exact hz _ _ _ h.2
 |m+1,listed,a,w,h=>by
  rw[show m+1+k=(m+k)+1 by omega]
  refine⟨λe=>absurd e h.1,λi hi=>?_⟩
  have h2:=(h.2 i hi).2
  unfold wpOp at h2
  unfold wpOpIn
  cases ho:ops[i]? with
  |none=>rw[ho]at h2;exact Ybx hz m _ _ _ h2.2
  |some o=>
   rw[ho]at h2
   simp only at h2⊢
   split
   ·rename_i hw
    rw[Tm hw]at h2
    rcases h2 with h2|⟨_,h2⟩
    ·exact Yvb (Oper.wp_mono (λa w h=>Ybx hz m _ a w h.2) h2)
    grind [YpQ]
   ·rename_i hw
    rw[Tf hw]at h2
    exact⟨λf _=>trivial,Ybx hz m _ _ w h2.2⟩
variable {i:Nat}
theorem YdO{listed:Array Bool}(h:listed.getD i true=false):listed.getD i false=false:=by
 grind
variable {last:List Nat}
theorem Yjz{S:World->Prop}{Z:Array Bool->Act->World->Prop}{oi:Oper}{v:Value}(hi:ops[i]? =some oi)(hsel:∀(j:Nat) (o:Oper) cs b,ops[j]? =some o->o.op≠.select cs b)
 (hlast:∀j,last.contains j=true->∃f,ancB ops f j i=true) (hil:last.contains i=false):
 ∀(m:Nat) (listed:Array Bool) (a:Act) (w:World),Closed ops listed->
  (∀j oj,ops[j]? =some oj->j≠i->listed.getD j true=false->(∀e∈oj.after,Region.binds .any e=true->e.on≠i)->oi.apart ops oj=true)->
  i∈Region.ready .any ops listed->YieldsIf P ops S oi v a->S w->
  YdP P ops S last Z m (listed.setIfInBounds i true) (a.put oi.dst v) w->YdP P ops S last Z (m+1) listed a w:=by
 intro m
 induction m with
 |zero=>
  intro listed a w hcl _ hr hy hS H
  refine⟨λh=>(by simp_all),λj hj=>?_⟩
  by_cases hji:j=i
  ·subst hji;exact⟨hil,hy.wpOp hi hS ⟨hS,H⟩⟩
  ·obtain⟨hjun,oj,hoj,hall⟩:=mem_ready.1 hj
   have hun':=YdO (mem_ready.1 hr).1
   cases hc:last.contains j with
   |true=>
    grind [UN]
   |false=>
    have h1:=H.1 j (Array.getElem?_eq_some_iff.1 hoj).1 hc
    rw[getD_set_ne false (S5 hji),YdO hjun]at h1
    cases h1
 |succ m ih=>
  intro listed a w hcl hfree hr hy hS H
  refine⟨λh=>(by rw[h]at hr;cases hr),λj hj=>?_⟩
  by_cases hji:j=i
  ·subst hji;exact⟨hil,hy.wpOp hi hS ⟨hS,H⟩⟩
  ·obtain⟨hnl,h1⟩:=H.2 j (ready_mono hj hji)
   obtain⟨hjun,oj,hoj,hall⟩:=mem_ready.1 hj
   have hun':=YdO (mem_ready.1 hr).1
   have hnot:∀e∈oj.after,Region.binds .any e=true->e.on≠i:=by grind
   have h2:=wpOp_putIf hoj (hfree j oj hoj hji hjun hnot) (λcs b=>hsel i oi cs b hi) (λcs b=>hsel j oj cs b hoj) (λc a w h=>h.elim) hy h1
   have hfree':∀k ok,ops[k]? =some ok->k≠i->(listed.setIfInBounds j true).getD k true=false->
    (∀e∈ok.after,Region.binds .any e=true->e.on≠i)->oi.apart ops ok=true:=λk ok hk hki hu hno=>by
    exact zc19
   refine⟨hnl,wpOp_mono (λa' w' h3=>⟨h3.2.1,ih (listed.setIfInBounds j true) a' w' (hcl.set hj) hfree' (ready_mono hr (S5 hji)) h3.1 h3.2.1 ?_⟩) h2⟩
   exact zc56
def Yai(ops:Array Oper):List Nat->Array Bool->Bool
 |[],listed=>(Region.ready .any ops listed).isEmpty
 |i::r,listed=>decide (Region.ready .any ops listed=[i])&&Yai ops r (listed.setIfInBounds i true)
def Ydk(ops:Array Oper)(last:List Nat):List Nat->Array Bool->Bool
 |[],listed=>((List.range ops.size).all λj=>last.contains j||listed.getD j false)&&Yai ops last listed
 |i::rest,listed=>
  (match ops[i]? with
   |some o=>if eff o then decide (Region.ready .any ops listed=[i])else(Region.ready .any ops listed).contains i&&Region.free .any ops listed i
   |none=>false)&&Ydk ops last rest (listed.setIfInBounds i true)
def YpD(ops:Array Oper)(last:List Nat):Bool:=
 last.all λj=>(List.range ops.size).all λi=>last.contains i||(match ops[i]? with|some o=>eff o|none=>false)||ancB ops ops.size j i
theorem Yj7(h:YpD ops last=true):∀i oi,ops[i]? =some oi->eff oi=false->last.contains i=false->∀j,last.contains j=true->∃f,ancB ops f j i=true:=λi oi hi he hl j hj=>by
 exact zc94
variable {l:List Oper}
theorem Yfg(hl:ops=l.toArray)(ho:ops[i]? =some o):nthO l i=o:=by
 grind [QK]
theorem YcO{l:List Oper}(hl:ops=l.toArray):∀(o2:List Nat) (listed:Array Bool) (a:Act) (w:World),Yai ops o2 listed=true->wpListIn Fence.wide 0 P ops Q (Ye l o2) a w->wpAnyIn Fence.wide 0 P .any ops Q o2.length listed a w
 |[],listed,a,w,hB,h=>⟨by grind [Yai],h⟩
 |i::r,listed,a,w,hB,h=>by
  simp only[Yai,To,Tq]at hB
  refine⟨λh0=>(by simp_all),λk hk=>?_⟩
  have hk':=hk
  obtain rfl:k=i:=by simp_all
  obtain⟨_,o,ho,_⟩:=mem_ready.1 hk'
  unfold wpOpIn
  simp only[ho]
  rw[Ye,Yfg hl ho]at h
  unfold wpListIn at h
  split
  ·rename_i hw
   rw[Tm hw]at h
   exact Oper.wpIn_mono (λa w h=>YcO hl r _ a w hB.2 h) h
  ·rename_i hw
   rw[Tf hw]at h
   exact⟨h.1,YcO hl r _ _ w hB.2 h.2⟩
def YQH(P:Program)(ops:Array Oper)(Q:Exit->Act->World->Prop)(l:List Oper):Exit->Act->World->Prop
 |.normal,a,w=>wpListIn Fence.wide 0 P ops Q l a w
 |_,_,_=>False
theorem YvB(h:o.wp P a w K (YQH P ops Q l)):o.wp P a w K NoQ:=by
 unfold Oper.wp at h⊢
 generalize(execOp a.eval o).run P w=r at*
 cases r with
 |ok nx w'=>
  exact zc31
 |halt x w'=>
  cases x<;>simp only[Oper.upon]at h⊢<;>exact h
theorem VZ{S:World->Prop}{last:List Nat}(hs:Region.noSelect ops=true)(l:List Oper)(hl:ops=l.toArray)(hlast:YpD ops last=true):
 ∀(o1:List Nat) (listed:Array Bool) (a:Act) (w:World),Closed ops listed->(∀j∈o1,last.contains j=false)->Ydk ops last o1 listed=true->S w->Yw P ops (YQH P ops Q (Ye l last)) S (Ye l o1) a w->
  YdP P ops S last (λlisted a w=>Yai ops last listed=true/\wpListIn Fence.wide 0 P ops Q (Ye l last) a w) o1.length listed a w
 |[],listed,a,w,_,_,hB,_,h=>by
  simp only[Ydk,To]at hB
  refine⟨λj hj hc=>?_,hB.2,h⟩
  grind
 |i::rest,listed,a,w,hcl,hno,hB,hS,h=>by
  simp only[Ydk,To]at hB
  obtain⟨h1,h2⟩:=hB
  have hno':∀j∈rest,last.contains j=false:=by simp_all
  cases ho:ops[i]? with
  |none=>simp_all
  |some o=>
   rw[ho]at h1
   simp only[Ye,Yfg hl ho]at h
   by_cases he:eff o=true
   ·simp only[he,Nq,Tq]at h1
    unfold Yw at h
    rw[Tm he]at h
    refine⟨λh0=>(by simp_all),λk hk=>?_⟩
    have hk':=hk
    rw[h1]at hk
    obtain rfl:k=i:=by simp_all
    refine⟨hno k (by simp),?_⟩
    unfold wpOp
    simp only[ho]
    by_cases hw:Region.wanted o (yielded ops a.tmps)=true
    ·rw[Tm hw]at h⊢
     exact .inl (YvB (Oper.wp_mono (λa' w' h'=>⟨h'.1,VZ hs l hl hlast rest _ a' w' (hcl.set hk') hno' h2 h'.1 h'.2⟩) h))
    ·rw[Tf hw]at h⊢
     exact⟨hS,VZ hs l hl hlast rest _ _ w (hcl.set hk') hno' h2 hS h⟩
   ·simp only[he]at h1
    simp only[RU,NS,To]at h1
    unfold Yw at h
    rw[Tf he]at h
    obtain⟨v,hy,h3⟩:=h
    have hr:i∈Region.ready .any ops listed:=by simpa using h1.1
    exact Yjz ho (Region.noSelect_spec hs) (Yj7 hlast i o ho (by simpa using he) (hno i (by simp))) (hno i (by simp)) _ listed a w hcl (Region.free_spec ho h1.2) hr hy hS (VZ hs l hl hlast rest _ _ w (hcl.set hr) hno' h2 hS h3)
end
section
variable {P:Program}{B:Nat}{w0:World}{Q:Exit->Act->World->Prop}{env:Env}{H:List HP}
variable {n:Nat}{ds:List Deferred}{l:List Oper}
theorem Ymh{id:Nat}(o1 last:List Nat)(mask:List Bool){Hc F:List HP}(hm:P.follows .mixedOrders=true)
 (hB:(Region.noSelect l.toArray&&decide ((o1++last).length=l.toArray.size)&&YpD l.toArray last&&(o1.all λj=>!last.contains j)&&Ydk l.toArray last o1 (Array.replicate l.toArray.size false))=true)
 (hsp:Split mask H Hc F) {l1 l2:List Oper}(hl1:Ye l o1=l1) (hl2:Ye l last=l2) (h:VL P (some (some F)) ⟨n,ds,none⟩ B w0 l.toArray (YQH P l.toArray Q l2) l1 env Hc):VC P ⟨n,ds,none⟩ B w0 (.region id l.toArray true) Q env H:=by
 simp only[To,Tq]at hB
 obtain⟨⟨⟨⟨h1,h2⟩,h3⟩,h4⟩,h5⟩:=hB
 refine⟨λa w ha hw=>?_⟩
 refine(wpIn_wide (n:=0)).1 (wpIn_region_any hm ?_)
 have hst:St B w0 (Hc++F) w.drew:=(hw.perm (XC hsp)).drew
 have hr:Yw P l.toArray (YQH P l.toArray Q l2) (St B w0 Hc) l1 a w.drew:=h.run a ha w.drew hst
 rw[<-hl1,<-hl2]at hr
 have hz:=VZ (S:=St B w0 Hc) h1 l rfl h3 o1 _ a w.drew (XK _ _) (λj hj=>by simp_all) h5 hst.prefix_ hr
 have:=Ybx (k:=last.length) (Q:=Q) (λlisted a w hz=>YcO rfl last listed a w hz.1 hz.2) o1.length _ a w.drew hz
 simp_all
theorem Yox{ops:Array Oper}(h:VQ ⟨n,ds,none⟩ B w0 (YQ P ops Q l) .normal env H):VQ ⟨n,ds,none⟩ B w0 (YQH P ops Q l) .normal env H:=⟨λa w ha hw=>h.run a w ha hw⟩
end
end Go.Eng
namespace Go.Proofs.YtjlgijpmnfabcaaGreatDoor
open Go.RowKit Go.Eng Go.Nw Go.Rt
def WayV(A:Option Addr)(l:List Int):Prop:=l=[]->A=none
structure Fz where
 at_:Int
 pre:List Int
 A:Option Addr
 cap:Nat
theorem YhZ{l:List Lk}{far:List Int}{to:Int}{nodes:Nat}(hl:ArcsOk nodes l)(hd:Dist nodes l to far){v:Int}(h0:0<=v)(h1:v<nodes)(hne:v≠to)(hlt:Yk far v<Xl):∀k j:Nat,(Yk far v).toNat<=k->(Yk far v).toNat<=j->XO l far to k v=XO l far to j v:=by
 intro k
 induction k generalizing v with
 |zero=>
  intro j hk hj
  have:=(Q6 hl hd h0 h1 hne hlt).2
  omega
 |succ k ih=>
  intro j hk hj
  obtain⟨b1,b2,b3,_⟩:=Q6 hl hd h0 h1 hne hlt
  cases j with
  |zero=>omega
  |succ j=>
   unfold XO
   rw[Tf hne,Tf hne]
   by_cases hb:XB l far v=to
   ·cases k<;>cases j<;>simp[XO,hb]
   grind
theorem YcI(nodes:Nat)(l:List Lk)(s to:Int)(hn:nodes<=40)(hl:l.length<=1000000)(hok:ArcsOk nodes l)(hs:0<=s/\s<nodes)(hto:0<=to/\to<nodes){AL:Option Addr}{capL B:Nat}{w0:World}{H:List HP}{w:World}(hr:Rd B w0 H AL (l.flatMap lkF))(hw:St B w0 H w):
 CX B w0 343 [.int .i64 nodes,.slice AL l.length capL,.int .i64 s,.int .i64 to] w λv K=>∃A cap,v=.slice A (wayF l (J3 nodes l to) s to).length cap/\WayV A (wayF l (J3 nodes l to) s to)/\(J3 nodes l to).length=nodes/\Dist nodes l to (J3 nodes l to)/\K=ints A cap (wayF l (J3 nodes l to) s to)::H:=by
 refine Ya Tryz.func343 Tryz.ntmps343 rfl rfl hw ?_
 refine zX3 ?_
 apply Yg _ Yo7
 exact za
 exact rfl
 exactλ_ hw=>(Vu nodes l to hn hl hok hto hr (hw))
 rintro _ _ ⟨gf,far,rfl,hd,rfl⟩
 rw[Qq hok hd]
 have hflen:=hd.len
 have hgs:=XH (far:=far) (i:=s) (by omega)
 have hrs:=hd.range s hs.1 hs.2
 have hne:Xl=1073741824:=rfl
 unfold wayF
 by_cases hfar:Xl<=Yk far s
 ·rw[Tm hfar]
  rw[hne]at hfar
  refine zX23 ?_<;>intros
  apply Yh (ints none 0 []::H)
  ·exact YqZ
  apply Yd;exact rfl;exact rfl
  exact⟨none,0,rfl,λ_=>rfl,hflen,hd,rfl⟩
 rw[Tf hfar]
 rw[hne]at hfar
 refine zX77 ?_<;>intros
 rename_i g1
 have hf0:0<=Yk far s:=hrs.1
 refine Yi (λ(z:Fz)=>[(11,.int .i64 z.at_),(10,.slice z.A z.pre.length z.cap),(9,.slice (some ⟨gf,0,none⟩) far.length nodes),(1,.slice AL l.length capL),(3,.int .i64 to)])
  (λz=>ints z.A z.cap z.pre::ints (some ⟨gf,0,none⟩) nodes far::H) (λz=>(0<=z.at_/\z.at_<nodes)/\(0<=Yk far z.at_/\Yk far z.at_<1073741824)/\z.pre++XO l far to (Yk far z.at_).toNat z.at_=s::XO l far to (Yk far s).toNat s/\1<=z.pre.length/\z.pre.length+(Yk far z.at_).toNat<=1073741830) (λz=>(Yk far z.at_).toNat) ⟨s,[s],some ⟨g1,0,none⟩,1⟩ ⟨hs,⟨by omega,by omega⟩,rfl,by simp,by simp only[TO];omega⟩ ?_ (λw hw=>hw.blk_sl (cs:=numF s) (len:=1) (size:=1) rfl (by omega)) ?_
 ·exact zc1
 rintro⟨v,pre,A,cap⟩ ⟨⟨v0,v1⟩,⟨d0,d1⟩,hpre,hpl,hpm⟩ K hK
 simp only at v0 v1 d0 d1 hpre hpl hpm⊢
 have hgv:=XH (far:=far) (i:=v) (by omega)
 by_cases hvt:v=to
 ·have hfl:XO l far to (Yk far v).toNat v=[]:=by
   rw[hvt,hd.to0];rfl
  rw[hfl,Rm]at hpre
  clear hK
  refine zX1 ?_<;>intros
  apply Yh (ints A cap pre::H)
  ·exact zc0
  apply Yd;exact rfl;exact rfl
  rw[<-hpre]
  exact⟨A,cap,rfl,λh=>by rw[h]at hpl;simp at hpl,hflen,hd,rfl⟩
 obtain⟨b1,b2,b3,_⟩:=Q6 hok hd v0 v1 hvt (by rw[hne];omega)
 obtain⟨bb,hbb⟩:∃bb,XB l far v=bb:=⟨_,rfl⟩
 refine zX5 ?_<;>intros
 refine Yi (λ(k:Nat)=>[(32,.int .i64 k),(31,.int .i64 l.length),(30,.slice AL l.length capL),(12,.int .i64 (XB (l.take k) far v)),(11,.int .i64 v),(10,.slice A pre.length cap),(9,.slice (some ⟨gf,0,none⟩) far.length nodes),(1,.slice AL l.length capL),(3,.int .i64 to)])
  (λ_=>ints A cap pre::ints (some ⟨gf,0,none⟩) nodes far::H) (λk=>k<=l.length) (λk=>l.length-k) 0 (Ti _) ?_ (λw hw=>hw) ?_
 ·exact zc1
 intro k hk K2 hK2
 have hrl:Rd B w0 (ints A cap pre::ints (some ⟨gf,0,none⟩) nodes far::H) AL (l.flatMap lkF):=(hr.cons).cons
 by_cases hlt:k<l.length
 ·obtain⟨a,ha⟩:∃a,l[k]? =some a:=⟨_,Ta hlt⟩
  obtain⟨⟨a1,a2⟩,⟨a3,a4⟩,⟨a5,a6⟩⟩:=hok a (Td ha)
  have hga:=XH (far:=far) (i:=a.2.1) (by omega)
  have hra:=hd.range a.2.1 a3 a4
  rw[hne]at hra
  have hst:XB (l.take (k+1)) far v=ZN far v (XB (l.take k) far v) a:=by
   rw[TF,ha];exact YmG _ _ _ _
  obtain⟨bk,hbk⟩:∃bk,XB (l.take k) far v=bk:=⟨_,rfl⟩
  rw[hbk]at hst
  rw[hbk]
  unfold ZN at hst
  by_cases hc:a.1=v/\a.2.2+Yk far a.2.1=Yk far v/\(bk<0\/a.2.1<bk)
  ·rw[Tm hc]at hst
   repeat'(first|refine zgd ?_|(refine zgf ?_ ?_<;>intro _<;>try exact zo)|(refine zgh ?_;intro _)|fail)
   all_goals(
    apply hK2 (k+1)
    ·omega
    ·omega
    ·rw[hst];exact zu
    ·exactλw hw=>hw.tail)
  ·rw[Tf hc]at hst
   repeat'(first|refine zgd ?_|(refine zgf ?_ ?_<;>intro _<;>try exact zo)|(refine zgh ?_;intro _)|fail)
   all_goals(
    apply hK2 (k+1)
    ·omega
    ·omega
    ·rw[hst];exact zu
    ·exactλw hw=>hw.tail)
 ·obtain rfl:k=l.length:=by omega
  clear hK2
  rw[TL,hbb]
  rw[hbb]at b1 b2 b3
  have hfs:XO l far to (Yk far v).toNat v=bb::XO l far to (Yk far bb).toNat bb:=by
   obtain⟨j,hj⟩:∃j,(Yk far v).toNat=j+1:=⟨(Yk far v).toNat-1,by omega⟩
   rw[hj,show XO l far to (j+1) v=if v=to then []else XB l far v::XO l far to j (XB l far v) from rfl,Tf hvt,hbb]
   by_cases hbt:bb=to
   ·rw[hbt]
    cases j<;>simp[XO,hd.to0]
   ·rw[YhZ hok hd b1.1 b1.2 hbt (by rw[hne];omega) j _ (by omega) (TM _)]
  refine YqG ?_<;>intros
  rename_i A3 cap3
  apply hK ⟨bb,pre++[bb],A3,cap3⟩
  ·refine⟨b1,⟨b3,by exact zc28⟩,?_,by simp,?_⟩
   ·simp only
    rw[Ry,List.singleton_append,<-hfs];exact hpre
   ·simp only[Tt,TO]
    omega
  ·exact zc28
  ·dsimp only
   rw[Tt,TO];exact zc1
  ·dsimp only
   rw[<-Ynb]
   exact zc0
def dear(a:Lk):Lk:=(a.1,a.2.1,a.2.2*33+1)
noncomputable def U7(n:Net)(s t:Int):List Int:=wayF ((JO n).map dear) (J3 n.nodes.toNat ((JO n).map dear) t) s t
noncomputable def Zi(n:Net)(s t:Int):List Int×Int:=
 if Jk n s t≠0 then([],Jk n s t)else if U7 n s t=[]then([],17)else if 9<(U7 n s t).length then([],21)else(U7 n s t,0)
variable {n:Net}
theorem Yrt(h:Ok n):ArcsOk n.nodes.toNat ((JO n).map dear):=by
 intro a ha
 obtain⟨b,hb,rfl⟩:=TD.1 ha
 obtain⟨i,hi,_,rfl⟩:=Yik.1 hb
 have hl:=h.lk i hi
 have h1:=hl.f0;have h2:=hl.f1;have h3:=hl.t0;have h4:=hl.t1;have h5:=hl.l0;have h6:=hl.l1
 grind [dear,Yb5]
theorem YlK{s t:Int}(h:Jk n s t=0):Yq n=0/\(0<=s/\s<n.nodes)/\(0<=t/\t<n.nodes)/\s≠t:=by
 unfold Jk offE at h
 grind
variable {l:List Lk}{k:Nat}{a:Lk}
theorem YrS(h:l[k]? =some a):((l.take k).map dear++l.drop k)[k]? =some a:=by
 grind
theorem YrT(h:l[k]? =some a):((l.take k).map dear++l.drop k).set k (dear a)=(l.take (k+1)).map dear++l.drop (k+1):=by
 obtain⟨hk,rfl⟩:=Tc.1 h
 have hl:((l.take k).map dear).length=k:=by grind
 rw[Nv _ _ (by omega),hl,NG,Rb hk,List.set_cons_zero,TF,Ta hk,TP,Ry]
 rfl
theorem Yek(n:NetM)(s t:Int){B:Nat}{w0:World}{H:List HP}{w:World}(hin:n.In B w0 H)(hw:St B w0 H w):
 CX B w0 267 [n.val,.int .i64 s,.int .i64 t] w λv K=>∃A cap,v=.tuple #[.slice A (Zi n.net s t).1.length cap,.int .i64 (Zi n.net s t).2]/\WayV A (Zi n.net s t).1/\(Jk n.net s t=0->Dist n.net.nodes.toNat ((JO n.net).map dear) t (J3 n.net.nodes.toNat ((JO n.net).map dear) t))/\K=ints A cap (Zi n.net s t).1::H:=by
 refine Ya Tryz.func267 Tryz.ntmps267 rfl rfl hw ?_
 (apply Y7;apply YM;apply YO;exact rfl;exact rfl;intro g)
 unfold Zi
 by_cases he:Jk n.net s t=0
 rotate_left
 ·rw[Tm he]
  repeat'(first|((first|apply Yb OB|apply Yc OB);exact za;exact rfl;exactλ_ hw=>(Vh n s t hin.cons hw))|refine zgb ?_|(refine zge ?_ ?_<;>intro _<;>try exact zo)|fail)
  (repeat apply Yl)
  apply Xg 3 1
  apply Yu;(iterate 3 exact rfl)
  exact⟨none,0,rfl,λ_=>rfl,λh=>absurd h he,rfl⟩
 rw[Tf (λh=>h he)]
 obtain⟨hck,⟨s0,s1⟩,⟨t0,t1⟩,hst⟩:=YlK he
 have hen:=λ{H:List HP}{w:World}(hin:n.In B w0 H) (hw:St B w0 H w)=>Vh n s t hin hw
 rw[he]at hen
 have hok:=YT hck
 have hn0:=hok.n0
 have hn1:=hok.n1
 have hnn:((n.net.nodes.toNat:Nat):Int)=n.net.nodes:=by omega
 have hnn2:n.net.nodes=n.nodes:=rfl
 have hal:(JO n.net).length<=128:=TY (UO _ _) hok.k0
 have hdo:=Yrt hok
 obtain⟨L,hL⟩:∃L,JO n.net=L:=⟨_,rfl⟩
 rw[hL]at hal
 have hLo:=Yla hok hnn.symm
 rw[hL]at hLo
 refine YqH ?_<;>intros
 apply Yg _ Yta
 exact za
 exact rfl
 exactλ_ hw=>(Yev n hin.cons hck (hw))
 rintro _ _ ⟨A,cap,rfl,rfl⟩
 rw[hL]
 refine zX7 ?_
 refine Yi (λ(k:Nat)=>[(24,.int .i64 k),(23,.int .i64 L.length),(9,.slice A L.length cap),(3,.pointer (some ⟨g,0,none⟩)),(1,.int .i64 s),(2,.int .i64 t)])
  (λk=>sl 383 3 A L.length cap (((L.take k).map dear++L.drop k).flatMap lkF)::netB g n::H) (λk=>k<=L.length) (λk=>L.length-k) 0 (Ti _) ?_ (λw hw=>hw) ?_
 ·exact zc1
 intro k hk K hK
 have hml:((L.take k).map dear++L.drop k).length=L.length:=by simp;omega
 by_cases hlt:k<L.length
 ·obtain⟨a,ha⟩:∃a,L[k]? =some a:=⟨_,Ta hlt⟩
  obtain⟨_,_,⟨a5,a6⟩⟩:=hLo a (Td ha)
  have hmg:=YrS ha
  have hms:=YrT ha
  rw[<-hml]
  repeat'(first|(apply Jf T (f:=lkF) (l:=(L.take k).map dear++L.drop k) (i:=k) (q:=3) (o:=2) (b:=a) (b':=dear a);(iterate 3 exact rfl);exact zd;exact hmg;exact rfl;exactλ_=>rfl;exact rfl;exact rfl)|refine zgd ?_|(refine zge ?_ ?_<;>intro _<;>try exact zo)|fail)
  rw[hml,hms]
  apply hK (k+1)
  ·omega
  ·omega
  ·exact zc1
  exact zc21
 ·obtain rfl:k=L.length:=by omega
  clear hK
  rw[TL,SA,Rm]
  have hLl:(L.map dear).length=L.length:=Tv _
  rw[<-hLl]
  refine zX1 ?_<;>intros
  rw[show(Value.int .i64 n.nodes)=.int .i64 ((n.net.nodes.toNat:Nat):Int) by rw[hnn];rfl]
  rw[hL]at hdo
  apply Yg _ Yo6
  exact za
  exact rfl
  exactλ_ hw=>(YcI n.net.nodes.toNat (L.map dear) s t (by omega) (by omega) hdo ⟨s0,by omega⟩ ⟨t0,by omega⟩ (.sl (by(focus exact zc2))) (hw))
  rintro _ _ ⟨A2,cap2,rfl,hway,hdl,hdd,rfl⟩
  have hsr:wayF (L.map dear) (J3 n.net.nodes.toNat (L.map dear) t) s t=U7 n.net s t:=by rw[<-hL];rfl
  rw[hL]at*
  rw[hsr]at hway⊢
  obtain⟨R,hR⟩:∃R,U7 n.net s t=R:=⟨_,rfl⟩
  rw[hR]at hway⊢
  by_cases hnil:R=[]
  ·rw[Tm hnil]
   have hA:=hway hnil
   subst hA
   refine zX6 ?_
   exact zc61
  ·rw[Tf hnil]
   have hRl:R.length<=1073741824:=by rw[<-hR];exact YgT _ _ _ _
   have hpos:0<R.length:=NI.2 hnil
   refine Ybw (e:=3) (size:=1) (k:=R.length) (cap:=cap2) (A:=A2) (xs:=R.flatMap numF) TC hpos ?_
   rintro ga rfl
   by_cases h9:9<R.length
   ·rw[Tm h9]
    have hsh:=λ{H:List HP}{w:World}(hw:St B w0 H w)=>U8 R.length (A:=some ⟨ga,0,none⟩) (cap:=cap2) (by omega) hw
    rw[Tm h9]at hsh
    repeat'(first|(apply Zc;(iterate 3 exact rfl))|((first|apply Yb Wk|apply Yc Wk);exact za;exact rfl;exactλ_ hw=>(hsh hw))|refine zgb ?_|(refine zge ?_ ?_<;>intro _<;>try exact zo)|fail)
    exact zc61
   ·rw[Tf h9]
    have hsh:=λ{H:List HP}{w:World}(hw:St B w0 H w)=>U8 R.length (A:=some ⟨ga,0,none⟩) (cap:=cap2) (by omega) hw
    rw[Tf h9]at hsh
    repeat'(first|(apply Zc;(iterate 3 exact rfl))|((first|apply Yb Wk|apply Yc Wk);exact za;exact rfl;exactλ_ hw=>(hsh hw))|refine zga ?_|(refine zge ?_ ?_<;>intro _<;>try exact zo)|fail)
    apply Yh (ints (some ⟨ga,0,none⟩) cap2 R::H)
    ·exactλw hw=>hw.perm (.cons _ (.dropK (.drop _ _)))
    apply Yu;(iterate 3 exact rfl)
    exact⟨some ⟨ga,0,none⟩,cap2,rfl,λh=>absurd h hnil,λ_=>hdd,rfl⟩
def edF(e:Ed):List Value:=[.int .i64 e.f,.int .i64 e.t,.int .i64 e.c,.int .i64 e.r]
abbrev YcQ(sides:Nat)(A:Option Addr)(k cap:Nat):Obj:=.cells #[.int .i64 sides,.slice A k cap] 473 (0,0)
def gpcs(g sides:Nat)(A:Option Addr)(cap:Nat)(es:List Ed)(H:List HP):List HP:=blk g (YcQ sides A es.length cap)::sl 478 4 A es.length cap (es.flatMap edF)::H
structure Rz where
 k:Nat
 ag:Bool
 far:List Int
 by_:List Int
structure RzOk(sides:Nat)(es:List Ed)(fuel:Nat)(res:List Int×List Int)(z:Rz):Prop where
 kf:z.k<=fuel
 ok:RelOk sides (-2000000000-2000000000*((fuel-z.k:Nat):Int)) (z.far,z.by_,z.ag)
 run:if z.ag=true then Yaq z.k es z.far z.by_=some res else(z.far,z.by_)=res
theorem Yky(g sides:Nat)(es:List Ed)(far:List Int)(fuel:Nat)(res:List Int×List Int)(hs:1<=sides/\sides<=100)(hes:YkX sides es)(hel:es.length<=2000)(hfu:fuel<=100000)(hfar:RelOk sides (-2000000000) (far,List.replicate sides (-1),true))(hrun:Yaq fuel es far (List.replicate sides (-1))=some res)
 {A AF:Option Addr}{cap capF:Nat}{B:Nat}{w0:World}{H:List HP}{w:World}(hw:St B w0 (gpcs g sides A cap es (ints AF capF far::H)) w):
 CX B w0 441 [.pointer (some ⟨g,0,none⟩),.slice AF far.length capF] w λv K=>∃gb,v=.tuple #[.slice AF res.1.length capF,.slice (some ⟨gb,0,none⟩) res.2.length sides]/\RelOk sides (-2000000000-2000000000*(fuel:Int)) (res.1,res.2,false)/\K=ints (some ⟨gb,0,none⟩) sides res.2::gpcs g sides A cap es (ints AF capF res.1::H):=by
 refine Ya Tryz.func441 Tryz.ntmps441 rfl rfl hw ?_
 unfold gpcs
 repeat'(first|refine zgd ?_|(refine zgh ?_;intro _)|fail)
 apply Yg _ Yo8
 exact za
 exact rfl
 exactλ_ hw=>(W4 (-1) sides (by omega) (.blk zm) (hw))
 rintro _ _ ⟨gb,rfl,rfl⟩
 have hrl:(List.replicate sides (-1:Int)).length=sides:=TQ
 repeat'(first|refine zgb ?_|fail)
 refine Yi (λ(z:Rz)=>[(7,.bool z.ag),(1,.slice AF z.far.length capF),(6,.slice (some ⟨gb,0,none⟩) z.by_.length sides),(0,.pointer (some ⟨g,0,none⟩))])
  (λz=>ints (some ⟨gb,0,none⟩) sides z.by_::blk g (YcQ sides A es.length cap)::sl 478 4 A es.length cap (es.flatMap edF)::ints AF capF z.far::H) (λz=>RzOk sides es fuel res z) (λz=>z.k) ⟨fuel,true,far,List.replicate sides (-1)⟩ ⟨TM _,by simpa using hfar,hrun⟩ ?_ zk ?_
 ·exact zu
 rintro⟨k,ag,fa,by_⟩ hz K hK
 obtain⟨hkf,hok,hrun⟩:=hz
 simp only at hkf hok hrun⊢
 cases ag with
 |false=>
  rw[Tf (by decide)]at hrun
  clear hK
  obtain⟨rfl,rfl⟩:fa=res.1/\by_=res.2:=by rw[<-hrun];exact⟨rfl,rfl⟩
  repeat'(first|refine zgc ?_|fail)
  apply Yu;(iterate 3 exact rfl)
  refine⟨gb,rfl,⟨hok.l1,hok.l2,λv h0 h1=>?_⟩,rfl⟩
  have:=hok.low v h0 h1
  simp only at this⊢
  omega
 |true=>
  rw[Tm rfl]at hrun
  cases k with
  |zero=>cases hrun
  |succ k=>
   have hok0:RelOk sides (-2000000000-2000000000*((fuel-(k+1):Nat):Int)) (fa,by_,false):=⟨hok.l1,hok.l2,hok.low⟩
   obtain⟨low,hlow⟩:∃low:Int,-2000000000-2000000000*((fuel-(k+1):Nat):Int)=low:=⟨_,rfl⟩
   rw[hlow]at hok0
   have hlb: -300000000000000<=low:=by omega
   unfold Yaq at hrun
   repeat'(first|refine zgd ?_|fail)
   refine Yi (λ(j:Nat)=>[(22,.int .i64 j),(21,.int .i64 es.length),(20,.slice A es.length cap),(7,.bool (Xt 0 (es.take j) (fa,by_,false)).2.2),(1,.slice AF (Xt 0 (es.take j) (fa,by_,false)).1.length capF),(6,.slice (some ⟨gb,0,none⟩) (Xt 0 (es.take j) (fa,by_,false)).2.1.length sides),(0,.pointer (some ⟨g,0,none⟩))])
    (λj=>ints (some ⟨gb,0,none⟩) sides (Xt 0 (es.take j) (fa,by_,false)).2.1::blk g (YcQ sides A es.length cap)::sl 478 4 A es.length cap (es.flatMap edF)::ints AF capF (Xt 0 (es.take j) (fa,by_,false)).1::H) (λj=>j<=es.length) (λj=>es.length-j) 0 (Ti _) ?_ (λw hw=>hw) ?_
   ·exact zu
   intro j hj K2 hK2
   by_cases hlt:j<es.length
   ·obtain⟨e,he⟩:∃e,es[j]? =some e:=⟨_,Ta hlt⟩
    have hem:=Td he
    obtain⟨⟨e1,e2⟩,⟨e3,e4⟩,⟨e5,e6⟩,⟨e7,e8⟩⟩:=hes e hem
    have htl:(es.take j).length=j:=by rw[TK];omega
    have hst:Xt 0 (es.take (j+1)) (fa,by_,false)=V5 j e (Xt 0 (es.take j) (fa,by_,false)):=by
     rw[TF,he]
     have:=QN (es.take j) 0 e (fa,by_,false)
     rw[htl,RV]at this
     exact this
    have hpo:=O5 hes (es.take j) 0 (fa,by_,false) low (λx hx=>SN hx) hok0
    rw[htl]at hpo
    obtain⟨⟨f2,b2,ag2⟩,hst2⟩:∃st,Xt 0 (es.take j) (fa,by_,false)=st:=⟨_,rfl⟩
    rw[hst2]at hst hpo⊢
    obtain⟨p1,p2,p3⟩:=hpo
    simp only at p1 p2 p3
    have q1:=p3 e.f e1 e2
    have q2:=p3 e.t e3 e4
    have hgf:=XH (far:=f2) (i:=e.f) (by omega)
    have hgt:=XH (far:=f2) (i:=e.t) (by omega)
    have hnn:Xl=1073741824:=rfl
    rw[hnn]at q1 q2
    dsimp only
    unfold V5 at hst
    simp only[hnn]at hst
    by_cases hc:0<e.r/\Yk f2 e.f<1073741824/\Yk f2 e.f+e.c<Yk f2 e.t
    ·rw[Tm hc]at hst
     repeat'(first|refine zgd ?_|(refine zge ?_ ?_<;>intro _<;>try exact zo)|(refine zgh ?_;intro _)|fail)
     have hl1:(f2.set e.t.toNat (Yk f2 e.f+e.c)).length=f2.length:=TT
     have hl2:(b2.set e.t.toNat (j:Int)).length=b2.length:=TT
     apply Yoc [3,4,5,14] [0,1,2,6,7,8,9,10,11,12,13,15] [16,17,18,19] [true] [true,true,false,false,true]
     kernel_rfl
     kernel_rfl
     exact zy
     exact zy
     exact zk
     (simp only[Ye,nthO];rfl)
     (simp only[Ye,nthO];rfl)
     (simp only[Ye,nthO];rfl)
     repeat'(first|(apply Yov;try exact zl)|(apply V8 T;(iterate 4 exact rfl);omega)|(apply Xo T (f:=numF) (l:=f2) (i:=e.t.toNat) (a:=Yk f2 e.f+e.c);(iterate 3 exact rfl);exact zd;exact rfl;exactλ_=>rfl;exact rfl;omega)|(apply Xo T (f:=numF) (l:=b2) (i:=e.t.toNat) (a:=(j:Int));(iterate 3 exact rfl);exact zd;exact rfl;exactλ_=>rfl;exact rfl;omega)|(apply Yj;try exact zl)|refine zgd ?_|fail)
     apply hK2 (j+1)
     ·omega
     ·omega
     ·rw[hst]
      dsimp only
      rw[hl1,hl2]
      exact zu
     ·rw[hst]
      dsimp only
      unfold ints
      rw[hl1,hl2]
      exact zk
    ·rw[Tf hc]at hst
     repeat'(first|refine zgd ?_|(refine zge ?_ ?_<;>intro _<;>try exact zo)|(refine zgh ?_;intro _)|fail)
     all_goals(
      apply hK2 (j+1)
      ·omega
      ·omega
      ·rw[hst];exact zu
      ·rw[hst];exactλw hw=>hw.tail)
   ·obtain rfl:j=es.length:=by omega
    clear hK2
    have hpo:=O5 hes es 0 (fa,by_,false) low (λx hx=>hx) hok0
    rw[TL]
    obtain⟨⟨f2,b2,ag2⟩,hst2⟩:∃st,Xt 0 es (fa,by_,false)=st:=⟨_,rfl⟩
    rw[hst2]at hrun hpo⊢
    dsimp only at hrun⊢
    repeat'(first|refine zgc ?_|(refine zge ?_ ?_<;>intro _<;>try exact zo)|fail)
    apply hK ⟨k,ag2,f2,b2⟩
    ·refine⟨by simp only;omega,⟨hpo.l1,hpo.l2,λv h0 h1=>?_⟩,?_⟩
     ·have:=hpo.low v h0 h1
      simp only at this⊢
      omega
     ·simp only
      cases ag2
      ·rw[Tf (by decide)]at hrun⊢
       exact Tn hrun
      ·rw[Tm rfl]at hrun⊢
       exact hrun
    ·simp only;omega
    ·exact zu
    ·exactλw hw=>hw
theorem YqF(i:Nat)(hi:i<4611686018427387904):bits .xor .i64 (i:Int) 1=(twin i:Int):=by
 have e1:(BitVec.ofInt 64 (i:Int)).toNat=i:=by grind
 show IntKind.i64.wrap ((BitVec.ofInt 64 (i:Int)^^^BitVec.ofInt 64 1).toNat:Int)=_
 have e2:(BitVec.ofInt 64 (1:Int)).toNat=1:=by decide
 have e3:i^^^1=twin i:=by
  unfold twin
  rcases Nat.mod_two_eq_zero_or_one i with h|h
  ·rw[Tm h]
   obtain⟨k,rfl⟩:∃k,i=2*k:=⟨i/2,by omega⟩
   apply Nat.eq_of_testBit_eq
   intro j
   rw[Nat.testBit_xor]
   cases j with
   |zero=>simp
   |succ j=>
    grind
  ·rw[Tf (by omega)]
   obtain⟨k,rfl⟩:∃k,i=2*k+1:=⟨i/2,by omega⟩
   apply Nat.eq_of_testBit_eq
   intro j
   rw[Nat.testBit_xor]
   cases j with
   |zero=>simp
   |succ j=>
    grind
 grind [Go.IntKind.wrap_i64,twin]
structure Bz where
 k:Nat
 es:List Ed
 at_:Int
structure BzOk(fuel sides:Nat)(b:Int)(E:Nat)(by_:List Int)(s:Int)(res:List Ed)(z:Bz):Prop where
 kf:z.k<=fuel
 run:Yhu z.k z.es by_ s z.at_=some res
 ein:EdsIn sides (b+2*((fuel-z.k:Nat):Int)) z.es
 len:z.es.length=E
 at_:0<=z.at_/\z.at_<sides
theorem Yfn(g sides:Nat)(es:List Ed)(s t:Int)(fuel:Nat)(b:Int)(r:Int×Bool×List Ed)(hs:1<=sides/\sides<=100)(hes:EdsIn sides b es)(hb:1<=b/\b<=900000)(hel:es.length<=2000)(hfu:fuel<=100000)(hs0:0<=s/\s<sides)(ht0:0<=t/\t<sides)(hrun:Yfm fuel sides es s t=some r)
 {A:Option Addr}{cap:Nat}{B:Nat}{w0:World}{H:List HP}{w:World}(hw:St B w0 (gpcs g sides A cap es H) w):
 CX B w0 421 [.pointer (some ⟨g,0,none⟩),.int .i64 s,.int .i64 t] w λv K=>v=.tuple #[.int .i64 r.1,.bool r.2.1]/\(r.2.2.length=es.length/\EdsIn sides (b+2*(fuel:Int)) r.2.2/\ -300000000000000<=r.1/\r.1<=1073741824)/\K=gpcs g sides A cap r.2.2 H:=by
 refine Ya Tryz.func421 Tryz.ntmps421 rfl rfl hw ?_
 have hok:=hes.ok (by omega)
 have hnn:Xl=1073741824:=rfl
 unfold gpcs
 refine zX24 ?_<;>intros
 apply Yg _ Yo8
 exact za
 exact rfl
 exactλ_ hw=>(W4 1073741824 sides (by omega) (.blk (by(focus exact zc2))) (hw))
 rintro _ _ ⟨gs,rfl,rfl⟩
 have hrl:(List.replicate sides (1073741824:Int)).length=sides:=TQ
 repeat'(first|(apply Xo T (f:=numF) (l:=List.replicate sides (1073741824:Int)) (i:=s.toNat) (a:=0);(iterate 3 exact rfl);exact zd;exact rfl;exactλ_=>rfl;exact rfl;omega)|refine zgd ?_|fail)
 have hst:U9 sides s=(List.replicate sides (1073741824:Int)).set s.toNat 0:=rfl
 have hsl:(U9 sides s).length=(List.replicate sides (1073741824:Int)).length:=by rw[hst];exact TT
 unfold Yfm at hrun
 cases hre:Yaq fuel es (U9 sides s) (List.replicate sides (-1))with
 |none=>rw[hre]at hrun;cases hrun
 |some fb=>
  rw[hre]at hrun
  obtain⟨far,by_⟩:=fb
  dsimp only at hrun
  rw[<-hst,<-hsl]
  apply Zn (gpcs g sides A cap es (ints (some ⟨gs,0,none⟩) sides (U9 sides s)::H))
  ·unfold gpcs ints
   exact zc0
  apply Yg _ YwH
  exact za
  exact rfl
  exactλ_ hw=>(Yky g sides es (U9 sides s) fuel (far,by_) hs hok hel (by omega) (YnU hs0 _ TQ _) hre (hw))
  rintro _ _ ⟨gb,rfl,hro,rfl⟩
  obtain⟨l1,l2,hlow⟩:=hro
  simp only at l1 l2 hlow
  have hgt:=XH (far:=far) (i:=t) (by omega)
  have hlt:=hlow t ht0.1 ht0.2
  rw[hnn]at hlt hrun
  unfold gpcs
  dsimp only
  by_cases hno:1073741824<=Yk far t
  ·rw[Tm hno]at hrun
   obtain rfl:=Tn hrun
   refine zX23 ?_<;>intros
   apply Yh (gpcs g sides A cap es H)
   ·unfold gpcs
    exact zc0
   apply Yu;(iterate 3 exact rfl)
   exact⟨rfl,⟨rfl,hes.mono (by omega),show(-300000000000000:Int)<=0 by decide,show(0:Int)<=1073741824 by decide⟩,rfl⟩
  ·rw[Tf hno]at hrun
   cases hba:Yhu fuel es by_ s t with
   |none=>rw[hba]at hrun;cases hrun
   |some res=>
    rw[hba]at hrun
    dsimp only at hrun
    obtain rfl:=Tn hrun
    refine zX23 ?_<;>intros
    refine Yi (λ(z:Bz)=>[(11,.int .i64 z.at_),(10,.slice (some ⟨gb,0,none⟩) by_.length sides),(9,.slice (some ⟨gs,0,none⟩) far.length sides),(0,.pointer (some ⟨g,0,none⟩)),(1,.int .i64 s),(2,.int .i64 t)])
     (λz=>ints (some ⟨gb,0,none⟩) sides by_::blk g (YcQ sides A z.es.length cap)::sl 478 4 A z.es.length cap (z.es.flatMap edF)::ints (some ⟨gs,0,none⟩) sides far::H) (λz=>BzOk fuel sides b es.length by_ s res z) (λz=>z.k) ⟨fuel,es,t⟩ ⟨TM _,hba,hes.mono (by omega),rfl,ht0⟩ ?_ (λw hw=>hw) ?_
    ·exact zc1
    rintro⟨k,e1,v⟩ ⟨hkf,hrun1,hein,hlen,⟨v0,v1⟩⟩ K hK
    simp only at hkf hrun1 hein hlen v0 v1⊢
    cases k with
    |zero=>cases hrun1
    |succ k=>
     unfold Yhu at hrun1
     by_cases hvs:v=s
     ·rw[Tm hvs]at hrun1
      obtain rfl:=Tn hrun1
      clear hK
      refine zX0 ?_<;>intros
      apply Yh (gpcs g sides A cap e1 H)
      ·unfold gpcs
       exact zc0
      apply Yu;(iterate 3 exact rfl)
      exact⟨rfl,⟨hlen,hein.mono (by omega),by omega,by omega⟩,rfl⟩
     ·rw[Tf hvs]at hrun1
      have hgv:=XH (far:=by_) (i:=v) (by omega)
      obtain⟨i,hi⟩:∃i,Yk by_ v=i:=⟨_,rfl⟩
      rw[hi]at hrun1 hgv
      by_cases hneg:i<0
      ·rw[Tm hneg]at hrun1;cases hrun1
      rw[Tf hneg]at hrun1
      obtain⟨m,rfl⟩:∃m:Nat,i=m:=⟨i.toNat,by omega⟩
      rw[Rq]at hrun1
      cases he:e1[m]? with
      |none=>rw[he]at hrun1;cases hrun1
      |some e=>
       rw[he]at hrun1
       dsimp only at hrun1
       by_cases htw:e1.length<=twin m
       ·rw[Tm htw]at hrun1;cases hrun1
       rw[Tf htw]at hrun1
       have hml:=(Tc.1 he).1
       have hmb:m<2000:=by omega
       have hxor:=YqF m (by omega)
       have hm1:Ya8 e1 m (-1)=e1.set m {e with r:=e.r-1}:=by unfold Ya8;rw[he];rfl
       obtain⟨f1,hf1⟩:∃f1,e1.set m {e with r:=e.r-1}=f1:=⟨_,rfl⟩
       have hfl1:f1.length=e1.length:=by rw[<-hf1];exact TT
       have hin1:=Yim hein m (d:= -1) (by omega)
       rw[hm1,hf1]at hin1
       obtain⟨e2,he2⟩:∃x,f1[twin m]? =some x:=⟨_,Ta (by omega)⟩
       have hm2:Ya8 f1 (twin m) 1=f1.set (twin m) {e2 with r:=e2.r+1}:=by unfold Ya8;rw[he2]
       obtain⟨f2,hf2⟩:∃f2,f1.set (twin m) {e2 with r:=e2.r+1}=f2:=⟨_,rfl⟩
       have hfl2:f2.length=e1.length:=by rw[<-hf2,TT];exact hfl1
       have hin2:=Yim hin1 (twin m) (d:=1) (by omega)
       rw[hm2,hf2]at hin2
       rw[hm1,hf1,hm2,hf2]at hrun1
       obtain⟨_,_,_,hr1⟩:=hein e (Td he)
       obtain⟨_,_,_,hr2⟩:=hin1 e2 (Td he2)
       have hef:=(hein e (Td he)).1
       have hem:(f1.set (twin m) {e2 with r:=e2.r+1})[m]? =some {e with r:=e.r-1}:=by
        rw[Ni (Yso m),<-hf1,Si hml]
       have hfl3:(f1.set (twin m) {e2 with r:=e2.r+1}).length=f1.length:=TT
       refine zX5 ?_<;>intros
       apply Yz [0,1,2,3,4,5,6,7,8,9,10,11,12,13] [14] [true,true,true]
       kernel_rfl
       kernel_rfl
       exact zy
       (simp only[Ye,nthO];rfl)
       (simp only[Ye,nthO];rfl)
       repeat'(first|(apply Jf T (f:=edF) (l:=e1) (i:=m) (q:=4) (o:=3) (b:=e) (b':={e with r:=e.r-1});(iterate 3 exact rfl);exact zd;exact he;exact rfl;exactλ_=>rfl;exact rfl;exact rfl)|refine zgd ?_|fail)
       rw[hf1]
       apply Y8 (ints (some ⟨gb,0,none⟩) sides by_::blk g (YcQ sides A f1.length cap)::sl 478 4 A f1.length cap (f1.flatMap edF)::ints (some ⟨gs,0,none⟩) sides far::H)
       ·rw[hfl1]
        exact zc0
       apply Yz [0,1,2,3,4,5,6,7,8,9,10,11,12,13,14] [15] [true,true,true]
       kernel_rfl
       kernel_rfl
       exact zy
       (simp only[Ye,nthO];rfl)
       (simp only[Ye,nthO];rfl)
       repeat'(first|(apply YuZ;(iterate 3 exact rfl);rw[hxor])|(apply Jf T (f:=edF) (l:=f1) (i:=twin m) (q:=4) (o:=3) (b:=e2) (b':={e2 with r:=e2.r+1});(iterate 3 exact rfl);exact zd;exact he2;exact rfl;exactλ_=>rfl;exact rfl;exact rfl)|(apply XZ T (l:=f1.set (twin m) {e2 with r:=e2.r+1}) (f:=edF);(rw[hfl3];exact rfl);exact rfl;exact .sl zm;exact rfl;exactλ_=>rfl;exact rfl;exact rfl;omega)|refine zgd ?_|fail)
       apply hK ⟨k,f2,e.f⟩
       ·exact⟨by exact zc28,hrun1,hin2.mono zc28,by exact zc28,hef⟩
       ·exact zc28
       ·exact zc1
       ·dsimp only
        rw[hf2,show f1.length=f2.length by omega]
        exact zc0
theorem YoZ(A:Option Addr)(cap:Nat)(es:List Ed)(f t c:Int):sl 478 4 A (es.length+2) cap (es.flatMap edF++[Value.int .i64 f,.int .i64 t,.int .i64 c,.int .i64 1,.int .i64 t,.int .i64 f,.int .i64 (-c),.int .i64 0])=sl 478 4 A (es++J7 f t c).length cap ((es++J7 f t c).flatMap edF):=by
 grind [J7,edF]
variable {B k:Nat}{w0 w:World}{H:List HP}
theorem Yhp(g sides:Nat)(es:List Ed)(f t c:Int)(hel:es.length<=100000)(hc: -1000000<=c/\c<=1000000){A:Option Addr}{cap:Nat}(hw:St B w0 (gpcs g sides A cap es H) w):
 CX B w0 440 [.pointer (some ⟨g,0,none⟩),.int .i64 f,.int .i64 t,.int .i64 c] w λv K=>∃A' cap',v=.tuple #[]/\K=gpcs g sides A' cap' (es++J7 f t c) H:=by
 refine Ya Tryz.func440 Tryz.ntmps440 rfl rfl hw ?_
 unfold gpcs
 repeat'(first|(apply YuS;exact rfl;exact rfl;omega)|refine zgd ?_|(refine zgh ?_;intro _)|(refine zgi ?_;intro _ _)|fail)
 rename_i A' cap'
 apply Yh (gpcs g sides A' cap' (es++J7 f t c) H)
 ·unfold gpcs
  have e1:(es++J7 f t c).length=es.length+2:=by simp[J7]
  rw[<-YoZ,e1]
  exact zc0
 apply Zk;exact rfl
 exact⟨A',cap',rfl,rfl⟩
variable {closed:Int->Bool}
theorem Ydj(h:closed (k:Int)=false):ZL closed (k+1)=ZL closed k++J7 (2*(k:Int)) (2*(k:Int)+1) 0:=by
 grind [ZL,RL]
theorem Yff(h:closed (k:Int)=true):ZL closed (k+1)=ZL closed k:=by
 grind [ZL,RL]
theorem O3(closed:Int->Bool):∀k,(ZL closed k).length<=2*k
 |0=>by simp[ZL]
 |k+1=>by
  have:=O3 closed k
  cases h:closed (k:Int)
  ·rw[Ydj h,Tt];simp[J7];omega
  grind [Yff]
theorem YjA(l:List Lk)(a:Lk):Uh (l++[a])=Uh l++J7 (2*a.1+1) (2*a.2.1) a.2.2:=by grind [Uh]
theorem Yet(l:List Lk):(Uh l).length=2*l.length:=by
 induction l with
 |nil=>rfl
 |cons a l ih=>
  grind [Uh,J7]
structure Sz where
 k:Nat
 A:Option Addr
 cap:Nat
theorem YkJ(nodes:Nat)(l:List Lk)(closed:Int->Bool)(gm clock:Nat)(ents:Ents)(hn:nodes<=1000)(hl:l.length<=1000)(hok:ArcsOk nodes l)(hmb:MB ents closed){AL:Option Addr}{capL:Nat}(hm:blk gm (mobj ents clock)∈H)(hr:Rd B w0 H AL (l.flatMap lkF))(hw:St B w0 H w):
 CX B w0 420 [.int .i64 nodes,.slice AL l.length capL,.map (some gm)] w λv K=>∃g A cap,v=.pointer (some ⟨g,0,none⟩)/\K=gpcs g (2*nodes) A cap (O7 nodes l closed) H:=by
 refine Ya Tryz.func420 Tryz.ntmps420 rfl rfl hw ?_
 refine zX24 ?_<;>intros
 rename_i g
 refine Yi (λ(z:Sz)=>[(16,.int .i64 z.k),(15,.int .i64 nodes),(7,.pointer (some ⟨g,0,none⟩)),(1,.slice AL l.length capL),(2,.map (some gm))])
  (λz=>gpcs g (2*nodes) z.A z.cap (ZL closed z.k) H) (λz=>z.k<=nodes) (λz=>nodes-z.k) ⟨0,none,0⟩ (Ti _) ?_ ?_ ?_
 ·exact zc1
 ·intro w hw
  have h5:=hw.nilSlice 478 4
  revert h5
  unfold gpcs
  exactλh5=>h5.perm (.swap _ _ _)
 rintro⟨k,A,cap⟩ hk K hK
 simp only at hk⊢
 have hnl:=O3 closed k
 by_cases hlt:k<nodes
 ·obtain⟨b,hb⟩:∃b,closed (k:Int)=b:=⟨_,rfl⟩
  have hmk:blk gm (mobj ents clock)∈gpcs g (2*nodes) A cap (ZL closed k) H:=TE _ (TE _ hm)
  cases b with
  |true=>
   have e2:=Yff hb
   unfold gpcs at hmk⊢
   refine Ytx ?_<;>intros
   apply hK ⟨k+1,A,cap⟩
   ·exact zc28
   ·exact zc28
   ·exact zc1
   ·dsimp only
    rw[e2]
    exactλw hw=>hw
  |false=>
   have e2:=Ydj hb
   unfold gpcs at hmk
   refine Ytx ?_<;>intros
   apply Yg _ Yto
   exact za
   exact rfl
   exactλ_ hw=>(Yhp g (2*nodes) (ZL closed k) (2*(k:Int)) (2*(k:Int)+1) 0 (by omega) (by omega) (hw))
   rintro _ _ ⟨A3,cap3,rfl,rfl⟩
   refine zX9 ?_
   apply hK ⟨k+1,A3,cap3⟩
   ·exact zc28
   ·exact zc28
   ·exact zc1
   ·dsimp only
    rw[e2]
    exactλw hw=>hw
 ·obtain rfl:k=nodes:=by omega
  clear hK
  refine zX1 ?_<;>intros
  refine Yi (λ(z:Sz)=>[(33,.int .i64 z.k),(32,.int .i64 l.length),(31,.slice AL l.length capL),(7,.pointer (some ⟨g,0,none⟩))])
   (λz=>gpcs g (2*k) z.A z.cap (ZL closed k++Uh (l.take z.k)) H) (λz=>z.k<=l.length) (λz=>l.length-z.k) ⟨0,A,cap⟩ (Ti _) ?_ ?_ ?_
  ·exact zc1
  ·dsimp only
   rw[SO,show Uh []=[] from rfl,Rm]
   exactλw hw=>hw
  rintro⟨j,A2,cap2⟩ hj K hK
  simp only at hj⊢
  have hal:=Yet (l.take j)
  rw[TK]at hal
  by_cases hlt:j<l.length
  ·obtain⟨a,ha⟩:∃a,l[j]? =some a:=⟨_,Ta hlt⟩
   obtain⟨⟨a1,a2⟩,⟨a3,a4⟩,⟨a5,a6⟩⟩:=hok a (Td ha)
   have e2:Uh (l.take (j+1))=Uh (l.take j)++J7 (2*a.1+1) (2*a.2.1) a.2.2:=by rw[TF,ha];exact YjA _ _
   have hrk:Rd B w0 (gpcs g (2*k) A2 cap2 (ZL closed k++Uh (l.take j)) H) AL (l.flatMap lkF):=(hr.cons).cons
   refine zX46 ?_<;>intros
   rename_i ga
   apply Zn (gpcs g (2*k) A2 cap2 (ZL closed k++Uh (l.take j)) (blk ga (.cells #[.int .i64 a.1,.int .i64 a.2.1,.int .i64 a.2.2] 383 (0,0))::H))
   ·unfold gpcs
    exact zc0
   apply Yg _ Yto
   exact za
   exact rfl
   exactλ_ hw=>(Yhp g (2*k) (ZL closed k++Uh (l.take j)) (2*a.1+1) (2*a.2.1) a.2.2 (by rw[Tt];omega) (by omega) (hw))
   rintro _ _ ⟨A3,cap3,rfl,rfl⟩
   refine zX9 ?_
   apply hK ⟨j+1,A3,cap3⟩
   ·exact zc28
   ·exact zc28
   ·exact zc1
   ·dsimp only
    rw[e2,<-Ry]
    unfold gpcs
    exact zc0
  ·obtain rfl:j=l.length:=by omega
   clear hK
   rw[TL]
   refine zX1 ?_<;>intros
   apply Yd;exact rfl;exact rfl
   exact⟨g,A2,cap2,rfl,rfl⟩
theorem YnQ{nodes:Nat}{l:List Lk}{closed:Int->Bool}(h:ArcsOk nodes l):EdsIn (2*nodes) 1 (O7 nodes l closed):=by
 intro e he
 rcases TJ.1 he with he|he
 ·obtain⟨v,hv,he⟩:=Nn.1 he
  have hv:=Ru.1 hv
  split at he
  ·cases he
  ·simp only[J7,Rr,RN,NZ]at he
   rcases he with rfl|rfl<;>simp only<;>omega
 ·obtain⟨a,ha,he⟩:=Nn.1 he
  obtain⟨h1,h2,h3⟩:=h a ha
  simp only[J7,Rr,RN,NZ]at he
  grind
theorem YkI(nodes:Nat)(l:List Lk)(closed:Int->Bool):(O7 nodes l closed).length<=2*nodes+2*l.length:=by
 grind [O7,Yet,O3]
variable {es:Ents}
theorem Yau{seen:Array Nat}{e:Int×Value×Nat}(he:e∈es)(hs:seen.contains e.2.2=false):(es.filter λx=>!(seen.push e.2.2).contains x.2.2).length<(es.filter λx=>!seen.contains x.2.2).length:=zc36
theorem Ypb(hn:(es.map λe=>e.2.2).Nodup){x y:Int×Value×Nat}(hx:x∈es)(hy:y∈es)(e:x.2.2=y.2.2):x=y:=by
 induction es with
 |nil=>cases hx
 |cons a l ih=>
  grind
def YuF(mo:Option Nat)(closed:Int->Bool)(H:List HP):Prop:=match mo with
 |none=>∀v,closed v=false
 |some gm=>∃ents clock,blk gm (mobj ents clock)∈H/\MB ents closed/\MOk ents clock
structure Mz(f:Int->Bool) where
 g:Nat
 es:Ents
 c:Nat
 mb:MB es f
 ok:MOk es c
structure Lz where
 es:Ents
 c:Nat
 seen:Array Nat
 f:Int->Bool
theorem Yew(nodes:Nat)(l:List Lk)(a b to:Int)(mo:Option Nat)(closed:Int->Bool)(fuel:Nat)(r:Int×Bool×List Ed)(hn:1<=nodes/\nodes<=50)(hl:l.length<=900)(hok:ArcsOk nodes l)(ha:0<=a/\a<nodes)(hb:0<=b/\b<nodes)(ht:0<=to/\to<nodes)(hfu:fuel<=100000)(hrun:Ou fuel nodes l a b to closed=some r)
 {AL:Option Addr}{capL B:Nat}{w0:World}{H:List HP}{w:World}(hmo:YuF mo closed H) (hr:Rd B w0 H AL (l.flatMap lkF)) (hw:St B w0 H w):
 CX B w0 391 [.int .i64 nodes,.slice AL l.length capL,.int .i64 a,.int .i64 b,.int .i64 to,.map mo] w λv K=>∃g A cap,v=.tuple #[.int .i64 r.1,.pointer (some ⟨g,0,none⟩),.bool r.2.1]/\(r.2.2.length<=2000/\EdsIn (2*nodes) 900000 r.2.2/\ -600000000000000<=r.1/\r.1<=3000000000)/\K=gpcs g (2*nodes) A cap r.2.2 H:=by
 refine Ya Tryz.func391 Tryz.ntmps391 rfl rfl hw ?_
 iterate 8 (first|refine zga ?_|fail)
 refine XE (λ(z:Mz λv=>decide (v=a\/v=b\/v=to))=>[(15,.map (some z.g)),(0,.int .i64 nodes),(1,.slice AL l.length capL),(2,.int .i64 a),(3,.int .i64 b),(4,.int .i64 to),(5,.map mo)]) (λz=>blk z.g (mobj z.es z.c)::H) ?_ ?_
 ·intro K hK
  apply Wv (.n1 1 (.n1 3 (.n1 5 (.n1 0 (.n3 2 (.n2 4 (.n1 6 (.n1 7 (.n1 8 .done))) 6 (.n1 4 (.n1 7 (.n1 8 .done)))) 4 (.n2 2 (.n1 6 (.n1 7 (.n1 8 .done))) 6 (.n1 2 (.n1 7 (.n1 8 .done)))) 6 (.n2 2 (.n1 4 (.n1 7 (.n1 8 .done))) 4 (.n1 2 (.n1 7 (.n1 8 .done))))))))) [] []
  kernel_rfl
  kernel_rfl
  exact zy
  exact rfl
  repeat'(first|(apply UM;exact rfl;intro gs)|(apply Yq8 (kt:=3) (et:=4);(iterate 3 exact rfl);kernel_rfl;(intro _ _;exact zd);(first|assumption|exact MB.nil);(first|assumption|exact MOk.nil);intro _ _ _ _)|(apply Yoy;(simp only[nthO];rfl);(simp only[nthO];rfl);(simp only[nthO];rfl))|(apply Yho;(simp only[nthO];rfl);(simp only[nthO];rfl))|(apply Yhn;(simp only[nthO];rfl))|(apply Wz;try exact zl)|(apply Yj;try exact zl)|refine zgd ?_|fail)
  all_goals(
   rename_i es3 c3 m3 o3
   refine hK ⟨gs,es3,c3,m3.ext λv=>?_,o3⟩ _ _ ?_ ?_
   ·by_cases h1:v=a<;>by_cases h2:v=b<;>by_cases h3:v=to<;>simp[h1,h2,h3]
   ·exact zu
   ·exactλw hw=>hw)
 rintro⟨gs,es0,c0,mb0,ok0⟩
 dsimp only
 apply Y7
 refine XE (λ(z:Mz (UG a b to closed))=>[(15,.map (some z.g)),(0,.int .i64 nodes),(1,.slice AL l.length capL),(2,.int .i64 a),(3,.int .i64 b),(4,.int .i64 to)]) (λz=>blk z.g (mobj z.es z.c)::H) ?_ ?_
 ·intro KK hKK
  cases mo with
  |none=>
   repeat'(first|(apply Yhh (kt:=3) (et:=4);exact rfl;kernel_rfl;exact rfl;intro it)|refine zgb ?_|fail)
   refine Yi (λ(_:Unit)=>[(28,.pointer (some ⟨it,0,none⟩)),(15,.map (some gs)),(0,.int .i64 nodes),(1,.slice AL l.length capL),(2,.int .i64 a),(3,.int .i64 b),(4,.int .i64 to)]) (λ_=>blk it (.mapIter none 0 #[] 0)::blk gs (mobj es0 c0)::H) (λ_=>True) (λ_=>0) () trivial ?_ (λw hw=>hw) ?_
   ·exact zc1
   intro _ _ K hK
   clear hK
   repeat'(first|(apply Yju;exact rfl;exact zm;exact rfl)|refine zgc ?_|fail)
   refine hKK ⟨gs,es0,c0,mb0.ext λv=>?_,ok0⟩ _ _ ?_ ?_
   ·unfold UG;rw[hmo v,NW]
   ·exact zc1
   ·exact zc59
  |some gm=>
   obtain⟨ents,clock,hm,hmb,hmk⟩:=hmo
   repeat'(first|(apply YbV (kt:=3) (et:=4) (g:=gm);exact rfl;exact TE _ hm;kernel_rfl;exact rfl;intro it)|refine zgb ?_|fail)
   refine Yi (λ(_:Lz)=>[(28,.pointer (some ⟨it,0,none⟩)),(15,.map (some gs)),(0,.int .i64 nodes),(1,.slice AL l.length capL),(2,.int .i64 a),(3,.int .i64 b),(4,.int .i64 to)]) (λz=>blk it (.mapIter (some gm) clock z.seen clock)::blk gs (mobj z.es z.c)::H)
    (λz=>MB z.es z.f/\MOk z.es z.c/\(∀v,z.f v=true->UG a b to closed v=true)/\(∀v,(v=a\/v=b\/v=to)->z.f v=true)/\∀e∈ents,z.seen.contains e.2.2=true->z.f e.1=true) (λz=>(ents.filter λx=>!z.seen.contains x.2.2).length) ⟨es0,c0,#[],λv=>decide (v=a\/v=b\/v=to)⟩ ⟨mb0,ok0,λv h=>by unfold UG;simp only at h;rw[h];rfl,λv h=>Tj h,λe _ h=>by simp at h⟩ ?_ (λw hw=>hw) ?_
   ·exact zc1
   rintro⟨es1,c1,seen,f⟩ ⟨i1,i2,i3,i4,i5⟩ K hK
   simp only at i1 i2 i3 i4 i5⊢
   repeat'(first|apply Y7|apply Wu|apply YM|fail)
   apply YfN (g:=gm)
   ·exact rfl
   ·exact TE _ (TE _ hm)
   ·exact rfl
   ·exact YtZ
   ·exact hmk.lt
   ·exact TM _
   ·intro hall
    clear hK
    refine zX9 ?_
    refine hKK ⟨gs,es1,c1,i1.ext λv=>?_,i2⟩ _ _ ?_ ?_
    ·cases hs:UG a b to closed v with
     |true=>
      unfold UG at hs
      rcases RJ _ _▸hs with h|h
      ·exact i4 v (TV h)
      ·obtain⟨e,he,rfl⟩:=hmb.at_ h
       exact i5 e he (hall e he)
     |false=>
      cases hf:f v with
      |false=>rfl
      |true=>rw[i3 v hf]at hs;cases hs
    ·exact zc1
    ·exact zc59
   ·rintro⟨ek,ev,eb⟩ he hseen
    simp only at hseen⊢
    have hec:=hmb.mem he
    repeat'(first|(apply Wx (g:=gm) (e:=(ek,ev,eb));exact rfl;exact TE _ (TE _ hm);exact zm;exact rfl;exact he;exact hmk.nd)|(apply Yk4 (kt:=3) (et:=4);(iterate 3 exact rfl);kernel_rfl;(intro _ _;exact zd);exact i1;exact i2;intro es2 c2 m2 o2 _ _)|refine zgc ?_|fail)
    apply hK ⟨es2,c2,seen.push eb,λv=>decide (v=ek)||f v⟩
    ·refine⟨m2,o2,λv h=>?_,λv h=>?_,λe he2 h=>?_⟩
     ·simp only at h
      rcases RJ _ _▸h with h|h
      ·obtain rfl:=TV h
       unfold UG
       rw[hec,Bool.or_true]
      ·exact i3 v h
     ·simp only;rw[i4 v h,Bool.or_true]
     ·simp only at h⊢
      rw[NK]at h
      rcases RJ _ _▸h with h|h
      ·rw[i5 e he2 h,Bool.or_true]
      ·have:e=(ek,ev,eb):=Ypb hmk.nd he2 he (by simpa using h)
       rw[this];simp
    ·exact Yau (e:=(ek,ev,eb)) he hseen
    ·exact zc1
    exact zc21
 rintro⟨gs2,es2,c2,mb2,ok2⟩
 dsimp only
 have hsl:=YkI nodes l (UG a b to closed)
 have hsi:=YnQ (closed:=UG a b to closed) hok
 unfold Ou at hrun
 cases h1:Yfm fuel (2*nodes) (O7 nodes l (UG a b to closed)) (2*a+1) (2*to)with
 |none=>rw[h1]at hrun;cases hrun
 |some r1=>
  rw[h1]at hrun
  obtain⟨x,ok,es1⟩:=r1
  dsimp only at hrun
  cases h2:Yfm fuel (2*nodes) es1 (2*b+1) (2*to)with
  |none=>rw[h2]at hrun;cases hrun
  |some r2=>
   rw[h2]at hrun
   obtain⟨y,is,es3⟩:=r2
   obtain rfl:=Tn hrun
   refine zX3 ?_
   apply Yg _ YwA
   exact za
   exact rfl
   exactλ_ hw=>(YkJ nodes l (UG a b to closed) gs2 c2 es2 (by omega) (by omega) hok mb2 TC hr.cons (hw))
   rintro _ _ ⟨g,A,cap,rfl,rfl⟩
   refine zX2 ?_
   apply Yg _ Ytl
   exact za
   exact rfl
   exactλ_ hw=>(Yfn g (2*nodes) (O7 nodes l (UG a b to closed)) (2*a+1) (2*to) fuel 1 (x,ok,es1) (by omega) hsi (by omega) (by omega) hfu (by omega) (by omega) h1 (hw))
   rintro _ _ ⟨rfl,⟨q1,q2,q3,q4⟩,rfl⟩
   dsimp only at q1 q2 q3 q4⊢
   refine zX2 ?_
   apply Yg _ Ytl
   exact za
   exact rfl
   exactλ_ hw=>(Yfn g (2*nodes) es1 (2*b+1) (2*to) fuel (1+2*(fuel:Int)) (y,is,es3) (by omega) q2 (by omega) (by omega) hfu (by omega) (by omega) h2 (hw))
   rintro _ _ ⟨rfl,⟨p1,p2,p3,p4⟩,rfl⟩
   dsimp only at p1 p2 p3 p4⊢
   cases ok
   all_goals(
    repeat'(first|refine zgc ?_|fail)
    apply Yh (gpcs g (2*nodes) A cap es3 H)
    ·unfold gpcs
     exact zk
    apply Va;(iterate 4 exact rfl)
    exact⟨g,A,cap,rfl,⟨by omega,p2.mono (by omega),by omega,by omega⟩,rfl⟩)
open Go.ChangeShapes Go.WideShapes Go.ChangeAt Go.RowKit Go.Eng Go.Nw Go.Rt
section
variable {H:Type}{enc:TypeId×Value->H}{W:World}{spare:Nat->Bool}{held:Bool}
structure RtG(W:World)(r:RowM):Prop where
 old:Old W r.A (r.xs.flatMap numF)
 len:r.xs.length<=9223372036854775807
 cap:r.xs.length<=r.cap
 good:∀z∈r.xs,I64 z
theorem Yp0:Opn enc Tryz.prog W spare held 104 rowF (RtG W):=
 Jo (XV (q:=1) Tryz.underlying104 (by kernel_rfl) (by decide) op_i) YlZ (λ_=>rfl) (λ_ h=>⟨h.old,TY h.len maxL,h.cap,h.good⟩)
theorem YbD:Opn enc Tryz.prog W spare held 24 rowF (RtG W):=
 Jo Ygq YlZ (λ_=>rfl) (λ_ h=>⟨h.old,TY h.len maxL,h.cap,h.good⟩)
theorem Yfh:Opn enc Tryz.prog W spare held 67 (λs:SlM RowM=>[s.val]) (SlG W rowF (RtG W)):=XV (q:=1) Tryz.underlying67 (by kernel_rfl) (by decide) Yp0
theorem YpZ:Opn enc Tryz.prog W spare held 22 (λs:SlM RowM=>[s.val]) (SlG W rowF (RtG W)):=XV (q:=1) Tryz.underlying22 (by kernel_rfl) (by decide) YbD
structure RqG(W:World)(x:RqM):Prop where
 f:FlwG x.f
 old:Old W x.A (x.rows.flatMap rowF)
 len:x.rows.length<=9223372036854775807
 cap:x.rows.length<=x.cap
 good:∀r∈x.rows,RtG W r
theorem Yko:Opn enc Tryz.prog W spare held 69 rqF (RqG W):=
 Jo (XJ (ts:=[66,67]) (by kernel_rfl) (Yo Yr0 (Yo Yfh ZS)))
  (λx=>⟨x.1,x.2.1.A,x.2.1.cap,x.2.1.xs⟩) (λx=>by simp[rqF,flwF,SlM.val]) (λx h=>by
   obtain⟨h1,h2,_⟩:=h
   exact⟨h1,h2.old,TY h2.len maxL,h2.cap,h2.good⟩)
theorem Yiv:Opn enc Tryz.prog W spare held 27 (λs:SlM RqM=>[s.val]) (SlG W rqF (RqG W)):=XV (q:=7) Tryz.underlying27 (by kernel_rfl) (by decide) Yko
structure ClG(W:World)(c:ClM):Prop where
 f:I64 c.flow
 rt:Old W c.rA (c.rs.flatMap rowF)
 rg:∀r∈c.rs,RtG W r
 bd:RtG W ⟨c.bA,c.bcap,c.bs⟩
 ws:RtG W ⟨c.wA,c.wcap,c.ws⟩
 st:Old W c.sA (c.ss.flatMap rowF)
 sg:∀r∈c.ss,RtG W r
 rl:c.rs.length<=9223372036854775807
 sl:c.ss.length<=9223372036854775807
 rc:c.rs.length<=c.rcap
 sc:c.ss.length<=c.scap
theorem YpX:Opn enc Tryz.prog W spare held 116 clF (ClG W):=
 Jo (XJ (ts:=[3,67,24,24,22]) (by kernel_rfl) (Yo op_i (Yo Yfh (Yo YbD (Yo YbD (Yo YpZ ZS))))))
  (λx=>⟨x.1,x.2.1.A,x.2.1.cap,x.2.1.xs,x.2.2.1.A,x.2.2.1.cap,x.2.2.1.xs,x.2.2.2.1.A,x.2.2.2.1.cap,x.2.2.2.1.xs,x.2.2.2.2.1.A,x.2.2.2.2.1.cap,x.2.2.2.2.1.xs⟩) (λx=>by simp[clF,numF,rowF,SlM.val]) (λx h=>by
   obtain⟨h1,h2,h3,h4,h5,_⟩:=h
   exact⟨h1,h2.old,h2.good,h3,h4,h5.old,h5.good,TY h2.len maxL,TY h5.len maxL,h2.cap,h5.cap⟩)
theorem YnB:Opn enc Tryz.prog W spare held 32 (λs:SlM ClM=>[s.val]) (SlG W clF (ClG W)):=XV (q:=5) Tryz.underlying32 (by kernel_rfl) (by decide) YpX
end
end Go.Proofs.YtjlgijpmnfabcaaGreatDoor
