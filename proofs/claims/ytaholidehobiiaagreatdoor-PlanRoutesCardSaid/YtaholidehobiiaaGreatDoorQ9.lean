/- Lemmas for the claim, part 9. -/
import Derived.Laws.CopyRow
import Derived.Test.YtaholidehobiiaaGreatDoorQ3
import Derived.Test.YtaholidehobiiaaGreatDoorQ7
set_option maxRecDepth 100000
set_option maxHeartbeats 8000000
set_option linter.all false
namespace Go.Eng
open Go.RowKit
section
variable {P:Program}{n:Shp}{B:Nat}{w0:World}{ops:Array Oper}{Q:Exit->Act->World->Prop}{rest:List Oper}{env:Env}{H:List HP}
variable {S:World->Prop}{last:List Nat}{i:Nat}{oi:Oper}{v:Value}
theorem Yfz(hi:ops[i]? =some oi)(hsel:∀(j:Nat) (o:Oper) cs b,ops[j]? =some o->o.op≠.select cs b)
 (hQ:∀c (a:Act) (w:World),¬Q (.panic c) a w) (hil:last.contains i=true):
 ∀(fuel:Nat) (listed:Array Bool) (a:Act) (w:World),Closed ops listed->
  (∀j oj,ops[j]? =some oj->j≠i->listed.getD j true=false->(∀e∈oj.after,Region.binds .any e=true->e.on≠i)->oi.apart ops oj=true)->
  i∈Region.ready .any ops listed->YieldsIf P ops (λ_=>True) oi v a->
  Zq P ops Q S last fuel (listed.setIfInBounds i true) (a.put oi.dst v) w->Zq P ops Q S last (fuel+1) listed a w:=by
 intro fuel
 have hno:¬last.contains i=false:=by rw[hil];intro h;cases h
 induction fuel with
 |zero=>
  intro listed a w _ _ hr hy H
  refine⟨λh=>(by rw[h]at hr;cases hr),λj hj=>?_⟩
  by_cases hji:j=i
  ·subst hji;exact hy.wpOp hi trivial ⟨λh=>absurd h hno,H⟩
  ·have:=ready_mono hj hji
   rw[H.1]at this
   cases this
 |succ fuel ih=>
  intro listed a w hcl hfree hr hy H
  refine⟨λh=>(by rw[h]at hr;cases hr),λj hj=>?_⟩
  by_cases hji:j=i
  ·subst hji;exact hy.wpOp hi trivial ⟨λh=>absurd h hno,H⟩
  ·have h1:=H.2 j (ready_mono hj hji)
   obtain⟨hjun,oj,hoj,hall⟩:=mem_ready.1 hj
   have hun:=(mem_ready.1 hr).1
   have hun':listed.getD i false=false:=by
    rcases Su i listed.size with h'|h'
    ·simp[h']at hun⊢;exact hun
    ·simp[Array.getElem?_eq_none h']at hun
   have hnot:∀e∈oj.after,Region.binds .any e=true->e.on≠i:=λe he hb heq=>by
    have h2:=hall e he hb
    rw[heq,hun']at h2
    cases h2
   have h2:=wpOp_putIf hoj (hfree j oj hoj hji hjun hnot) (λcs b=>hsel i oi cs b hi) (λcs b=>hsel j oj cs b hoj) (λc a w h=>(hQ c _ w h).elim) hy h1
   have hfree':∀k ok,ops[k]? =some ok->k≠i->(listed.setIfInBounds j true).getD k true=false->
    (∀e∈ok.after,Region.binds .any e=true->e.on≠i)->oi.apart ops ok=true:=λk ok hk hki hu hno=>by
    refine hfree k ok hk hki ?_ hno
    by_cases hjk:j=k
    ·subst hjk;exact hjun
    ·rw[getD_set_ne true hjk]at hu;exact hu
   refine wpOp_mono (λa' w' h3=>⟨h3.2.1,ih (listed.setIfInBounds j true) a' w' (hcl.set hj) hfree' (ready_mono hr (NU hji)) h3.1 ?_⟩) h2
   rw[SV _ _ hji]
   exact h3.2.2
theorem Yfy(hi:ops[i]? =some oi)(hsel:∀(j:Nat) (o:Oper) cs b,ops[j]? =some o->o.op≠.select cs b)
 (hQ:∀c (a:Act) (w:World),¬Q (.panic c) a w) (hil:last.contains i=false):
 ∀(fuel:Nat) (listed:Array Bool) (a:Act) (w:World),Closed ops listed->(∀j,last.contains j=true->listed.getD j false=true\/∃f,ancB ops f j i=true)->
  (∀j oj,ops[j]? =some oj->j≠i->listed.getD j true=false->(∀e∈oj.after,Region.binds .any e=true->e.on≠i)->oi.apart ops oj=true)->
  i∈Region.ready .any ops listed->YieldsIf P ops S oi v a->S w->
  Zq P ops Q S last fuel (listed.setIfInBounds i true) (a.put oi.dst v) w->Zq P ops Q S last (fuel+1) listed a w:=by
 intro fuel
 induction fuel with
 |zero=>
  intro listed a w _ _ _ hr hy hS H
  refine⟨λh=>(by rw[h]at hr;cases hr),λj hj=>?_⟩
  by_cases hji:j=i
  ·subst hji;exact hy.wpOp hi hS ⟨λ_=>hS,H⟩
  ·have:=ready_mono hj hji
   rw[H.1]at this
   cases this
 |succ fuel ih=>
  intro listed a w hcl hlast hfree hr hy hS H
  refine⟨λh=>(by rw[h]at hr;cases hr),λj hj=>?_⟩
  by_cases hji:j=i
  ·subst hji;exact hy.wpOp hi hS ⟨λ_=>hS,H⟩
  ·have h1:=H.2 j (ready_mono hj hji)
   obtain⟨hjun,oj,hoj,hall⟩:=mem_ready.1 hj
   have hun:=(mem_ready.1 hr).1
   have hun':listed.getD i false=false:=by
    rcases Su i listed.size with h'|h'
    ·simp[h']at hun⊢;exact hun
    ·simp[Array.getElem?_eq_none h']at hun
   have hnl:last.contains j=false:=by
    cases hc:last.contains j with
    |false=>rfl
    |true=>
     rcases hlast j hc with h4|⟨f,hf⟩
     ·have h5:listed.getD j true=true:=by
       rcases Su j listed.size with h'|h'
       ·simp[h']at h4⊢;exact h4
       ·simp[Array.getElem?_eq_none h']
      rw[h5]at hjun;cases hjun
     ·have:=Uf hcl f j i (λok hk e he hb=>by
       obtain rfl:ok=oj:=Tv (hk.symm.trans hoj)
       exact hall e he hb) hf
      rw[hun']at this
      cases this
   have hnot:∀e∈oj.after,Region.binds .any e=true->e.on≠i:=λe he hb heq=>by
    have h2:=hall e he hb
    rw[heq,hun']at h2
    cases h2
   have h2:=wpOp_putIf hoj (hfree j oj hoj hji hjun hnot) (λcs b=>hsel i oi cs b hi) (λcs b=>hsel j oj cs b hoj) (λc a w h=>(hQ c _ w h).elim) hy h1
   have hfree':∀k ok,ops[k]? =some ok->k≠i->(listed.setIfInBounds j true).getD k true=false->
    (∀e∈ok.after,Region.binds .any e=true->e.on≠i)->oi.apart ops ok=true:=λk ok hk hki hu hno=>by
    refine hfree k ok hk hki ?_ hno
    by_cases hjk:j=k
    ·subst hjk;exact hjun
    ·rw[getD_set_ne true hjk]at hu;exact hu
   refine wpOp_mono (λa' w' h3=>⟨λ_=>h3.2.1 hnl,ih (listed.setIfInBounds j true) a' w' (hcl.set hj) (λk hk=>?_) hfree' (ready_mono hr (NU hji)) h3.1 (h3.2.1 hnl) ?_⟩) h2
   ·rcases hlast k hk with h4|h4
    ·left
     by_cases hjk:j=k
     ·subst hjk
      rcases Su j listed.size with h'|h'
      ·simp[h']
      ·simp[Array.getElem?_eq_none h']at hjun
     ·rw[getD_set_ne false hjk];exact h4
    ·exact .inr h4
   ·rw[SV _ _ hji]
    exact h3.2.2
def YlC(o:Oper):Bool:=match o.op with|.move _=>true|.extract _ _=>true|_=>false
theorem Ypo{o:Oper}{a:Act}{w:World}(hm:YlC o=true)(hy:YieldsIf P ops S o v a)(hS:S w):YieldsIf P ops (λ_=>True) o v a:=by
 rcases hy with⟨h1,h2⟩|h
 ·refine .inl ⟨h1,λw' _=>?_⟩
  have h3:=h2 w hS
  unfold YlC at hm
  cases hop:o.op<;>rw[hop]at hm<;>first|(cases hm;done)|skip
  ·rename_i x
   simp only[execOp,hop,Sem.run_pure]at h3⊢
   injection h3 with h3 h4
   rw[h3]
  ·rename_i x k
   simp only[execOp,hop,Instr.extract]at h3⊢
   revert h3
   split
   ·rename_i vs _
    cases hk:vs[k]? with
    |none=>simp
    |some u=>simp
   ·intro h3
    simp at h3
 ·exact .inr h
def YhM(ops:Array Oper)(last tail:List Nat):List Nat->Array Bool->Bool
 |[],listed=>VJ ops tail listed
 |i::rest,listed=>
  (match ops[i]? with
   |some o=>
    if last.contains i then YlC o&&!eff o&&(Region.ready .any ops listed).contains i&&Region.free .any ops listed i
    else if eff o then decide (Region.ready .any ops listed=[i])
    else(Region.ready .any ops listed).contains i&&Region.free .any ops listed i&&last.all λj=>listed.getD j false||ancB ops ops.size j i
   |none=>false)&&YhM ops last tail rest (listed.setIfInBounds i true)
theorem Vx{S:World->Prop}{last tail:List Nat}(hs:Region.noSelect ops=true)(hQ:∀c (a:Act) (w:World),¬Q (.panic c) a w)(hlo:¬LetsOut Q)(l:List Oper)(hl:ops=l.toArray)(htl:∀j∈tail,last.contains j=true)(hex:∀j,last.contains j=true->∃o,ops[j]? =some o):
 ∀(o1:List Nat) (listed:Array Bool) (a:Act) (w:World),Closed ops listed->YhM ops last tail o1 listed=true->S w->Yv P ops (Jx P ops Q (Yh l tail)) S (Yh l o1) a w->
  Zq P ops Q S last (o1++tail).length listed a w
 |[],listed,a,w,_,hB,_,h=>JK l hl hex hlo tail listed a w htl hB h
 |i::rest,listed,a,w,hcl,hB,hS,h=>by
  simp only[YhM,Tq]at hB
  obtain⟨h1,h2⟩:=hB
  cases ho:ops[i]? with
  |none=>rw[ho]at h1;cases h1
  |some o=>
   rw[ho]at h1
   have hget:nthO l i=o:=XE hl ho
   simp only[Yh,hget]at h
   by_cases hla:last.contains i=true
   ·simp only[hla,NF,Tq,RS]at h1
    obtain⟨⟨⟨h1,he⟩,h3⟩,h4⟩:=h1
    unfold Yv at h
    rw[Tf (by rw[he];simp)]at h
    obtain⟨v,hy,h5⟩:=h
    have hr:i∈Region.ready .any ops listed:=by simpa using h3
    exact Yfz ho (Region.noSelect_spec hs) hQ hla _ listed a w hcl (Region.free_spec ho h4) hr (Ypo h1 hy hS) (Vx hs hQ hlo l hl htl hex rest _ _ w (hcl.set hr) h2 hS h5)
   ·have hla':last.contains i=false:=NG.2 hla
    simp only[hla',SD,N8]at h1
    by_cases he:eff o=true
    ·simp only[he,NF,Tt]at h1
     unfold Yv at h
     rw[Tn he]at h
     refine⟨λh0=>(by rw[h1]at h0;cases h0),λk hk=>?_⟩
     have hk':=hk
     rw[h1]at hk
     obtain rfl:k=i:=by simpa using hk
     unfold wpOp
     simp only[ho]
     by_cases hw:Region.wanted o (yielded ops a.tmps)=true
     ·rw[Tn hw]at h⊢
      refine .inl (Oper.wp_mono_noQ' (λc a w h=>by cases h) (Oper.wp_mono (λa' w' h'=>⟨λ_=>h'.1,Vx hs hQ hlo l hl htl hex rest _ a' w' (hcl.set hk') h2 h'.1 h'.2⟩) h))
     ·rw[Tf hw]at h⊢
      exact⟨λ_=>hS,Vx hs hQ hlo l hl htl hex rest _ _ w (hcl.set hk') h2 hS h⟩
    ·simp only[he,SD,N8,Tq]at h1
     obtain⟨⟨h3,h4⟩,h6⟩:=h1
     unfold Yv at h
     rw[Tf he]at h
     obtain⟨v,hy,h5⟩:=h
     have hr:i∈Region.ready .any ops listed:=by simpa using h3
     refine Yfy ho (Region.noSelect_spec hs) hQ hla' _ listed a w hcl (λj hj=>?_) (Region.free_spec ho h4) hr hy hS (Vx hs hQ hlo l hl htl hex rest _ _ w (hcl.set hr) h2 hS h5)
     have h7:=TF.1 h6 j (by simpa using hj)
     simp only[R9]at h7
     rcases h7 with h7|h7
     ·exact .inl h7
     ·exact .inr ⟨_,h7⟩
theorem U9{id:Nat}{l:List Oper}(o1 last tail:List Nat)(mask:List Bool){Hc F:List HP}(hm:P.follows .mixedOrders=true)
 (hB:(Region.noSelect l.toArray&&decide ((o1++tail).length=l.toArray.size)&&(tail.all λj=>last.contains j)&&(last.all λj=>decide (j<l.toArray.size))&&YhM l.toArray last tail o1 (Array.replicate l.toArray.size false))=true)
 (hsp:Split mask H Hc F) {l1 l2:List Oper}(hl1:Yh l o1=l1) (hl2:Yh l tail=l2) (h:VL P (some (some F)) n B w0 l.toArray (Jx P l.toArray (Only Q) l2) l1 env Hc):VC P n B w0 (.region id l.toArray true) Q env H:=by
 simp only[Tq,Tt]at hB
 obtain⟨⟨⟨⟨h1,h2⟩,h3⟩,h4⟩,h5⟩:=hB
 refine⟨λa w ha hw=>Ja (Q:=Only Q) ?_ λe a w h=>by cases e<;>first|exact h|cases h⟩
 have hst:St B w0 (Hc++F) w.drew:=(hw.perm (XZ hsp)).drew
 have hr:Yv P l.toArray (Jx P l.toArray (Only Q) l2) (St B w0 Hc) l1 a w.drew:=h.run a ha w.drew hst
 rw[<-hl1,<-hl2]at hr
 have:=Vx (S:=St B w0 Hc) h1 (λc a w h=>h) (by rintro⟨_,_,h⟩;exact h) l rfl (λj hj=>TF.1 h3 j hj) (λj hj=>⟨_,SC (by
  have:=TF.1 h4 j (by simpa using hj)
  simpa using this)⟩) o1 _ a w.drew (Za _ _) h5 hst.prefix_ hr
 rw[h2]at this
 exact V3 hm (Z9 _ _ _ _ this)
end
section
variable {P:Program}{m:Mode}{n:Shp}{B d:Nat}{w0:World}{ops:Array Oper}{Q:Exit->Act->World->Prop}{rest:List Oper}{env:Env}{H:List HP}{ty:TypeId}{pos:String}{after:Array Edge}
theorem Ykv{α:Type}(l cs:List α)(o k:Nat)(h:o+cs.length<=k)(hk:k<=l.length):(l.take o++cs++l.drop (o+cs.length)).take k=(l.take k).take o++cs++(l.take k).drop (o+cs.length):=by
 have hA:(l.take o++cs).length=o+cs.length:=by rw[To,TT];omega
 rw[Nl,hA,T0 (by omega),List.take_take,SO (by omega),List.drop_take]
variable {g o cap:Nat}
theorem YpQ(h:cap≠o):subA (some ⟨g,0,none⟩) o cap 1=some ⟨g,o,none⟩:=by
 unfold subA
 rw[Tf h,Ss,Addr.add_lit,RH,Nz]
theorem YmE(T:Tab P){t e bytes k kd cd mm c2:Nat}{x y:Operand}{A2:Option Addr}{xs ys:List Value}{K:List HP}(hx:evo env x=some (.slice (some ⟨g,o,none⟩) kd cd))(hy:evo env y=some (.slice A2 mm c2))(hr:Rd B w0 H A2 ys)
 (hu:Upd (sl e 1 (some ⟨g,0,none⟩) k cap xs) (sl e 1 (some ⟨g,0,none⟩) k cap (xs.take o++ys.take (min mm kd)++xs.drop (o+min mm kd))) H K) (ht:look T.sl t=some (e,1,bytes)) (hn:Nat.ble (d+1) n.k=true) (h1:∀v∈ys,v.oneCell'=true) (hb:o+kd<=k/\min mm kd<=ys.length/\0<min mm kd)
 (h:VL P none n B w0 ops Q rest ((d,.int .i64 (min mm kd:Nat))::env) K):
 VL P none n B w0 ops Q (⟨some d,.call ⟨.builtin .copy,#[x,y],#[t,t]⟩,ty,pos,after,none⟩::rest) env H:=by
 obtain⟨hut,inf,z,hi,hz,hzs,hsi,hbi,hs0,hb0⟩:=YJ (T.slic ht)
 refine XO (λv K'=>v=.int .i64 (min mm kd:Nat)/\K'=K) rfl rfl hn (λa w ha hw=>?_) (by rintro _ _ ⟨rfl,rfl⟩;exact h)
 have hmem:sl e 1 (some ⟨g,0,none⟩) k cap xs∈H:=by
  obtain⟨L1,L2,rfl,_⟩:=hu
  simp
 rcases Ji (hw.sl hmem)with⟨e0,_⟩|⟨g',cur,e0,g1,g2,g3,g4,g5,g6⟩
 ·cases e0
 injection e0 with e0
 injection e0 with e0
 subst e0
 rw[Nz]at g4 g5 g6
 have hcl:(ys.take (min mm kd)).length=min mm kd:=by rw[TT];omega
 have hsome:∃a2,A2=some a2/\∀j v,(ys.take (min mm kd))[j]? =some v->w.cell? (a2.add j)=some v:=by
  have h0:ys[0]? =some (ys[0]'(by omega)):=Ta (by omega)
  obtain⟨g2',o2,rfl,_⟩:=hr w hw 0 _ h0
  refine⟨_,rfl,λj v hj=>?_⟩
  rw[SE]at hj
  by_cases hjm:j<min mm kd
  ·rw[Tn hjm]at hj
   obtain⟨g3',o3,e3,hc⟩:=hr w hw j v hj
   injection e3 with e3
   injection e3 with e3 e4
   subst e3 e4
   rw[Addr.add_lit];exact hc
  ·rw[Tf hjm]at hj;cases hj
 obtain⟨a2,rfl,hsrc⟩:=hsome
 have hrun:=run_copy_row (P:=P) w t t ty e g o kd cd a2 mm c2 cur e (ys.take (min mm kd)) hut (by rw[hi];simp[hsi]) g1 hcl hsrc (by rw[hcl];omega) (λv hv=>h1 v (SB hv))
 refine⟨_,K,_,?_,hw.storeRow (k':=k) (o:=o) (vs:=ys.take (min mm kd)) hu rfl g1 (by rw[Nz];exact g4) g2 g3 (by rw[hcl];omega) ?_ ?_,rfl,rfl⟩
 ·simp only[execOp,resolve,invoke,builtin]
  have hmap:#[x,y].map a.eval=#[.slice (some ⟨g,o,none⟩) kd cd,.slice (some a2) mm c2]:=by simp[ha.eval hx,ha.eval hy]
  simp only[hmap,Sem.run_bind,Sem.run_pure,Result.andThen_ok]
  rw[hrun]
  simp[goInt,hcl]
 ·rw[hcl,Nz,<-g5]
  have:=Ykv cur.toList (ys.take (min mm kd)) o k (by rw[hcl];omega) (by rw[Nv];omega)
  rw[hcl]at this
  exact this
 ·rw[To,To,hcl,TT,Rq]
  omega
end
section
variable {P:Program}{n:Shp}{B:Nat}{w0:World}{ops:Array Oper}{Q:Exit->Act->World->Prop}{rest:List Oper}{env:Env}{H:List HP}
def Qw(P:Program)(ops:Array Oper)(Q:Exit->Act->World->Prop)(S:World->Prop)(l:List Oper):Exit->Act->World->Prop
 |.normal,a,w=>S w/\Yv P ops Q S l a w
 |e,a,w=>Q e a w
theorem YqA{F H':List HP}{Hc:List HP}(hp:Pull Hc H' F)(h:VL P (some (some F)) n B w0 ops Q rest env Hc):VQ n B w0 (Qw P ops Q (St B w0 Hc) rest) .normal env H':=
 ⟨λa w ha hw=>⟨(hw.perm hp).prefix_,h.run a ha w (hw.perm hp)⟩⟩
variable {S S2:World->Prop}{l:List Oper}
theorem Oper.wp_tailH{o:Oper}{a:Act}{w:World}{K:Act->World->Prop}(h:o.wp P a w K (Qw P ops Q S l)):o.wp P a w K Q:=by
 unfold Oper.wp at h⊢
 generalize(execOp a.eval o).run P w=r at*
 cases r with
 |ok nx w'=>
  cases nx<;>simp only[Oper.upon]at h⊢<;>first
   |exact h
   |(refine Calls.mono h λe w'' he=>?_
     cases e with
     |returned u=>exact he
     |panicked c=>exact he
     |outgrown=>obtain⟨a',w',h'⟩:=he;exact⟨a',w',h'⟩)
 |halt x w'=>
  cases x<;>simp only[Oper.upon]at h⊢
  exact h
def W9(P:Program)(ops:Array Oper)(Q:Exit->Act->World->Prop)(S S2:World->Prop)(last:List Nat):Nat->Array Bool->Act->World->Prop
 |0,listed,a,w=>Region.ready .any ops listed=[]/\Q .normal a w
 |fuel+1,listed,a,w=>
  (Region.ready .any ops listed=[]->Q .normal a w)/\
  ∀i∈Region.ready .any ops listed,wpOp P ops Q i (λa' w'=>((last.contains i=false->S w')/\S2 w')/\W9 P ops Q S S2 last fuel (listed.setIfInBounds i true) a' w') a w
theorem Ye4{S S2:World->Prop}{last:List Nat}:∀(fuel:Nat) (listed:Array Bool) (a:Act) (w:World),W9 P ops Q S S2 last fuel listed a w->wpAny P .any ops Q fuel listed a w
 |0,_,_,_,h=>h
 |fuel+1,_,_,_,h=>⟨h.1,λi hi=>wpOp_mono (λa' w' h'=>Ye4 fuel _ a' w' h'.2) (h.2 i hi)⟩
variable {last:List Nat}{i:Nat}{oi:Oper}{v:Value}
theorem YkL(hi:ops[i]? =some oi)(hsel:∀(j:Nat) (o:Oper) cs b,ops[j]? =some o->o.op≠.select cs b)
 (hQ:∀c (a:Act) (w:World),¬Q (.panic c) a w) (hil:last.contains i=true):
 ∀(fuel:Nat) (listed:Array Bool) (a:Act) (w:World),Closed ops listed->
  (∀j oj,ops[j]? =some oj->j≠i->listed.getD j true=false->(∀e∈oj.after,Region.binds .any e=true->e.on≠i)->oi.apart ops oj=true)->
  i∈Region.ready .any ops listed->YieldsIf P ops S2 oi v a->S2 w->
  W9 P ops Q S S2 last fuel (listed.setIfInBounds i true) (a.put oi.dst v) w->W9 P ops Q S S2 last (fuel+1) listed a w:=by
 intro fuel
 have hno:¬last.contains i=false:=by rw[hil];intro h;cases h
 induction fuel with
 |zero=>
  intro listed a w _ _ hr hy hS H
  refine⟨λh=>(by rw[h]at hr;cases hr),λj hj=>?_⟩
  by_cases hji:j=i
  ·subst hji;exact hy.wpOp hi hS ⟨⟨λh=>absurd h hno,hS⟩,H⟩
  ·have:=ready_mono hj hji
   rw[H.1]at this
   cases this
 |succ fuel ih=>
  intro listed a w hcl hfree hr hy hS H
  refine⟨λh=>(by rw[h]at hr;cases hr),λj hj=>?_⟩
  by_cases hji:j=i
  ·subst hji;exact hy.wpOp hi hS ⟨⟨λh=>absurd h hno,hS⟩,H⟩
  ·have h1:=H.2 j (ready_mono hj hji)
   obtain⟨hjun,oj,hoj,hall⟩:=mem_ready.1 hj
   have hun:=(mem_ready.1 hr).1
   have hun':listed.getD i false=false:=by
    rcases Su i listed.size with h'|h'
    ·simp[h']at hun⊢;exact hun
    ·simp[Array.getElem?_eq_none h']at hun
   have hnot:∀e∈oj.after,Region.binds .any e=true->e.on≠i:=λe he hb heq=>by
    have h2:=hall e he hb
    rw[heq,hun']at h2
    cases h2
   have h2:=wpOp_putIf hoj (hfree j oj hoj hji hjun hnot) (λcs b=>hsel i oi cs b hi) (λcs b=>hsel j oj cs b hoj) (λc a w h=>(hQ c _ w h).elim) hy h1
   have hfree':∀k ok,ops[k]? =some ok->k≠i->(listed.setIfInBounds j true).getD k true=false->
    (∀e∈ok.after,Region.binds .any e=true->e.on≠i)->oi.apart ops ok=true:=λk ok hk hki hu hno=>by
    refine hfree k ok hk hki ?_ hno
    by_cases hjk:j=k
    ·subst hjk;exact hjun
    ·rw[getD_set_ne true hjk]at hu;exact hu
   refine wpOp_mono (λa' w' h3=>⟨h3.2.1,ih (listed.setIfInBounds j true) a' w' (hcl.set hj) hfree' (ready_mono hr (NU hji)) h3.1 h3.2.1.2 ?_⟩) h2
   rw[SV _ _ hji]
   exact h3.2.2
theorem Yij(hSS:∀w,S w->S2 w)(hi:ops[i]? =some oi)(hsel:∀(j:Nat) (o:Oper) cs b,ops[j]? =some o->o.op≠.select cs b)
 (hQ:∀c (a:Act) (w:World),¬Q (.panic c) a w) (hil:last.contains i=false):
 ∀(fuel:Nat) (listed:Array Bool) (a:Act) (w:World),Closed ops listed->(∀j,last.contains j=true->listed.getD j false=true\/∃f,ancB ops f j i=true)->
  (∀j oj,ops[j]? =some oj->j≠i->listed.getD j true=false->(∀e∈oj.after,Region.binds .any e=true->e.on≠i)->oi.apart ops oj=true)->
  i∈Region.ready .any ops listed->YieldsIf P ops S oi v a->S w->
  W9 P ops Q S S2 last fuel (listed.setIfInBounds i true) (a.put oi.dst v) w->W9 P ops Q S S2 last (fuel+1) listed a w:=by
 intro fuel
 induction fuel with
 |zero=>
  intro listed a w _ _ _ hr hy hS H
  refine⟨λh=>(by rw[h]at hr;cases hr),λj hj=>?_⟩
  by_cases hji:j=i
  ·subst hji;exact hy.wpOp hi hS ⟨⟨λ_=>hS,hSS _ hS⟩,H⟩
  ·have:=ready_mono hj hji
   rw[H.1]at this
   cases this
 |succ fuel ih=>
  intro listed a w hcl hlast hfree hr hy hS H
  refine⟨λh=>(by rw[h]at hr;cases hr),λj hj=>?_⟩
  by_cases hji:j=i
  ·subst hji;exact hy.wpOp hi hS ⟨⟨λ_=>hS,hSS _ hS⟩,H⟩
  ·have h1:=H.2 j (ready_mono hj hji)
   obtain⟨hjun,oj,hoj,hall⟩:=mem_ready.1 hj
   have hun:=(mem_ready.1 hr).1
   have hun':listed.getD i false=false:=by
    rcases Su i listed.size with h'|h'
    ·simp[h']at hun⊢;exact hun
    ·simp[Array.getElem?_eq_none h']at hun
   have hnl:last.contains j=false:=by
    cases hc:last.contains j with
    |false=>rfl
    |true=>
     rcases hlast j hc with h4|⟨f,hf⟩
     ·have h5:listed.getD j true=true:=by
       rcases Su j listed.size with h'|h'
       ·simp[h']at h4⊢;exact h4
       ·simp[Array.getElem?_eq_none h']
      rw[h5]at hjun;cases hjun
     ·have:=Uf hcl f j i (λok hk e he hb=>by
       obtain rfl:ok=oj:=Tv (hk.symm.trans hoj)
       exact hall e he hb) hf
      rw[hun']at this
      cases this
   have hnot:∀e∈oj.after,Region.binds .any e=true->e.on≠i:=λe he hb heq=>by
    have h2:=hall e he hb
    rw[heq,hun']at h2
    cases h2
   have h2:=wpOp_putIf hoj (hfree j oj hoj hji hjun hnot) (λcs b=>hsel i oi cs b hi) (λcs b=>hsel j oj cs b hoj) (λc a w h=>(hQ c _ w h).elim) hy h1
   have hfree':∀k ok,ops[k]? =some ok->k≠i->(listed.setIfInBounds j true).getD k true=false->
    (∀e∈ok.after,Region.binds .any e=true->e.on≠i)->oi.apart ops ok=true:=λk ok hk hki hu hno=>by
    refine hfree k ok hk hki ?_ hno
    by_cases hjk:j=k
    ·subst hjk;exact hjun
    ·rw[getD_set_ne true hjk]at hu;exact hu
   refine wpOp_mono (λa' w' h3=>⟨h3.2.1,ih (listed.setIfInBounds j true) a' w' (hcl.set hj) (λk hk=>?_) hfree' (ready_mono hr (NU hji)) h3.1 (h3.2.1.1 hnl) ?_⟩) h2
   ·rcases hlast k hk with h4|h4
    ·left
     by_cases hjk:j=k
     ·subst hjk
      rcases Su j listed.size with h'|h'
      ·simp[h']
      ·simp[Array.getElem?_eq_none h']at hjun
     ·rw[getD_set_ne false hjk];exact h4
    ·exact .inr h4
   ·rw[SV _ _ hji]
    exact h3.2.2
theorem UY{S S2:World->Prop}{last:List Nat}(l:List Oper)(hl:ops=l.toArray)(hef:∀j,last.contains j=true->∃o,ops[j]? =some o):
 ∀(o2:List Nat) (listed:Array Bool) (a:Act) (w:World),(∀j∈o2,last.contains j=true)->VJ ops o2 listed=true->S2 w->Yv P ops Q S2 (Yh l o2) a w->W9 P ops Q S S2 last o2.length listed a w
 |[],listed,a,w,_,hB,_,h=>⟨by simpa [VJ]using hB,h⟩
 |i::rest,listed,a,w,hin,hB,hS,h=>by
  simp only[VJ,Tq,Tt]at hB
  obtain⟨h1,h2⟩:=hB
  obtain⟨o,ho⟩:=hef i (hin i (by simp))
  have hget:nthO l i=o:=XE hl ho
  simp only[Yh,hget]at h
  unfold Yv at h
  refine⟨λh0=>(by rw[h1]at h0;cases h0),λk hk=>?_⟩
  rw[h1]at hk
  obtain rfl:k=i:=by simpa using hk
  have hc:last.contains k=true:=hin k (by simp)
  have hf:¬last.contains k=false:=by rw[hc];intro h;cases h
  have hin':∀j∈rest,last.contains j=true:=λj hj=>hin j (by simp[hj])
  by_cases he:eff o=true
  ·rw[Tn he]at h
   unfold wpOp
   simp only[ho]
   by_cases hw:Region.wanted o (yielded ops a.tmps)=true
   ·rw[Tn hw]at h⊢
    exact .inl (Oper.wp_mono (λa' w' h'=>⟨⟨λh=>absurd h hf,h'.1⟩,UY l hl hef rest _ a' w' hin' h2 h'.1 h'.2⟩) h)
   ·rw[Tf hw]at h⊢
    exact⟨⟨λh=>absurd h hf,hS⟩,UY l hl hef rest _ _ w hin' h2 hS h⟩
  ·rw[Tf he]at h
   obtain⟨v,hy,h3⟩:=h
   exact hy.wpOp ho hS ⟨⟨λh=>absurd h hf,hS⟩,UY l hl hef rest _ _ w hin' h2 hS h3⟩
def YcO(ops:Array Oper)(last tail:List Nat):List Nat->Array Bool->Bool
 |[],listed=>VJ ops tail listed
 |i::rest,listed=>
  (match ops[i]? with
   |some o=>
    !last.contains i&&(if eff o then decide (Region.ready .any ops listed=[i])
    else(Region.ready .any ops listed).contains i&&Region.free .any ops listed i&&last.all λj=>listed.getD j false||ancB ops ops.size j i)
   |none=>false)&&YcO ops last tail rest (listed.setIfInBounds i true)
def YhO(ops:Array Oper)(last tail o1:List Nat):List Nat->Array Bool->Bool
 |[],listed=>YcO ops last tail o1 listed
 |i::rest,listed=>
  (match ops[i]? with
   |some o=>last.contains i&&!eff o&&(Region.ready .any ops listed).contains i&&Region.free .any ops listed i
   |none=>false)&&YhO ops last tail o1 rest (listed.setIfInBounds i true)
theorem V1{S S2:World->Prop}(hSS:∀w,S w->S2 w){last tail:List Nat}(hs:Region.noSelect ops=true)(hQ:∀c (a:Act) (w:World),¬Q (.panic c) a w)(l:List Oper)(hl:ops=l.toArray)(htl:∀j∈tail,last.contains j=true)(hex:∀j,last.contains j=true->∃o,ops[j]? =some o):
 ∀(o1:List Nat) (listed:Array Bool) (a:Act) (w:World),Closed ops listed->YcO ops last tail o1 listed=true->S w->Yv P ops (Qw P ops Q S2 (Yh l tail)) S (Yh l o1) a w->
  W9 P ops Q S S2 last (o1++tail).length listed a w
 |[],listed,a,w,_,hB,hS,h=>by
  have h':S2 w/\Yv P ops Q S2 (Yh l tail) a w:=h
  exact UY l hl hex tail listed a w htl hB h'.1 h'.2
 |i::rest,listed,a,w,hcl,hB,hS,h=>by
  simp only[YcO,Tq]at hB
  obtain⟨h1,h2⟩:=hB
  cases ho:ops[i]? with
  |none=>rw[ho]at h1;cases h1
  |some o=>
   rw[ho]at h1
   have hget:nthO l i=o:=XE hl ho
   simp only[Yh,hget]at h
   simp only[Tq,RS]at h1
   obtain⟨hla',h1⟩:=h1
   by_cases he:eff o=true
   ·simp only[he,NF,Tt]at h1
    unfold Yv at h
    rw[Tn he]at h
    refine⟨λh0=>(by rw[h1]at h0;cases h0),λk hk=>?_⟩
    have hk':=hk
    rw[h1]at hk
    obtain rfl:k=i:=by simpa using hk
    unfold wpOp
    simp only[ho]
    by_cases hw:Region.wanted o (yielded ops a.tmps)=true
    ·rw[Tn hw]at h⊢
     refine .inl (Oper.wp_tailH (Oper.wp_mono (λa' w' h'=>⟨⟨λ_=>h'.1,hSS _ h'.1⟩,V1 hSS hs hQ l hl htl hex rest _ a' w' (hcl.set hk') h2 h'.1 h'.2⟩) h))
    ·rw[Tf hw]at h⊢
     exact⟨⟨λ_=>hS,hSS _ hS⟩,V1 hSS hs hQ l hl htl hex rest _ _ w (hcl.set hk') h2 hS h⟩
   ·simp only[he,SD,N8,Tq]at h1
    obtain⟨⟨h3,h4⟩,h6⟩:=h1
    unfold Yv at h
    rw[Tf he]at h
    obtain⟨v,hy,h5⟩:=h
    have hr:i∈Region.ready .any ops listed:=by simpa using h3
    refine Yij hSS ho (Region.noSelect_spec hs) hQ hla' _ listed a w hcl (λj hj=>?_) (Region.free_spec ho h4) hr hy hS (V1 hSS hs hQ l hl htl hex rest _ _ w (hcl.set hr) h2 hS h5)
    have h7:=TF.1 h6 j (by simpa using hj)
    simp only[R9]at h7
    rcases h7 with h7|h7
    ·exact .inl h7
    ·exact .inr ⟨_,h7⟩
theorem Ycc{S S2:World->Prop}(hSS:∀w,S w->S2 w){last tail o1:List Nat}(hs:Region.noSelect ops=true)(hQ:∀c (a:Act) (w:World),¬Q (.panic c) a w)(l:List Oper)(hl:ops=l.toArray)(htl:∀j∈tail,last.contains j=true)(hex:∀j,last.contains j=true->∃o,ops[j]? =some o):
 ∀(oA:List Nat) (listed:Array Bool) (a:Act) (w:World),Closed ops listed->YhO ops last tail o1 oA listed=true->S2 w->Yv P ops (Qw P ops (Qw P ops Q S2 (Yh l tail)) S (Yh l o1)) S2 (Yh l oA) a w->
  W9 P ops Q S S2 last (oA++(o1++tail)).length listed a w
 |[],listed,a,w,hcl,hB,_,h=>by
  have h':S w/\Yv P ops (Qw P ops Q S2 (Yh l tail)) S (Yh l o1) a w:=h
  exact V1 hSS hs hQ l hl htl hex o1 listed a w hcl hB h'.1 h'.2
 |i::rest,listed,a,w,hcl,hB,hS,h=>by
  simp only[YhO,Tq]at hB
  obtain⟨h1,h2⟩:=hB
  cases ho:ops[i]? with
  |none=>rw[ho]at h1;cases h1
  |some o=>
   rw[ho]at h1
   have hget:nthO l i=o:=XE hl ho
   simp only[Yh,hget]at h
   simp only[Tq,RS]at h1
   obtain⟨⟨⟨hla,he⟩,h3⟩,h4⟩:=h1
   unfold Yv at h
   rw[Tf (by rw[he];simp)]at h
   obtain⟨v,hy,h5⟩:=h
   have hr:i∈Region.ready .any ops listed:=by simpa using h3
   exact YkL ho (Region.noSelect_spec hs) hQ hla _ listed a w hcl (Region.free_spec ho h4) hr hy hS (Ycc hSS hs hQ l hl htl hex rest _ _ w (hcl.set hr) h2 hS h5)
theorem Yqe{id:Nat}(oA o1 tail:List Nat)(maskA maskB:List Bool){HA FA HB FB:List HP}(hm:P.follows .mixedOrders=true)
 (hB:(Region.noSelect l.toArray&&decide ((oA++(o1++tail)).length=l.toArray.size)&&((oA++tail).all λj=>decide (j<l.toArray.size))&&YhO l.toArray (oA++tail) tail o1 oA (Array.replicate l.toArray.size false))=true)
 (hspA:Split maskA H HA FA) (_hspB:Split maskB H HB FB) (hsub:∀w,St B w0 HB w->St B w0 HA w) {lA l1 l2:List Oper}(hlA:Yh l oA=lA) (hl1:Yh l o1=l1) (hl2:Yh l tail=l2)
 (h:VL P (some (some FA)) n B w0 l.toArray (Qw P l.toArray (Qw P l.toArray (Only Q) (St B w0 HA) l2) (St B w0 HB) l1) lA env HA):VC P n B w0 (.region id l.toArray true) Q env H:=by
 simp only[Tq,Tt]at hB
 obtain⟨⟨⟨h1,h2⟩,h4⟩,h5⟩:=hB
 refine⟨λa w ha hw=>Ja (Q:=Only Q) ?_ λe a w h=>by cases e<;>first|exact h|cases h⟩
 have hst:St B w0 (HA++FA) w.drew:=(hw.perm (XZ hspA)).drew
 have hr:=h.run a ha w.drew hst
 have hr':Yv P l.toArray (Qw P l.toArray (Qw P l.toArray (Only Q) (St B w0 HA) l2) (St B w0 HB) l1) (St B w0 HA) lA a w.drew:=hr
 rw[<-hlA,<-hl1,<-hl2]at hr'
 have:=Ycc (S:=St B w0 HB) (S2:=St B w0 HA) hsub (last:=oA++tail) h1 (λc a w h=>h) l rfl (λj hj=>by simp[hj]) (λj hj=>⟨_,SC (by
  have:=TF.1 h4 j (by simpa using hj)
  simpa using this)⟩) oA _ a w.drew (Za _ _) h5 hst.prefix_ hr'
 rw[h2]at this
 exact V3 hm (Ye4 _ _ _ _ this)
end
end Go.Eng
namespace Go.Proofs.YtaholidehobiiaaGreatDoor
open Go.RowKit Go.Eng Go.Nw
structure RowM where
 A:Option Addr
 cap:Nat
 xs:List Int
structure NetM where
 nodes:Int
 pA:Option Addr
 pcap:Nat
 rows:List RowM
 noise:Int
 thr:Int
 lA:Option Addr
 lcap:Nat
 links:List Lk
 mA:Option Addr
 mcap:Nat
 margin:List Int
def NetM.net(n:NetM):Net:=⟨n.nodes,n.rows.map (·.xs),n.noise,n.thr,n.links,n.margin⟩
def NetM.val(n:NetM):Value:=.agg #[.int .i64 n.nodes,.slice n.pA n.rows.length n.pcap,.int .i64 n.noise,.int .i64 n.thr,.slice n.lA n.links.length n.lcap,.slice n.mA n.margin.length n.mcap]
def rowF(r:RowM):List Value:=[.slice r.A r.xs.length r.cap]
def numF(z:Int):List Value:=[.int .i64 z]
def lkF(l:Lk):List Value:=[.int .i64 l.1,.int .i64 l.2.1,.int .i64 l.2.2]
def lkV(l:Lk):Value:=.agg #[.int .i64 l.1,.int .i64 l.2.1,.int .i64 l.2.2]
structure NetM.In(B:Nat)(w0:World)(H:List HP)(n:NetM):Prop where
 pw:Rd B w0 H n.pA (n.rows.flatMap rowF)
 rw_:∀r∈n.rows,Rd B w0 H r.A (r.xs.flatMap numF)
 lk:Rd B w0 H n.lA (n.links.flatMap lkF)
 mg:Rd B w0 H n.mA (n.margin.flatMap numF)
 s1:n.rows.length<=9223372036854775807
 s2:∀r∈n.rows,r.xs.length<=9223372036854775807
 s3:n.links.length<=9223372036854775807
 s4:n.margin.length<=9223372036854775807
variable {B cap:Nat}{w0 w:World}{H:List HP}
theorem NetM.In.cons{n:NetM}{X:HP}(h:n.In B w0 H):n.In B w0 (X::H):=
 ⟨h.pw.cons,λr hr=>(h.rw_ r hr).cons,h.lk.cons,h.mg.cons,h.s1,h.s2,h.s3,h.s4⟩
variable {α:Type}{A:Option Addr}
theorem Yfo(val:α->Value)(p:α->Bool)(l:List α)(f:Nat)(cs:List Value)(hen:∀xs w,(callFunc f xs).run Tryz.prog w=.ok (.enter f xs) w)(hlen:l.length<=9223372036854775807)(hr:Rd B w0 H A (l.flatMap λa=>[val a]))
 (hp:∀a∈l,∀w,St B w0 H w->Calls Tryz.prog f ([val a]++cs).toArray w (Post B w0 λv K=>v=.bool (p a)/\K=H)) (hw:St B w0 H w):
 CX B w0 341 [.slice A l.length cap,.func (.func f) #[] cs.toArray] w λv K=>v=.int .i64 (Ym p l 0)/\K=H:=by
 refine Yc Tryz.func341 Tryz.ntmps341 rfl rfl hw ?_
 refine zX8 ?_
 refine Yg (λ(k:Nat)=>[(8,.int .i64 k),(7,.int .i64 l.length),(0,.slice A l.length cap),(1,.func (.func f) #[] cs.toArray)]) (λ_=>H) (λk=>k<=l.length/\Ym p l 0=Ym p (l.drop k) k) (λk=>l.length-k) 0 ⟨Tm _,by simp⟩ ?_ (λw hw=>hw) ?_
 ·exact zc1
 rintro k ⟨hk,hi⟩ K hK
 by_cases hlt:k<l.length
 ·obtain⟨a,ha⟩:∃a,l[k]? =some a:=⟨_,Ta hlt⟩
  have hpa:=hp a (Tc ha)
  rw[Z3 p l ha]at hi
  refine zX10 ?_<;>intros
  cases hpv:p a
  ·rw[hpv]at hi
   refine zX11 ?_
   apply hK (k+1)
   ·grind
   ·omega
   ·exact zc1
   exact zc17
  exact zc10
 exact zc7
theorem Wk(val:α->Value)(p:α->Bool)(l:List α)(f:Nat)(cs:List Value)(hen:∀xs w,(callFunc f xs).run Tryz.prog w=.ok (.enter f xs) w)(hlen:l.length<=9223372036854775807)(hr:Rd B w0 H A (l.flatMap λa=>[val a]))
 (hp:∀a∈l,∀w,St B w0 H w->Calls Tryz.prog f ([val a]++cs).toArray w (Post B w0 λv K=>v=.bool (p a)/\K=H)) (hw:St B w0 H w):
 CX B w0 259 [.slice A l.length cap,.func (.func f) #[] cs.toArray] w λv K=>v=.bool (l.any p)/\K=H:=by
 refine Yc Tryz.func259 Tryz.ntmps259 rfl rfl hw ?_
 have hia:=JT p l 0 (by omega)
 repeat'(first|((first|apply Ya Yu2|apply Yb Yu2);exact za;exact rfl;exactλ_ hw=>(Yfo val p l f cs hen hlen hr hp hw))|(apply(zs20 ?_ ?_)<;>intro _<;>try(omega))|refine zga ?_|fail)
 all_goals(apply Yd;exact rfl;exact rfl)
 all_goals grind
theorem Yfp(val:α->Value)(p:α->Bool)(l:List α)(f:Nat)(cs:List Value)(hen:∀xs w,(callFunc f xs).run Tryz.prog w=.ok (.enter f xs) w)(hlen:l.length<=9223372036854775807)(hr:Rd B w0 H A (l.flatMap λa=>[val a]))
 (hp:∀a∈l,∀w,St B w0 H w->Calls Tryz.prog f ([val a]++cs).toArray w (Post B w0 λv K=>v=.bool (p a)/\K=H)) (hw:St B w0 H w):
 CX B w0 340 [.slice A l.length cap,.func (.func f) #[] cs.toArray] w λv K=>v=.int .i64 (Ym p l 0)/\K=H:=by
 refine Yc Tryz.func340 Tryz.ntmps340 rfl rfl hw ?_
 refine zX8 ?_
 refine Yg (λ(k:Nat)=>[(8,.int .i64 k),(7,.int .i64 l.length),(0,.slice A l.length cap),(1,.func (.func f) #[] cs.toArray)]) (λ_=>H) (λk=>k<=l.length/\Ym p l 0=Ym p (l.drop k) k) (λk=>l.length-k) 0 ⟨Tm _,by simp⟩ ?_ (λw hw=>hw) ?_
 ·exact zc1
 rintro k ⟨hk,hi⟩ K hK
 by_cases hlt:k<l.length
 ·obtain⟨a,ha⟩:∃a,l[k]? =some a:=⟨_,Ta hlt⟩
  have hpa:=hp a (Tc ha)
  rw[Z3 p l ha]at hi
  refine zX10 ?_<;>intros
  cases hpv:p a
  ·rw[hpv]at hi
   refine zX11 ?_
   apply hK (k+1)
   ·grind
   ·omega
   ·exact zc1
   exact zc17
  exact zc10
 exact zc7
theorem Wl(val:α->Value)(p:α->Bool)(l:List α)(f:Nat)(cs:List Value)(hen:∀xs w,(callFunc f xs).run Tryz.prog w=.ok (.enter f xs) w)(hlen:l.length<=9223372036854775807)(hr:Rd B w0 H A (l.flatMap λa=>[val a]))
 (hp:∀a∈l,∀w,St B w0 H w->Calls Tryz.prog f ([val a]++cs).toArray w (Post B w0 λv K=>v=.bool (p a)/\K=H)) (hw:St B w0 H w):
 CX B w0 255 [.slice A l.length cap,.func (.func f) #[] cs.toArray] w λv K=>v=.bool (l.any p)/\K=H:=by
 refine Yc Tryz.func255 Tryz.ntmps255 rfl rfl hw ?_
 have hia:=JT p l 0 (by omega)
 repeat'(first|((first|apply Ya Yu1|apply Yb Yu1);exact za;exact rfl;exactλ_ hw=>(Yfp val p l f cs hen hlen hr hp hw))|(apply(zs20 ?_ ?_)<;>intro _<;>try(omega))|refine zga ?_|fail)
 all_goals(apply Yd;exact rfl;exact rfl)
 all_goals grind
theorem Yd1(val:α->Value)(p:α->Bool)(l:List α)(f:Nat)(cs:List Value)(hen:∀xs w,(callFunc f xs).run Tryz.prog w=.ok (.enter f xs) w)(hlen:l.length<=9223372036854775807)(hr:Rd B w0 H A (l.flatMap λa=>[val a]))
 (hp:∀a∈l,∀w,St B w0 H w->Calls Tryz.prog f ([val a]++cs).toArray w (Post B w0 λv K=>v=.bool (p a)/\K=H)) (hw:St B w0 H w):
 CX B w0 376 [.slice A l.length cap,.func (.func f) #[] cs.toArray] w λv K=>v=.int .i64 (Ym p l 0)/\K=H:=by
 refine Yc Tryz.func376 Tryz.ntmps376 rfl rfl hw ?_
 refine zX8 ?_
 refine Yg (λ(k:Nat)=>[(8,.int .i64 k),(7,.int .i64 l.length),(0,.slice A l.length cap),(1,.func (.func f) #[] cs.toArray)]) (λ_=>H) (λk=>k<=l.length/\Ym p l 0=Ym p (l.drop k) k) (λk=>l.length-k) 0 ⟨Tm _,by simp⟩ ?_ (λw hw=>hw) ?_
 ·exact zc1
 rintro k ⟨hk,hi⟩ K hK
 by_cases hlt:k<l.length
 ·obtain⟨a,ha⟩:∃a,l[k]? =some a:=⟨_,Ta hlt⟩
  have hpa:=hp a (Tc ha)
  rw[Z3 p l ha]at hi
  refine zX10 ?_<;>intros
  cases hpv:p a
  ·rw[hpv]at hi
   refine zX11 ?_
   apply hK (k+1)
   ·grind
   ·omega
   ·exact zc1
   exact zc17
  exact zc10
 exact zc7
theorem Yax(val:α->Value)(p:α->Bool)(l:List α)(f:Nat)(cs:List Value)(hen:∀xs w,(callFunc f xs).run Tryz.prog w=.ok (.enter f xs) w)(hlen:l.length<=9223372036854775807)(hr:Rd B w0 H A (l.flatMap λa=>[val a]))
 (hp:∀a∈l,∀w,St B w0 H w->Calls Tryz.prog f ([val a]++cs).toArray w (Post B w0 λv K=>v=.bool (p a)/\K=H)) (hw:St B w0 H w):
 CX B w0 310 [.slice A l.length cap,.func (.func f) #[] cs.toArray] w λv K=>v=.bool (l.any p)/\K=H:=by
 refine Yc Tryz.func310 Tryz.ntmps310 rfl rfl hw ?_
 have hia:=JT p l 0 (by omega)
 repeat'(first|((first|apply Ya Yu4|apply Yb Yu4);exact za;exact rfl;exactλ_ hw=>(Yd1 val p l f cs hen hlen hr hp hw))|(apply(zs20 ?_ ?_)<;>intro _<;>try(omega))|refine zga ?_|fail)
 all_goals(apply Yd;exact rfl;exact rfl)
 all_goals grind
theorem Ypa(x:Int)(hw:St B w0 H w):CX B w0 235 [.int .i64 x] w λv K=>v=.bool false/\K=H:=by
 refine Yc Tryz.func235 Tryz.ntmps235 rfl rfl hw ?_
 repeat'(first|((refine zs16 ?_ ?_<;>intro _<;>try(omega)))|refine zga ?_|fail)
 exact zc24
theorem OB(x y:Int)(hw:St B w0 H w):CX B w0 140 [.int .i64 x,.int .i64 y] w λv K=>v=.int .i64 (cmpI x y)/\K=H:=by
 refine Yc Tryz.func140 Tryz.ntmps140 rfl rfl hw ?_
 unfold cmpI
 repeat'(first|((first|apply Ya YuG|apply Yb YuG);exact za;exact rfl;exactλ_ hw=>(Ypa _ hw))|refine zgb ?_|(refine zgf ?_ ?_<;>intro _<;>try exact zo)|fail)
 all_goals(((repeat apply Yj);apply Yd;exact rfl;exact rfl;refine⟨TE _ ?_,rfl⟩);(repeat(first|refine Xu (by omega) ?_|refine Xv (by omega) ?_));rfl)
end Go.Proofs.YtaholidehobiiaaGreatDoor
namespace Go.Eng
open Go.RowKit
open Go.ChangeMaps (setBlock)
inductive OU where
 |done
 |n1 (i:Nat) (t:OU)
 |n2 (i:Nat) (t:OU) (j:Nat) (u:OU)
 |n3 (i:Nat) (t:OU) (j:Nat) (u:OU) (k:Nat) (v:OU)
section
variable {P:Program}{n:Shp}{B:Nat}{w0:World}{Q:Exit->Act->World->Prop}{env:Env}{H:List HP}{ops:Array Oper}
def Zg(P:Program)(ops:Array Oper)(l:List Oper)(Q:Exit->Act->World->Prop)(S:World->Prop):OU->Act->World->Prop
 |.done,a,w=>Q .normal a w
 |.n1 i t,a,w=>Yv P ops (λe a w=>match e with|.normal=>Zg P ops l Q S t a w|_=>False) S [nthO l i] a w
 |.n2 i t j u,a,w=>Yv P ops (λe a w=>match e with|.normal=>Zg P ops l Q S t a w|_=>False) S [nthO l i] a w/\Yv P ops (λe a w=>match e with|.normal=>Zg P ops l Q S u a w|_=>False) S [nthO l j] a w
 |.n3 i t j u k v,a,w=>Yv P ops (λe a w=>match e with|.normal=>Zg P ops l Q S t a w|_=>False) S [nthO l i] a w/\Yv P ops (λe a w=>match e with|.normal=>Zg P ops l Q S u a w|_=>False) S [nthO l j] a w/\Yv P ops (λe a w=>match e with|.normal=>Zg P ops l Q S v a w|_=>False) S [nthO l k] a w
def Uu(ops:Array Oper)(last:List Nat):OU->Array Bool->Nat->Bool
 |.done,listed,0=>VJ ops last listed
 |.done,_,_+1=>false
 |.n1 i t,listed,k+1=>!last.contains i&&(match ops[i]? with
  |some o=>if eff o then decide (Region.ready .any ops listed=[i])else(Region.ready .any ops listed).contains i&&Region.free .any ops listed i
  |none=>false)&&Uu ops last t (listed.setIfInBounds i true) k
 |.n2 i t j u,listed,k+1=>!last.contains i&&!last.contains j&&UQ ops i&&UQ ops j&&((Region.ready .any ops listed).all λx=>x==i||x==j)&&!(Region.ready .any ops listed).isEmpty&&Uu ops last t (listed.setIfInBounds i true) k&&Uu ops last u (listed.setIfInBounds j true) k
 |.n3 i t j u q v,listed,k+1=>!last.contains i&&!last.contains j&&!last.contains q&&UQ ops i&&UQ ops j&&UQ ops q&&((Region.ready .any ops listed).all λx=>x==i||x==j||x==q)&&!(Region.ready .any ops listed).isEmpty&&Uu ops last t (listed.setIfInBounds i true) k&&Uu ops last u (listed.setIfInBounds j true) k&&Uu ops last v (listed.setIfInBounds q true) k
 |.n1 _ _,_,0=>false
 |.n2 _ _ _ _,_,0=>false
 |.n3 _ _ _ _ _ _,_,0=>false
theorem JL{S:World->Prop}{last:List Nat}(hs:Region.noSelect ops=true)(hQ:∀c (a:Act) (w:World),¬Q (.panic c) a w)(hlo:¬LetsOut Q)(l:List Oper)(hl:ops=l.toArray)(hlast:Yd3 ops last=true):
 ∀(t:OU) (k:Nat) (listed:Array Bool) (a:Act) (w:World),Closed ops listed->Uu ops last t listed k=true->S w->Zg P ops l (Jx P ops Q (Yh l last)) S t a w->
  Zq P ops Q S last (k+last.length) listed a w
 |.done,0,listed,a,w,_,hB,_,h=>by
  have:=JK (S:=S) l hl (Vg hlast).1 hlo last listed a w (λj hj=>by simp_all) hB h
  simp_all
 |.done,_+1,_,_,_,_,hB,_,_=>by cases hB
 |.n1 _ _,0,_,_,_,_,hB,_,_=>by cases hB
 |.n2 _ _ _ _,0,_,_,_,_,hB,_,_=>by cases hB
 |.n3 _ _ _ _ _ _,0,_,_,_,_,hB,_,_=>by cases hB
 |.n1 i t,k+1,listed,a,w,hcl,hB,hS,h=>by
  simp only[Uu,Tq]at hB
  obtain⟨⟨h0,h1⟩,h2⟩:=hB
  have hno:last.contains i=false:=by simp_all
  cases ho:ops[i]? with
  |none=>simp_all
  |some o=>
   rw[ho]at h1
   have hget:=XE hl ho
   unfold Zg at h
   rw[hget]at h
   rw[SZ]
   by_cases he:eff o=true
   ·simp only[he,NF,Tt]at h1
    refine⟨λh0=>(by simp_all),λj hj=>?_⟩
    have hj':=hj
    rw[h1]at hj
    obtain rfl:j=i:=by simp_all
    exact Ul ho he hno (λe a w hne=>by simp_all) hS h λa w hS' h'=>JL hs hQ hlo l hl hlast t k _ a w (hcl.set hj') h2 hS' h'
   ·simp only[he]at h1
    simp only[SD,N8,Tq]at h1
    unfold Yv at h
    rw[Tf he]at h
    obtain⟨v,hy,h3⟩:=h
    have hr:i∈Region.ready .any ops listed:=by simp_all
    exact J2 ho (Region.noSelect_spec hs) hQ ((Vg hlast).2 i o ho (by simp_all) hno) hno _ listed a w hcl (Region.free_spec ho h1.2) hr hy hS (JL hs hQ hlo l hl hlast t k _ _ w (hcl.set hr) h2 hS h3)
 |.n2 i t j u,k+1,listed,a,w,hcl,hB,hS,h=>by
  simp only[Uu,Tq]at hB
  obtain⟨⟨⟨⟨⟨⟨⟨b1,b2⟩,b3⟩,b4⟩,b5⟩,b6⟩,b7⟩,b8⟩:=hB
  have hi:last.contains i=false:=by simp_all
  have hj:last.contains j=false:=by simp_all
  unfold Zg at h
  rw[SZ]
  refine⟨λh0=>(by simp_all),λx hx=>?_⟩
  have h5:=TF.1 b5 x hx
  simp only[R9,S5]at h5
  rcases h5 with rfl|rfl
  ·unfold UQ at b3
   cases ho:ops[x]? with
   |none=>simp_all
   |some o=>
    exact zc49
  ·unfold UQ at b4
   cases ho:ops[x]? with
   |none=>rw[ho]at b4;cases b4
   |some o=>
    rw[ho]at b4
    have hg:=h.2
    exact zc59
 |.n3 i t j u q v,k+1,listed,a,w,hcl,hB,hS,h=>by
  simp only[Uu,Tq]at hB
  obtain⟨⟨⟨⟨⟨⟨⟨⟨⟨⟨b1,b2⟩,b2q⟩,b3⟩,b4⟩,b4q⟩,b5⟩,b6⟩,b7⟩,b8⟩,b9⟩:=hB
  have hi:last.contains i=false:=by simpa using b1
  have hj:last.contains j=false:=by simpa using b2
  have hq:last.contains q=false:=by simpa using b2q
  unfold Zg at h
  rw[SZ]
  refine⟨λh0=>(by rw[h0]at b6;cases b6),λx hx=>?_⟩
  have h5:=TF.1 b5 x hx
  simp only[R9,S5]at h5
  rcases h5 with(rfl|rfl)|rfl
  ·unfold UQ at b3
   cases ho:ops[x]? with
   |none=>rw[ho]at b3;cases b3
   |some o=>
    exact zc49
  ·unfold UQ at b4
   cases ho:ops[x]? with
   |none=>rw[ho]at b4;cases b4
   |some o=>
    rw[ho]at b4
    have hg:=h.2.1
    exact zc59
  ·unfold UQ at b4q
   cases ho:ops[x]? with
   |none=>rw[ho]at b4q;cases b4q
   |some o=>
    rw[ho]at b4q
    have hg:=h.2.2
    rw[XE hl ho]at hg
    exact Ul ho b4q hq (λe a w hne=>by cases e<;>simp_all) hS hg λa w hS' h'=>JL hs hQ hlo l hl hlast v k _ a w (hcl.set hx) b9 hS' h'
structure VU(P:Program)(n:Shp)(B:Nat)(w0:World)(ops:Array Oper)(l:List Oper)(Q:Exit->Act->World->Prop)(t:OU)(env:Env)(H F:List HP):Prop where
 run:∀a,Fits n a env->∀w,St B w0 (H++F) w->Zg P ops l Q (St B w0 H) t a w
def JN(P:Program)(B:Nat)(w0:World)(ops:Array Oper)(l:List Oper)(Q:Exit->Act->World->Prop)(Hc:List HP)(t:OU):Exit->Act->World->Prop
 |.normal,a,w=>Zg P ops l Q (St B w0 Hc) t a w
 |_,_,_=>False
variable {l:List Oper}
theorem V9{t:OU}:JN P B w0 ops l Q H t=λe a w=>match e with|.normal=>Zg P ops l Q (St B w0 H) t a w|_=>False:=by
 funext e a w
 cases e<;>rfl
variable {F Hc:List HP}
theorem Ytd{HF:List HP}(happ:App H F HF)(h:VQ n B w0 Q .normal env HF):VU P n B w0 ops l Q .done env H F:=
 ⟨λa ha w hw=>by rw[<-WI happ]at hw;exact h.run a w ha hw⟩
variable {i j:Nat}{o o':Oper}
theorem YmJ{t:OU}(ho:nthO l i=o)(h:VL P (some (some F)) n B w0 ops (JN P B w0 ops l Q H t) [o] env H):VU P n B w0 ops l Q (.n1 i t) env H F:=by
 refine⟨λa ha w hw=>?_⟩
 have h1:Yv P ops (JN P B w0 ops l Q H t) (St B w0 H) [o] a w:=h.run a ha w hw
 grind [Zg,V9]
variable {u:OU}
theorem YmK{t:OU}(ho:nthO l i=o)(ho':nthO l j=o')(h:VL P (some (some F)) n B w0 ops (JN P B w0 ops l Q H t) [o] env H)
 (h':VL P (some (some F)) n B w0 ops (JN P B w0 ops l Q H u) [o'] env H):VU P n B w0 ops l Q (.n2 i t j u) env H F:=by
 refine⟨λa ha w hw=>?_⟩
 have h1:Yv P ops (JN P B w0 ops l Q H t) (St B w0 H) [o] a w:=h.run a ha w hw
 have h2:Yv P ops (JN P B w0 ops l Q H u) (St B w0 H) [o'] a w:=h'.run a ha w hw
 unfold Zg
 rw[ho,ho',<-V9,<-V9]
 simp_all
theorem Yup{q:Nat}{t v:OU}{o2:Oper}(ho:nthO l i=o)(ho':nthO l j=o')(ho2:nthO l q=o2)(h:VL P (some (some F)) n B w0 ops (JN P B w0 ops l Q H t) [o] env H)
 (h':VL P (some (some F)) n B w0 ops (JN P B w0 ops l Q H u) [o'] env H) (h2:VL P (some (some F)) n B w0 ops (JN P B w0 ops l Q H v) [o2] env H):VU P n B w0 ops l Q (.n3 i t j u q v) env H F:=by
 refine⟨λa ha w hw=>?_⟩
 have h1:Yv P ops (JN P B w0 ops l Q H t) (St B w0 H) [o] a w:=h.run a ha w hw
 have h2':Yv P ops (JN P B w0 ops l Q H u) (St B w0 H) [o'] a w:=h'.run a ha w hw
 have h3:Yv P ops (JN P B w0 ops l Q H v) (St B w0 H) [o2] a w:=h2.run a ha w hw
 unfold Zg
 rw[ho,ho',ho2,<-V9,<-V9,<-V9]
 simp_all
theorem Yap{H':List HP}{t:OU}(hp:Pull Hc H' F)(h:VU P n B w0 ops l Q t env Hc F):VQ n B w0 (JN P B w0 ops l Q Hc t) .normal env H':=
 ⟨λa w ha hw=>h.run a ha w (hw.perm hp)⟩
theorem Yak{id:Nat}(t:OU)(last:List Nat)(mask:List Bool)(hm:P.follows .mixedOrders=true)
 (hB:(Region.noSelect l.toArray&&decide (last.length<=l.toArray.size)&&Yd3 l.toArray last&&Uu l.toArray last t (Array.replicate l.toArray.size false) (l.toArray.size-last.length))=true)
 (hsp:Split mask H Hc F) {l2:List Oper}(hl2:Yh l last=l2) (h:VU P n B w0 l.toArray l (Jx P l.toArray (Only Q) l2) t env Hc F):VC P n B w0 (.region id l.toArray true) Q env H:=by
 simp only[Tq,Tt]at hB
 obtain⟨⟨⟨h1,h2⟩,h3⟩,h5⟩:=hB
 refine⟨λa w ha hw=>Ja (Q:=Only Q) ?_ λe a w h=>by cases e<;>first|exact h|cases h⟩
 have hst:St B w0 (Hc++F) w.drew:=(hw.perm (XZ hsp)).drew
 have hr:=h.run a ha w.drew hst
 rw[<-hl2]at hr
 have:=JL (S:=St B w0 Hc) h1 (λc a w h=>h) Yn4 l rfl h3 t _ _ a w.drew (Za _ _) h5 hst.prefix_ hr
 grind [Nat.sub_add_cancel,V3,Z9]
end
def MB(es:Ents)(f:Int->Bool):Prop:=∀k,mget es k=if f k=true then some (.bool true)else none
structure MOk(es:Ents)(clock:Nat):Prop where
 nd:(es.map λe=>e.2.2).Nodup
 kn:(es.map λe=>e.1).Nodup
 lt:∀e∈es,e.2.2<clock
theorem MB.nil:MB [] (λ_=>false):=λ_=>rfl
variable {c:Nat}
theorem MOk.nil:MOk [] c:=by grind [Go.Eng.MOk.mk]
theorem Ych(es l:Ents)(k:Int):mget (es++l) k=(mget es k).or (mget l k):=by
 grind [mget]
variable {es:Ents}{f:Int->Bool}
theorem MB.ext{g:Int->Bool}(h:MB es f)(e:∀v,f v=g v):MB es g:=λk=>by rw[<-e k];exact h k
variable {k:Int}
theorem MB.put(h:MB es f)(hk:f k=false):MB (es++[(k,.bool true,c)]) (λv=>decide (v=k)||f v):=λv=>by
 rw[Ych,h v]
 by_cases hv:v=k
 all_goals simp_all [mget,Ne.symm]
theorem MB.mem(h:MB es f){e:Int×Value×Nat}(he:e∈es):f e.1=true:=by
 have hk:=h e.1
 cases hf:f e.1 with
 |true=>rfl
 |false=>
  unfold mget at hk
  cases hx:es.find? (λx=>x.1==e.1)with
  |none=>grind
  |some x=>simp_all
variable {v:Value}
theorem MOk.put(h:MOk es c)(hf:MB es f)(hk:f k=false):MOk (es++[(k,v,c)]) (c+1):=by
 refine⟨?_,?_,λe he=>?_⟩
 ·rw[Rb]
  refine Rk.2 ⟨h.nd,by simp,λa ha b hb=>?_⟩
  obtain⟨e,he,rfl⟩:=TC.1 ha
  obtain rfl:b=c:=by simp_all
  have:=h.lt e he
  omega
 ·rw[Rb]
  refine Rk.2 ⟨h.kn,by simp,λa ha b hb=>?_⟩
  obtain⟨e,he,rfl⟩:=TC.1 ha
  intro e2
  have:=hf.mem he
  simp_all
 ·rcases TI.1 he with he|he
  ·have:=h.lt e he;omega
  simp_all
theorem MB.at_(h:MB es f)(hk:f k=true):∃e∈es,e.1=k:=by
 have h1:=h k
 unfold mget at h1
 cases hx:es.find? (λx=>x.1==k)with
 |none=>simp_all
 |some x=>grind
theorem Upd.same{A:HP}:∀{L:List HP},A∈L->Upd A A L L
 |_::_,.head _=>Upd.here _
 |X::_,.tail _ h=>(Upd.same h).there X
section
variable {P:Program}{m:Mode}{n:Shp}{B:Nat}{w0:World}{ops:Array Oper}{Q:Exit->Act->World->Prop}{rest:List Oper}{env:Env}{H:List HP}{d:Nat}{ty:TypeId}{pos:String}{after:Array Edge}{x y u:Operand}
theorem Ywh{xt:TypeId}{a:Int}(hx:evo env x=some (.int .i64 a))(hn:Nat.ble (d+1) n.k=true)(hb: -9223372036854775808<= -a/\ -a<=9223372036854775807)(h:VL P m n B w0 ops Q rest ((d,.int .i64 (-a))::env) H):
 VL P m n B w0 ops Q (⟨some d,.unOp .neg xt x,ty,pos,after,none⟩::rest) env H:=
 YF rfl rfl hn rfl (λa' w ha _=>by
  have h0:(Op.intArith .sub .i64 0 a).run P w=.ok (.int .i64 (-a)) w:=by
   show Result.ok (Value.int .i64 (IntKind.i64.wrap (0-a))) w=_
   grind [Go.IntWalk.i64_in]
  simp[execOp,ha.eval hx,Op.unary,h0]) h
variable {t kt et g clock:Nat}{es:Ents}{f:Int->Bool}{k:Int}
theorem Yam{b:Bool}(hx:evo env x=some (.map (some g)))(hy:evo env y=some (.int .i64 k))(hm:blk g (mobj es clock)∈H)(ht:mapT P t kt et=true)(hn:Nat.ble (d+1) n.k=true)(hz:Yba P et=some (.bool false))(hf:MB es f)(hk:f k=b)
 (h:VL P m n B w0 ops Q rest ((d,.bool b)::env) H):VL P m n B w0 ops Q (⟨some d,.lookup t x y false,ty,pos,after,none⟩::rest) env H:=by
 have h1:=hf k
 cases b with
 |true=>grind [YkW]
 |false=>grind [YkV,Ye7]
variable {K:Ents->Nat->List HP}
theorem YmG(hx:evo env x=some (.map (some g)))(hy:evo env y=some (.int .i64 k))(hv:evo env u=some (.bool true))(ht:mapT P t kt et=true)(hu:∀es' c',Upd (blk g (mobj es clock)) (blk g (mobj es' c')) H (K es' c'))(hf:MB es f)(ho:MOk es clock)
 (h:∀es' c',MB es' (λv=>decide (v=k)||f v)->MOk es' c'->clock<=c'->(∀e∈es,e∈es')->VL P none n B w0 ops Q rest env (K es' c')):VL P none n B w0 ops Q (⟨none,.mapUpdate t x y u,ty,pos,after,none⟩::rest) env H:=by
 have h1:=hf k
 cases hk:f k with
 |true=>
  rw[hk,Tn rfl]at h1
  obtain⟨l1,b,l2,rfl,hl,_⟩:=V0 0 h1
  exact Yol hx hy hv ht (hu _ _) hl (h _ _ (hf.ext λv=>by simp_all) ho (TJ _) λ_ he=>he)
 |false=>
  rw[hk,Tf (by decide)]at h1
  exact Yok hx hy hv ht (hu _ _) h1 (h _ _ (hf.put hk) (ho.put hf hk) (Nat.le_succ _) λ_ he=>RN _ he)
variable {v:Value}
theorem Yoj{b:Nat}{l1 l2:Ents}{v0:Value}{K:List HP}(hx:evo env x=some (.map (some g)))(hy:evo env y=some (.int .i64 k))(hv:evo env u=some v)(ht:mapT P t kt et=true)
 (hu:Upd (blk g (mobj (l1++(k,v0,b)::l2) clock)) (blk g (mobj (l1++(k,v,b)::l2) clock)) H K) (hk:∀e∈l1,e.1≠k)
 (h:VL P none n B w0 ops Q rest env K):VL P none n B w0 ops Q (⟨none,.insert t x y u,ty,pos,after,none⟩::rest) env H:=by
 obtain⟨h1,h2⟩:=Jg ht
 refine Vp rfl rfl (λa w ha hw=>⟨setBlock w g (mobj (l1++(k,v,b)::l2) clock),?_,hw.setBlock hu⟩) h
 have hb:w.heap[g]? =some (mobj (l1++(k,v0,b)::l2) clock):=zc66
 unfold mobj at hb
 have hf:=QX (l2:=l2) (v0:=v0) (b:=b) hk
 have hsz:(l1++(k,v0,b)::l2).map toE=l1.map toE++toE (k,v0,b)::l2.map toE:=by simp
 exact zc16
theorem YiF(hx:evo env x=some (.map none))(ht:mapT P t kt et=true)(hn:Nat.ble (d+1) n.k=true)
 (h:∀r,VL P none n B w0 ops Q rest ((d,.pointer (some ⟨r,0,none⟩))::env) (blk r (.mapIter none 0 #[] 0)::H)):VL P none n B w0 ops Q (⟨some d,.range t x,ty,pos,after,none⟩::rest) env H:=by
 obtain⟨h1,h2⟩:=Jg ht
 refine XO (λv K=>∃r,v=.pointer (some ⟨r,0,none⟩)/\K=blk r (.mapIter none 0 #[] 0)::H) rfl rfl hn (λa w ha hw=>?_) YsO
 refine⟨_,_,w.alloc (.mapIter none 0 #[] 0),?_,hw.alloc _,w.heap.size,rfl,rfl⟩
 simp[execOp,ha.eval hx,Instr.range,run_underlying h1,Sem.run,newObj]
theorem YkX{r:Nat}(hx:evo env x=some (.pointer (some ⟨r,0,none⟩)))(hm:blk r (.mapIter none 0 #[] 0)∈H)(hn:Nat.ble (d+1) n.k=true)
 (h:VL P none n B w0 ops Q rest ((d,.tuple #[.bool false])::env) H):VL P none n B w0 ops Q (⟨some d,.next x false,ty,pos,after,none⟩::rest) env H:=by
 refine YfD rfl rfl hn (λa w ha hw=>⟨w,?_,hw⟩) h
 have hb:=(hw.blk hm).1
 simp[execOp,ha.eval hx,Instr.next,getObj,Sem.run,hb]
theorem Ys1(hx:evo env x=some (.map (some g)))(hy:evo env y=some (.int .i64 k))(hv:evo env u=some (.bool true))(ht:mapT P t kt et=true)(hu:∀es' c',Upd (blk g (mobj es clock)) (blk g (mobj es' c')) H (K es' c'))(hf:MB es f)(ho:MOk es clock)
 (h:∀es' c',MB es' (λv=>decide (v=k)||f v)->MOk es' c'->VL P none n B w0 ops Q rest env (K es' c')):VL P none n B w0 ops Q (⟨none,.insert t x y u,ty,pos,after,none⟩::rest) env H:=by
 have h1:=hf k
 cases hk:f k with
 |true=>
  rw[hk,Tn rfl]at h1
  obtain⟨l1,b,l2,rfl,hl,_⟩:=V0 0 h1
  refine Yoj hx hy hv ht (hu _ _) hl (h _ _ (hf.ext λv=>by simp_all) ho)
 |false=>
  rw[hk,Tf (by decide)]at h1
  exact Yoi hx hy hv ht (hu _ _) h1 (h _ _ (hf.put hk) (ho.put hf hk))
theorem YmF{K:Ents->List HP}(hx:evo env x=some (.map (some g)))(hy:evo env y=some (.int .i64 k))(ht:mapT P t kt et=true)(hu:∀es',Upd (blk g (mobj es clock)) (blk g (mobj es' clock)) H (K es'))(hf:MB es f)(ho:MOk es clock)(hk:f k=true)
 (h:∀es',MB es' (λv=>!decide (v=k)&&f v)->MOk es' clock->VL P none n B w0 ops Q rest env (K es')):VL P none n B w0 ops Q (⟨none,.call ⟨.builtin .delete,#[x,y],#[t,kt]⟩,ty,pos,after,none⟩::rest) env H:=by
 have h1:=hf k
 have hkn:=ho.kn
 rw[hk,Tn rfl]at h1
 obtain⟨l1,b,l2,rfl,hl,_⟩:=V0 0 h1
 have hsub:(l1++l2).Sublist (l1++(k,.bool true,b)::l2):=by simp_all
 refine Yoh hx hy ht (hu _) hl (h _ (λv=>?_) ⟨ho.nd.sublist (hsub.map _),ho.kn.sublist (hsub.map _),λe he=>ho.lt e (hsub.subset he)⟩)
 have hv:=hf v
 rw[Ych]at hv⊢
 by_cases e:v=k
 ·have n1:mget l1 v=none:=by
   unfold mget
   rw[List.find?_eq_none.2 λx hx=>by grind];rfl
  have n2:mget l2 v=none:=by
   unfold mget
   rw[List.find?_eq_none.2 λx hx=>by
    grind];rfl
  simp_all
 simp_all [mget,Ne.symm]
end
end Go.Eng
