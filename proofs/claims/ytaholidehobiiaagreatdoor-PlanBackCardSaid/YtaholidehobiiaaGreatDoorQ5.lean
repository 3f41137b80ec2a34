/- Lemmas for the claim, part 5. -/
import Derived.Laws.IdiomCopy
import Derived.Laws.ResultCell
import Derived.Laws.Tables
import Derived.Great.BuildSlice
import Derived.Laws.CopyRow
import Derived.Test.YtaholidehobiiaaGreatDoorQ2
set_option maxRecDepth 100000
set_option maxHeartbeats 8000000
set_option linter.all false
namespace Go.Eng
open Go.RowKit
inductive PutAt:List Value->Nat->List Value->List Value->Prop
 |nil {l:List Value}{o:Nat}:PutAt l o [] l
 |cons {l l1 l' r:List Value}{o:Nat}{v:Value}(h:YfC l o v l1) (h2:PutAt l1 (o+1) r l'):PutAt l o (v::r) l'
section
variable {P:Program}{m:Mode}{n:Shp}{B:Nat}{w0:World}{ops:Array Oper}{Q:Exit->Act->World->Prop}{rest:List Oper}{env:Env}{H:List HP}{d:Nat}{ty:TypeId}{pos:String}{after:Array Edge}
theorem QH{g:Nat}{tt:TypeId}{fr:Nat×Nat}:∀{vs cs cs':List Value}{o:Nat}{w:World},PutAt cs o vs cs'->w.heap[g]? =some (.cells cs.toArray tt fr)->(w.setCells g o vs).heap[g]? =some (.cells cs'.toArray tt fr)
 |[],_,_,_,_,h,hb=>by cases h;exact hb
 |v::vs,cs,cs',o,w,h,hb=>by
  cases h with
  |cons h1 h2=>
   rw[World.setCells]
   refine QH h2 ?_
   obtain⟨_,rfl⟩:=h1
   simp[World.setCell,Array.getElem?_modify,hb]
theorem VP{g b:Nat}(hne:b≠g):∀(vs:List Value) (o:Nat) (w:World),(w.setCells g o vs).heap[b]? =w.heap[b]?
 |[],_,_=>rfl
 |v::vs,o,w=>by rw[World.setCells,VP hne vs (o+1)];exact Below.heap_setCell w _ v b hne
theorem QN{g:Nat}:∀(vs:List Value) (o:Nat) (w:World),(w.setCells g o vs).os=w.os/\(w.setCells g o vs).tape=w.tape/\(w.setCells g o vs).output=w.output/\(w.setCells g o vs).heap.size=w.heap.size
 |[],_,_=>⟨rfl,rfl,rfl,rfl⟩
 |v::vs,o,w=>by
  obtain⟨h1,h2,h3,h4⟩:=QN (g:=g) vs (o+1) (w.setCell ⟨g,o,none⟩ v)
  exact⟨h1,h2,h3,h4.trans (by simp)⟩
variable {w:World}{K H2:List HP}{g t k p:Nat}{cs' vs:List Value}{tt:TypeId}{fr:Nat×Nat}
theorem St.setCells{o:Nat}{cs:List Value}(h:St B w0 H w)(hp:PutAt cs o vs cs')
 (u:Upd (Eng.blk g (.cells cs.toArray tt fr)) (Eng.blk g (.cells cs'.toArray tt fr)) H K):St B w0 K (w.setCells g o vs):=by
 obtain⟨h1,h2,h3,h4⟩:=QN (g:=g) vs o w
 refine h.upd u h1 h2 h3 (Nat.le_of_eq h4.symm) λS1 ⟨hs,hb⟩=>⟨⟨hs,QH hp hb⟩,λb hnb _=>VP (λe:b=g=>hnb (by rw[e];exact hs)) vs o w⟩
theorem Yke:∀{vs l l':List Value}{o:Nat},PutAt l o vs l'->∀j,j<vs.length->o+j<l.length
 |[],_,_,_,_,j,hj=>by simp at hj
 |v::vs,l,l',o,h,j,hj=>by
  cases h with
  |cons h1 h2=>
   obtain⟨h0,rfl⟩:=h1
   cases j with
   |zero=>exact h0
   |succ j=>have:=Yke h2 j (by simpa using hj);simp at this;omega
theorem Yhb(T:Tab P){i:Nat}{cs:List Value}{x y:Operand}(hx:evo env x=some (.pointer (some ⟨g,i,none⟩)))(hy:evo env y=some (.agg vs.toArray))(h1:Ju vs=true)
 (hu:Upd (blk g (.cells cs.toArray tt (0,0))) (blk g (.cells cs'.toArray tt (0,0))) H K) (hs:PutAt cs i vs cs')
 (ht:look T.ag t=some k) (hk:vs.length=k) (h:VL P none n B w0 ops Q rest env K):VL P none n B w0 ops Q (⟨none,.store t x y,ty,pos,after,none⟩::rest) env H:=by
 refine Vp rfl rfl (λa w ha hw=>⟨w.setCells g i vs,?_,hw.setCells hs hu⟩) h
 have hb:w.heap[g]? =some (.cells cs.toArray tt (0,0)):=by
  obtain⟨L1,L2,rfl,_⟩:=hu
  exact(hw.blk (by simp)).1
 have hr:=run_storeCells_cells (P:=P) g i vs 0 w (λj hj=>by
  rw[Nn,Xp hb];have:=Yke hs j hj;simp[this]) (λj hj=>by simp[World.frozen?,hb]) (Z0 h1)
 simp[execOp,ha.eval hx,ha.eval hy,Instr.storeAt,Instr.sureAddr,storeVar,Value.cells,Zw (J7 (T.aggs ht)),hk,hr]
variable {cs:Array Value}
theorem V2(T:Tab P)(hb:w.heap[g]? =some (.cells cs tt fr))(ht:look T.ag t=some k)(hk:cs.size=k):(loadVar t ⟨g,0,none⟩).run P w=.ok (.agg cs) w:=by
 have hl:=run_loadCells_list (P:=P) w ⟨g,0,none⟩ cs.toList (λj v hj=>by rw[Addr.add_lit,Xp hb,RH];simpa using hj)
 rw[show cs.toList.length=k by simpa using hk]at hl
 simp[loadVar,Z8 (T.aggs ht),Zw (J7 (T.aggs ht)),hl]
variable {fn:Func}{Φ:Value->List HP->Prop}
theorem Yqz{n:Nat}(T:Tab P){rt:Nat}(hr:fn.results=#[.cell p rt])(hp:get env p=some (.pointer (some ⟨g,0,none⟩)))
 (hm:blk g (.cells cs tt fr)∈H) (ht:look T.ag rt=some k) (hk:cs.size=k) (hH:∀w,St B w0 H w->St B w0 H2 w) (h:Φ (.agg cs) H2):VQ ⟨n,[],none⟩ B w0 (bodyPost P fn (Post B w0 Φ)) .ret env H:=by
 refine⟨λa w ha hw=>bodyPost_ret (v:=.agg cs) ?_ ha.defers ⟨_,H2,rfl,hH w hw,h⟩⟩
 have hp':=ha.slot p _ hp
 simp[results,hr,Array.getD_eq_getD_getElem?,hp',asAddr,V2 T (hw.blk hm).1 ht hk]
theorem Yq{n:Nat}(T:Tab P){u rt:Nat}{x:Value}(hr:fn.results=#[.cell p rt,.tmp u])(hp:get env p=some (.pointer (some ⟨g,0,none⟩)))(hu:get env u=some x)
 (hm:blk g (.cells cs tt fr)∈H) (ht:look T.ag rt=some k) (hk:cs.size=k) (hH:∀w,St B w0 H w->St B w0 H2 w) (h:Φ (.tuple #[.agg cs,x]) H2):VQ ⟨n,[],none⟩ B w0 (bodyPost P fn (Post B w0 Φ)) .ret env H:=by
 refine⟨λa w ha hw=>bodyPost_ret (v:=.tuple #[.agg cs,x]) ?_ ha.defers ⟨_,H2,rfl,hH w hw,h⟩⟩
 have hp':=ha.slot p _ hp
 simp[results,hr,Array.getD_eq_getD_getElem?,hp',ha.slot u _ hu,asAddr,V2 T (hw.blk hm).1 ht hk]
end
inductive OT where
 |done
 |n1 (i:Nat) (t:OT)
 |n2 (i:Nat) (t:OT) (j:Nat) (u:OT)
section
variable {P:Program}{n:Shp}{B:Nat}{w0:World}{Q:Exit->Act->World->Prop}{env:Env}{H:List HP}{ops:Array Oper}
def Uz(P:Program)(ops:Array Oper)(l:List Oper)(Q:Exit->Act->World->Prop)(S:World->Prop):OT->Act->World->Prop
 |.done,a,w=>Q .normal a w
 |.n1 i t,a,w=>Yv P ops (λe a w=>match e with|.normal=>Uz P ops l Q S t a w|_=>False) S [nthO l i] a w
 |.n2 i t j u,a,w=>Yv P ops (λe a w=>match e with|.normal=>Uz P ops l Q S t a w|_=>False) S [nthO l i] a w/\Yv P ops (λe a w=>match e with|.normal=>Uz P ops l Q S u a w|_=>False) S [nthO l j] a w
def UQ(ops:Array Oper)(i:Nat):Bool:=match ops[i]? with|some o=>eff o|none=>false
def YeR(ops:Array Oper)(last:List Nat):OT->Array Bool->Nat->Bool
 |.done,listed,0=>WU ops last listed
 |.done,_,_+1=>false
 |.n1 i t,listed,k+1=>!last.contains i&&(match ops[i]? with
  |some o=>if eff o then decide (Region.ready .any ops listed=[i])else(Region.ready .any ops listed).contains i&&Region.free .any ops listed i
  |none=>false)&&YeR ops last t (listed.setIfInBounds i true) k
 |.n2 i t j u,listed,k+1=>!last.contains i&&!last.contains j&&UQ ops i&&UQ ops j&&((Region.ready .any ops listed).all λx=>x==i||x==j)&&!(Region.ready .any ops listed).isEmpty&&YeR ops last t (listed.setIfInBounds i true) k&&YeR ops last u (listed.setIfInBounds j true) k
 |.n1 _ _,_,0=>false
 |.n2 _ _ _ _,_,0=>false
variable {l:List Oper}{i:Nat}{o:Oper}
theorem XE(hl:ops=l.toArray)(ho:ops[i]? =some o):nthO l i=o:=by
 rw[YaQ]
 rw[hl]at ho
 simp only[NC]at ho
 simp[List.getD,ho]
theorem Ul{S:World->Prop}{Q1:Exit->Act->World->Prop}{last:List Nat}{k:Nat}{listed:Array Bool}{a:Act}{w:World}(ho:ops[i]? =some o)(he:eff o=true)(_hl:last.contains i=false)
 (hQ1:∀e a w,e≠.normal->¬Q1 e a w) (hS:S w) (h:Yv P ops Q1 S [o] a w)
 (hk:∀a w,S w->Q1 .normal a w->Zq P ops Q S last k (listed.setIfInBounds i true) a w):
 wpOp P ops Q i (λa' w'=>(last.contains i=false->S w')/\Zq P ops Q S last k (listed.setIfInBounds i true) a' w') a w:=by
 unfold Yv at h
 rw[Tn he]at h
 unfold wpOp
 simp only[ho]
 by_cases hw:Region.wanted o (yielded ops a.tmps)=true
 ·rw[Tn hw]at h⊢
  refine .inl (Oper.wp_mono_noQ (λc a w=>hQ1 _ a w (by intro h;cases h)) (by rintro⟨a,w,h⟩;exact hQ1 _ _ _ (by intro h;cases h) h) (Oper.wp_mono (λa' w' h'=>?_) h))
  exact⟨λ_=>h'.1,hk a' w' h'.1 h'.2⟩
 ·rw[Tf hw]at h⊢
  exact⟨λ_=>hS,hk _ w hS h⟩
theorem Uv{S:World->Prop}{last:List Nat}(hs:Region.noSelect ops=true)(hQ:∀c (a:Act) (w:World),¬Q (.panic c) a w)(hlo:¬LetsOut Q)(l:List Oper)(hl:ops=l.toArray)(hlast:Ygo ops last=true):
 ∀(t:OT) (k:Nat) (listed:Array Bool) (a:Act) (w:World),Closed ops listed->YeR ops last t listed k=true->S w->Uz P ops l (Jx P ops Q (Yh l last)) S t a w->
  Zq P ops Q S last (k+last.length) listed a w
 |.done,0,listed,a,w,_,hB,_,h=>by
  have:=W5 (S:=S) l hl (WQ hlast).1 hlo last listed a w (λj hj=>by simpa using hj) hB h
  rw[RH]
  exact this
 |.done,_+1,_,_,_,_,hB,_,_=>by cases hB
 |.n1 _ _,0,_,_,_,_,hB,_,_=>by cases hB
 |.n2 _ _ _ _,0,_,_,_,_,hB,_,_=>by cases hB
 |.n1 i t,k+1,listed,a,w,hcl,hB,hS,h=>by
  simp only[YeR,Tq]at hB
  obtain⟨⟨h0,h1⟩,h2⟩:=hB
  have hno:last.contains i=false:=by simpa using h0
  cases ho:ops[i]? with
  |none=>rw[ho]at h1;cases h1
  |some o=>
   rw[ho]at h1
   have hget:=XE hl ho
   unfold Uz at h
   rw[hget]at h
   rw[SZ]
   by_cases he:eff o=true
   ·simp only[he,NF,Tt]at h1
    refine⟨λh0=>(by rw[h1]at h0;cases h0),λj hj=>?_⟩
    have hj':=hj
    rw[h1]at hj
    obtain rfl:j=i:=by simpa using hj
    exact Ul ho he hno (λe a w hne=>by cases e<;>simp_all) hS h λa w hS' h'=>Uv hs hQ hlo l hl hlast t k _ a w (hcl.set hj') h2 hS' h'
   ·simp only[he]at h1
    simp only[SD,N8,Tq]at h1
    unfold Yv at h
    rw[Tf he]at h
    obtain⟨v,hy,h3⟩:=h
    have hr:i∈Region.ready .any ops listed:=by simpa using h1.1
    exact J2 ho (Region.noSelect_spec hs) hQ ((WQ hlast).2 i o ho (by simpa using he)) hno _ listed a w hcl (Region.free_spec ho h1.2) hr hy hS (Uv hs hQ hlo l hl hlast t k _ _ w (hcl.set hr) h2 hS h3)
 |.n2 i t j u,k+1,listed,a,w,hcl,hB,hS,h=>by
  simp only[YeR,Tq]at hB
  obtain⟨⟨⟨⟨⟨⟨⟨b1,b2⟩,b3⟩,b4⟩,b5⟩,b6⟩,b7⟩,b8⟩:=hB
  have hi:last.contains i=false:=by simpa using b1
  have hj:last.contains j=false:=by simpa using b2
  unfold Uz at h
  rw[SZ]
  refine⟨λh0=>(by rw[h0]at b6;cases b6),λx hx=>?_⟩
  have h5:=TF.1 b5 x hx
  simp only[R9,S5]at h5
  rcases h5 with rfl|rfl
  ·unfold UQ at b3
   cases ho:ops[x]? with
   |none=>rw[ho]at b3;cases b3
   |some o=>
    rw[ho]at b3
    have hg:=h.1
    rw[XE hl ho]at hg
    exact Ul ho b3 hi (λe a w hne=>by cases e<;>simp_all) hS hg λa w hS' h'=>Uv hs hQ hlo l hl hlast t k _ a w (hcl.set hx) b7 hS' h'
  ·unfold UQ at b4
   cases ho:ops[x]? with
   |none=>rw[ho]at b4;cases b4
   |some o=>
    rw[ho]at b4
    have hg:=h.2
    rw[XE hl ho]at hg
    exact Ul ho b4 hj (λe a w hne=>by cases e<;>simp_all) hS hg λa w hS' h'=>Uv hs hQ hlo l hl hlast u k _ a w (hcl.set hx) b8 hS' h'
structure VT(P:Program)(n:Shp)(B:Nat)(w0:World)(ops:Array Oper)(l:List Oper)(Q:Exit->Act->World->Prop)(t:OT)(env:Env)(H F:List HP):Prop where
 run:∀a,Fits n a env->∀w,St B w0 (H++F) w->Uz P ops l Q (St B w0 H) t a w
def Oq(P:Program)(B:Nat)(w0:World)(ops:Array Oper)(l:List Oper)(Q:Exit->Act->World->Prop)(Hc:List HP)(t:OT):Exit->Act->World->Prop
 |.normal,a,w=>Uz P ops l Q (St B w0 Hc) t a w
 |_,_,_=>False
variable {t:OT}
theorem YeS:Oq P B w0 ops l Q H t=λe a w=>match e with|.normal=>Uz P ops l Q (St B w0 H) t a w|_=>False:=by
 funext e a w
 cases e<;>rfl
variable {F Hc:List HP}
theorem YmI{HF:List HP}(happ:App H F HF)(h:VQ n B w0 Q .normal env HF):VT P n B w0 ops l Q .done env H F:=
 ⟨λa ha w hw=>by rw[<-WI happ]at hw;exact h.run a w ha hw⟩
theorem Yw1(ho:nthO l i=o)(h:VL P (some (some F)) n B w0 ops (Oq P B w0 ops l Q H t) [o] env H):VT P n B w0 ops l Q (.n1 i t) env H F:=by
 refine⟨λa ha w hw=>?_⟩
 have h1:Yv P ops (Oq P B w0 ops l Q H t) (St B w0 H) [o] a w:=h.run a ha w hw
 unfold Uz
 rw[ho,<-YeS]
 exact h1
theorem Yw2{j:Nat}{u:OT}{o':Oper}(ho:nthO l i=o)(ho':nthO l j=o')(h:VL P (some (some F)) n B w0 ops (Oq P B w0 ops l Q H t) [o] env H)
 (h':VL P (some (some F)) n B w0 ops (Oq P B w0 ops l Q H u) [o'] env H):VT P n B w0 ops l Q (.n2 i t j u) env H F:=by
 refine⟨λa ha w hw=>?_⟩
 have h1:Yv P ops (Oq P B w0 ops l Q H t) (St B w0 H) [o] a w:=h.run a ha w hw
 have h2:Yv P ops (Oq P B w0 ops l Q H u) (St B w0 H) [o'] a w:=h'.run a ha w hw
 unfold Uz
 rw[ho,ho',<-YeS,<-YeS]
 exact⟨h1,h2⟩
theorem YG{H':List HP}(hp:Pull Hc H' F)(h:VT P n B w0 ops l Q t env Hc F):VQ n B w0 (Oq P B w0 ops l Q Hc t) .normal env H':=
 ⟨λa w ha hw=>h.run a ha w (hw.perm hp)⟩
theorem ZN{id:Nat}(t:OT)(last:List Nat)(mask:List Bool)(hm:P.follows .mixedOrders=true)
 (hB:(Region.noSelect l.toArray&&decide (last.length<=l.toArray.size)&&Ygo l.toArray last&&YeR l.toArray last t (Array.replicate l.toArray.size false) (l.toArray.size-last.length))=true)
 (hsp:Split mask H Hc F) {l2:List Oper}(hl2:Yh l last=l2) (h:VT P n B w0 l.toArray l (Jx P l.toArray (Only Q) l2) t env Hc F):VC P n B w0 (.region id l.toArray true) Q env H:=by
 simp only[Tq,Tt]at hB
 obtain⟨⟨⟨h1,h2⟩,h3⟩,h5⟩:=hB
 refine⟨λa w ha hw=>Ja (Q:=Only Q) ?_ λe a w h=>by cases e<;>first|exact h|cases h⟩
 have hst:St B w0 (Hc++F) w.drew:=(hw.perm (XZ hsp)).drew
 have hr:=h.run a ha w.drew hst
 rw[<-hl2]at hr
 have:=Uv (S:=St B w0 Hc) h1 (λc a w h=>h) (by rintro⟨_,_,h⟩;exact h) l rfl h3 t _ _ a w.drew (Za _ _) h5 hst.prefix_ hr
 rw[Nat.sub_add_cancel h2]at this
 exact V3 hm (Z9 _ _ _ _ this)
theorem Zf{α:Type}(E:α->Env)(HH:α->List HP){x y:Code}(h1:∀K:Act->World->Prop,(∀z env' H',(∀t v,get (E z) t=some v->get env' t=some v)->(∀w,St B w0 H' w->St B w0 (HH z) w)->VQ n B w0 (Exit.then K Q) .normal env' H')->VC P n B w0 x (Exit.then K Q) env H)
 (h2:∀z,VC P n B w0 y Q (E z) (HH z)):VC P n B w0 x (Exit.then (wpR P n.r y Q) Q) env H:=by
 have h:=h1 (λa w=>∃z,Fits n a (E z)/\St B w0 (HH z) w) (λz env' H' he hH=>⟨λa w ha hw=>⟨z,ha.sub he,hH w hw⟩⟩)
 refine⟨λa w ha hw=>Ja (h.run a w ha hw) ?_⟩
 intro e a w hq
 cases e with
 |normal=>obtain⟨z,h3,h4⟩:=hq;exact(h2 z).run a w h3 h4
 |exit id=>exact hq
 |goto l=>exact hq
 |ret=>exact hq
 |panic ch=>exact hq
 |outgrown=>exact hq
theorem Xd{d f:Nat}{args:List Operand}{tys:Array TypeId}{ty:TypeId}{pos:String}{after:Array Edge}{vs:List Value}{rest:List Oper}(L:List HP){M LM:List HP}(Φ:Value->List HP->Prop)
 (hc:∀xs w,(callFunc f xs).run P w=.ok (.enter f xs) w) (hargs:Args env args vs) (hp:Pull L H M) (happ:App L M LM) (hn:Nat.ble (d+1) n.k=true)
 (hcall:∀w,St B w0 LM w->Calls P f vs.toArray w (Post B w0 Φ))
 (h:∀v H',Φ v H'->VL P none n B w0 ops Q rest ((d,v)::env) H'):
 VL P none n B w0 ops Q (⟨some d,.call ⟨.value (.func f),args.toArray,tys⟩,ty,pos,after,none⟩::rest) env H:=
 Ye Φ hc hargs hn (λw hw=>hcall w (by rw[WI happ];exact hw.perm hp)) h
end
def Rd(B:Nat)(w0:World)(H:List HP)(A:Option Addr)(xs:List Value):Prop:=
 ∀w,St B w0 H w->∀j v,xs[j]? =some v->∃g o,A=some ⟨g,o,none⟩/\w.cell? ⟨g,o+j,none⟩=some v
section
variable {B:Nat}{w0:World}{H:List HP}{A:Option Addr}{xs:List Value}
theorem Rd.cons{X:HP}(h:Rd B w0 H A xs):Rd B w0 (X::H) A xs:=λw hw=>h w hw.tail
variable {e size k cap:Nat}
theorem Rd.sl(hm:Eng.sl e size A k cap xs∈H):Rd B w0 H A xs:=λw hw j v hv=>by
 obtain⟨g,e1,hc,_⟩:=Ya3 (hw.sl hm) hv
 exact⟨g,0,e1,by rw[RH];exact hc⟩
theorem Rd.old(h:∀j v,xs[j]? =some v->∃g o,A=some ⟨g,o,none⟩/\g<B/\w0.cell? ⟨g,o+j,none⟩=some v):Rd B w0 H A xs:=λw hw j v hv=>by
 obtain⟨g,o,e1,hg,hc⟩:=h j v hv
 exact⟨g,o,e1,(hw.below.cell (p:=⟨g,o+j,none⟩) hg).trans hc⟩
theorem Rd.nil:Rd B w0 H A []:=λw _ j v hv=>by simp at hv
theorem Rd.mono{H':List HP}(h:Rd B w0 H A xs)(hH:∀w,St B w0 H' w->St B w0 H w):Rd B w0 H' A xs:=λw hw=>h w (hH w hw)
theorem Rd.blk{g:Nat}{cs:Array Value}{t:TypeId}{fr:Nat×Nat}(hm:Eng.blk g (.cells cs t fr)∈H):Rd B w0 H (some ⟨g,0,none⟩) cs.toList:=λw hw j v hv=>by
 refine⟨g,0,rfl,?_⟩
 rw[RH,Xp (hw.blk hm).1]
 simpa using hv
end
theorem Xk{α:Type}{f:α->List Value}{q:Nat}(hq:∀a,(f a).length=q):∀l:List α,(l.flatMap f).length=l.length*q
 |[]=>by simp
 |a::l=>by rw[TZ,To,hq,Xk hq l,TM,Sl];omega
theorem Wq{α:Type}{f:α->List Value}{q:Nat}(hq:∀a,(f a).length=q):∀(l:List α) (i j:Nat) (a:α),l[i]? =some a->j<q->(l.flatMap f)[i*q+j]? =(f a)[j]?
 |[],i,j,a,h,_=>by simp at h
 |b::l,0,j,a,h,hj=>by
  obtain rfl:b=a:=by simpa using h
  rw[TZ,RY (by rw[hq];omega),N9,RH]
 |b::l,i+1,j,a,h,hj=>by
  rw[TZ,RG (by rw[hq,Sl];omega),hq,show(i+1)*q+j-q=i*q+j by rw[Sl];omega]
  exact Wq hq l i j a (by simpa using h) hj
section
variable {P:Program}{m:Mode}{n:Shp}{B:Nat}{w0:World}{ops:Array Oper}{Q:Exit->Act->World->Prop}{rest:List Oper}{env:Env}{H:List HP}{d:Nat}{ty:TypeId}{pos:String}{after:Array Edge}
variable {α:Type}{t cap e size k i q:Nat}{x y:Operand}{A:Option Addr}
theorem ZX(T:Tab P){f:α->List Value}{l:List α}{bytes:Nat}{ki:IntKind}{i:Int}(hx:evo env x=some (.slice A l.length cap))(hy:evo env y=some (.int ki i))
 (hr:Rd B w0 H A (l.flatMap f)) (ht:look T.sl t=some (e,size,bytes)) (hq:∀a,(f a).length=size) (h0:Nat.blt 0 size=true) (hn:Nat.ble (d+1) n.k=true) (hi:0<=i/\i<l.length)
 (h:VL P m n B w0 ops Q rest ((d,sptr A (i.toNat*size))::env) H):VL P m n B w0 ops Q (⟨some d,.indexAddr t x y,ty,pos,after,none⟩::rest) env H:=by
 obtain⟨hut,inf,z,hinf,_,_,hsi,_,_,_⟩:=YJ (T.slic ht)
 refine YF rfl rfl hn rfl (λa w ha hw=>?_) h
 have h0':0<size:=by simpa using h0
 have hlt:i.toNat<l.length:=by omega
 have hget:=Wq hq l i.toNat 0 _ (Ta hlt) h0'
 have hg2:(f l[i.toNat])[0]? =some ((f l[i.toNat])[0]'(by rw[hq];exact h0')):=Ta _
 rw[hg2]at hget
 obtain⟨g,o,rfl,_⟩:=hr w hw _ _ hget
 simp[execOp,ha.eval hx,ha.eval hy,Instr.indexAt,asIntOf,run_underlying hut,hi,sizeOf,typeInfo,hinf,hsi,sptr]
theorem Yit(T:Tab P){s f j:Nat}{xs:List Value}(hx:evo env x=some (sptr A j))(hr:Rd B w0 H A xs)(hj:j<xs.length)(hf:OM T.fo s f=some k)(hn:Nat.ble (d+1) n.k=true)
 (h:VL P m n B w0 ops Q rest ((d,sptr A (j+k))::env) H):VL P m n B w0 ops Q (⟨some d,.fieldAddr s x f,ty,pos,after,none⟩::rest) env H:=by
 refine YF rfl rfl hn rfl (λa w ha hw=>?_) h
 obtain⟨g,o,rfl,_⟩:=hr w hw _ _ (Ta hj)
 have h1:=T.offs hf
 unfold OG at h1
 split at h1
 ·rename_i fs hu
  cases hfl:fs[f]? with
  |none=>rw[hfl]at h1;cases h1
  |some fld=>
   rw[hfl]at h1
   simp only[Nk]at h1
   cases hi:P.info? fld.type with
   |none=>rw[hi]at h1;cases h1
   |some inf=>
    rw[hi]at h1
    simp only[Nk]at h1
    by_cases hz:inf.size=0
    ·rw[Tn hz]at h1;cases h1
    ·rw[Tf hz]at h1
     have h2:fld.offset=k:=by simpa using h1
     subst h2
     simp[execOp,ha.eval hx,sptr,Instr.fieldAt,run_underlying hu,hfl,Instr.sureAddr,fieldPlace,sizeOf,typeInfo,hi,hz,Addr.add_lit,Nat.add_assoc]
 ·cases h1
variable {v:Value}
theorem Yc3(T:Tab P){f:α->List Value}{l:List α}{o:Nat}{b:α}(hx:evo env x=some (sptr A (i*q+o)))(hr:Rd B w0 H A (l.flatMap f))(hb:l[i]? =some b)(hq:∀a,(f a).length=q)
 (ho:Nat.blt o q=true) (hv:nth (f b) o=some v) (ht:look T.sc t=some ()) (hn:Nat.ble (d+1) n.k=true)
 (h:VL P m n B w0 ops Q rest ((d,v)::env) H):VL P m n B w0 ops Q (⟨some d,.load t x,ty,pos,after,none⟩::rest) env H:=by
 refine YF rfl rfl hn rfl (λa w ha hw=>?_) h
 have hg:=Wq hq l i o b hb (by simpa using ho)
 rw[<-YlN (f b),hv]at hg
 obtain⟨g,u,rfl,hc⟩:=hr w hw _ _ hg
 simp[execOp,ha.eval hx,sptr,Instr.loadAt,Instr.sureAddr,loadVar,ZC (T.scal ht).1,Addr.add_lit,hc]
theorem JA(T:Tab P){f:α->List Value}{l:List α}{b:α}(hx:evo env x=some (sptr A (i*q)))(hr:Rd B w0 H A (l.flatMap f))(hb:l[i]? =some b)(hq:∀a,(f a).length=q)
 (ho:Nat.blt 0 q=true) (hv:nth (f b) 0=some v) (ht:look T.sc t=some ()) (hn:Nat.ble (d+1) n.k=true)
 (h:VL P m n B w0 ops Q rest ((d,v)::env) H):VL P m n B w0 ops Q (⟨some d,.load t x,ty,pos,after,none⟩::rest) env H:=
 Yc3 T (i:=i) (q:=q) (o:=0) (by rw[Nn];exact hx) hr hb hq ho hv ht hn h
theorem Yc2(T:Tab P){f:α->List Value}{l:List α}{b:α}(hx:evo env x=some (sptr A (i*q)))(hr:Rd B w0 H A (l.flatMap f))(hb:l[i]? =some b)(hq:∀a,(f a).length=q)
 (ho:Nat.blt 0 q=true) (ht:look T.ag t=some q) (hn:Nat.ble (d+1) n.k=true)
 (h:VL P m n B w0 ops Q rest ((d,.agg (f b).toArray)::env) H):VL P m n B w0 ops Q (⟨some d,.load t x,ty,pos,after,none⟩::rest) env H:=by
 refine YF rfl rfl hn rfl (λa w ha hw=>?_) h
 have h0:0<q:=by simpa using ho
 have hget:∀j v,(f b)[j]? =some v->(l.flatMap f)[i*q+j]? =some v:=λj v hj=>by
  have hlt:j<q:=by have:=(Tj.1 hj).1;rwa [hq]at this
  rw[Wq hq l i j b hb hlt];exact hj
 obtain⟨g,u,rfl,_⟩:=hr w hw _ _ (hget 0 _ (Ta (by rw[hq];exact h0)))
 have hl:=run_loadCells_list (P:=P) w ⟨g,u+i*q,none⟩ (f b) (λj v hj=>by
  obtain⟨g',u',e1,hc⟩:=hr w hw _ _ (hget j v hj)
  injection e1 with e1
  injection e1 with e1 e2
  subst e1 e2
  rw[Addr.add_lit,N2];exact hc)
 rw[hq]at hl
 simp[execOp,ha.eval hx,sptr,Instr.loadAt,Instr.sureAddr,loadVar,Z8 (T.aggs ht),Zw (J7 (T.aggs ht)),Addr.add_lit,hl]
theorem Ys3{k:IntKind}{a b:Int}{tys:Array TypeId}(hx:evo env x=some (.int k a))(hy:evo env y=some (.int k b))(hn:Nat.ble (d+1) n.k=true)(h1:a<b->VL P m n B w0 ops Q rest ((d,.int k b)::env) H)(h2:b<=a->VL P m n B w0 ops Q rest ((d,.int k a)::env) H):
 VL P m n B w0 ops Q (⟨some d,.call ⟨.builtin .max,#[x,y],tys⟩,ty,pos,after,none⟩::rest) env H:=by
 by_cases hc:b>a
 ·exact YF rfl rfl hn rfl (λf w ha _=>by simp[execOp,resolve,invoke,builtin,ha.eval hx,ha.eval hy,run_max_int2,hc]) (h1 hc)
 ·exact YF rfl rfl hn rfl (λf w ha _=>by simp[execOp,resolve,invoke,builtin,ha.eval hx,ha.eval hy,run_max_int2,hc]) (h2 (by omega))
end
def WV(env:Env):List (Nat×Operand)->Option (List (Nat×Value))
 |[]=>some []
 |(i,x)::l=>match evo env x with
  |none=>none
  |some v=>match WV env l with
   |none=>none
   |some r=>some ((i,v)::r)
theorem OQ{env:Env}:∀{l:List (Nat×Operand)}{ps:List (Nat×Value)},WV env l=some ps->YbN env l ps
 |[],ps,h=>by simp[WV]at h;subst h;exact YgB
 |(i,x)::l,ps,h=>by
  unfold WV at h
  cases hx:evo env x with
  |none=>rw[hx]at h;cases h
  |some v=>
   rw[hx]at h
   cases hl:WV env l with
   |none=>rw[hl]at h;cases h
   |some r=>
    rw[hl]at h
    simp only[Rw]at h
    subst h
    exact YlX hx (OQ hl)
def YeJ(P:Program)(t:Nat):Option (List (Nat×Nat)):=
 match P.underlying t with
 |some (.struct fs)=>fs.toList.mapM (λf=>(P.info? f.type).map λi=>(f.offset,i.size))
 |some (.array k e)=>(P.info? e).map λi=>(List.range k).map λj=>(j*i.size,i.size)
 |_=>none
def Yba(P:Program)(t:Nat):Option Value:=(P.info? t).bind (·.zero)
structure Tab2(P:Program) where
 zt:List (Nat×Value)
 bt:List (Nat×List (Nat×Nat))
 zt_ok:(zt.map λx=>Yba P x.1)=zt.map λx=>some x.2
 bt_ok:(bt.map λx=>YeJ P x.1)=bt.map λx=>some x.2
theorem ON{β:Type}{f:Nat->Option β}:∀{l:List (Nat×β)},(l.map λx=>f x.1)=(l.map λx=>some x.2)->∀{t:Nat}{v:β},look l t=some v->f t=some v:=by
 intro l h t v hl
 have hm:=Vz hl
 clear hl
 induction l with
 |nil=>cases hm
 |cons x l ih=>
  simp only[Rh,List.cons.injEq]at h
  rcases TL.1 hm with e|e
  ·rw[<-e]at h;exact h.1
  ·exact ih h.2 e
variable {t:Nat}{z:Value}
theorem Ye7{P:Program}(h:Yba P t=some z)(w:World):(zeroValue t).run P w=.ok z w:=by
 unfold Yba at h
 cases hi:P.info? t with
 |none=>rw[hi]at h;cases h
 |some i=>
  rw[hi]at h
  have h2:i.zero=some z:=h
  simp[zeroValue,typeInfo,hi,h2]
def Yhw{β:Type}:List Value->(List Value->Option β)->Option β
 |[],k=>k []
 |a::l,k=>Yhw l λl'=>k (a::l')
theorem Ybr{β:Type}:∀(l:List Value) (k:List Value->Option β),Yhw l k=k l
 |[],_=>rfl
 |a::l,k=>by rw[Yhw,Ybr l]
def Qt:List Value->Nat->List Value->List Value
 |cs,_,[]=>cs
 |cs,off,v::vs=>Qt (cs.set off v) (off+1) vs
def fillL(place:Nat->Option (Nat×Nat))(cs:List Value):List (Nat×Value)->Option (List Value)
 |[]=>some cs
 |(i,v)::rest=>match place i with
  |none=>none
  |some (off,size)=>match Nat.beq v.cells.toList.length size&&Nat.ble (off+size) cs.length with
   |true=>Yhw (Qt cs off v.cells.toList) λcs'=>fillL place cs' rest
   |false=>none
theorem YaD(off:Nat):∀(l:List Value) (k:Nat) (cs:Array Value),(l.zipIdx k).foldl (λcs (c,j)=>cs.setIfInBounds (off+j) c) cs=(Qt cs.toList (off+k) l).toArray
 |[],_,cs=>by simp[Qt]
 |v::l,k,cs=>by
  rw[List.zipIdx_cons,N6,YaD off l (k+1)]
  simp[Qt,Nat.add_assoc]
theorem YdJ{place place':Nat->Option (Nat×Nat)}(hp:∀i q,place i=some q->place' i=some q):∀{ps:List (Nat×Value)}{cs r:List Value},fillL place cs ps=some r->fillL place' cs ps=some r
 |[],_,_,h=>h
 |(i,v)::rest,cs,r,h=>by
  unfold fillL at h⊢
  cases hi:place i with
  |none=>rw[hi]at h;cases h
  |some q=>
   rw[hi]at h
   rw[hp i q hi]
   obtain⟨off,size⟩:=q
   simp only at h⊢
   split at h
   ·rw[Ybr]at h⊢
    exact YdJ hp h
   ·cases h
theorem WM{place:Nat->Option (Nat×Nat)}:∀{ps:List (Nat×Value)}{cs:Array Value}{r:List Value},fillL place cs.toList ps=some r->Instr.fill place cs ps=some r.toArray
 |[],cs,r,h=>by simp[fillL]at h;subst h;simp[Instr.fill]
 |(i,v)::rest,cs,r,h=>by
  unfold fillL at h
  unfold Instr.fill
  cases hp:place i with
  |none=>rw[hp]at h;cases h
  |some q=>
   obtain⟨off,size⟩:=q
   rw[hp]at h
   simp only at h⊢
   split at h
   ·rename_i hb
    simp only[Tq,Nv]at hb
    obtain⟨h1,h2⟩:=hb
    have h2':=TX h2
    have h1':v.cells.size=size:=by simpa using h1
    rw[Ybr]at h
    have hz:v.cells.zipIdx.foldl (λcs (c,j)=>cs.setIfInBounds (off+j) c) cs=(Qt cs.toList off v.cells.toList).toArray:=by
     rw[<-Array.foldl_toList,Array.toList_zipIdx]
     exact YaD off v.cells.toList 0 cs
    rw[Tf (by simp[h1'];omega),hz]
    exact WM (by simpa using h)
   ·cases h
def repZ:Nat->List Value->List Value
 |0,_=>[]
 |n+1,z=>z++repZ n z
theorem Yck(z:List Value):∀n,(repZ n z).length=n*z.length
 |0=>by simp[repZ]
 |n+1=>by rw[repZ,To,Yck z n,Sl];omega
theorem Ykh(z:List Value)(hz:0<z.length):∀(n j:Nat),j<n*z.length->(repZ n z)[j]? =z[j%z.length]?
 |0,j,h=>by omega
 |n+1,j,h=>by
  rw[repZ]
  by_cases hj:j<z.length
  ·rw[RY hj,Nat.mod_eq_of_lt hj]
  ·rw[RG (by omega),Ykh z hz n _ (by rw[Sl]at h;omega),<-Nat.mod_eq_sub_mod (by omega)]
theorem Yr1(zs:Array Value)(hz:0<zs.size)(n:Nat):((Array.range (n*zs.size)).map (zs[·%zs.size]!))=(repZ n zs.toList).toArray:=by
 apply Array.ext'
 apply Sv
 intro j
 have hl:zs.toList.length=zs.size:=by simp
 by_cases hj:j<n*zs.size
 ·have h1:=Ykh zs.toList (by omega) n j (by rw[hl];exact hj)
  rw[hl]at h1
  have hm:j%zs.size<zs.size:=Nat.mod_lt _ hz
  rw[List.toList_toArray,h1]
  simp[hj,hm,Array.getElem!_eq_getD,Array.getD_eq_getD_getElem?]
 ·rw[SU (by simp;omega),SU (by simp[Yck];omega)]
section
variable {P:Program}{m:Mode}{n:Shp}{B:Nat}{w0:World}{ops:Array Oper}{Q:Exit->Act->World->Prop}{rest:List Oper}{env:Env}{H:List HP}{d:Nat}{ty:TypeId}{pos:String}{after:Array Edge}
variable {z v:Value}
theorem Yoc(T2:Tab2 P){t:TypeId}{cs:Array Value}(hz:look T2.zt t=some z)(hc:z.cells=cs)(hn:Nat.ble (d+1) n.k=true)
 (h:∀g,VL P none n B w0 ops Q rest ((d,.pointer (some ⟨g,0,none⟩))::env) (blk g (.cells cs t (0,0))::H)):VL P none n B w0 ops Q (⟨some d,.alloc t,ty,pos,after,none⟩::rest) env H:=
 Yqh (Ye7 (ON T2.zt_ok hz)) hc hn h
variable {parts:List (Nat×Operand)}{ps:List (Nat×Value)}{cs vs:List Value}
theorem Yog(T2:Tab2 P){t:TypeId}{zc:Array Value}{pl:List (Nat×Nat)}(hp:WV env parts=some ps)(hz:look T2.zt t=some (.agg zc))(hl:look T2.bt t=some pl)
 (hf:fillL (pl[·]?) zc.toList ps=some cs) (hn:Nat.ble (d+1) n.k=true)
 (h:VL P m n B w0 ops Q rest ((d,.agg cs.toArray)::env) H):VL P m n B w0 ops Q (⟨some d,.build t parts.toArray,ty,pos,after,none⟩::rest) env H:=by
 refine Yqi (OQ hp) (λw=>run_build w t _ cs.toArray ?_) hn h
 have h1:=ON T2.zt_ok hz
 have h2:=ON T2.bt_ok hl
 unfold Yba at h1
 unfold YeJ at h2
 unfold Program.built
 cases hi:P.info? t with
 |none=>rw[hi]at h1;cases h1
 |some i=>
  rw[hi]at h1
  have h3:i.zero=some (.agg zc):=h1
  cases hu:P.underlying t with
  |none=>rw[hu]at h2;cases h2
  |some dd=>
   rw[hu]at h2
   cases dd<;>try(cases h2;done)
   ·rename_i k e
    cases hie:P.info? e with
    |none=>simp only[hie]at h2;cases h2
    |some ie=>
     simp only[hie,Ss,Rw]at h2
     simp only[h3,hie]
     refine WM (cs:=zc) (YdJ (λa q ha=>?_) hf)
     rw[<-h2,TR]at ha
     by_cases hak:a<k
     ·rw[NZ hak]at ha;exact ha
     ·rw[SU (by simpa using hak)]at ha;cases ha
   ·rename_i fs
    have h4:fs.toList.mapM (λf=>(P.info? f.type).map λi=>(f.offset,i.size))=some pl:=h2
    simp only[h3,h4]
    have h5:=WM (place:=(pl[·]?)) (cs:=zc) hf
    simpa [Value.cells]using h5
variable {t f:Nat}
theorem Ua(T:Tab P)(T2:Tab2 P){e len size bytes:Nat}{zl:List Value}(ht:look T.sl t=some (e,size,bytes))(hp:WV env parts=some ps)(hz:look T2.zt e=some z)(hzc:z.cells=zl.toArray)
 (hf:fillL (λi=>some (i*size,size)) (repZ len zl) ps=some cs) (hn:Nat.ble (d+1) n.k=true) (hl:(Nat.blt 0 (len*size)&&Nat.beq zl.length size&&Nat.ble (len*size) 1000000)=true)
 (h:∀g,VL P none n B w0 ops Q rest ((d,.slice (some ⟨g,0,none⟩) len len)::env) (blk g (.cells cs.toArray e (0,0))::H)):VL P none n B w0 ops Q (⟨some d,.buildSlice t len parts.toArray,ty,pos,after,none⟩::rest) env H:=by
 simp only[Tq]at hl
 obtain⟨⟨hl1,hl2⟩,hl3⟩:=hl
 have hl1':0<len*size:=by simpa using hl1
 have hl2':zl.length=size:=Nat.eq_of_beq_eq_true hl2
 have hl3':=TX hl3
 obtain⟨hut,inf,z',hinf,hz',_,hsi,_⟩:=YJ (T.slic ht)
 have h1:=ON T2.zt_ok hz
 unfold Yba at h1
 rw[hinf]at h1
 have h3:inf.zero=some z:=h1
 refine Qx (OQ hp) (λw=>run_buildSlice w t e len _ cs.toArray inf z hut hinf h3 (by rw[hsi];omega) (by rw[hsi];omega) ?_) hn h
 have hzs:z.cells.size=size:=by rw[hzc];simpa using hl2'
 have hpos:0<z.cells.size:=by
  rcases Nj size with h0|h0
  ·rw[h0,Nat.mul_zero]at hl1';omega
  ·omega
 rw[hsi]
 have h5:=Yr1 z.cells hpos len
 rw[hzs]at h5
 rw[show(λx=>z.cells[x%z.cells.size]!)=λx=>z.cells[x%size]! by rw[hzs],h5,hzc]
 simpa using WM (place:=λi=>some (i*size,size)) (cs:=(repZ len zl).toArray) (by simpa using hf)
variable {x:Operand}
theorem Yg5(T:Tab P){α:Type}{f:α->List Value}{l:List α}{s fl k i q:Nat}{A:Option Addr}(hx:evo env x=some (sptr A (i*q)))(hr:Rd B w0 H A (l.flatMap f))(hq:∀a,(f a).length=q)(h0:Nat.blt 0 q=true)(hf:OM T.fo s fl=some k)(hn:Nat.ble (d+1) n.k=true)(hi:i<l.length)
 (h:VL P m n B w0 ops Q rest ((d,sptr A (i*q+k))::env) H):VL P m n B w0 ops Q (⟨some d,.fieldAddr s x fl,ty,pos,after,none⟩::rest) env H:=by
 refine Yit T hx hr ?_ hf hn h
 rw[Xk hq]
 have h0':0<q:=by simpa using h0
 calc i*q<i*q+q:=by omega
  _=(i+1)*q:=by rw[Sl];omega
  _<=l.length*q:=Ri q hi
variable {args:List Operand}{tys:Array TypeId}
theorem YpE{a:Act}(ha:Fits n a env)(hx:evo env x=some (.func (.func f) #[] cs.toArray))
 (hc:∀xs w,(callFunc f xs).run P w=.ok (.enter f xs) w) (hargs:Args env args vs) (w:World):
 (execOp a.eval ⟨some d,.call ⟨.value x,args.toArray,tys⟩,ty,pos,after,none⟩).run P w=.ok (.enter f (vs++cs).toArray) w:=by
 have hmap:args.toArray.map a.eval=vs.toArray:=by rw[NA,UT ha _ _ hargs]
 simp only[execOp,resolve,ha.eval hx,hmap,Deferred.ofValue,Sem.run_bind,Sem.run_pure,Result.andThen_ok,invoke]
 simpa using hc ((vs++cs).toArray) w
theorem Y3(hx:evo env x=some (.func (.func f) #[] cs.toArray))
 (hc:∀xs w,(callFunc f xs).run P w=.ok (.enter f xs) w) (hargs:Args env args vs) (hn:Nat.ble (d+1) n.k=true)
 (hcall:∀w,St B w0 H w->Calls P f (vs++cs).toArray w (Post B w0 λu K=>u=v/\K=H))
 (h:VL P none n B w0 ops Q rest ((d,v)::env) H):
 VL P none n B w0 ops Q (⟨some d,.call ⟨.value x,args.toArray,tys⟩,ty,pos,after,none⟩::rest) env H:=
 Yqj _ hx hc hargs hn hcall (by rintro _ _ ⟨rfl,rfl⟩;exact h)
theorem Xo(hx:evo env x=some (.func (.func f) #[] cs.toArray))
 (hc:∀xs w,(callFunc f xs).run P w=.ok (.enter f xs) w) (hargs:Args env args vs) (hn:Nat.ble (d+1) n.k=true)
 (hcall:∀w,St B w0 H w->Calls P f (vs++cs).toArray w (Post B w0 λu K=>u=v/\K=H))
 (h:VL P (some none) n B w0 ops Q rest ((d,v)::env) H):
 VL P (some none) n B w0 ops Q (⟨some d,.call ⟨.value x,args.toArray,tys⟩,ty,pos,after,none⟩::rest) env H:=by
 refine⟨λa ha=>wpQuiet_step λK hK=>?_⟩
 rw[Tn (by simp[Region.wanted])]
 refine⟨v,λw hw=>?_,hK _ ?_⟩
 ·unfold Oper.quietAt
  rw[YpE ha hx hc hargs]
  refine⟨rfl,(hcall w hw).mono ?_⟩
  rintro e w' ⟨_,_,rfl,hst,rfl,rfl⟩
  exact⟨rfl,hst⟩
 ·exact h.run _ (ha.put (TX hn) v)
def effW(o:Oper):Bool:=eff o&&match o.op with|.call ⟨.value _,_,_⟩=>false|.makeFunc _ _ _=>false|_=>true
theorem Yqc{id:Nat}{l:List Oper}(hq:(l.all λo=>!effW o)=true)(hm:P.follows .mixedOrders=true)(hB:Region.lexB .any l.toArray=true)(h:VL P (some none) n B w0 l.toArray Q l env H):VC P n B w0 (.region id l.toArray true) Q env H:=
 Ymz hm (by have:=hq;exact hB) h
theorem Ypy{xs:Array Value}{w:World}(hw:St B w0 H w)(h:Calls P f xs w λe w'=>e=.returned v/\w'=w):Calls P f xs w (Post B w0 λu K=>u=v/\K=H):=
 h.mono (by rintro e w' ⟨rfl,rfl⟩;exact⟨v,H,rfl,hw,rfl,rfl⟩)
end
section
variable {P:Program}{m:Mode}{n:Shp}{B:Nat}{w0:World}{ops:Array Oper}{Q:Exit->Act->World->Prop}{rest:List Oper}{env:Env}{H:List HP}{d:Nat}{ty:TypeId}{pos:String}{after:Array Edge}{x y:Operand}{k:IntKind}{a b:Int}
theorem Yis(T:Tab P){src dst:TypeId}{j:IntKind}(hx:evo env x=some (.int k a))(hs:look T.ik src=some j)(ht:look T.ik dst=some .u64)(hn:Nat.ble (d+1) n.k=true)(hb:0<=a/\a<=18446744073709551615)
 (h:VL P m n B w0 ops Q rest ((d,.int .u64 a)::env) H):VL P m n B w0 ops Q (⟨some d,.convert src dst x,ty,pos,after,none⟩::rest) env H:=
 YmD T hx hs ht hn (by rw[IntWalk.u64_in _ hb];exact h)
variable {f:Nat}{args:List Operand}{tys:Array TypeId}{vs cs:List Value}
theorem Y9{b:Bool}
 (hc:∀xs w,(callFunc f xs).run P w=.ok (.enter f xs) w) (hargs:Args env args vs) (hn:Nat.ble (d+1) n.k=true)
 (hcall:∀w,St B w0 H w->Calls P f vs.toArray w (Post B w0 λu K=>u=.bool b/\K=H))
 (h1:b=true->VL P none n B w0 ops Q rest ((d,.bool true)::env) H) (h2:b=false->VL P none n B w0 ops Q rest ((d,.bool false)::env) H):
 VL P none n B w0 ops Q (⟨some d,.call ⟨.value (.func f),args.toArray,tys⟩,ty,pos,after,none⟩::rest) env H:=by
 cases b
 ·exact Ya hc hargs hn hcall (h2 rfl)
 ·exact Ya hc hargs hn hcall (h1 rfl)
theorem Y8{b:Bool}
 (hc:∀xs w,(callFunc f xs).run P w=.ok (.enter f xs) w) (hargs:Args env args vs) (hn:Nat.ble (d+1) n.k=true)
 (hcall:∀w,St B w0 H w->Calls P f vs.toArray w (Post B w0 λu K=>u=.bool b/\K=H))
 (h1:b=true->VL P (some none) n B w0 ops Q rest ((d,.bool true)::env) H) (h2:b=false->VL P (some none) n B w0 ops Q rest ((d,.bool false)::env) H):
 VL P (some none) n B w0 ops Q (⟨some d,.call ⟨.value (.func f),args.toArray,tys⟩,ty,pos,after,none⟩::rest) env H:=by
 cases b
 ·exact Yb hc hargs hn hcall (h2 rfl)
 ·exact Yb hc hargs hn hcall (h1 rfl)
theorem Uc{x:Operand}{b:Bool}(hx:evo env x=some (.func (.func f) #[] cs.toArray))
 (hc:∀xs w,(callFunc f xs).run P w=.ok (.enter f xs) w) (hargs:Args env args vs) (hn:Nat.ble (d+1) n.k=true)
 (hcall:∀w,St B w0 H w->Calls P f (vs++cs).toArray w (Post B w0 λu K=>u=.bool b/\K=H))
 (h1:b=true->VL P none n B w0 ops Q rest ((d,.bool true)::env) H) (h2:b=false->VL P none n B w0 ops Q rest ((d,.bool false)::env) H):
 VL P none n B w0 ops Q (⟨some d,.call ⟨.value x,args.toArray,tys⟩,ty,pos,after,none⟩::rest) env H:=by
 cases b
 ·exact Y3 hx hc hargs hn hcall (h2 rfl)
 ·exact Y3 hx hc hargs hn hcall (h1 rfl)
theorem Ub{x:Operand}{b:Bool}(hx:evo env x=some (.func (.func f) #[] cs.toArray))
 (hc:∀xs w,(callFunc f xs).run P w=.ok (.enter f xs) w) (hargs:Args env args vs) (hn:Nat.ble (d+1) n.k=true)
 (hcall:∀w,St B w0 H w->Calls P f (vs++cs).toArray w (Post B w0 λu K=>u=.bool b/\K=H))
 (h1:b=true->VL P (some none) n B w0 ops Q rest ((d,.bool true)::env) H) (h2:b=false->VL P (some none) n B w0 ops Q rest ((d,.bool false)::env) H):
 VL P (some none) n B w0 ops Q (⟨some d,.call ⟨.value x,args.toArray,tys⟩,ty,pos,after,none⟩::rest) env H:=by
 cases b
 ·exact Xo hx hc hargs hn hcall (h2 rfl)
 ·exact Xo hx hc hargs hn hcall (h1 rfl)
theorem St.blk_sl{w:World}{g e size len:Nat}(h:St B w0 (Eng.blk g (.cells cs.toArray e (0,0))::H) w)(hk:cs.length=len*size)(hl:len<=1000000):St B w0 (Eng.sl e size (some ⟨g,0,none⟩) len len cs::H) w:=by
 refine h.upd (Upd.here _) rfl rfl rfl (TJ _) λS1 ⟨h1,h2⟩=>⟨⟨⟨hk,.inr ⟨g,len,cs.toArray,rfl,Tm _,h2,TJ _,?_,by simpa using hk,?_⟩⟩,λa ha=>by cases ha;exact h1⟩,λ_ _ _=>rfl⟩
 ·simp only[maxLen];omega
 ·rw[T0 (by simp[hk])]
end
section
variable {P:Program}{B:Nat}{w0:World}{H:List HP}
theorem YfM{f:Nat}{xs:Array Value}{x y:Value}(e:x=y)(h:∀w,St B w0 H w->Calls P f xs w (Post B w0 λu K=>u=x/\K=H)){w:World}(hw:St B w0 H w):Calls P f xs w (Post B w0 λu K=>u=y/\K=H):=e▸h w hw
end
section
variable {P:Program}{n:Shp}{B:Nat}{w0:World}{ops:Array Oper}{Q:Exit->Act->World->Prop}{rest:List Oper}{env:Env}{H:List HP}{d:Nat}{ty:TypeId}{pos:String}{after:Array Edge}{x y:Operand}
theorem Yjq{α:Type}{f:α->List Value}(hq:∀a,(f a).length=1){v:Value}:∀(l:List α) (i:Nat) (a:α),f a=[v]->i<l.length->(l.flatMap f).set i v=(l.set i a).flatMap f
 |[],i,a,_,h=>by simp at h
 |b::l,0,a,hv,_=>by
  rw[TZ,NB,TZ,hv]
  match hb:f b,hq b with
  |[u],_=>rfl
 |b::l,i+1,a,hv,h=>by
  rw[TZ,NQ,TZ]
  have h1:=hq b
  rw[NS _ _ (by omega),h1,SK,Yjq hq l i a hv (by simpa using h)]
variable {t e:Nat}
theorem XP(T:Tab P){α:Type}{f:α->List Value}{l:List α}{i k cap:Nat}{a:α}{v:Value}{A:Option Addr}{K:List HP}(hx:evo env x=some (sptr A (i*1)))(hy:evo env y=some v)(h1:v.oneCell'=true)
 (hu:Upd (sl e 1 A k cap (l.flatMap f)) (sl e 1 A k cap ((l.set i a).flatMap f)) H K) (hv:f a=[v]) (hq:∀a,(f a).length=1) (ht:look T.sc t=some ()) (hi:i<l.length)
 (h:VL P none n B w0 ops Q rest env K):VL P none n B w0 ops Q (⟨none,.store t x y,ty,pos,after,none⟩::rest) env H:=by
 rw[Nz]at hx
 refine YbQ (e:=e) (size:=1) (k:=k) (cap:=cap) T hx hy h1 ?_ ht (by rw[Xk hq,Nz];exact hi) h
 rw[Yjq hq l i a hv hi]
 exact hu
theorem Y1(T:Tab P){size bytes:Nat}(ht:look T.sl t=some (e,size,bytes))(hn:Nat.ble (d+1) n.k=true)
 (h:∀g,VL P none n B w0 ops Q rest ((d,.slice (some ⟨g,0,none⟩) 0 0)::env) (sl e size (some ⟨g,0,none⟩) 0 0 []::H)):VL P none n B w0 ops Q (⟨some d,.buildSlice t 0 #[],ty,pos,after,none⟩::rest) env H:=by
 obtain⟨hut,inf,z',hinf,_⟩:=YJ (T.slic ht)
 refine Qx (parts:=[]) (ps:=[]) (cs:=#[]) (e:=e) YgB (λw=>?_) hn λg=>XU _ (λw hw=>hw.blk_sl (cs:=[]) (by simp) (by omega)) (h g)
 simp[Instr.buildSlice,run_underlying hut,sizeOf,typeInfo,hinf,Instr.fill,newRow]
 rw[show Array.range 0=#[] from Array.eq_empty_of_size_eq_zero (by simp),Array.map_empty]
variable {A:HP}{L M:List HP}
theorem YbB{L':List HP}(h:Rem A L L')(h2:Perm L' M):Perm L (A::M):=Perm.trans h (Perm.cons A h2)
theorem Perm.dropK(p:Perm L M):Perm (A::L) M:=.trans (.drop A L) p
end
section
variable {P:Program}{m:Mode}{n:Shp}{B:Nat}{w0:World}{ops:Array Oper}{Q:Exit->Act->World->Prop}{rest:List Oper}{env:Env}{H:List HP}{d:Nat}{ty:TypeId}{pos:String}{after:Array Edge}{x y:Operand}
theorem XG{α:Type}{f:α->List Value}{q:Nat}(hq:∀a,(f a).length=q):∀(l:List α) (k:Nat),(l.take k).flatMap f=(l.flatMap f).take (k*q)
 |[],k=>by simp
 |a::l,0=>by simp
 |a::l,k+1=>by
  have e1:(k+1)*q=q+k*q:=by grind
  have h1:(f a).take (q+k*q)=f a:=by grind
  rw[List.take_succ_cons,TZ,TZ,XG hq l k,e1,Nl,hq,h1,NN]
theorem Wp{α:Type}{f:α->List Value}{q:Nat}(hq:∀a,(f a).length=q):∀(l:List α) (k:Nat),(l.drop k).flatMap f=(l.flatMap f).drop (k*q)
 |[],k=>by simp
 |a::l,0=>by simp
 |a::l,k+1=>by
  have e1:(k+1)*q=q+k*q:=by grind
  have h1:(f a).drop (q+k*q)=[]:=by simp_all
  rw[List.drop_succ_cons,TZ,Wp hq l k,e1,List.drop_append,hq,h1,NN,TK]
theorem Yjs{α:Type}{f:α->List Value}{q:Nat}(hq:∀a,(f a).length=q){v:Value}{o:Nat}(ho:o<q):∀(l:List α) (i:Nat) (b b':α),l[i]? =some b->f b'=(f b).set o v->(l.flatMap f).set (i*q+o) v=(l.set i b').flatMap f
 |[],i,b,b',h,_=>by simp at h
 |a::l,0,b,b',h,hv=>by
  simp_all
 |a::l,i+1,b,b',h,hv=>by
  have h1:=hq a
  rw[TZ,NQ,TZ,NS _ _ (by grind),h1,<-Yjs hq ho l i b b' (by simp_all) hv]
  grind
variable {α:Type}
theorem YdO{f:α->List Value}(h1:∀a,Ju (f a)=true)(l:List α):∀v∈l.flatMap f,v.oneCell'=true:=by
 grind [Z0]
def subA(A:Option Addr)(o cap size:Nat):Option Addr:=if cap=o then A else A.map λa=>a.add (o*size)
variable {q cap o k t e size bytes l h mm n' g k' c i:Nat}{A:Option Addr}
theorem Rd.sub{f:α->List Value}{l:List α}(hq:∀a,(f a).length=q)(hr:Rd B w0 H A (l.flatMap f))(hc:l.length<=cap):Rd B w0 H (subA A o cap q) (((l.drop o).take k).flatMap f):=by
 intro w hw j v hv
 rw[XG hq,Wp hq]at hv
 have hv2:((l.flatMap f).drop (o*q))[j]? =some v:=by
  grind
 rw[RI]at hv2
 obtain⟨g,oo,rfl,h2⟩:=hr w hw _ _ hv2
 unfold subA
 by_cases hco:cap=o
 ·have h3:=(Tj.1 hv2).1
  rw[Xk hq]at h3
  have h4:l.length*q<=o*q:=Ri q (by omega)
  omega
 ·exact⟨g,oo+o*q,by grind [Go.Addr.add_lit],by grind⟩
theorem Rd.take{f:α->List Value}{l:List α}(k:Nat)(hq:∀a,(f a).length=q)(hr:Rd B w0 H A (l.flatMap f)):Rd B w0 H A ((l.take k).flatMap f):=by
 intro w hw j v hv
 rw[XG hq,SE]at hv
 by_cases hj:j<k*q
 ·rw[Tn hj]at hv;exact hr w hw j v hv
 simp_all
variable {w:World}{mx:Option Value}
theorem Ymf(T:Tab P){lo hi:Option Value}(ht:look T.sl t=some (e,size,bytes))(hb:(Instr.sliceBounds true k cap lo hi mx).run P w=.ok (l,h,mm) w):
 (Instr.slice t (.slice A k cap) lo hi mx).run P w=.ok (.slice (if mm=l then A else A.map (·.add (l*size))) (h-l) (mm-l)) w:=by
 obtain⟨hut,inf,z',hinf,_,_,hsi,_⟩:=YJ (T.slic ht)
 simp[Instr.slice,run_underlying hut,hb,sizeOf,typeInfo,hinf,hsi]
theorem JZ(T:Tab P){lo hi:Option Value}(ht:look T.sl t=some (e,size,bytes))(hb:(Instr.sliceBounds true k cap lo hi mx).run P w=.ok (l,h,mm) w):
 (Instr.sliceAt t (.slice A k cap) lo hi mx).run P w=.ok (.slice (if mm=l then A else A.map (·.add (l*size))) (h-l) (mm-l)) w:=by
 obtain⟨hut,_⟩:=YJ (T.slic ht)
 simp[Instr.sliceAt,run_underlying hut,Ymf T (A:=A) ht hb]
variable {lo hi:Operand}{ki kj:IntKind}{z u:Int}
theorem ZZ(T:Tab P)(hx:evo env x=some (.slice A k cap))(hl:evo env lo=some (.int ki z))(ht:look T.sl t=some (e,size,bytes))(hn:Nat.ble (d+1) n.k=true)(hb:0<=z/\z<=k)(hn':k-z.toNat=n')
 (h:VL P m n B w0 ops Q rest ((d,.slice (subA A z.toNat cap size) n' (cap-z.toNat))::env) H):VL P m n B w0 ops Q (⟨some d,.slice t x (some lo) none none,ty,pos,after,none⟩::rest) env H:=by
 subst hn'
 refine YF rfl rfl hn rfl (λf w ha _=>?_) h
 have hb2:(Instr.sliceBounds true k cap (some (.int ki z)) none none).run P w=.ok (z.toNat,k,cap) w:=by simp[Instr.sliceBounds,Instr.sliceBound,asIntOf,hb]
 exact zc85
variable {xs:List Value}
theorem YbP(T:Tab P)(hx:evo env x=some (.slice A k cap))(hl:evo env hi=some (.int ki z))(hm:sl e size A k cap xs∈H)(ht:look T.sl t=some (e,size,bytes))(hn:Nat.ble (d+1) n.k=true)(hb:0<=z/\z<=k)
 (h:VL P m n B w0 ops Q rest ((d,.slice A z.toNat cap)::env) H):VL P m n B w0 ops Q (⟨some d,.slice t x none (some hi) none,ty,pos,after,none⟩::rest) env H:=by
 refine YF rfl rfl hn rfl (λf w ha hw=>?_) h
 have hown:=hw.sl hm
 have hkc:k<=cap:=zc44
 have hA:(if cap=0 then A else A.map (·.add (0*size)))=A:=by
  rcases hown.2 with⟨e1,e2⟩|⟨g,c,cur,e1,_⟩
  all_goals grind [Go.Addr.add_lit]
 have hb2:(Instr.sliceBounds true k cap none (some (.int ki z)) none).run P w=.ok (0,z.toNat,cap) w:=by
  have:z<=cap:=by omega
  exact zc63
 have hr:=JZ T (A:=A) ht hb2
 rw[hA]at hr
 simp only[execOp,ha.eval hx,Ss,ha.eval hl,Option.map_none]
 simp[hr]
theorem ZY(T:Tab P){l:List α}(hx:evo env x=some (.slice A l.length cap))(hl:evo env hi=some (.int ki z))(ht:look T.sl t=some (e,size,bytes))(hn:Nat.ble (d+1) n.k=true)(hb:0<=z/\z<=l.length)(hc:l.length<=cap)(hn':z.toNat=n')
 (h:VL P m n B w0 ops Q rest ((d,.slice (subA A 0 cap size) n' cap)::env) H):VL P m n B w0 ops Q (⟨some d,.slice t x none (some hi) none,ty,pos,after,none⟩::rest) env H:=by
 subst hn'
 refine YF rfl rfl hn rfl (λf w ha hw=>?_) h
 have hb2:(Instr.sliceBounds true l.length cap none (some (.int ki z)) none).run P w=.ok (0,z.toNat,cap) w:=by
  have:z<=cap:=by omega
  exact zc63
 exact zc85
theorem Ou(T:Tab P)(hx:evo env x=some (.slice A k cap))(hl:evo env lo=some (.int ki z))(hh:evo env hi=some (.int kj u))(ht:look T.sl t=some (e,size,bytes))(hn:Nat.ble (d+1) n.k=true)(hb:0<=z/\z<=u/\u<=cap)(hn':u.toNat-z.toNat=n')
 (h:VL P m n B w0 ops Q rest ((d,.slice (subA A z.toNat cap size) n' (cap-z.toNat))::env) H):VL P m n B w0 ops Q (⟨some d,.slice t x (some lo) (some hi) none,ty,pos,after,none⟩::rest) env H:=by
 subst hn'
 refine YF rfl rfl hn rfl (λf w ha _=>?_) h
 have hb2:(Instr.sliceBounds true k cap (some (.int ki z)) (some (.int kj u)) none).run P w=.ok (z.toNat,u.toNat,cap) w:=by
  have h1:0<=u:=by omega
  have h3:z<=max u 0:=by omega
  exact zc63
 have hr:=JZ T (A:=A) ht hb2
 simp only[execOp,ha.eval hx,Ss,ha.eval hl,ha.eval hh,Option.map_none]
 simp[hr,subA]
theorem Yom(T:Tab P){mx:Operand}{kk:IntKind}{v:Int}(hx:evo env x=some (.slice A k cap))(hl:evo env lo=some (.int ki z))(hh:evo env hi=some (.int kj u))(hv:evo env mx=some (.int kk v))(ht:look T.sl t=some (e,size,bytes))(hn:Nat.ble (d+1) n.k=true)(hb:0<=z/\z<=u/\u<=v/\v<=cap)
 (h:VL P m n B w0 ops Q rest ((d,.slice (if v.toNat=z.toNat then A else A.map (·.add (z.toNat*size))) (u.toNat-z.toNat) (v.toNat-z.toNat))::env) H):VL P m n B w0 ops Q (⟨some d,.slice t x (some lo) (some hi) (some mx),ty,pos,after,none⟩::rest) env H:=by
 refine YF rfl rfl hn rfl (λf w ha _=>?_) h
 have hb2:(Instr.sliceBounds true k cap (some (.int ki z)) (some (.int kj u)) (some (.int kk v))).run P w=.ok (z.toNat,u.toNat,v.toNat) w:=by
  have h1:0<=u:=by omega
  have h3:z<=max u 0:=by omega
  have h4:0<=v:=by omega
  have h6:u<=max v 0:=by omega
  exact zc63
 have hr:=JZ T (A:=A) ht hb2
 simp only[execOp,ha.eval hx,Ss,ha.eval hl,ha.eval hh,ha.eval hv]
 simp[hr]
theorem Yh8{b:Nat}{cs:Array Value}(h:b≠g):(w.setRow g cs).heap[b]? =w.heap[b]? :=by
 simp[World.setRow,Array.getElem?_modify,Ne.symm h]
variable {K:List HP}
theorem St.storeRow{xs' vs:List Value}{cur:Array Value}(hw:St B w0 H w)(hu:Upd (Eng.sl e size A k cap xs) (Eng.sl e size A k' cap xs') H K)(hA:A=some ⟨g,0,none⟩)
 (hb:w.heap[g]? =some (.cells cur e (0,0))) (hcur:cur.size=cap*size) (hk':k'<=cap) (hcm:cap<=maxLen) (hov:o+vs.length<=cur.size) (hx':(cur.toList.take o++vs++cur.toList.drop (o+vs.length)).take (k'*size)=xs') (hxl:xs'.length=k'*size):
 St B w0 K (w.setRow g (cur.toList.take o++vs++cur.toList.drop (o+vs.length)).toArray):=by
 refine hw.upd hu rfl rfl rfl (by simp_all) λS1 ⟨hown,hS⟩=>⟨⟨⟨hxl,.inr ⟨g,cap,_,by rw[hA],Tm _,setRow_heap w g cur _ e _ hb,hk',hcm,?_,by omega⟩⟩,hS⟩,λb hb' _=>Yh8 λe=>hb' (by simp_all)⟩
 grind
theorem Ji(h:w.ownsRow 0 e size (.slice A k cap) k xs):(A=none/\k=0/\cap=0/\xs=[])\/∃g cur,A=some ⟨g,0,none⟩/\w.heap[g]? =some (.cells cur e (0,0))/\k<=cap/\cap<=maxLen/\cur.size=cap*size/\cur.toList.take (k*size)=xs/\xs.length=k*size:=by
 obtain⟨h1,h2⟩:=h
 rcases h2 with⟨e1,e2⟩|⟨g,c,cur,e1,_,e3,e4,e5,e6,e7⟩
 all_goals simp_all
theorem St.shrink(hw:St B w0 H w)(hk:k'<=k)(hu:Upd (Eng.sl e size A k cap xs) (Eng.sl e size A k' cap (xs.take (k'*size))) H K):St B w0 K w:=by
 refine hw.upd hu rfl rfl rfl (TJ _) λS1 ⟨hown,hS⟩=>⟨⟨?_,hS⟩,λ_ _ _=>rfl⟩
 rcases Ji hown with⟨rfl,rfl,rfl,rfl⟩|⟨g,cur,rfl,h1,h2,h3,h4,h5,h6⟩
 ·simp_all
 ·have hm:k'*size<=k*size:=Ri _ hk
  refine⟨by simp_all,.inr ⟨g,cap,cur,rfl,Tm _,h1,by omega,h3,h4,?_⟩⟩
  grind
theorem Xy(T:Tab P){f:α->List Value}{l2:List α}{A2:Option Addr}{K:Option Addr->Nat->List HP}
 (hx:evo env x=some (.slice A k cap)) (ht:look T.sl t=some (e,size,bytes)) (hy:evo env y=some (.slice A2 l2.length c)) (hr:Rd B w0 H A2 (l2.flatMap f)) (hq:∀a,(f a).length=size) (h1:∀a,Ju (f a)=true) (hn:Nat.ble (d+1) n.k=true)
 (hu:∀A' cap',Upd (sl e size A k cap xs) (sl e size A' (k+l2.length) cap' (xs++l2.flatMap f)) H (K A' cap')) (hby:(k+l2.length)*bytes<=140737488355328)
 (h:∀A' cap',VL P none n B w0 ops Q rest ((d,.slice A' (k+l2.length) cap')::env) (K A' cap')):
 VL P none n B w0 ops Q (⟨some d,.call ⟨.builtin .append,#[x,y],#[t,t]⟩,ty,pos,after,none⟩::rest) env H:=by
 obtain⟨hut,i,z,hi,hz,hzs,hsi,hbi,hs0,hb0⟩:=YJ (T.slic ht)
 refine XO (λv K'=>∃A' cap',v=.slice A' (k+l2.length) cap'/\K'=K A' cap') rfl rfl hn (λa w ha hw=>?_) (by rintro _ _ ⟨A',cap',rfl,rfl⟩;exact h A' cap')
 have hmem:sl e size A k cap xs∈H:=by
  obtain⟨L1,L2,rfl,_⟩:=hu none 0
  simp
 have hown:=hw.sl hmem
 have h63:k+l2.length<=maxLen:=by
  have:k+l2.length<=(k+l2.length)*bytes:=Nat.le_mul_of_pos_right _ hb0
  grind [maxLen]
 cases A2 with
 |none=>
  have hl0:l2=[]:=by
   cases l2 with
   |nil=>rfl
   |cons b l=>
    have hb:=hq b
    obtain⟨v,hv⟩:∃v,(f b)[0]? =some v:=⟨_,Ta (by omega)⟩
    obtain⟨g,o,e1,_⟩:=hr w hw 0 v (by grind)
    cases e1
  subst hl0
  have hkc:k<=cap:=by
   grind [Ji]
  refine⟨.slice A k cap,K A cap,w,?_,?_,A,cap,by simp,rfl⟩
  ·cases A with
   |none=>simp[execOp,resolve,invoke,builtin,ha.eval hx,ha.eval hy,Builtin.append_,run_underlying hut,sizeOf,typeInfo,hi,Builtin.lenOf,hkc,Builtin.firstCells]
   |some a0=>simp[execOp,resolve,invoke,builtin,ha.eval hx,ha.eval hy,Builtin.append_,run_underlying hut,sizeOf,typeInfo,hi,Builtin.lenOf,hkc,Builtin.firstCells,storeCells]
  ·have:=hu A cap
   simp only[Ry,Nn,NY,Ro]at this
   exact hw.upd this rfl rfl rfl (TJ _) λS1 hS=>⟨hS,λ_ _ _=>rfl⟩
 |some a2=>
  obtain⟨v',w',hrun,hown',hgrow,_,hat⟩:=run_append_own_at (P:=P) w 0 t ty e i z size bytes hut hi hz hsi hbi hzs hs0 (.slice A k cap) k xs hown a2 l2.length c (l2.flatMap f) (Xk hq l2)
   (λj u hj=>by
    obtain⟨g,o,e1,e2⟩:=hr w hw j u hj
    injection e1 with e1
    rw[e1,Addr.add_lit];exact e2) (YdO h1 l2) h63 hby (Tm _)
  have hshape:∃A' cap',v'=.slice A' (k+l2.length) cap':=by
   rcases hown'.2 with⟨e1,e2⟩|⟨g',c',_,e1,_⟩
   ·exact⟨none,0,by rw[e1,e2]⟩
   ·exact⟨_,_,e1⟩
  obtain⟨A',cap',rfl⟩:=hshape
  refine⟨_,K A' cap',w',by simp[execOp,resolve,invoke,builtin,ha.eval hx,ha.eval hy,hrun],?_,A',cap',rfl,rfl⟩
  refine hw.updN (hu A' cap') hgrow.os hgrow.tape hgrow.output hgrow.size λS1 ⟨_,hS⟩=>⟨⟨λb=>Value.ownBlock (.slice A' (k+l2.length) cap')=some b,⟨hown',?_⟩,λb hb=>?_⟩,λb hb hlt=>hgrow.block b hlt (λe=>hb ?_)⟩
  ·rintro a rfl;rfl
  ·rcases hat with e|e
   ·rw[e]at hb
    cases A with
    |none=>cases hb
    |some a=>left;have:=hS a rfl;simp only[Value.ownBlock,Rw]at hb;rwa [<-hb]
   ·rw[e]at hb
    right
    simp only[Rw]at hb
    subst hb
    refine⟨TJ _,?_⟩
    rcases Ji hown' with⟨rfl,_⟩|⟨g',cur',rfl,h5,_⟩
    ·simp[Value.ownBlock]at e
    ·simp only[Value.ownBlock,Rw]at e
     rw[<-e]
     exact(Si.1 h5).1
  ·cases A with
   |none=>simp[Value.ownBlock]at e
   |some a=>have:=hS a rfl;simp only[Value.ownBlock,Rw]at e;rwa [e]
theorem Yal(T:Tab P)(T2:Tab2 P){z:Value}(hx:evo env x=some (.slice (subA A o cap size) mm c))(hm:sl e size A k cap xs∈H)(ht:look T.sl t=some (e,size,bytes))(hz:look T2.zt e=some z)(hz1:Ju z.cells.toList=true)(hb:k<=o/\o+mm<=cap)
 (h:VL P none n B w0 ops Q rest env H):VL P none n B w0 ops Q (⟨none,.call ⟨.builtin .clear,#[x],#[t]⟩,ty,pos,after,none⟩::rest) env H:=by
 obtain⟨hut,i,z',hi,hz',hzs,hsi,hbi,hs0,hb0⟩:=YJ (T.slic ht)
 have hzz:z'=z:=by
  have h2:=ON T2.zt_ok hz
  grind [Yba]
 subst hzz
 refine Yqr (v:=.tuple #[]) rfl rfl (λa w ha hw=>?_) h
 rcases Ji (hw.sl hm)with⟨rfl,rfl,rfl,rfl⟩|⟨g,cur,rfl,h1,h2,h3,h4,h5,h6⟩
 ·obtain rfl:mm=0:=by omega
  refine⟨w,?_,hw⟩
  have:subA none o 0 size=none:=by grind [subA]
  rw[this]at hx
  exact zc61
 ·by_cases hm0:mm=0
  ·subst hm0
   refine⟨w,?_,hw⟩
   cases hsa:subA (some ⟨g,0,none⟩) o cap size with
   |none=>rw[hsa]at hx;exact zc61
   |some b=>rw[hsa]at hx;exact zc61
  ·have hsa:subA (some ⟨g,0,none⟩) o cap size=some ⟨g,o*size,none⟩:=by
    unfold subA
    rw[Tf (by omega),Ss,Addr.add_lit,RH]
   rw[hsa]at hx
   have hlen:(Builtin.zeroCells z'.cells mm).toList.length=mm*size:=by simp[Builtin.zeroCells,hzs]
   have hone:∀v∈(Builtin.zeroCells z'.cells mm).toList,v.oneCell'=true:=by
    intro v hv
    simp only[Builtin.zeroCells,Array.toList_map,TC]at hv
    obtain⟨j,_,rfl⟩:=hv
    have hlt:j%z'.cells.size<z'.cells.size:=Nat.mod_lt _ (by omega)
    rw[getElem!_pos z'.cells (j%z'.cells.size) hlt]
    exact Z0 hz1 _ (by simp)
   have hov:o*size+(Builtin.zeroCells z'.cells mm).toList.length<=cur.size:=by
    rw[hlen,h4,<-Sl];exact Ri _ hb.2
   have hrun:=run_storeCells_at (P:=P) g (o*size) e (Builtin.zeroCells z'.cells mm).toList 0 cur w h1 (by rw[Nn];exact hov) hone
   rw[Nn]at hrun
   obtain⟨L1,L2,hL⟩:∃L1 L2,H=L1++sl e size (some ⟨g,0,none⟩) k cap xs::L2:=List.append_of_mem hm
   refine⟨_,?_,hw.storeRow (k':=k) (xs':=xs) ⟨L1,L2,hL,hL⟩ rfl h1 h4 h2 h3 hov ?_ h6⟩
   ·have hzv:(zeroValue e).run P w=.ok z' w:=Ye7 (by unfold Yba;rw[hi];exact hz') w
    obtain⟨m',rfl⟩:∃m',mm=m'+1:=⟨mm-1,by omega⟩
    simp[execOp,resolve,invoke,builtin,ha.eval hx,Builtin.clear_,run_underlying hut,hzv,hrun]
   ·have hko:k*size<=o*size:=Ri _ hb.1
    have hoc:o*size<=cur.toList.length:=by simp;omega
    rw[TY,List.take_append_of_le_length YgT,List.take_take,SO hko]
    exact h5
theorem Yg2(T:Tab P){j:Nat}(hx:evo env x=some (.slice A i cap))(hy:evo env y=some (.slice (subA A j cap size) mm c))(ht:look T.sl t=some (e,size,bytes))(hn:Nat.ble (d+1) n.k=true)
 (hu:Upd (sl e size A k cap xs) (sl e size A (i+mm) cap (xs.take (i*size)++xs.drop (j*size))) H K) (h1:∀v∈xs,v.oneCell'=true) (hb:i<=j/\j<=k/\mm=k-j/\0<k)
 (h:VL P none n B w0 ops Q rest ((d,.slice A (i+mm) cap)::env) K):
 VL P none n B w0 ops Q (⟨some d,.call ⟨.builtin .append,#[x,y],#[t,t]⟩,ty,pos,after,none⟩::rest) env H:=by
 obtain⟨hut,inf,z,hi,hz,hzs,hsi,hbi,hs0,hb0⟩:=YJ (T.slic ht)
 refine XO (λv K'=>v=.slice A (i+mm) cap/\K'=K) rfl rfl hn (λa w ha hw=>?_) zc70
 have hmem:sl e size A k cap xs∈H:=by
  obtain⟨L1,L2,rfl,_⟩:=hu
  simp
 rcases Ji (hw.sl hmem)with⟨rfl,e1,_⟩|⟨g,cur,rfl,g1,g2,g3,g4,g5,g6⟩
 ·omega
 have hdl:(xs.drop (j*size)).length=mm*size:=by rw[Rq,g6,hb.2.2.1,Nat.sub_mul]
 have hij:i*size<=j*size:=Ri _ hb.1
 have hjk:j*size<=k*size:=Ri _ hb.2.1
 have hkc:k*size<=cap*size:=Ri _ g2
 have hov:i*size+(xs.drop (j*size)).length<=cur.size:=by rw[Rq,g6,g4];omega
 have hrun:=run_storeCells_at (P:=P) g (i*size) e (xs.drop (j*size)) 0 cur w g1 (by rw[Nn];exact hov) (λv hv=>h1 v (List.mem_of_mem_drop hv))
 rw[Nn]at hrun
 refine⟨_,K,_,?_,hw.storeRow (k':=i+mm) (o:=i*size) (vs:=xs.drop (j*size)) hu rfl g1 g4 (by omega) g3 hov ?_ ?_,rfl,rfl⟩
 ·have hf:(Builtin.firstCells size mm (.slice (subA (some ⟨g,0,none⟩) j cap size) mm c)).run P w=.ok (xs.drop (j*size)).toArray w:=by
   by_cases hcj:cap=j
   ·have hm0:mm=0:=by omega
    have hnil:xs.drop (j*size)=[]:=Sj (by rw[hdl,hm0];simp)
    unfold subA
    rw[Tn hcj,hnil]
    exact run_firstCells_some (P:=P) (w:=w) size mm _ mm c [] (by simp[hm0]) (by simp)
   ·unfold subA
    rw[Tf hcj,Ss,Addr.add_lit,RH]
    refine run_firstCells_some (P:=P) (w:=w) size mm _ mm c _ hdl λq v hq=>?_
    rw[RI]at hq
    have h7:=(Tj.1 hq).1
    rw[Addr.add_lit]
    simp only[World.cell?,g1]
    rw[<-g5,SE]at hq
    by_cases hlt:j*size+q<k*size
    ·rw[Tn hlt]at hq
     simpa using hq
    ·rw[Tf hlt]at hq;cases hq
  have hneed:i+mm<=cap:=by omega
  have hadd:(⟨g,0,none⟩:Addr).add (i*size)=⟨g,i*size,none⟩:=by rw[Addr.add_lit,RH]
  simp[execOp,resolve,invoke,builtin,ha.eval hx,ha.eval hy,Builtin.append_,run_underlying hut,sizeOf,typeInfo,hi,hsi,Builtin.lenOf,hneed,hf,hadd,hrun]
 all_goals grind [Sl]
theorem Ue(T:Tab P){f:α->List Value}{l:List α}{b b':α}{v:Value}(hx:evo env x=some (sptr A (i*q+o)))(hy:evo env y=some v)(h1:v.oneCell'=true)
 (hu:Upd (sl e q A k cap (l.flatMap f)) (sl e q A k cap ((l.set i b').flatMap f)) H K) (hb:l[i]? =some b) (hv:f b'=(f b).set o v) (hq:∀a,(f a).length=q) (ho:Nat.blt o q=true) (ht:look T.sc t=some ())
 (h:VL P none n B w0 ops Q rest env K):VL P none n B w0 ops Q (⟨none,.store t x y,ty,pos,after,none⟩::rest) env H:=by
 have ho':o<q:=by simp_all
 have hi:=(Tj.1 hb).1
 refine YbQ (xs:=l.flatMap f) (e:=e) (size:=q) (k:=k) (cap:=cap) T hx hy h1 ?_ ht ?_ h
 ·rw[Yjs hq ho' l i b b' hb hv];exact hu
 ·rw[Xk hq]
  have:(i+1)*q<=l.length*q:=Ri _ hi
  grind
end
end Go.Eng
