/- Lemmas. -/
import Derived.Maps.AppendAt
import Derived.Laws.StructEq
import Derived.ChangeKeysEq
import Derived.MapKept
import Derived.Maps.RangeRun
import Derived.Laws.IdiomCopy
import Derived.Laws.ResultCell
import Derived.Laws.Tables
import Derived.Great.BuildSlice
import Derived.Test.YtjlgijpmnfabcaaGreatDoorProg
import Derived.KernelRfl
import Derived.Test.YtjlgijpmnfabcaaGreatDoorQ1
set_option maxRecDepth 100000
set_option maxHeartbeats 8000000
set_option linter.all false
namespace Go.Eng
open Go.RowKit
def sl(e size:Nat)(A:Option Addr)(k cap:Nat)(xs:List Value):HP:=
 ⟨λS w=>w.ownsRow 0 e size (.slice A k cap) k xs/\∀a,A=some a->S a.block,by
  rintro S w w' hs ⟨⟨h1,h2⟩,h3⟩
  refine⟨⟨h1,?_⟩,h3⟩
  rcases h2 with h2|⟨g,c,cur,e1,e2,e3,e4⟩
  ·exact .inl h2
  ·refine .inr ⟨g,c,cur,e1,e2,?_,e4⟩
   injection e1 with e1
   rw[hs g (h3 _ e1)]
   exact e3⟩
variable {e size B k cap j t bytes:Nat}
theorem Yun(S:Nat->Prop)(w:World):(sl e size none 0 0 []).holds S w:=⟨⟨by simp,.inl ⟨rfl,rfl⟩⟩,λa h=>by cases h⟩
variable {w0 w:World}{H:List HP}
theorem St.nilSlice(h:St B w0 H w)(e size:Nat):St B w0 (sl e size none 0 0 []::H) w:=
 ⟨h.below,h.le,λ_=>False,λb=>B<=b/\b<w.heap.size,λ_ hb=>hb.elim,λ_ hb=>hb,λ_ hb=>hb.elim,Yun _ _,h.sep⟩
variable {A:Option Addr}{xs:List Value}
theorem St.sl(h:St B w0 H w)(hm:Eng.sl e size A k cap xs∈H):
 w.ownsRow 0 e size (.slice A k cap) k xs:=by
 obtain⟨S,_,h2,_⟩:=h.at_ hm
 exact h2
variable {v:Value}
theorem QX(h:w.ownsRow 0 e size (.slice A k cap) k xs)(hv:xs[j]? =some v):
 ∃g,A=some ⟨g,0,none⟩/\w.cell? ⟨g,j,none⟩=some v/\∃cur,w.heap[g]? =some (.cells cur e (0,0))/\cur[j]? =some v:=by
 rcases h.2 with⟨e1,e2⟩|⟨g,c,cur,e1,_,e3,_,_,_,e4⟩
 ·have:=h.1
  simp_all
 ·injection e1 with e1
  have hc:cur[j]? =some v:=by
   grind
  exact⟨g,e1,by grind [Xc],cur,e3,hc⟩
theorem YR{P:Program}(h:Ydi P t=some (e,size,bytes)):
 P.underlying t=some (.slice e)/\∃i z,P.info? e=some i/\i.zero=some z/\z.cells.size=size/\i.size=size/\i.bytes=bytes/\0<size/\0<bytes:=by
 unfold Ydi at h
 split at h
 ·rename_i e' hu
  cases hi:P.info? e' with
  |none=>simp_all
  |some i=>
   cases hz:i.zero with
   |none=>simp_all
   |some z=>
    grind
 simp_all
def Z4:List Value->Bool
 |[]=>true
 |v::l=>v.oneCell'&&Z4 l
theorem ZA:∀{l:List Value},Z4 l=true->∀u∈l,u.oneCell'=true
 |[],_,u,hu=>by cases hu
 |v::l,h,u,hu=>by
  simp only[Z4,Tt]at h
  rcases RA.1 hu with e|e
  ·simp_all
  ·exact ZA h.2 u e
def sptr(A:Option Addr)(j:Nat):Value:=.pointer (A.map λa=>a.add j)
section
variable {P:Program}{m:Mode}{n:Shp}{B:Nat}{w0:World}{Q:Exit->Act->World->Prop}{env:Env}{H:List HP}{ops:Array Oper}{rest:List Oper}
variable {d:Nat}{ty:TypeId}{pos:String}{after:Array Edge}
variable {c:Code}
theorem XF(e size:Nat)(h:VC P n B w0 c Q env (sl e size none 0 0 []::H)):VC P n B w0 c Q env H:=⟨λa w ha hw=>h.run a w ha (hw.nilSlice e size)⟩
variable {x y:Operand}{A:Option Addr}{k cap t e size bytes j:Nat}
theorem YtP(T:Tab P){tx:Nat}{es:Nat×Nat×Nat}(hx:evo env x=some (.slice A k cap))(ht:look T.sl tx=some es)(hn:Nat.ble (d+1) n.k=true)(h:VL P m n B w0 ops Q rest ((d,.int .i64 k)::env) H):
 VL P m n B w0 ops Q (⟨some d,.call ⟨.builtin .len,#[x],#[tx]⟩,ty,pos,after,none⟩::rest) env H:=by
 obtain⟨e,size,bytes⟩:=es
 obtain⟨hu,_⟩:=YR (T.slic ht)
 exact YP rfl rfl hn rfl (λf w ha _=>by simp[execOp,resolve,invoke,builtin,ha.eval hx,Builtin.len_,run_underlying hu,goInt]) h
variable {xs:List Value}{cs:Array Value}
theorem YlS(T:Tab P){tt:Nat}{g mm c:Nat}{fr:Nat×Nat}{K:Option Addr->Nat->List HP}
 (hx:evo env x=some (.slice A k cap)) (ht:look T.sl t=some (e,size,bytes))
 (hy:evo env y=some (.slice (some ⟨g,0,none⟩) mm c)) (hb:blk g (.cells cs tt fr)∈H) (hk:cs.size=mm*size) (h1:Z4 cs.toList=true) (hn:Nat.ble (d+1) n.k=true)
 (hu:∀A' cap',Upd (sl e size A k cap xs) (sl e size A' (k+mm) cap' (xs++cs.toList)) H (K A' cap')) (hby:(k+mm)*bytes<=140737488355328)
 (h:∀A' cap',VL P none n B w0 ops Q rest ((d,.slice A' (k+mm) cap')::env) (K A' cap')):
 VL P none n B w0 ops Q (⟨some d,.call ⟨.builtin .append,#[x,y],#[t,t]⟩,ty,pos,after,none⟩::rest) env H:=by
 obtain⟨hut,i,z,hi,hz,hzs,hsi,hbi,hs0,hb0⟩:=YR (T.slic ht)
 refine XH (λv K'=>∃A' cap',v=.slice A' (k+mm) cap'/\K'=K A' cap') rfl rfl hn (λa w ha hw=>?_) YpW
 have hmem:sl e size A k cap xs∈H:=Yp2
 have hown:=hw.sl hmem
 have hblk:=(hw.blk hb).1
 have h63:k+mm<=maxLen:=by
  have:k+mm<=(k+mm)*bytes:=Nat.le_mul_of_pos_right _ hb0
  grind [maxLen]
 obtain⟨v',w',hrun,hown',hgrow,_,hat⟩:=run_append_own_at (P:=P) w 0 t ty e i z size bytes hut hi hz hsi hbi hzs hs0 (.slice A k cap) k xs hown ⟨g,0,none⟩ mm c cs.toList (by omega)
  (λj u hj=>by rw[Addr.add_lit,Xc hblk,Ry];simp_all) (ZA h1) h63 hby (Tc _)
 have hshape:∃A' cap',v'=.slice A' (k+mm) cap':=Ytn
 obtain⟨A',cap',rfl⟩:=hshape
 refine⟨_,K A' cap',w',by exact YpT,?_,A',cap',rfl,rfl⟩
 refine hw.updN (hu A' cap') hgrow.os hgrow.tape hgrow.output hgrow.size λS1 ⟨_,hS⟩=>⟨⟨λb=>Value.ownBlock (.slice A' (k+mm) cap')=some b,⟨hown',?_⟩,λb hb=>?_⟩,λb hb hlt=>hgrow.block b hlt (λe=>hb ?_)⟩
 ·rintro a rfl;rfl
 ·rcases hat with e|e
  ·rw[e]at hb
   cases A with
   |none=>cases hb
   |some a=>exact Yta
  ·rw[e]at hb
   right
   simp only[RJ]at hb
   subst hb
   refine⟨TQ _,?_⟩
   rcases hown'.2 with⟨e1,_⟩|⟨g',_,_,e1,_,e3,_⟩
   ·rw[e1]at e;cases e
   ·rw[e1]at e
    simp only[Value.ownBlock,RJ]at e
    subst e
    rcases SE w.heap.size w'.heap.size with h|h
    ·exact h
    ·rw[Si h]at e3;cases e3
 ·cases A with
  |none=>cases e
  |some a=>simp only[Value.ownBlock,RJ]at e;rw[e];exact hS a rfl
theorem YgN(T:Tab P){ki:IntKind}{i:Int}(hx:evo env x=some (.slice A k cap))(hm:sl e size A k cap xs∈H)(hy:evo env y=some (.int ki i))
 (ht:look T.sl t=some (e,size,bytes)) (hn:Nat.ble (d+1) n.k=true) (hi:0<=i/\i<k) (h:VL P m n B w0 ops Q rest ((d,sptr A (i.toNat*size))::env) H):
 VL P m n B w0 ops Q (⟨some d,.indexAddr t x y,ty,pos,after,none⟩::rest) env H:=by
 obtain⟨hut,inf,z,hinf,_,_,hsi,_,_,_⟩:=YR (T.slic ht)
 refine YP rfl rfl hn rfl (λa w ha hw=>?_) h
 have hown:=hw.sl hm
 rcases hown.2 with⟨_,e2⟩|⟨g,c,cur,e1,_⟩
 ·omega
 ·injection e1 with e1
  subst e1
  exact zc52
variable {v:Value}
theorem Yi8(T:Tab P)(hx:evo env x=some (sptr A j))(hm:sl e size A k cap xs∈H)(ht:look T.sc t=some ())(hn:Nat.ble (d+1) n.k=true)(hv:xs[j]? =some v)
 (h:VL P m n B w0 ops Q rest ((d,v)::env) H):VL P m n B w0 ops Q (⟨some d,.load t x,ty,pos,after,none⟩::rest) env H:=by
 refine YP rfl rfl hn rfl (λa w ha hw=>?_) h
 obtain⟨g,rfl,hc,_⟩:=QX (hw.sl hm) hv
 exact Ys2
theorem YaD(T:Tab P){K:List HP}(hx:evo env x=some (sptr A j))(hy:evo env y=some v)(h1:v.oneCell'=true)
 (hu:Upd (sl e size A k cap xs) (sl e size A k cap (xs.set j v)) H K) (ht:look T.sc t=some ()) (hj:j<xs.length)
 (h:VL P none n B w0 ops Q rest env K):VL P none n B w0 ops Q (⟨none,.store t x y,ty,pos,after,none⟩::rest) env H:=by
 have hmem:sl e size A k cap xs∈H:=YlD
 refine UJ rfl rfl (λa w ha hw=>?_) h
 obtain⟨g,rfl,hc,cur,hb,hcj⟩:=QX (hw.sl hmem) (Ta hj)
 refine⟨w.setCell ⟨g,j,none⟩ v,?_,?_⟩
 ·have hcs:v.cells=#[v]:=by cases v<;>first|rfl|simp[Value.oneCell']at h1
  have hz:w.frozen? ⟨g,j,none⟩=false:=Yi0
  simp[execOp,ha.eval hx,ha.eval hy,sptr,Instr.storeAt,Instr.sureAddr,storeVar,hcs,Z5 (T.scal ht).2,storeCells,run_store _ _ _ _ _ h1,Addr.add_lit,hc,hz]
 ·refine hw.upd hu rfl rfl rfl (by simp) λS1 ⟨hown,hS⟩=>⟨⟨⟨?_,?_⟩,hS⟩,λb hb' _=>Below.heap_setCell w _ v b (λe=>hb' (by simp_all))⟩
  ·simpa using hown.1
  ·rcases hown.2 with⟨e1,_⟩|⟨g',c',cur',e1,e2,e3,e4,e5,e6,e7⟩
   ·cases e1
   ·injection e1 with e1 e8 e9
    injection e1 with e1
    injection e1 with e1
    subst e1
    refine .inr ⟨g,c',cur'.setIfInBounds j v,by rw[e9],e2,?_,e4,e5,by simpa using e6,?_⟩
    ·simp[World.setCell,Array.getElem?_modify,e3]
    ·rw[<-e7]
     simp only[Array.toList_setIfInBounds]
     rw[List.take_set]
theorem YkA{k:IntKind}{a b:Int}{tys:Array TypeId}(hx:evo env x=some (.int k a))(hy:evo env y=some (.int k b))(hn:Nat.ble (d+1) n.k=true)(h1:b<a->VL P m n B w0 ops Q rest ((d,.int k b)::env) H)(h2:a<=b->VL P m n B w0 ops Q rest ((d,.int k a)::env) H):
 VL P m n B w0 ops Q (⟨some d,.call ⟨.builtin .min,#[x,y],tys⟩,ty,pos,after,none⟩::rest) env H:=by
 by_cases hc:b<a
 ·exact YP rfl rfl hn rfl (λf w ha _=>by exact Ytf) (h1 hc)
 ·exact YP rfl rfl hn rfl (λf w ha _=>by exact Ytf) (h2 (by omega))
theorem Ow{len:Nat}{parts:List (Nat×Operand)}{ps:List (Nat×Value)}(hp:Yax env parts ps)(hb:∀w,(Instr.buildSlice t len ps.toArray).run P w=.ok (.slice (some ⟨w.heap.size,0,none⟩) len len) (w.alloc (.cells cs e (0,0))))(hn:Nat.ble (d+1) n.k=true)
 (h:∀g,VL P none n B w0 ops Q rest ((d,.slice (some ⟨g,0,none⟩) len len)::env) (blk g (.cells cs e (0,0))::H)):VL P none n B w0 ops Q (⟨some d,.buildSlice t len parts.toArray,ty,pos,after,none⟩::rest) env H:=by
 refine XH (λv K=>∃g,v=.slice (some ⟨g,0,none⟩) len len/\K=blk g (.cells cs e (0,0))::H) rfl rfl hn (λa w ha hw=>?_) zc56
 have hm:(parts.toArray.map λ(i,x)=>(i,a.eval x))=ps.toArray:=Ytr
 refine⟨_,_,w.alloc (.cells cs e (0,0)),?_,hw.alloc _,w.heap.size,rfl,rfl⟩
 simp_all [execOp]
theorem Xk(e size:Nat){ex:Exit}(h:VQ n B w0 Q ex env (sl e size none 0 0 []::H)):VQ n B w0 Q ex env H:=⟨λa w ha hw=>h.run a w ha (hw.nilSlice e size)⟩
theorem YgP(T:Tab P){c:Int}{z:Value}(hx:evo env x=some (.int .i64 c))(hy:evo env y=some (.int .i64 c))(ht:look T.sl t=some (e,1,bytes))(hz:((P.info? e).bind (·.zero))=some z)(hz1:z.cells=#[z])(hn:Nat.ble (d+1) n.k=true)(hb:Nat.ble bytes 1000=true)(hc:0<=c/\c<=1000000)
 (h:∀g,VL P none n B w0 ops Q rest ((d,.slice (some ⟨g,0,none⟩) c.toNat c.toNat)::env) (sl e 1 (some ⟨g,0,none⟩) c.toNat c.toNat (List.replicate c.toNat z)::H)):VL P none n B w0 ops Q (⟨some d,.makeSlice t x y,ty,pos,after,none⟩::rest) env H:=by
 obtain⟨hu,i,z',hi,hz',_,hsi,hbi,_,_⟩:=YR (T.slic ht)
 obtain rfl:z'=z:=by simp_all
 have hb':=TV hb
 refine XH (λv K=>∃g,v=.slice (some ⟨g,0,none⟩) c.toNat c.toNat/\K=sl e 1 (some ⟨g,0,none⟩) c.toNat c.toNat (List.replicate c.toNat z')::H) rfl rfl hn (λa w ha hw=>?_) zc56
 have hbytes:(i.bytes:Int)*c<=281474976710656:=by
  have h1:(i.bytes:Int)*c<=1000*c:=Sv (by omega) hc.1
  omega
 have hrun:=run_make (P:=P) w t e i z' hu hi hz' .i64 .i64 c c hc.1 (RS _) hbytes (by omega)
 rw[hsi,S7,hz1]at hrun
 refine⟨_,_,w.alloc (.cells (madeCells #[z'] c.toNat) e),by simp only[execOp,ha.eval hx,ha.eval hy,Sem.run_bind,hrun,Result.andThen_ok,Sem.run_pure],?_,w.heap.size,rfl,rfl⟩
 have h2:=hw.alloc (.cells (madeCells #[z'] c.toNat) e)
 refine h2.upd (Upd.here _) rfl rfl rfl (TQ _) λS1 ⟨h3,h4⟩=>⟨⟨⟨by simp,.inr ⟨w.heap.size,c.toNat,madeCells #[z'] c.toNat,rfl,Tc _,h4,TQ _,by grind [maxLen],by simp[size_madeCells],?_⟩⟩,λa ha=>by grind⟩,λ_ _ _=>rfl⟩
 simp_all [toList_madeCells_one]
variable {α β:Type}
theorem Wu(E:α->β->Env)(HH:α->β->List HP)(I:α->β->Prop)(μ:α->β->Nat)(x0:α)(y0:β)(h0:I x0 y0)
 (he:∀t v,get (E x0 y0) t=some v->get env t=some v) (hH:∀w,St B w0 H w->St B w0 (HH x0 y0) w)
 (round:∀x y,I x y->∀K:Act->World->Prop,(∀x' y',I x' y'->μ x' y'<μ x y->∀env' H',(∀t v,get (E x' y') t=some v->get env' t=some v)->(∀w,St B w0 H' w->St B w0 (HH x' y') w)->VQ n B w0 (Exit.then K Q) .normal env' H')->
  VC P n B w0 c (Exit.then K Q) (E x y) (HH x y)):VC P n B w0 (.loop c) Q env H:=
 Yfv (α:=α×β) (λp=>E p.1 p.2) (λp=>HH p.1 p.2) (λp=>I p.1 p.2) (λp=>μ p.1 p.2) (x0,y0) h0 he hH λp hp=>
  round p.1 p.2 hp _ λx' y' hI hμ _ _ he' hH'=>YbT (x',y') hI hμ he' hH'
theorem Yf(E:α->Env)(HH:α->List HP)(I:α->Prop)(μ:α->Nat)(x0:α)(h0:I x0)
 (he:∀t v,get (E x0) t=some v->get env t=some v) (hH:∀w,St B w0 H w->St B w0 (HH x0) w)
 (round:∀x,I x->∀K:Act->World->Prop,(∀x',I x'->μ x'<μ x->∀env' H',(∀t v,get (E x') t=some v->get env' t=some v)->(∀w,St B w0 H' w->St B w0 (HH x') w)->VQ n B w0 (Exit.then K Q) .normal env' H')->
  VC P n B w0 c (Exit.then K Q) (E x) (HH x)):VC P n B w0 (.loop c) Q env H:=
 Yfv E HH I μ x0 h0 he hH λp hp=>round p hp _ λx' hI hμ _ _ he' hH'=>YbT x' hI hμ he' hH'
theorem YgE{γ:Type}(E:α->β->γ->Env)(HH:α->β->γ->List HP)(I:α->β->γ->Prop)(μ:α->β->γ->Nat)(x0:α)(y0:β)(z0:γ)(h0:I x0 y0 z0)
 (he:∀t v,get (E x0 y0 z0) t=some v->get env t=some v) (hH:∀w,St B w0 H w->St B w0 (HH x0 y0 z0) w)
 (round:∀x y z,I x y z->∀K:Act->World->Prop,(∀x' y' z',I x' y' z'->μ x' y' z'<μ x y z->∀env' H',(∀t v,get (E x' y' z') t=some v->get env' t=some v)->(∀w,St B w0 H' w->St B w0 (HH x' y' z') w)->VQ n B w0 (Exit.then K Q) .normal env' H')->
  VC P n B w0 c (Exit.then K Q) (E x y z) (HH x y z)):VC P n B w0 (.loop c) Q env H:=
 Yfv (α:=α×β×γ) (λp=>E p.1 p.2.1 p.2.2) (λp=>HH p.1 p.2.1 p.2.2) (λp=>I p.1 p.2.1 p.2.2) (λp=>μ p.1 p.2.1 p.2.2) (x0,y0,z0) h0 he hH λp hp=>
  round p.1 p.2.1 p.2.2 hp _ λx' y' z' hI hμ _ _ he' hH'=>YbT (x',y',z') hI hμ he' hH'
end
open Go.ChangeMaps (setBlock)
def Yap(P:Program)(t:TypeId):Option Value->Option Value->Bool
 |some (.int k _),some (.int k' _)=>decide (k=k')&&(match P.underlying t with|some (.int _)=>true|_=>false)
 |some (.string _),some (.string _)=>match P.underlying t with|some .string=>true|_=>false
 |some (.bool _),some (.bool _)=>match P.underlying t with|some .bool=>true|_=>false
 |_,_=>false
def Ybr(P:Program)(t:TypeId)(xs ys:List Value):Bool:=
 match P.underlying t with
 |some (.struct fs)=>!P.stoodInHeld t&&(fs.toList.map (·.offset)==List.range xs.length)&&(xs.length==ys.length)&&fs.toList.all (λf=>f.name != "_" &&Yap P f.type xs[f.offset]? ys[f.offset]?)
 |_=>false
section
variable {P:Program}
variable {t:TypeId}
theorem Ygn(w:World)(d:Nat){x y:Value}(h:Yap P t (some x) (some y)=true):∃r:Bool,(Op.equalIn (d+1) t x y).run P w=.ok r w/\(r=true↔x=y):=by
 unfold Yap at h
 split at h
 ·rename_i k a k' b e1 e2
  injection e1 with e1;injection e2 with e2
  subst e1;subst e2
  simp only[Tt,To]at h
  obtain⟨rfl,h⟩:=h
  split at h
  ·rename_i q hu
   exact⟨a==b,run_equalIn_int w d t k q a b hu,by simp⟩
  simp_all
 ·rename_i a b e1 e2
  injection e1 with e1;injection e2 with e2
  subst e1;subst e2
  split at h
  ·rename_i hu
   exact⟨a.toList==b.toList,run_equalIn_string w d t a b hu,by rw[YfM];simp⟩
  simp_all
 ·rename_i a b e1 e2
  injection e1 with e1;injection e2 with e2
  subst e1;subst e2
  split at h
  ·rename_i hu
   exact⟨a==b,run_equalIn_bool w d t a b hu,by simp⟩
  simp_all
 simp_all
theorem YjK{x y:Option Value}(h:Yap P t x y=true):P.plainKey t=true/\∃a b,x=some a/\y=some b:=by
 unfold Yap at h
 split at h
 ·exact YpY
 ·exact YpY
 ·exact YpY
 simp_all
theorem OQ(w:World)(d:Nat)(xs ys:List Value):∀fs:List Field,(∀f∈fs,f.name≠ "_" /\Yap P f.type xs[f.offset]? ys[f.offset]? =true)->
 ∃r:Bool,(Op.eqFields (d+1) xs.toArray ys.toArray fs).run P w=.ok r w/\(r=true↔∀f∈fs,xs[f.offset]? =ys[f.offset]?)
 |[],_=>⟨true,by simp[Op.eqFields],by simp⟩
 |f::fs,hall=>by
  obtain⟨hn,hl⟩:=hall f (by simp)
  obtain⟨hp,a,b,hx,hy⟩:=YjK hl
  rw[hx,hy]at hl
  obtain⟨r,hr,hiff⟩:=Ygn w d hl
  obtain⟨r',hr',hiff'⟩:=OQ w d xs ys fs (λg hg=>hall g (by simp[hg]))
  have p1:=run_part_plain (P:=P) (w:=w) hp (xs:=xs.toArray) (off:=f.offset) (v:=a) (by simp_all)
  have p2:=run_part_plain (P:=P) (w:=w) hp (xs:=ys.toArray) (off:=f.offset) (v:=b) (by simp_all)
  simp only[Op.eqFields,hn,ne_eq,not_false_eq_true,SZ,Sem.run_bind,p1,p2,hr,Result.andThen_ok]
  cases r
  all_goals simp_all
variable {xs ys:List Value}
theorem Ykb(w:World)(h:Ybr P t xs ys=true):∃r:Bool,(Op.equal t (.agg xs.toArray) (.agg ys.toArray)).run P w=.ok r w/\(r=true↔xs=ys):=by
 unfold Ybr at h
 split at h
 ·rename_i fs hu
  simp only[Tt,SD,Ns,Rf,bne_iff_ne,ne_eq]at h
  obtain⟨⟨⟨h1,h2⟩,h3⟩,h4⟩:=h
  have hfs:P.fieldsOf t=fs:=by simp[Program.fieldsOf,hu]
  obtain⟨r,hr,hiff⟩:=OQ w 9998 xs ys fs.toList h4
  refine⟨r,?_,?_⟩
  ·grind [Go.Op.equal,Go.Op.maxDepth,run_equalIn_struct]
  ·constructor
   ·intro h
    apply S0
    intro i
    by_cases hi:i<xs.length
    ·have:i∈fs.toList.map (·.offset):=by simp_all
     grind
    simp_all
   simp_all
 simp_all
end
section
variable {P:Program}{n:Shp}{B:Nat}{w0:World}{Q:Exit->Act->World->Prop}{env:Env}{H:List HP}{m:Mode}{ops:Array Oper}{rest:List Oper}{d:Nat}{ty:TypeId}{pos:String}{after:Array Edge}
variable {t xt yt:TypeId}{x y u:Operand}
theorem Z1(w:World){op:BinOp}{xs ys:Array Value}(hg:P.eqGuardType P.depth t=false):(eqGuard op t x y (.agg xs) (.agg ys)).run P w=.ok () w:=by
 simp_all [eqGuard]
variable {xs ys cs:List Value}
theorem Yqe(hx:evo env x=some (.agg xs.toArray))(hy:evo env y=some (.agg ys.toArray))(hn:Nat.ble (d+1) n.k=true)(hg:P.eqGuardType P.depth xt=false)(hl:Ybr P xt xs ys=true)
 (h1:xs=ys->VL P m n B w0 ops Q rest ((d,.bool true)::env) H) (h2:xs≠ys->VL P m n B w0 ops Q rest ((d,.bool false)::env) H):
 VL P m n B w0 ops Q (⟨some d,.binOp .eql xt x y yt,ty,pos,after,none⟩::rest) env H:=by
 by_cases hc:xs=ys
 ·refine Xe hx hy hn (λw=>Z1 w hg) (λw=>?_) (h1 hc)
  exact zc80
 ·refine Xe hx hy hn (λw=>Z1 w hg) (λw=>?_) (h2 hc)
  exact zc80
theorem UF(hx:evo env x=some (.agg xs.toArray))(hy:evo env y=some (.agg ys.toArray))(hn:Nat.ble (d+1) n.k=true)(hg:P.eqGuardType P.depth xt=false)(hl:Ybr P xt xs ys=true)
 (h1:xs≠ys->VL P m n B w0 ops Q rest ((d,.bool true)::env) H) (h2:xs=ys->VL P m n B w0 ops Q rest ((d,.bool false)::env) H):
 VL P m n B w0 ops Q (⟨some d,.binOp .neq xt x y yt,ty,pos,after,none⟩::rest) env H:=by
 by_cases hc:xs=ys
 ·refine Xe hx hy hn (λw=>Z1 w hg) (λw=>?_) (h2 hc)
  exact zc80
 ·refine Xe hx hy hn (λw=>Z1 w hg) (λw=>?_) (h1 hc)
  exact zc80
theorem Yav(w:World)(k:Nat){e:TypeId}(a:Option Addr)(hu:P.underlying t=some (.pointer e)):(Op.equalIn (k+1) t (.pointer a) (.pointer none)).run P w=.ok a.isNone w:=by
 unfold Op.equalIn
 cases a<;>simp[run_underlying hu]
def YoN(P:Program)(t:TypeId):Bool:=match P.underlying t with|some (.pointer _)=>true|_=>false
theorem YjH(h:YoN P t=true):∃e,P.underlying t=some (.pointer e):=by
 unfold YoN at h
 grind
theorem YgT{a:Option Addr}(hx:evo env x=some (.pointer a))(hn:Nat.ble (d+1) n.k=true)(hu:YoN P xt=true)
 (h:VL P m n B w0 ops Q rest ((d,.bool a.isNone)::env) H):VL P m n B w0 ops Q (⟨some d,.binOp .eql xt x (.const (.pointer none)) yt,ty,pos,after,none⟩::rest) env H:=by
 obtain⟨e,hu⟩:=YjH hu
 refine Xe hx (y:=.const (.pointer none)) rfl hn (λw=>by simp[eqGuard]) (λw=>?_) h
 simp_all [binOp,Go.Op.equal,Go.Op.maxDepth,Yav]
theorem Yg3{t k e size:Nat}(h:YbZ P t=some (k,e,size)):∃i,P.underlying t=some (.array k e)/\P.info? e=some i/\i.size=size:=by
 unfold YbZ at h
 split at h
 ·rename_i k' e' hu
  cases hi:P.info? e' with
  |none=>simp_all
  |some i=>
   simp_all
 simp_all
abbrev Ents:=List (Int×Value×Nat)
def toE(e:Int×Value×Nat):MapEntry:=⟨.int .i64 e.1,e.2.1,e.2.2⟩
def mobj(es:Ents)(clock:Nat):Obj:=.map (es.map toE).toArray clock
def mget(es:Ents)(k:Int):Option Value:=(es.find? λe=>e.1==k).map (·.2.1)
def mapT(P:Program)(t kt et:TypeId):Bool:=(match P.underlying t with|some (.map a b)=>a==kt&&b==et|_=>false)&&(match P.underlying kt with|some (.int .i64)=>true|_=>false)
theorem Jc{kt et:TypeId}(h:mapT P t kt et=true):P.underlying t=some (.map kt et)/\P.underlying kt=some (.int .i64):=by
 unfold mapT at h
 grind
variable {es l1 l2:Ents}{k:Int}
theorem Qw(i:Nat)(h:mget es k=none):Instr.findNow (.int .i64) (.int .i64 k) (es.map toE) i=some none:=by
 induction es generalizing i with
 |nil=>rfl
 |cons e es ih=>
  simp only[mget,List.find?_cons]at h
  by_cases hk:e.1=k
  ·simp_all
  ·have hk':(e.1==k)=false:=by simp_all
   rw[hk']at h
   have:(k==e.1)=false:=by grind
   simp only[RP,Instr.findNow,toE,Instr.sameNow,SZ,this]
   exact ih (i+1) h
variable {v v0:Value}
theorem Vf(i:Nat)(h:mget es k=some v):∃l1 b l2,es=l1++(k,v,b)::l2/\(∀e∈l1,e.1≠k)/\Instr.findNow (.int .i64) (.int .i64 k) (es.map toE) i=some (some (i+l1.length,v)):=by
 induction es generalizing i with
 |nil=>simp[mget]at h
 |cons e es ih=>
  simp only[mget,List.find?_cons]at h
  by_cases hk:e.1=k
  ·have hk':(e.1==k)=true:=by simp_all
   rw[hk']at h
   simp only[Sl,RJ]at h
   refine⟨[],e.2.2,es,by grind,by simp,?_⟩
   have:(k==e.1)=true:=by simp_all
   simp_all [Go.Instr.findNow,toE,Go.Instr.sameNow]
  ·have hk':(e.1==k)=false:=by simpa using hk
   rw[hk']at h
   have:(k==e.1)=false:=by simpa usingλe=>hk e.symm
   obtain⟨l1,b,l2,e1,e2,e3⟩:=ih (i+1) h
   refine⟨e::l1,b,l2,by rw[e1];rfl,?_,?_⟩
   ·intro x hx
    rcases RA.1 hx with rfl|hx
    ·exact hk
    ·exact e2 x hx
   ·simp only[RP,Instr.findNow,toE,Instr.sameNow,SZ,this]
    rw[e3]
    simp;omega
variable {b g kt et clock r since:Nat}
theorem O3(hk:∀e∈l1,e.1≠k):Instr.findNow (.int .i64) (.int .i64 k) ((l1++(k,v0,b)::l2).map toE) 0=some (some (l1.length,v0)):=by
 have:∀i,Instr.findNow (.int .i64) (.int .i64 k) ((l1++(k,v0,b)::l2).map toE) i=some (some (i+l1.length,v0)):=by
  induction l1 with
  |nil=>simp[Instr.findNow,toE,Instr.sameNow]
  |cons e l ih=>
   grind [Go.Instr.findNow,Go.Instr.sameNow,toE]
 simp_all
variable {α:Type}
theorem YjQ(f:α->α)(xs:List α)(y:α)(zs:List α):(xs++y::zs).modify xs.length f=xs++f y::zs:=by
 induction xs with
 |nil=>rfl
 |cons x xs ih=>simp_all
theorem Ymn(xs:List α)(y:α)(zs:List α):(xs++y::zs).eraseIdx xs.length=xs++zs:=by
 grind
theorem Jr(w:World){kt:TypeId}(hk:P.underlying kt=some (.int .i64))(k:Int)(b:Bool):(Instr.checkKey b 10000 kt (.int .i64 k)).run P w=.ok () w:=by
 rw[show 10000=9999+1 from rfl]
 unfold Instr.checkKey
 simp[run_underlying hk]
variable {K:List HP}
theorem St.setBlock{w:World}{o o':Obj}(h:St B w0 H w)(u:Upd (Eng.blk g o) (Eng.blk g o') H K):St B w0 K (ChangeMaps.setBlock w g o'):=by
 refine h.upd u rfl rfl rfl (by simp[ChangeMaps.setBlock]) λS1 ⟨h1,h2⟩=>⟨⟨h1,?_⟩,λb hb _=>?_⟩
 all_goals grind [Go.ChangeMaps.setBlock]
theorem YbQ(hn:Nat.ble (d+1) n.k=true)(h:∀g,VL P none n B w0 ops Q rest ((d,.map (some g))::env) (blk g (mobj [] 0)::H)):VL P none n B w0 ops Q (⟨some d,.makeMap t none,ty,pos,after,none⟩::rest) env H:=
 XH (λv K=>∃g,v=.map (some g)/\K=blk g (mobj [] 0)::H) rfl rfl hn
  (λa w _ hw=>⟨_,_,w.alloc (mobj [] 0),by simp_all [execOp,Go.Instr.makeMap,mobj],hw.alloc _,w.heap.size,rfl,rfl⟩)
  zc56
theorem Yja{t:Nat}(hx:evo env x=some (.map (some g)))(hy:evo env y=some (.int .i64 k))(hm:blk g (mobj es clock)∈H)(ht:mapT P t kt et=true)(hn:Nat.ble (d+1) n.k=true)(hk:mget es k=some v)
 (h:VL P m n B w0 ops Q rest ((d,v)::env) H):VL P m n B w0 ops Q (⟨some d,.lookup t x y false,ty,pos,after,none⟩::rest) env H:=by
 obtain⟨h1,h2⟩:=Jc ht
 refine YP rfl rfl hn rfl (λa w ha hw=>?_) h
 have hb:=(hw.blk hm).1
 unfold mobj at hb
 obtain⟨l1,b,l2,_,_,e3⟩:=Vf 0 hk
 simp[execOp,ha.eval hx,ha.eval hy,Instr.lookup,run_underlying h1,getObj,Sem.run,hb,Jr _ h2,MapKept.run_findKey h2 e3]
theorem Yi9{t:Nat}{z:Value}(hx:evo env x=some (.map (some g)))(hy:evo env y=some (.int .i64 k))(hm:blk g (mobj es clock)∈H)(ht:mapT P t kt et=true)(hn:Nat.ble (d+1) n.k=true)(hk:mget es k=none)(hz:∀w,(zeroValue et).run P w=.ok z w)
 (h:VL P m n B w0 ops Q rest ((d,z)::env) H):VL P m n B w0 ops Q (⟨some d,.lookup t x y false,ty,pos,after,none⟩::rest) env H:=by
 obtain⟨h1,h2⟩:=Jc ht
 refine YP rfl rfl hn rfl (λa w ha hw=>?_) h
 have hb:=(hw.blk hm).1
 unfold mobj at hb
 simp[execOp,ha.eval hx,ha.eval hy,Instr.lookup,run_underlying h1,getObj,Sem.run,hb,Jr _ h2,MapKept.run_findKey h2 (Qw 0 hk),hz]
theorem YlY{t:Nat}(hx:evo env x=some (.map (some g)))(hy:evo env y=some (.int .i64 k))(hv:evo env u=some v)(ht:mapT P t kt et=true)
 (hu:Upd (blk g (mobj es clock)) (blk g (mobj (es++[(k,v,clock)]) (clock+1))) H K) (hk:mget es k=none)
 (h:VL P none n B w0 ops Q rest env K):VL P none n B w0 ops Q (⟨none,.mapUpdate t x y u,ty,pos,after,none⟩::rest) env H:=zc28
theorem YlZ{t:Nat}(hx:evo env x=some (.map (some g)))(hy:evo env y=some (.int .i64 k))(hv:evo env u=some v)(ht:mapT P t kt et=true)
 (hu:Upd (blk g (mobj (l1++(k,v0,b)::l2) clock)) (blk g (mobj (l1++(k,v,b)::l2) clock)) H K) (hk:∀e∈l1,e.1≠k)
 (h:VL P none n B w0 ops Q rest env K):VL P none n B w0 ops Q (⟨none,.mapUpdate t x y u,ty,pos,after,none⟩::rest) env H:=by
 obtain⟨h1,h2⟩:=Jc ht
 refine UJ rfl rfl (λa w ha hw=>⟨setBlock w g (mobj (l1++(k,v,b)::l2) clock),?_,hw.setBlock hu⟩) h
 have hb:w.heap[g]? =some (mobj (l1++(k,v0,b)::l2) clock):=zc58
 have hf:=O3 (l2:=l2) (v0:=v0) (b:=b) hk
 exact zc14
theorem YnG{t:Nat}(hx:evo env x=some (.map (some g)))(hm:blk g (mobj es clock)∈H)(ht:mapT P t kt et=true)(hn:Nat.ble (d+1) n.k=true)
 (h:∀r,VL P none n B w0 ops Q rest ((d,.pointer (some ⟨r,0,none⟩))::env) (blk r (.mapIter (some g) clock #[] clock)::H)):VL P none n B w0 ops Q (⟨some d,.range t x,ty,pos,after,none⟩::rest) env H:=by
 obtain⟨h1,h2⟩:=Jc ht
 refine XH (λv K=>∃r,v=.pointer (some ⟨r,0,none⟩)/\K=blk r (.mapIter (some g) clock #[] clock)::H) rfl rfl hn (λa w ha hw=>?_) zc56
 have hb:=(hw.blk hm).1
 unfold mobj at hb
 refine⟨_,_,w.alloc (.mapIter (some g) clock #[] clock),?_,hw.alloc _,w.heap.size,rfl,rfl⟩
 simp[execOp,ha.eval hx,Instr.range,run_underlying h1,getObj,Sem.run,hb,newObj]
variable {seen:Array Nat}
theorem Yqn{c0:Nat}{K:Nat->List HP}(hx:evo env x=some (.pointer (some ⟨r,0,none⟩)))(hm:blk g (mobj es clock)∈H)(hn:Nat.ble (d+1) n.k=true)
 (hu:∀b,Upd (blk r (.mapIter (some g) since seen c0)) (blk r (.mapIter (some g) since (seen.push b) clock)) H (K b)) (hold:∀e∈es,e.2.2<since) (hsc:since<=c0)
 (h1:(∀e∈es,seen.contains e.2.2=true)->VL P none n B w0 ops Q rest ((d,.tuple #[.bool false])::env) H)
 (h2:∀e∈es,seen.contains e.2.2=false->VL P none n B w0 ops Q rest ((d,.tuple #[.bool true,.int .i64 e.1,e.2.1])::env) (K e.2.2)):
 VL P none n B w0 ops Q (⟨some d,.next x false,ty,pos,after,none⟩::rest) env H:=by
 refine XH (λv K'=>(v=.tuple #[.bool false]/\K'=H/\∀e∈es,seen.contains e.2.2=true)\/∃e∈es,seen.contains e.2.2=false/\v=.tuple #[.bool true,.int .i64 e.1,e.2.1]/\K'=K e.2.2) rfl rfl hn (λa w ha hw=>?_) (by
  rintro _ _ (⟨rfl,rfl,hs⟩|⟨e,he,hs,rfl,rfl⟩)
  ·exact h1 hs
  ·exact h2 e he hs)
 have hb:=(hw.blk hm).1
 have hr:w.heap[r]? =some (.mapIter (some g) since seen c0):=by
  obtain⟨L1,L2,e,_⟩:=hu 0
  exact(hw.blk (by simp_all)).1
 have hold':∀x∈((es.map toE).toArray).toList,x.born<since:=by
  intro x hx
  obtain⟨e,he,rfl⟩:=TI.1 hx
  exact hold e he
 have hx':(execOp a.eval ⟨some d,.next x false,ty,pos,after,none⟩).run P w=((Instr.next (.pointer (some ⟨r,0,none⟩)) false ty).run P w).andThen λv w'=>.ok (.value v) w':=YlI
 rcases run_next_at (P:=P) w ty r g since c0 seen _ clock hr hb hold' hsc with⟨hz,hrun⟩|⟨e,he,w1,hw1,hrun⟩
 ·refine⟨_,H,w,by rw[hx',hrun];rfl,hw,.inl ⟨rfl,rfl,λe he=>?_⟩⟩
  cases hs:seen.contains e.2.2 with
  |true=>rfl
  |false=>
   have:toE e∈(leftOf (es.map toE).toArray seen).toList:=by
    simp only[leftOf,Array.toList_filter,RH,TI]
    exact⟨⟨e,he,rfl⟩,by rw[show(toE e).born=e.2.2 from rfl,hs];rfl⟩
   have h0:(leftOf (es.map toE).toArray seen).toList=[]:=by
    rw[Array.eq_empty_of_size_eq_zero hz]
   rw[h0]at this
   cases this
 ·have hmem:e∈es.map toE/\seen.contains e.born=false:=by
   have:=he
   simp only[leftOf,Array.toList_filter,RH]at this
   exact⟨this.1,by simpa using this.2⟩
  obtain⟨⟨e0,he0,rfl⟩,hs⟩:=(⟨TI.1 hmem.1,hmem.2⟩:(∃e0∈es,toE e0=e)/\_)
  have hw1':St B w0 H w1:=by
   rcases hw1 with rfl|rfl
   ·exact hw
   ·exact hw.drew
  exact⟨_,K e0.2.2,_,by rw[hx',hrun];rfl,hw1'.setBlock (hu _),.inr ⟨e0,he0,hs,rfl,rfl⟩⟩
theorem Yny{e:Int×Value×Nat}(hx:evo env x=some (.pointer (some ⟨r,0,none⟩)))(hm:blk g (mobj es clock)∈H)(hr:blk r (.mapIter (some g) since (seen.push e.2.2) clock)∈H)(hn:Nat.ble (d+1) n.k=true)
 (he:e∈es) (hnd:(es.map (·.2.2)).Nodup)
 (h:VL P none n B w0 ops Q rest ((d,.tuple #[.int .i64 e.1,e.2.1])::env) H):VL P none n B w0 ops Q (⟨some d,.entry x,ty,pos,after,none⟩::rest) env H:=by
 refine Yeg rfl rfl hn (λa w ha hw=>⟨w,?_,hw⟩) h
 have hb:=(hw.blk hm).1
 have hrun:=run_entry_at (P:=P) w r g since seen _ clock (toE e) (hw.blk hr).1 hb (TI.2 ⟨e,he,rfl⟩) (by grind [toE])
 simp[execOp,ha.eval hx,hrun,toE]
theorem YnF{o:Oper}{H':List HP}(hg:o.guard=none)(hd:o.dst=none)
 (hr:∀a w,Fits n a env->St B w0 H w->∃w',(execOp a.eval o).run P w=.ok (.value v) w'/\St B w0 H' w')
 (h:VL P none n B w0 ops Q rest env H'):VL P none n B w0 ops Q (o::rest) env H:=by
 refine⟨λa ha w hw=>wpList_plain hg λK hK=>?_⟩
 obtain⟨w',hrun,hst⟩:=hr a w ha hw
 unfold Oper.wp
 rw[hrun,Oper.upon_value,hd]
 exact hK _ _ (h.run _ ha _ hst)
theorem YlV{t:Nat}(hx:evo env x=some (.map (some g)))(hy:evo env y=some (.int .i64 k))(ht:mapT P t kt et=true)
 (hu:Upd (blk g (mobj (l1++(k,v0,b)::l2) clock)) (blk g (mobj (l1++l2) clock)) H K) (hk:∀e∈l1,e.1≠k)
 (h:VL P none n B w0 ops Q rest env K):VL P none n B w0 ops Q (⟨none,.call ⟨.builtin .delete,#[x,y],#[t,kt]⟩,ty,pos,after,none⟩::rest) env H:=by
 obtain⟨h1,h2⟩:=Jc ht
 have hf:=O3 (l2:=l2) (v0:=v0) (b:=b) hk
 have hsz:(l1++(k,v0,b)::l2).map toE=l1.map toE++toE (k,v0,b)::l2.map toE:=by simp
 have her:(List.map toE (l1++(k,v0,b)::l2)).eraseIdx l1.length=List.map toE (l1++l2):=by
  grind [Ymn]
 refine YnF (v:=.tuple #[]) rfl rfl (λa w ha hw=>⟨setBlock w g (mobj (l1++l2) clock),?_,hw.setBlock hu⟩) h
 have hb:w.heap[g]? =some (mobj (l1++(k,v0,b)::l2) clock):=zc58
 unfold mobj at hb
 have hrun:(Builtin.delete_ #[t,kt] ty #[.map (some g),.int .i64 k]).run P w=.ok (.tuple #[]) (setBlock w g (mobj (l1++l2) clock)):=by
  unfold mobj
  clear hsz hu hk
  generalize List.map toE (l1++(k,v0,b)::l2)=L at hf her hb
  generalize List.map toE (l1++l2)=L2 at her
  simp[Builtin.delete_,run_underlying h1,getObj,Sem.run,hb,Jr _ h2,MapKept.run_findKey h2 hf,her,MapKept.run_setObj_map _ hb,setBlock]
 simp[execOp,resolve,ha.eval hx,ha.eval hy,invoke,builtin,hrun]
theorem Ys{fn:Fn}{caps:List Operand}(hc:Args env caps cs)(hn:Nat.ble (d+1) n.k=true)(h:VL P none n B w0 ops Q rest ((d,.func fn #[] cs.toArray)::env) H):
 VL P none n B w0 ops Q (⟨some d,.makeFunc fn #[] caps.toArray,ty,pos,after,none⟩::rest) env H:=by
 refine Yeg rfl rfl hn (λa w ha hw=>⟨w,?_,hw⟩) h
 have hmap:caps.toArray.map a.eval=cs.toArray:=by grind [V1]
 simp[execOp,Instr.makeFunc,hmap]
theorem YgI{f:Nat}{args:List Operand}{tys:Array TypeId}{vs:List Value}(Φ:Value->List HP->Prop)(hx:evo env x=some (.func (.func f) #[] cs.toArray))
 (hc:∀xs w,(callFunc f xs).run P w=.ok (.enter f xs) w) (hargs:Args env args vs) (hn:Nat.ble (d+1) n.k=true)
 (hcall:∀w,St B w0 H w->Calls P f (vs++cs).toArray w (Post B w0 Φ))
 (h:∀v H',Φ v H'->VL P none n B w0 ops Q rest ((d,v)::env) H'):
 VL P none n B w0 ops Q (⟨some d,.call ⟨.value x,args.toArray,tys⟩,ty,pos,after,none⟩::rest) env H:=by
 refine⟨λa ha w hw=>wpList_plain rfl λK hK=>?_⟩
 unfold Oper.wp
 have hmap:args.toArray.map a.eval=vs.toArray:=by grind [V1]
 have hrun:(execOp a.eval ⟨some d,.call ⟨.value x,args.toArray,tys⟩,ty,pos,after,none⟩).run P w=.ok (.enter f (vs++cs).toArray) w:=zc36
 rw[hrun,Oper.upon_enter]
 exact zc44
def many(L:List HP):HP:=⟨λS w=>sepL L S w,λh hs=>QW hs h⟩
theorem Ydf{M:List HP}{w:World}:∀{L:List HP}{S:Nat->Prop},sepL (L++M) S w->∃S1 S2:Nat->Prop,(∀b,S1 b->S b)/\(∀b,S2 b->S b)/\(∀b,S1 b->¬S2 b)/\sepL L S1 w/\sepL M S2 w
 |[],S,h=>⟨λ_=>False,S,λ_ hb=>hb.elim,λ_ hb=>hb,λ_ hb=>hb.elim,trivial,h⟩
 |A::L,S,h=>by
  obtain⟨T1,T2,h1,h2,h3,h4,h5⟩:=h
  obtain⟨U1,U2,k1,k2,k3,k4,k5⟩:=Ydf h5
  refine⟨λb=>T1 b\/U1 b,U2,λb hb=>hb.elim (h1 b) (λhb=>h2 b (k1 b hb)),λb hb=>h2 b (k2 b hb),λb hb hc=>?_,⟨T1,U1,λb hb=>.inl hb,λb hb=>.inr hb,λb hb hc=>h3 b hb (k1 b hc),h4,k4⟩,k5⟩
  grind
theorem Yfi{M:List HP}{w:World}:∀{L:List HP}{S S1 S2:Nat->Prop},(∀b,S1 b->S b)->(∀b,S2 b->S b)->(∀b,S1 b->¬S2 b)->sepL L S1 w->sepL M S2 w->sepL (L++M) S w
 |[],_,_,_,_,h2,_,_,h=>Vn h h2
 |A::L,S,S1,S2,h1,h2,h3,h4,h5=>by
  obtain⟨T1,T2,k1,k2,k3,k4,k5⟩:=h4
  refine⟨T1,λb=>T2 b\/S2 b,λb hb=>h1 b (k1 b hb),λb hb=>hb.elim (λhb=>h1 b (k2 b hb)) (h2 b),λb hb hc=>?_,k4,Yfi (λb hb=>.inl hb) (λb hb=>.inr hb) (λb hb hc=>h3 b (k2 b hb) hc) k5 h5⟩
  simp_all
theorem Perm.open_(L M:List HP):Perm (many L::M) (L++M):=⟨λ_ _ ⟨_,_,h1,h2,h3,h4,h5⟩=>Yfi h1 h2 h3 h4 h5⟩
theorem Perm.close(L M:List HP):Perm (L++M) (many L::M):=⟨λ_ _ h=>Ydf h⟩
theorem Perm.mid(A:HP):∀(L M:List HP),Perm (L++A::M) (A::(L++M))
 |[],_=>.refl _
 |B::L,M=>.trans (.cons B (.mid A L M)) (.swap B A (L++M))
theorem Perm.mid'(A:HP):∀(L M:List HP),Perm (A::(L++M)) (L++A::M)
 |[],_=>.refl _
 |B::L,M=>.trans (.swap A B (L++M)) (.cons B (.mid' A L M))
theorem Perm.drop(A:HP)(L:List HP):Perm (A::L) L:=⟨λ_ _ h=>Yfj h⟩
theorem Perm.pull(A:HP)(L1 L2 M:List HP):Perm (many (L1++A::L2)::M) (A::many (L1++L2)::M):=by
 refine .trans (.open_ _ _) ?_
 rw[Rq,TF]
 refine .trans (.mid A L1 (L2++M)) (.cons A ?_)
 rw[<-Rq]
 exact .close _ _
theorem Perm.push(A:HP)(L1 L2 M:List HP):Perm (A::many (L1++L2)::M) (many (L1++A::L2)::M):=by
 refine .trans (.cons A (.open_ _ _)) ?_
 rw[Rq]
 refine .trans (.mid' A L1 (L2++M)) ?_
 rw[<-TF,<-Rq]
 exact .close _ _
theorem Perm.noMany(M:List HP):Perm M (many []::M):=.close [] M
end
inductive PutAt:List Value->Nat->List Value->List Value->Prop
 |nil {l:List Value}{o:Nat}:PutAt l o [] l
 |cons {l l1 l' r:List Value}{o:Nat}{v:Value}(h:Yee l o v l1) (h2:PutAt l1 (o+1) r l'):PutAt l o (v::r) l'
section
variable {P:Program}{m:Mode}{n:Shp}{B:Nat}{w0:World}{ops:Array Oper}{Q:Exit->Act->World->Prop}{rest:List Oper}{env:Env}{H:List HP}{d:Nat}{ty:TypeId}{pos:String}{after:Array Edge}
theorem OL{g:Nat}{tt:TypeId}{fr:Nat×Nat}:∀{vs cs cs':List Value}{o:Nat}{w:World},PutAt cs o vs cs'->w.heap[g]? =some (.cells cs.toArray tt fr)->(w.setCells g o vs).heap[g]? =some (.cells cs'.toArray tt fr)
 |[],_,_,_,_,h,hb=>by cases h;exact hb
 |v::vs,cs,cs',o,w,h,hb=>by
  cases h with
  |cons h1 h2=>
   rw[World.setCells]
   refine OL h2 ?_
   obtain⟨_,rfl⟩:=h1
   grind [Go.World.setCell]
theorem Va{g b:Nat}(hne:b≠g):∀(vs:List Value) (o:Nat) (w:World),(w.setCells g o vs).heap[b]? =w.heap[b]?
 |[],_,_=>rfl
 |v::vs,o,w=>by rw[World.setCells,Va hne vs (o+1)];exact Below.heap_setCell w _ v b hne
theorem OR{g:Nat}:∀(vs:List Value) (o:Nat) (w:World),(w.setCells g o vs).os=w.os/\(w.setCells g o vs).tape=w.tape/\(w.setCells g o vs).output=w.output/\(w.setCells g o vs).heap.size=w.heap.size
 |[],_,_=>⟨rfl,rfl,rfl,rfl⟩
 |v::vs,o,w=>by
  obtain⟨h1,h2,h3,h4⟩:=OR (g:=g) vs (o+1) (w.setCell ⟨g,o,none⟩ v)
  exact⟨h1,h2,h3,h4.trans (by simp)⟩
variable {w:World}{K H2:List HP}{g t k p:Nat}{cs' vs:List Value}{tt:TypeId}{fr:Nat×Nat}
theorem St.setCells{o:Nat}{cs:List Value}(h:St B w0 H w)(hp:PutAt cs o vs cs')
 (u:Upd (Eng.blk g (.cells cs.toArray tt fr)) (Eng.blk g (.cells cs'.toArray tt fr)) H K):St B w0 K (w.setCells g o vs):=by
 obtain⟨h1,h2,h3,h4⟩:=OR (g:=g) vs o w
 refine h.upd u h1 h2 h3 (Nat.le_of_eq h4.symm) λS1 ⟨hs,hb⟩=>⟨⟨hs,OL hp hb⟩,λb hnb _=>Va (λe:b=g=>hnb (by simp_all)) vs o w⟩
theorem Yig:∀{vs l l':List Value}{o:Nat},PutAt l o vs l'->∀j,j<vs.length->o+j<l.length
 |[],_,_,_,_,j,hj=>by simp at hj
 |v::vs,l,l',o,h,j,hj=>by
  cases h with
  |cons h1 h2=>
   obtain⟨h0,rfl⟩:=h1
   cases j with
   |zero=>exact h0
   |succ j=>have:=Yig h2 j (by simp_all);grind
theorem YfG(T:Tab P){i:Nat}{cs:List Value}{x y:Operand}(hx:evo env x=some (.pointer (some ⟨g,i,none⟩)))(hy:evo env y=some (.agg vs.toArray))(h1:Z4 vs=true)
 (hu:Upd (blk g (.cells cs.toArray tt (0,0))) (blk g (.cells cs'.toArray tt (0,0))) H K) (hs:PutAt cs i vs cs')
 (ht:look T.ag t=some k) (hk:vs.length=k) (h:VL P none n B w0 ops Q rest env K):VL P none n B w0 ops Q (⟨none,.store t x y,ty,pos,after,none⟩::rest) env H:=by
 refine UJ rfl rfl (λa w ha hw=>⟨w.setCells g i vs,?_,hw.setCells hs hu⟩) h
 have hb:w.heap[g]? =some (.cells cs.toArray tt (0,0)):=zc58
 have hr:=run_storeCells_cells (P:=P) g i vs 0 w (λj hj=>by
  rw[Nl,Xc hb];grind [Yig]) (λj hj=>by exact Yi0) (ZA h1)
 simp[execOp,ha.eval hx,ha.eval hy,Instr.storeAt,Instr.sureAddr,storeVar,Value.cells,Z5 (Uf (T.aggs ht)),hk,hr]
variable {cs:Array Value}
theorem ZM(T:Tab P)(hb:w.heap[g]? =some (.cells cs tt fr))(ht:look T.ag t=some k)(hk:cs.size=k):(loadVar t ⟨g,0,none⟩).run P w=.ok (.agg cs) w:=by
 have hl:=run_loadCells_list (P:=P) w ⟨g,0,none⟩ cs.toList (λj v hj=>by exact YtE)
 rw[show cs.toList.length=k by omega]at hl
 simp[loadVar,VG (T.aggs ht),Z5 (Uf (T.aggs ht)),hl]
variable {fn:Func}{Φ:Value->List HP->Prop}
theorem Qh{n:Nat}(T:Tab P){rt:Nat}(hr:fn.results=#[.cell p rt])(hp:get env p=some (.pointer (some ⟨g,0,none⟩)))
 (hm:blk g (.cells cs tt fr)∈H) (ht:look T.ag rt=some k) (hk:cs.size=k) (hH:∀w,St B w0 H w->St B w0 H2 w) (h:Φ (.agg cs) H2):VQ ⟨n,[],none⟩ B w0 (bodyPost P fn (Post B w0 Φ)) .ret env H:=by
 refine⟨λa w ha hw=>bodyPost_ret (v:=.agg cs) ?_ ha.defers ⟨_,H2,rfl,hH w hw,h⟩⟩
 have hp':=ha.slot p _ hp
 simp[results,hr,Array.getD_eq_getD_getElem?,hp',asAddr,ZM T (hw.blk hm).1 ht hk]
theorem Yp{n:Nat}(T:Tab P){u rt:Nat}{x:Value}(hr:fn.results=#[.cell p rt,.tmp u])(hp:get env p=some (.pointer (some ⟨g,0,none⟩)))(hu:get env u=some x)
 (hm:blk g (.cells cs tt fr)∈H) (ht:look T.ag rt=some k) (hk:cs.size=k) (hH:∀w,St B w0 H w->St B w0 H2 w) (h:Φ (.tuple #[.agg cs,x]) H2):VQ ⟨n,[],none⟩ B w0 (bodyPost P fn (Post B w0 Φ)) .ret env H:=by
 refine⟨λa w ha hw=>bodyPost_ret (v:=.tuple #[.agg cs,x]) ?_ ha.defers ⟨_,H2,rfl,hH w hw,h⟩⟩
 have hp':=ha.slot p _ hp
 simp[results,hr,Array.getD_eq_getD_getElem?,hp',ha.slot u _ hu,asAddr,ZM T (hw.blk hm).1 ht hk]
end
inductive OT where
 |done
 |n1 (i:Nat) (t:OT)
 |n2 (i:Nat) (t:OT) (j:Nat) (u:OT)
section
variable {P:Program}{n:Shp}{B:Nat}{w0:World}{Q:Exit->Act->World->Prop}{env:Env}{H:List HP}{ops:Array Oper}
def VJ(P:Program)(ops:Array Oper)(l:List Oper)(Q:Exit->Act->World->Prop)(S:World->Prop):OT->Act->World->Prop
 |.done,a,w=>Q .normal a w
 |.n1 i t,a,w=>YB P ops (λe a w=>match e with|.normal=>VJ P ops l Q S t a w|_=>False) S [nthO l i] a w
 |.n2 i t j u,a,w=>YB P ops (λe a w=>match e with|.normal=>VJ P ops l Q S t a w|_=>False) S [nthO l i] a w/\YB P ops (λe a w=>match e with|.normal=>VJ P ops l Q S u a w|_=>False) S [nthO l j] a w
def VZ(ops:Array Oper)(i:Nat):Bool:=match ops[i]? with|some o=>eff o|none=>false
def Ydq(ops:Array Oper)(last:List Nat):OT->Array Bool->Nat->Bool
 |.done,listed,0=>UY ops last listed
 |.done,_,_+1=>false
 |.n1 i t,listed,k+1=>!last.contains i&&(match ops[i]? with
  |some o=>if eff o then decide (Region.ready .any ops listed=[i])else(Region.ready .any ops listed).contains i&&Region.free .any ops listed i
  |none=>false)&&Ydq ops last t (listed.setIfInBounds i true) k
 |.n2 i t j u,listed,k+1=>!last.contains i&&!last.contains j&&VZ ops i&&VZ ops j&&((Region.ready .any ops listed).all λx=>x==i||x==j)&&!(Region.ready .any ops listed).isEmpty&&Ydq ops last t (listed.setIfInBounds i true) k&&Ydq ops last u (listed.setIfInBounds j true) k
 |.n1 _ _,_,0=>false
 |.n2 _ _ _ _,_,0=>false
variable {l:List Oper}{i:Nat}{o:Oper}
theorem Xx(hl:ops=l.toArray)(ho:ops[i]? =some o):nthO l i=o:=by
 grind [QN]
theorem Vw{S:World->Prop}{Q1:Exit->Act->World->Prop}{last:List Nat}{k:Nat}{listed:Array Bool}{a:Act}{w:World}(ho:ops[i]? =some o)(he:eff o=true)(_hl:last.contains i=false)
 (hQ1:∀e a w,e≠.normal->¬Q1 e a w) (hS:S w) (h:YB P ops Q1 S [o] a w)
 (hk:∀a w,S w->Q1 .normal a w->Ze P ops Q S last k (listed.setIfInBounds i true) a w):
 wpOp P ops Q i (λa' w'=>(last.contains i=false->S w')/\Ze P ops Q S last k (listed.setIfInBounds i true) a' w') a w:=by
 unfold YB at h
 rw[Tm he]at h
 unfold wpOp
 simp only[ho]
 by_cases hw:Region.wanted o (yielded ops a.tmps)=true
 ·rw[Tm hw]at h⊢
  refine .inl (Oper.wp_mono_noQ (λc a w=>hQ1 _ a w (by simp_all)) (by rintro⟨a,w,h⟩;simp_all) (Oper.wp_mono (λa' w' h'=>?_) h))
  exact⟨λ_=>h'.1,hk a' w' h'.1 h'.2⟩
 ·rw[Tf hw]at h⊢
  exact⟨λ_=>hS,hk _ w hS h⟩
theorem VI{S:World->Prop}{last:List Nat}(hs:Region.noSelect ops=true)(hQ:∀c (a:Act) (w:World),¬Q (.panic c) a w)(hlo:¬LetsOut Q)(l:List Oper)(hl:ops=l.toArray)(hlast:YeX ops last=true):
 ∀(t:OT) (k:Nat) (listed:Array Bool) (a:Act) (w:World),Closed ops listed->Ydq ops last t listed k=true->S w->VJ P ops l (Z8 P ops Q (Yh l last)) S t a w->
  Ze P ops Q S last (k+last.length) listed a w
 |.done,0,listed,a,w,_,hB,_,h=>by
  have:=Wb (S:=S) l hl (UT hlast).1 hlo last listed a w (λj hj=>by simp_all) hB h
  simp_all
 |.done,_+1,_,_,_,_,hB,_,_=>by cases hB
 |.n1 _ _,0,_,_,_,_,hB,_,_=>by cases hB
 |.n2 _ _ _ _,0,_,_,_,_,hB,_,_=>by cases hB
 |.n1 i t,k+1,listed,a,w,hcl,hB,hS,h=>by
  simp only[Ydq,Tt]at hB
  obtain⟨⟨h0,h1⟩,h2⟩:=hB
  have hno:last.contains i=false:=by simp_all
  cases ho:ops[i]? with
  |none=>simp_all
  |some o=>
   rw[ho]at h1
   have hget:=Xx hl ho
   unfold VJ at h
   rw[hget]at h
   rw[R7]
   by_cases he:eff o=true
   ·simp only[he,SZ,To]at h1
    refine⟨λh0=>(by simp_all),λj hj=>?_⟩
    have hj':=hj
    rw[h1]at hj
    obtain rfl:j=i:=by simp_all
    exact Vw ho he hno (λe a w hne=>by simp_all) hS h λa w hS' h'=>VI hs hQ hlo l hl hlast t k _ a w (hcl.set hj') h2 hS' h'
   ·simp only[he]at h1
    simp only[RZ,Nz,Tt]at h1
    unfold YB at h
    rw[Tf he]at h
    obtain⟨v,hy,h3⟩:=h
    have hr:i∈Region.ready .any ops listed:=by simp_all
    exact Jw ho (Region.noSelect_spec hs) hQ ((UT hlast).2 i o ho (by simp_all)) hno _ listed a w hcl (Region.free_spec ho h1.2) hr hy hS (VI hs hQ hlo l hl hlast t k _ _ w (hcl.set hr) h2 hS h3)
 |.n2 i t j u,k+1,listed,a,w,hcl,hB,hS,h=>by
  simp only[Ydq,Tt]at hB
  obtain⟨⟨⟨⟨⟨⟨⟨b1,b2⟩,b3⟩,b4⟩,b5⟩,b6⟩,b7⟩,b8⟩:=hB
  have hi:last.contains i=false:=by simp_all
  have hj:last.contains j=false:=by simp_all
  unfold VJ at h
  rw[R7]
  refine⟨λh0=>(by simp_all),λx hx=>?_⟩
  have h5:=Rf.1 b5 x hx
  simp only[RU,Ns]at h5
  rcases h5 with rfl|rfl
  ·unfold VZ at b3
   cases ho:ops[x]? with
   |none=>simp_all
   |some o=>
    rw[ho]at b3
    have hg:=h.1
    rw[Xx hl ho]at hg
    exact Vw ho b3 hi (λe a w hne=>by cases e<;>simp_all) hS hg λa w hS' h'=>VI hs hQ hlo l hl hlast t k _ a w (hcl.set hx) b7 hS' h'
  ·unfold VZ at b4
   cases ho:ops[x]? with
   |none=>rw[ho]at b4;cases b4
   |some o=>
    rw[ho]at b4
    have hg:=h.2
    rw[Xx hl ho]at hg
    exact Vw ho b4 hj (λe a w hne=>by cases e<;>simp_all) hS hg λa w hS' h'=>VI hs hQ hlo l hl hlast u k _ a w (hcl.set hx) b8 hS' h'
structure VT(P:Program)(n:Shp)(B:Nat)(w0:World)(ops:Array Oper)(l:List Oper)(Q:Exit->Act->World->Prop)(t:OT)(env:Env)(H F:List HP):Prop where
 run:∀a,Fits n a env->∀w,St B w0 (H++F) w->VJ P ops l Q (St B w0 H) t a w
def Wt(P:Program)(B:Nat)(w0:World)(ops:Array Oper)(l:List Oper)(Q:Exit->Act->World->Prop)(Hc:List HP)(t:OT):Exit->Act->World->Prop
 |.normal,a,w=>VJ P ops l Q (St B w0 Hc) t a w
 |_,_,_=>False
variable {t:OT}
theorem Ydr:Wt P B w0 ops l Q H t=λe a w=>match e with|.normal=>VJ P ops l Q (St B w0 H) t a w|_=>False:=by
 funext e a w
 cases e<;>rfl
variable {F Hc:List HP}
theorem Yqt{HF:List HP}(happ:App H F HF)(h:VQ n B w0 Q .normal env HF):VT P n B w0 ops l Q .done env H F:=
 ⟨λa ha w hw=>by exact YlC⟩
theorem YuD(ho:nthO l i=o)(h:VL P (some (some F)) n B w0 ops (Wt P B w0 ops l Q H t) [o] env H):VT P n B w0 ops l Q (.n1 i t) env H F:=by
 refine⟨λa ha w hw=>?_⟩
 have h1:YB P ops (Wt P B w0 ops l Q H t) (St B w0 H) [o] a w:=h.run a ha w hw
 grind [VJ,Ydr]
theorem YuE{j:Nat}{u:OT}{o':Oper}(ho:nthO l i=o)(ho':nthO l j=o')(h:VL P (some (some F)) n B w0 ops (Wt P B w0 ops l Q H t) [o] env H)
 (h':VL P (some (some F)) n B w0 ops (Wt P B w0 ops l Q H u) [o'] env H):VT P n B w0 ops l Q (.n2 i t j u) env H F:=by
 refine⟨λa ha w hw=>?_⟩
 have h1:YB P ops (Wt P B w0 ops l Q H t) (St B w0 H) [o] a w:=h.run a ha w hw
 have h2:YB P ops (Wt P B w0 ops l Q H u) (St B w0 H) [o'] a w:=h'.run a ha w hw
 unfold VJ
 rw[ho,ho',<-Ydr,<-Ydr]
 simp_all
theorem Y4{H':List HP}(hp:Pull Hc H' F)(h:VT P n B w0 ops l Q t env Hc F):VQ n B w0 (Wt P B w0 ops l Q Hc t) .normal env H':=
 ⟨λa w ha hw=>h.run a ha w (hw.perm hp)⟩
theorem JR{id:Nat}(t:OT)(last:List Nat)(mask:List Bool)(hm:P.follows .mixedOrders=true)
 (hB:(Region.noSelect l.toArray&&decide (last.length<=l.toArray.size)&&YeX l.toArray last&&Ydq l.toArray last t (Array.replicate l.toArray.size false) (l.toArray.size-last.length))=true)
 (hsp:Split mask H Hc F) {l2:List Oper}(hl2:Yh l last=l2) (h:VT P n B w0 l.toArray l (Z8 P l.toArray (Only Q) l2) t env Hc F):VC P n B w0 (.region id l.toArray true) Q env H:=by
 simp only[Tt,To]at hB
 obtain⟨⟨⟨h1,h2⟩,h3⟩,h5⟩:=hB
 refine⟨λa w ha hw=>ZZ (Q:=Only Q) ?_ λe a w h=>by exact zc66⟩
 have hst:St B w0 (Hc++F) w.drew:=(hw.perm (XL hsp)).drew
 have hr:=h.run a ha w.drew hst
 rw[<-hl2]at hr
 have:=VI (S:=St B w0 Hc) h1 (λc a w h=>h) zc46 l rfl h3 t _ _ a w.drew (XQ _ _) h5 hst.prefix_ hr
 exact Yp0
theorem Zt{α:Type}(E:α->Env)(HH:α->List HP){x y:Code}(h1:∀K:Act->World->Prop,(∀z env' H',(∀t v,get (E z) t=some v->get env' t=some v)->(∀w,St B w0 H' w->St B w0 (HH z) w)->VQ n B w0 (Exit.then K Q) .normal env' H')->VC P n B w0 x (Exit.then K Q) env H)
 (h2:∀z,VC P n B w0 y Q (E z) (HH z)):VC P n B w0 x (Exit.then (wpR P n.r y Q) Q) env H:=by
 have h:=h1 (λa w=>∃z,Fits n a (E z)/\St B w0 (HH z) w) (λz env' H' he hH=>⟨λa w ha hw=>⟨z,ha.sub he,hH w hw⟩⟩)
 refine⟨λa w ha hw=>ZZ (h.run a w ha hw) ?_⟩
 intro e a w hq
 cases e with
 |normal=>obtain⟨z,h3,h4⟩:=hq;exact(h2 z).run a w h3 h4
 |exit id=>exact hq
 |goto l=>exact hq
 |ret=>exact hq
 |panic ch=>exact hq
 |outgrown=>exact hq
theorem X6{d f:Nat}{args:List Operand}{tys:Array TypeId}{ty:TypeId}{pos:String}{after:Array Edge}{vs:List Value}{rest:List Oper}(L:List HP){M LM:List HP}(Φ:Value->List HP->Prop)
 (hc:∀xs w,(callFunc f xs).run P w=.ok (.enter f xs) w) (hargs:Args env args vs) (hp:Pull L H M) (happ:App L M LM) (hn:Nat.ble (d+1) n.k=true)
 (hcall:∀w,St B w0 LM w->Calls P f vs.toArray w (Post B w0 Φ))
 (h:∀v H',Φ v H'->VL P none n B w0 ops Q rest ((d,v)::env) H'):
 VL P none n B w0 ops Q (⟨some d,.call ⟨.value (.func f),args.toArray,tys⟩,ty,pos,after,none⟩::rest) env H:=
 Yi Φ hc hargs hn (λw hw=>hcall w (by rw[Q9 happ];exact hw.perm hp)) h
end
def Rd(B:Nat)(w0:World)(H:List HP)(A:Option Addr)(xs:List Value):Prop:=
 ∀w,St B w0 H w->∀j v,xs[j]? =some v->∃g o,A=some ⟨g,o,none⟩/\w.cell? ⟨g,o+j,none⟩=some v
section
variable {B:Nat}{w0:World}{H:List HP}{A:Option Addr}{xs:List Value}
theorem Rd.cons{X:HP}(h:Rd B w0 H A xs):Rd B w0 (X::H) A xs:=λw hw=>h w hw.tail
variable {e size k cap:Nat}
theorem Rd.sl(hm:Eng.sl e size A k cap xs∈H):Rd B w0 H A xs:=λw hw j v hv=>by
 obtain⟨g,e1,hc,_⟩:=QX (hw.sl hm) hv
 grind
theorem Rd.old(h:∀j v,xs[j]? =some v->∃g o,A=some ⟨g,o,none⟩/\g<B/\w0.cell? ⟨g,o+j,none⟩=some v):Rd B w0 H A xs:=λw hw j v hv=>by
 obtain⟨g,o,e1,hg,hc⟩:=h j v hv
 exact⟨g,o,e1,(hw.below.cell (p:=⟨g,o+j,none⟩) hg).trans hc⟩
theorem Rd.nil:Rd B w0 H A []:=λw _ j v hv=>by simp at hv
theorem Rd.mono{H':List HP}(h:Rd B w0 H A xs)(hH:∀w,St B w0 H' w->St B w0 H w):Rd B w0 H' A xs:=λw hw=>h w (hH w hw)
theorem Rd.blk{g:Nat}{cs:Array Value}{t:TypeId}{fr:Nat×Nat}(hm:Eng.blk g (.cells cs t fr)∈H):Rd B w0 H (some ⟨g,0,none⟩) cs.toList:=λw hw j v hv=>by
 refine⟨g,0,rfl,?_⟩
 rw[Ry,Xc (hw.blk hm).1]
 simp_all
end
theorem XG{α:Type}{f:α->List Value}{q:Nat}(hq:∀a,(f a).length=q):∀l:List α,(l.flatMap f).length=l.length*q
 |[]=>by simp
 |a::l=>by rw[Rl,Tq,hq,XG hq l,TS,SI];omega
theorem WK{α:Type}{f:α->List Value}{q:Nat}(hq:∀a,(f a).length=q):∀(l:List α) (i j:Nat) (a:α),l[i]? =some a->j<q->(l.flatMap f)[i*q+j]? =(f a)[j]?
 |[],i,j,a,h,_=>by simp at h
 |b::l,0,j,a,h,hj=>by
  grind
 |b::l,i+1,j,a,h,hj=>by
  rw[Rl,SG (by grind),hq,show(i+1)*q+j-q=i*q+j by grind]
  exact WK hq l i j a (by simp_all) hj
section
variable {P:Program}{m:Mode}{n:Shp}{B:Nat}{w0:World}{ops:Array Oper}{Q:Exit->Act->World->Prop}{rest:List Oper}{env:Env}{H:List HP}{d:Nat}{ty:TypeId}{pos:String}{after:Array Edge}
variable {α:Type}{t cap e size k i q:Nat}{x y:Operand}{A:Option Addr}
theorem Zf(T:Tab P){f:α->List Value}{l:List α}{bytes:Nat}{ki:IntKind}{i:Int}(hx:evo env x=some (.slice A l.length cap))(hy:evo env y=some (.int ki i))
 (hr:Rd B w0 H A (l.flatMap f)) (ht:look T.sl t=some (e,size,bytes)) (hq:∀a,(f a).length=size) (h0:Nat.blt 0 size=true) (hn:Nat.ble (d+1) n.k=true) (hi:0<=i/\i<l.length)
 (h:VL P m n B w0 ops Q rest ((d,sptr A (i.toNat*size))::env) H):VL P m n B w0 ops Q (⟨some d,.indexAddr t x y,ty,pos,after,none⟩::rest) env H:=by
 obtain⟨hut,inf,z,hinf,_,_,hsi,_,_,_⟩:=YR (T.slic ht)
 refine YP rfl rfl hn rfl (λa w ha hw=>?_) h
 have h0':0<size:=by simpa using h0
 have hlt:i.toNat<l.length:=by omega
 have hget:=WK hq l i.toNat 0 _ (Ta hlt) h0'
 have hg2:(f l[i.toNat])[0]? =some ((f l[i.toNat])[0]'(by rw[hq];exact h0')):=Ta _
 rw[hg2]at hget
 obtain⟨g,o,rfl,_⟩:=hr w hw _ _ hget
 exact zc52
theorem YgL(T:Tab P){s f j:Nat}{xs:List Value}(hx:evo env x=some (sptr A j))(hr:Rd B w0 H A xs)(hj:j<xs.length)(hf:WQ T.fo s f=some k)(hn:Nat.ble (d+1) n.k=true)
 (h:VL P m n B w0 ops Q rest ((d,sptr A (j+k))::env) H):VL P m n B w0 ops Q (⟨some d,.fieldAddr s x f,ty,pos,after,none⟩::rest) env H:=by
 refine YP rfl rfl hn rfl (λa w ha hw=>?_) h
 obtain⟨g,o,rfl,_⟩:=hr w hw _ _ (Ta hj)
 have h1:=T.offs hf
 unfold WI at h1
 split at h1
 ·rename_i fs hu
  cases hfl:fs[f]? with
  |none=>simp_all
  |some fld=>
   rw[hfl]at h1
   simp only[S9]at h1
   cases hi:P.info? fld.type with
   |none=>simp_all
   |some inf=>
    rw[hi]at h1
    simp only[S9]at h1
    by_cases hz:inf.size=0
    ·simp_all
    ·rw[Tf hz]at h1
     have h2:fld.offset=k:=by simpa using h1
     subst h2
     simp[execOp,ha.eval hx,sptr,Instr.fieldAt,run_underlying hu,hfl,Instr.sureAddr,fieldPlace,sizeOf,typeInfo,hi,hz,Addr.add_lit,Nat.add_assoc]
 simp_all
variable {v:Value}
theorem YbO(T:Tab P){f:α->List Value}{l:List α}{o:Nat}{b:α}(hx:evo env x=some (sptr A (i*q+o)))(hr:Rd B w0 H A (l.flatMap f))(hb:l[i]? =some b)(hq:∀a,(f a).length=q)
 (ho:Nat.blt o q=true) (hv:nth (f b) o=some v) (ht:look T.sc t=some ()) (hn:Nat.ble (d+1) n.k=true)
 (h:VL P m n B w0 ops Q rest ((d,v)::env) H):VL P m n B w0 ops Q (⟨some d,.load t x,ty,pos,after,none⟩::rest) env H:=by
 refine YP rfl rfl hn rfl (λa w ha hw=>?_) h
 have hg:=WK hq l i o b hb (by simp_all)
 rw[<-YjS (f b),hv]at hg
 obtain⟨g,u,rfl,hc⟩:=hr w hw _ _ hg
 exact Ys2
theorem Ja(T:Tab P){f:α->List Value}{l:List α}{b:α}(hx:evo env x=some (sptr A (i*q)))(hr:Rd B w0 H A (l.flatMap f))(hb:l[i]? =some b)(hq:∀a,(f a).length=q)
 (ho:Nat.blt 0 q=true) (hv:nth (f b) 0=some v) (ht:look T.sc t=some ()) (hn:Nat.ble (d+1) n.k=true)
 (h:VL P m n B w0 ops Q rest ((d,v)::env) H):VL P m n B w0 ops Q (⟨some d,.load t x,ty,pos,after,none⟩::rest) env H:=
 YbO T (i:=i) (q:=q) (o:=0) (by omega) hr hb hq ho hv ht hn h
theorem Ww(T:Tab P){f:α->List Value}{l:List α}{b:α}(hx:evo env x=some (sptr A (i*q)))(hr:Rd B w0 H A (l.flatMap f))(hb:l[i]? =some b)(hq:∀a,(f a).length=q)
 (ho:Nat.blt 0 q=true) (ht:look T.ag t=some q) (hn:Nat.ble (d+1) n.k=true)
 (h:VL P m n B w0 ops Q rest ((d,.agg (f b).toArray)::env) H):VL P m n B w0 ops Q (⟨some d,.load t x,ty,pos,after,none⟩::rest) env H:=by
 refine YP rfl rfl hn rfl (λa w ha hw=>?_) h
 have hget:∀j v,(f b)[j]? =some v->(l.flatMap f)[i*q+j]? =some v:=by grind [WK]
 obtain⟨g,u,rfl,_⟩:=hr w hw _ _ (hget 0 _ (Ta (by simp_all)))
 have hl:=run_loadCells_list (P:=P) w ⟨g,u+i*q,none⟩ (f b) (λj v hj=>by
  exact Yti)
 rw[hq]at hl
 exact zc86
theorem Ykz{k:IntKind}{a b:Int}{tys:Array TypeId}(hx:evo env x=some (.int k a))(hy:evo env y=some (.int k b))(hn:Nat.ble (d+1) n.k=true)(h1:a<b->VL P m n B w0 ops Q rest ((d,.int k b)::env) H)(h2:b<=a->VL P m n B w0 ops Q rest ((d,.int k a)::env) H):
 VL P m n B w0 ops Q (⟨some d,.call ⟨.builtin .max,#[x,y],tys⟩,ty,pos,after,none⟩::rest) env H:=by
 by_cases hc:b>a
 ·exact YP rfl rfl hn rfl (λf w ha _=>by exact Ytg) (h1 hc)
 ·exact YP rfl rfl hn rfl (λf w ha _=>by exact Ytg) (h2 (by omega))
end
def UZ(env:Env):List (Nat×Operand)->Option (List (Nat×Value))
 |[]=>some []
 |(i,x)::l=>match evo env x with
  |none=>none
  |some v=>match UZ env l with
   |none=>none
   |some r=>some ((i,v)::r)
theorem WX{env:Env}:∀{l:List (Nat×Operand)}{ps:List (Nat×Value)},UZ env l=some ps->Yax env l ps
 |[],ps,h=>by grind [UZ,Ye9]
 |(i,x)::l,ps,h=>by
  unfold UZ at h
  cases hx:evo env x with
  |none=>simp_all
  |some v=>
   rw[hx]at h
   cases hl:UZ env l with
   |none=>simp_all
   |some r=>
    rw[hl]at h
    simp only[RJ]at h
    subst h
    exact YjZ hx (WX hl)
def Ydl(P:Program)(t:Nat):Option (List (Nat×Nat)):=
 match P.underlying t with
 |some (.struct fs)=>fs.toList.mapM (λf=>(P.info? f.type).map λi=>(f.offset,i.size))
 |some (.array k e)=>(P.info? e).map λi=>(List.range k).map λj=>(j*i.size,i.size)
 |_=>none
def Q8(P:Program)(t:Nat):Option Value:=(P.info? t).bind (·.zero)
structure Tab2(P:Program) where
 zt:List (Nat×Value)
 bt:List (Nat×List (Nat×Nat))
 zt_ok:(zt.map λx=>Q8 P x.1)=zt.map λx=>some x.2
 bt_ok:(bt.map λx=>Ydl P x.1)=bt.map λx=>some x.2
theorem WR{β:Type}{f:Nat->Option β}:∀{l:List (Nat×β)},(l.map λx=>f x.1)=(l.map λx=>some x.2)->∀{t:Nat}{v:β},look l t=some v->f t=some v:=by
 intro l h t v hl
 have hm:=JZ hl
 clear hl
 induction l with
 |nil=>cases hm
 |cons x l ih=>
  grind
variable {t:Nat}{z:Value}
theorem Ydz{P:Program}(h:Q8 P t=some z)(w:World):(zeroValue t).run P w=.ok z w:=by
 unfold Q8 at h
 cases hi:P.info? t with
 |none=>simp_all
 |some i=>
  simp_all [zeroValue,typeInfo]
def YfW{β:Type}:List Value->(List Value->Option β)->Option β
 |[],k=>k []
 |a::l,k=>YfW l λl'=>k (a::l')
theorem Yam{β:Type}:∀(l:List Value) (k:List Value->Option β),YfW l k=k l
 |[],_=>rfl
 |a::l,k=>by rw[YfW,Yam l]
def Ot:List Value->Nat->List Value->List Value
 |cs,_,[]=>cs
 |cs,off,v::vs=>Ot (cs.set off v) (off+1) vs
def fillL(place:Nat->Option (Nat×Nat))(cs:List Value):List (Nat×Value)->Option (List Value)
 |[]=>some cs
 |(i,v)::rest=>match place i with
  |none=>none
  |some (off,size)=>match Nat.beq v.cells.toList.length size&&Nat.ble (off+size) cs.length with
   |true=>YfW (Ot cs off v.cells.toList) λcs'=>fillL place cs' rest
   |false=>none
theorem Qy(off:Nat):∀(l:List Value) (k:Nat) (cs:Array Value),(l.zipIdx k).foldl (λcs (c,j)=>cs.setIfInBounds (off+j) c) cs=(Ot cs.toList (off+k) l).toArray
 |[],_,cs=>by simp[Ot]
 |v::l,k,cs=>by
  rw[List.zipIdx_cons,List.foldl_cons,Qy off l (k+1)]
  grind [Ot]
theorem Yct{place place':Nat->Option (Nat×Nat)}(hp:∀i q,place i=some q->place' i=some q):∀{ps:List (Nat×Value)}{cs r:List Value},fillL place cs ps=some r->fillL place' cs ps=some r
 |[],_,_,h=>h
 |(i,v)::rest,cs,r,h=>by
  unfold fillL at h⊢
  cases hi:place i with
  |none=>simp_all
  |some q=>
   rw[hi]at h
   rw[hp i q hi]
   simp only at h⊢
   split at h
   ·rw[Yam]at h⊢
    exact Yct hp h
   omega
theorem UQ{place:Nat->Option (Nat×Nat)}:∀{ps:List (Nat×Value)}{cs:Array Value}{r:List Value},fillL place cs.toList ps=some r->Instr.fill place cs ps=some r.toArray
 |[],cs,r,h=>by simp[fillL]at h;subst h;simp[Instr.fill]
 |(i,v)::rest,cs,r,h=>by
  unfold fillL at h
  unfold Instr.fill
  cases hp:place i with
  |none=>simp_all
  |some q=>
   obtain⟨off,size⟩:=q
   rw[hp]at h
   simp only at h⊢
   split at h
   ·rw[Yam]at h
    have hz:v.cells.zipIdx.foldl (λcs (c,j)=>cs.setIfInBounds (off+j) c) cs=(Ot cs.toList off v.cells.toList).toArray:=by
     rw[<-Array.foldl_toList,Array.toList_zipIdx]
     simp_all [Qy]
    rw[Tf (by simp_all),hz]
    exact UQ (by omega)
   simp_all
def repZ:Nat->List Value->List Value
 |0,_=>[]
 |n+1,z=>z++repZ n z
theorem Ya6(z:List Value):∀n,(repZ n z).length=n*z.length
 |0=>by simp[repZ]
 |n+1=>by rw[repZ,Tq,Ya6 z n,SI];omega
theorem Yik(z:List Value)(hz:0<z.length):∀(n j:Nat),j<n*z.length->(repZ n z)[j]? =z[j%z.length]?
 |0,j,h=>by omega
 |n+1,j,h=>by
  rw[repZ]
  by_cases hj:j<z.length
  ·grind [Nat.mod_eq_of_lt]
  ·rw[SG (by omega),Yik z hz n _ (by grind),<-Nat.mod_eq_sub_mod (by omega)]
theorem Yph(zs:Array Value)(hz:0<zs.size)(n:Nat):((Array.range (n*zs.size)).map (zs[·%zs.size]!))=(repZ n zs.toList).toArray:=by
 apply Array.ext'
 apply S0
 intro j
 by_cases hj:j<n*zs.size
 ·have h1:=Yik zs.toList (by omega) n j (by omega)
  have hm:j%zs.size<zs.size:=Nat.mod_lt _ hz
  simp_all
 grind [Ya6]
section
variable {P:Program}{m:Mode}{n:Shp}{B:Nat}{w0:World}{ops:Array Oper}{Q:Exit->Act->World->Prop}{rest:List Oper}{env:Env}{H:List HP}{d:Nat}{ty:TypeId}{pos:String}{after:Array Edge}
variable {z v:Value}
theorem YlR(T2:Tab2 P){t:TypeId}{cs:Array Value}(hz:look T2.zt t=some z)(hc:z.cells=cs)(hn:Nat.ble (d+1) n.k=true)
 (h:∀g,VL P none n B w0 ops Q rest ((d,.pointer (some ⟨g,0,none⟩))::env) (blk g (.cells cs t (0,0))::H)):VL P none n B w0 ops Q (⟨some d,.alloc t,ty,pos,after,none⟩::rest) env H:=
 Ynv (Ydz (WR T2.zt_ok hz)) hc hn h
variable {parts:List (Nat×Operand)}{ps:List (Nat×Value)}{cs vs:List Value}
theorem YlU(T2:Tab2 P){t:TypeId}{zc:Array Value}{pl:List (Nat×Nat)}(hp:UZ env parts=some ps)(hz:look T2.zt t=some (.agg zc))(hl:look T2.bt t=some pl)
 (hf:fillL (pl[·]?) zc.toList ps=some cs) (hn:Nat.ble (d+1) n.k=true)
 (h:VL P m n B w0 ops Q rest ((d,.agg cs.toArray)::env) H):VL P m n B w0 ops Q (⟨some d,.build t parts.toArray,ty,pos,after,none⟩::rest) env H:=by
 refine Ynw (WX hp) (λw=>run_build w t _ cs.toArray ?_) hn h
 have h1:=WR T2.zt_ok hz
 have h2:=WR T2.bt_ok hl
 unfold Q8 at h1
 unfold Ydl at h2
 unfold Program.built
 cases hi:P.info? t with
 |none=>simp_all
 |some i=>
  rw[hi]at h1
  have h3:i.zero=some (.agg zc):=h1
  cases hu:P.underlying t with
  |none=>simp_all
  |some dd=>
   rw[hu]at h2
   cases dd<;>try(cases h2;done)
   ·rename_i k e
    cases hie:P.info? e with
    |none=>simp_all
    |some ie=>
     simp only[h3,hie]
     refine UQ (cs:=zc) (Yct (λa q ha=>?_) hf)
     grind
   ·have h5:=UQ (place:=(pl[·]?)) (cs:=zc) hf
    simp_all [Go.Value.cells]
variable {t f:Nat}
theorem Vq(T:Tab P)(T2:Tab2 P){e len size bytes:Nat}{zl:List Value}(ht:look T.sl t=some (e,size,bytes))(hp:UZ env parts=some ps)(hz:look T2.zt e=some z)(hzc:z.cells=zl.toArray)
 (hf:fillL (λi=>some (i*size,size)) (repZ len zl) ps=some cs) (hn:Nat.ble (d+1) n.k=true) (hl:(Nat.blt 0 (len*size)&&Nat.beq zl.length size&&Nat.ble (len*size) 1000000)=true)
 (h:∀g,VL P none n B w0 ops Q rest ((d,.slice (some ⟨g,0,none⟩) len len)::env) (blk g (.cells cs.toArray e (0,0))::H)):VL P none n B w0 ops Q (⟨some d,.buildSlice t len parts.toArray,ty,pos,after,none⟩::rest) env H:=by
 simp only[Tt]at hl
 obtain⟨⟨hl1,hl2⟩,hl3⟩:=hl
 have hl1':0<len*size:=by simp_all
 have hl3':=TV hl3
 obtain⟨hut,inf,z',hinf,hz',_,hsi,_⟩:=YR (T.slic ht)
 have h1:=WR T2.zt_ok hz
 unfold Q8 at h1
 rw[hinf]at h1
 have h3:inf.zero=some z:=h1
 refine Ow (WX hp) (λw=>run_buildSlice w t e len _ cs.toArray inf z hut hinf h3 (by grind) (by grind) ?_) hn h
 rw[hsi]
 grind [Yph,UQ]
variable {x:Operand}
theorem YfA(T:Tab P){α:Type}{f:α->List Value}{l:List α}{s fl k i q:Nat}{A:Option Addr}(hx:evo env x=some (sptr A (i*q)))(hr:Rd B w0 H A (l.flatMap f))(hq:∀a,(f a).length=q)(h0:Nat.blt 0 q=true)(hf:WQ T.fo s fl=some k)(hn:Nat.ble (d+1) n.k=true)(hi:i<l.length)
 (h:VL P m n B w0 ops Q rest ((d,sptr A (i*q+k))::env) H):VL P m n B w0 ops Q (⟨some d,.fieldAddr s x fl,ty,pos,after,none⟩::rest) env H:=by
 refine YgL T hx hr ?_ hf hn h
 rw[XG hq]
 simp_all
variable {args:List Operand}{tys:Array TypeId}
theorem Ym5{a:Act}(ha:Fits n a env)(hx:evo env x=some (.func (.func f) #[] cs.toArray))
 (hc:∀xs w,(callFunc f xs).run P w=.ok (.enter f xs) w) (hargs:Args env args vs) (w:World):
 (execOp a.eval ⟨some d,.call ⟨.value x,args.toArray,tys⟩,ty,pos,after,none⟩).run P w=.ok (.enter f (vs++cs).toArray) w:=by
 have hmap:args.toArray.map a.eval=vs.toArray:=by grind [V1]
 exact zc36
theorem YV(hx:evo env x=some (.func (.func f) #[] cs.toArray))
 (hc:∀xs w,(callFunc f xs).run P w=.ok (.enter f xs) w) (hargs:Args env args vs) (hn:Nat.ble (d+1) n.k=true)
 (hcall:∀w,St B w0 H w->Calls P f (vs++cs).toArray w (Post B w0 λu K=>u=v/\K=H))
 (h:VL P none n B w0 ops Q rest ((d,v)::env) H):
 VL P none n B w0 ops Q (⟨some d,.call ⟨.value x,args.toArray,tys⟩,ty,pos,after,none⟩::rest) env H:=
 YgI _ hx hc hargs hn hcall zc64
theorem Y2(hx:evo env x=some (.func (.func f) #[] cs.toArray))
 (hc:∀xs w,(callFunc f xs).run P w=.ok (.enter f xs) w) (hargs:Args env args vs) (hn:Nat.ble (d+1) n.k=true)
 (hcall:∀w,St B w0 H w->Calls P f (vs++cs).toArray w (Post B w0 λu K=>u=v/\K=H))
 (h:VL P (some none) n B w0 ops Q rest ((d,v)::env) H):
 VL P (some none) n B w0 ops Q (⟨some d,.call ⟨.value x,args.toArray,tys⟩,ty,pos,after,none⟩::rest) env H:=by
 refine⟨λa ha=>wpQuiet_step λK hK=>?_⟩
 refine⟨v,λw hw=>?_,hK _ ?_⟩
 ·unfold Oper.quietAt
  rw[Ym5 ha hx hc hargs]
  exact Ys9
 ·exact YpX
def effW(o:Oper):Bool:=eff o&&match o.op with|.call ⟨.value _,_,_⟩=>false|.makeFunc _ _ _=>false|_=>true
theorem Yns{id:Nat}{l:List Oper}(hq:(l.all λo=>!effW o)=true)(hm:P.follows .mixedOrders=true)(hB:Region.lexB .any l.toArray=true)(h:VL P (some none) n B w0 l.toArray Q l env H):VC P n B w0 (.region id l.toArray true) Q env H:=
 by grind [Ykw]
theorem Ym0{xs:Array Value}{w:World}(hw:St B w0 H w)(h:Calls P f xs w λe w'=>e=.returned v/\w'=w):Calls P f xs w (Post B w0 λu K=>u=v/\K=H):=
 h.mono (by rintro e w' ⟨rfl,rfl⟩;exact⟨v,H,rfl,hw,rfl,rfl⟩)
end
section
variable {P:Program}{m:Mode}{n:Shp}{B:Nat}{w0:World}{ops:Array Oper}{Q:Exit->Act->World->Prop}{rest:List Oper}{env:Env}{H:List HP}{d:Nat}{ty:TypeId}{pos:String}{after:Array Edge}{x y:Operand}{k:IntKind}{a b:Int}
theorem YgK(T:Tab P){src dst:TypeId}{j:IntKind}(hx:evo env x=some (.int k a))(hs:look T.ik src=some j)(ht:look T.ik dst=some .u64)(hn:Nat.ble (d+1) n.k=true)(hb:0<=a/\a<=18446744073709551615)
 (h:VL P m n B w0 ops Q rest ((d,.int .u64 a)::env) H):VL P m n B w0 ops Q (⟨some d,.convert src dst x,ty,pos,after,none⟩::rest) env H:=
 Yfy T hx hs ht hn (by rw[IntWalk.u64_in _ hb];exact h)
variable {f:Nat}{args:List Operand}{tys:Array TypeId}{vs cs:List Value}
theorem Yx{b:Bool}
 (hc:∀xs w,(callFunc f xs).run P w=.ok (.enter f xs) w) (hargs:Args env args vs) (hn:Nat.ble (d+1) n.k=true)
 (hcall:∀w,St B w0 H w->Calls P f vs.toArray w (Post B w0 λu K=>u=.bool b/\K=H))
 (h1:b=true->VL P none n B w0 ops Q rest ((d,.bool true)::env) H) (h2:b=false->VL P none n B w0 ops Q rest ((d,.bool false)::env) H):
 VL P none n B w0 ops Q (⟨some d,.call ⟨.value (.func f),args.toArray,tys⟩,ty,pos,after,none⟩::rest) env H:=by
 cases b
 ·exact Ya hc hargs hn hcall (h2 rfl)
 ·exact Ya hc hargs hn hcall (h1 rfl)
theorem Yw{b:Bool}
 (hc:∀xs w,(callFunc f xs).run P w=.ok (.enter f xs) w) (hargs:Args env args vs) (hn:Nat.ble (d+1) n.k=true)
 (hcall:∀w,St B w0 H w->Calls P f vs.toArray w (Post B w0 λu K=>u=.bool b/\K=H))
 (h1:b=true->VL P (some none) n B w0 ops Q rest ((d,.bool true)::env) H) (h2:b=false->VL P (some none) n B w0 ops Q rest ((d,.bool false)::env) H):
 VL P (some none) n B w0 ops Q (⟨some d,.call ⟨.value (.func f),args.toArray,tys⟩,ty,pos,after,none⟩::rest) env H:=by
 cases b
 ·exact Yb hc hargs hn hcall (h2 rfl)
 ·exact Yb hc hargs hn hcall (h1 rfl)
theorem JB{x:Operand}{b:Bool}(hx:evo env x=some (.func (.func f) #[] cs.toArray))
 (hc:∀xs w,(callFunc f xs).run P w=.ok (.enter f xs) w) (hargs:Args env args vs) (hn:Nat.ble (d+1) n.k=true)
 (hcall:∀w,St B w0 H w->Calls P f (vs++cs).toArray w (Post B w0 λu K=>u=.bool b/\K=H))
 (h1:b=true->VL P none n B w0 ops Q rest ((d,.bool true)::env) H) (h2:b=false->VL P none n B w0 ops Q rest ((d,.bool false)::env) H):
 VL P none n B w0 ops Q (⟨some d,.call ⟨.value x,args.toArray,tys⟩,ty,pos,after,none⟩::rest) env H:=by
 cases b
 ·exact YV hx hc hargs hn hcall (h2 rfl)
 ·exact YV hx hc hargs hn hcall (h1 rfl)
theorem JA{x:Operand}{b:Bool}(hx:evo env x=some (.func (.func f) #[] cs.toArray))
 (hc:∀xs w,(callFunc f xs).run P w=.ok (.enter f xs) w) (hargs:Args env args vs) (hn:Nat.ble (d+1) n.k=true)
 (hcall:∀w,St B w0 H w->Calls P f (vs++cs).toArray w (Post B w0 λu K=>u=.bool b/\K=H))
 (h1:b=true->VL P (some none) n B w0 ops Q rest ((d,.bool true)::env) H) (h2:b=false->VL P (some none) n B w0 ops Q rest ((d,.bool false)::env) H):
 VL P (some none) n B w0 ops Q (⟨some d,.call ⟨.value x,args.toArray,tys⟩,ty,pos,after,none⟩::rest) env H:=by
 cases b
 ·exact Y2 hx hc hargs hn hcall (h2 rfl)
 ·exact Y2 hx hc hargs hn hcall (h1 rfl)
theorem St.blk_sl{w:World}{g e size len:Nat}(h:St B w0 (Eng.blk g (.cells cs.toArray e (0,0))::H) w)(hk:cs.length=len*size)(hl:len<=1000000):St B w0 (Eng.sl e size (some ⟨g,0,none⟩) len len cs::H) w:=by
 refine h.upd (Upd.here _) rfl rfl rfl (TQ _) λS1 ⟨h1,h2⟩=>⟨⟨⟨hk,.inr ⟨g,len,cs.toArray,rfl,Tc _,h2,TQ _,?_,by omega,?_⟩⟩,λa ha=>by grind⟩,λ_ _ _=>rfl⟩
 all_goals grind [maxLen]
end
end Go.Eng
namespace Go.Proofs.YtjlgijpmnfabcaaGreatDoor
open Go.Eng
abbrev CX(B:Nat)(w0:World)(f:Nat)(l:List Value)(w:World)(F:Value->List Eng.HP->Prop):Prop:=Calls Tryz.prog f l.toArray w (Eng.Post B w0 F)
theorem Yut:([(3,()),(4,()),(5,()),(22,()),(23,()),(24,()),(27,()),(28,()),(32,()),(33,()),(38,()),(51,()),(52,()),(64,()),(67,()),(95,()),(96,()),(104,()),(180,()),(182,()),(235,()),(385,()),(452,()),(460,()),(471,())].all λx:Nat×Unit=>oneT Tryz.prog x.1)=true:=by kernel_rfl
theorem Yuo:([(26,6),(30,3),(35,12),(48,5),(54,14),(66,6),(69,7),(79,7),(81,2),(113,5),(116,5),(145,3),(330,17),(383,3),(410,9),(458,2),(478,4)].all λx:Nat×Nat=>aggT Tryz.prog x.1==some x.2)=true:=by kernel_rfl
theorem Yur:([(26,0,0),(26,1,1),(26,2,2),(26,3,3),(26,4,4),(26,5,5),(30,0,0),(30,1,1),(30,2,2),(35,0,0),(35,1,6),(35,2,7),(35,3,10),(35,4,11),(48,0,0),(48,1,1),(48,2,2),(48,3,3),(48,4,4),(54,0,0),(54,1,12),(54,2,13),(66,0,0),(66,1,1),(66,2,2),(66,3,3),(66,4,4),(66,5,5),(69,0,0),(69,1,6),(79,0,0),(79,1,1),(79,2,2),(79,3,3),(79,4,4),(79,5,5),(79,6,6),(81,0,0),(81,1,1),(98,0,0),(98,1,1),(116,0,0),(116,1,1),(116,2,2),(116,3,3),(116,4,4),(145,0,0),(145,1,1),(145,2,2),(164,0,0),(164,1,12),(330,0,0),(330,1,6),(330,2,9),(330,3,15),(330,4,16),(383,0,0),(383,1,1),(383,2,2),(410,0,0),(410,1,6),(458,0,0),(458,1,1),(473,0,0),(473,1,1),(478,0,0),(478,1,1),(478,2,2),(478,3,3)].all λx:Nat×Nat×Nat=>WI Tryz.prog x.1 x.2.1==some x.2.2)=true:=by kernel_rfl
theorem Yuu:([(22,(24,1,24)),(23,(145,3,24)),(24,(3,1,8)),(27,(69,7,72)),(28,(48,5,40)),(32,(116,5,104)),(33,(3,1,8)),(51,(79,7,56)),(52,(81,2,16)),(64,(66,6,48)),(67,(104,1,24)),(96,(5,1,1)),(104,(3,1,8)),(352,(51,1,24)),(358,(52,1,24)),(380,(383,3,24)),(460,(458,2,16)),(471,(478,4,32))].all λx:Nat×(Nat×Nat×Nat)=>Ydi Tryz.prog x.1==some x.2)=true:=by kernel_rfl
theorem Yup:([(113,(5,3,1))].all λx:Nat×(Nat×Nat×Nat)=>YbZ Tryz.prog x.1==some x.2)=true:=by kernel_rfl
theorem Yus:([(2,.i64),(3,.i64),(5,.u8),(180,.u32),(182,.u64),(205,.u64)].all λx:Nat×IntKind=>decide (intT Tryz.prog x.1=some x.2))=true:=by kernel_rfl
theorem Yuv:([(9,())].all λx:Nat×Unit=>Ygw Tryz.prog x.1)=true:=by kernel_rfl
def T:Tab Tryz.prog:=⟨_,_,_,_,_,_,_,Yut,Yuo,Yur,Yuu,Yup,Yus,Yuv⟩
abbrev tabL_zt:List (Nat×Value):=[(3,.int .i64 0),(4,.bool false),(5,.int .u8 0),(24,.slice none 0 0),(26,.agg #[.int .i64 0,.slice none 0 0,.int .i64 0,.int .i64 0,.slice none 0 0,.slice none 0 0]),(28,.slice none 0 0),(30,.agg #[.int .i64 0,.int .i64 0,.slice none 0 0]),(35,.agg #[.int .i64 0,.slice none 0 0,.int .i64 0,.int .i64 0,.slice none 0 0,.slice none 0 0,.slice none 0 0,.int .i64 0,.int .i64 0,.slice none 0 0,.slice none 0 0,.slice none 0 0]),(48,.agg #[.int .i64 0,.int .i64 0,.int .i64 0,.int .i64 0,.int .i64 0]),(51,.slice none 0 0),(52,.slice none 0 0),(54,.agg #[.int .i64 0,.slice none 0 0,.int .i64 0,.int .i64 0,.slice none 0 0,.slice none 0 0,.slice none 0 0,.int .i64 0,.int .i64 0,.slice none 0 0,.slice none 0 0,.slice none 0 0,.slice none 0 0,.slice none 0 0]),(66,.agg #[.int .i64 0,.int .i64 0,.int .i64 0,.int .i64 0,.int .i64 0,.int .i64 0]),(69,.agg #[.int .i64 0,.int .i64 0,.int .i64 0,.int .i64 0,.int .i64 0,.int .i64 0,.slice none 0 0]),(79,.agg #[.int .i64 0,.int .i64 0,.int .i64 0,.int .i64 0,.int .i64 0,.int .i64 0,.int .i64 0]),(81,.agg #[.int .i64 0,.int .i64 0]),(98,.agg #[.pointer none,.slice none 0 0]),(104,.slice none 0 0),(113,.agg #[.int .i64 0,.int .i64 0,.int .i64 0,.int .i64 0,.int .i64 0]),(116,.agg #[.int .i64 0,.slice none 0 0,.slice none 0 0,.slice none 0 0,.slice none 0 0]),(145,.agg #[.int .i64 0,.int .i64 0,.int .i64 0]),(164,.agg #[.int .i64 0,.slice none 0 0,.int .i64 0,.int .i64 0,.slice none 0 0,.slice none 0 0,.slice none 0 0,.int .i64 0,.int .i64 0,.slice none 0 0,.slice none 0 0,.slice none 0 0,.int .i64 0]),(180,.int .u32 0),(235,.nilFunc),(330,.agg #[.int .i64 0,.slice none 0 0,.int .i64 0,.int .i64 0,.slice none 0 0,.slice none 0 0,.int .i64 0,.int .i64 0,.slice none 0 0,.int .i64 0,.int .i64 0,.int .i64 0,.int .i64 0,.int .i64 0,.int .i64 0,.slice none 0 0,.int .i64 0]),(383,.agg #[.int .i64 0,.int .i64 0,.int .i64 0]),(410,.agg #[.int .i64 0,.slice none 0 0,.int .i64 0,.int .i64 0,.slice none 0 0,.slice none 0 0,.int .i64 0,.int .i64 0,.slice none 0 0]),(452,.map none),(458,.agg #[.int .i64 0,.int .i64 0]),(473,.agg #[.int .i64 0,.slice none 0 0]),(478,.agg #[.int .i64 0,.int .i64 0,.int .i64 0,.int .i64 0])]
theorem Yuw:(tabL_zt.map λx:Nat×Value=>Q8 Tryz.prog x.1)=tabL_zt.map λx:Nat×Value=>some x.2:=by kernel_rfl
abbrev tabL_bt:List (Nat×List (Nat×Nat)):=[(26,[(0,1),(1,1),(2,1),(3,1),(4,1),(5,1)]),(30,[(0,1),(1,1),(2,1)]),(35,[(0,6),(6,1),(7,3),(10,1),(11,1)]),(48,[(0,1),(1,1),(2,1),(3,1),(4,1)]),(54,[(0,12),(12,1),(13,1)]),(66,[(0,1),(1,1),(2,1),(3,1),(4,1),(5,1)]),(69,[(0,6),(6,1)]),(79,[(0,1),(1,1),(2,1),(3,1),(4,1),(5,1),(6,1)]),(81,[(0,1),(1,1)]),(113,[(0,1),(1,1),(2,1),(3,1),(4,1)]),(116,[(0,1),(1,1),(2,1),(3,1),(4,1)]),(145,[(0,1),(1,1),(2,1)]),(164,[(0,12),(12,1)]),(330,[(0,6),(6,3),(9,6),(15,1),(16,1)]),(383,[(0,1),(1,1),(2,1)]),(410,[(0,6),(6,3)]),(458,[(0,1),(1,1)]),(473,[(0,1),(1,1)]),(478,[(0,1),(1,1),(2,1),(3,1)])]
theorem Yuq:(tabL_bt.map λx:Nat×List (Nat×Nat)=>Ydl Tryz.prog x.1)=tabL_bt.map λx:Nat×List (Nat×Nat)=>some x.2:=by kernel_rfl
def T2:Tab2 Tryz.prog:=⟨_,_,Yuw,Yuq⟩
abbrev EnT(k:Nat):Prop:=∀(xs:Array Value) (w:World),(callFunc k xs).run Tryz.prog w=.ok (.enter k xs) w
theorem enT{k:Nat}(h:EnT k:=by exactλ_ _=>by kernel_rfl):EnT k:=h
theorem en7:EnT 7:=enT
theorem en10:EnT 10:=enT
theorem en11:EnT 11:=enT
theorem en14:EnT 14:=enT
theorem en16:EnT 16:=enT
theorem en17:EnT 17:=enT
theorem en18:EnT 18:=enT
theorem en19:EnT 19:=enT
theorem en20:EnT 20:=enT
theorem en21:EnT 21:=enT
theorem en22:EnT 22:=enT
theorem en23:EnT 23:=enT
theorem en24:EnT 24:=enT
theorem en27:EnT 27:=enT
theorem en30:EnT 30:=enT
theorem en32:EnT 32:=enT
theorem en33:EnT 33:=enT
theorem en34:EnT 34:=enT
theorem en35:EnT 35:=enT
theorem en37:EnT 37:=enT
theorem en39:EnT 39:=enT
theorem en40:EnT 40:=enT
theorem en41:EnT 41:=enT
theorem en42:EnT 42:=enT
theorem en43:EnT 43:=enT
theorem en44:EnT 44:=enT
theorem en45:EnT 45:=enT
theorem en49:EnT 49:=enT
theorem en50:EnT 50:=enT
theorem en51:EnT 51:=enT
theorem en52:EnT 52:=enT
theorem en53:EnT 53:=enT
theorem en54:EnT 54:=enT
theorem en55:EnT 55:=enT
theorem en56:EnT 56:=enT
theorem en57:EnT 57:=enT
theorem en58:EnT 58:=enT
theorem en59:EnT 59:=enT
theorem en60:EnT 60:=enT
theorem en61:EnT 61:=enT
theorem en62:EnT 62:=enT
theorem en63:EnT 63:=enT
theorem en64:EnT 64:=enT
theorem en68:EnT 68:=enT
theorem en69:EnT 69:=enT
theorem en72:EnT 72:=enT
theorem en73:EnT 73:=enT
theorem en74:EnT 74:=enT
theorem en75:EnT 75:=enT
theorem en78:EnT 78:=enT
theorem en79:EnT 79:=enT
theorem en80:EnT 80:=enT
theorem en81:EnT 81:=enT
theorem en82:EnT 82:=enT
theorem en84:EnT 84:=enT
theorem en85:EnT 85:=enT
theorem en86:EnT 86:=enT
theorem en87:EnT 87:=enT
theorem en90:EnT 90:=enT
theorem en92:EnT 92:=enT
theorem en93:EnT 93:=enT
theorem en94:EnT 94:=enT
theorem en98:EnT 98:=enT
theorem en99:EnT 99:=enT
theorem YkH:EnT 100:=enT
theorem YkI:EnT 101:=enT
theorem Yrz:EnT 102:=enT
theorem YkJ:EnT 103:=enT
theorem YrA:EnT 104:=enT
theorem YuH:EnT 105:=enT
theorem OD:EnT 106:=enT
theorem YkK:EnT 107:=enT
theorem YkL:EnT 108:=enT
theorem XW:EnT 110:=enT
theorem YrB:EnT 111:=enT
theorem YuI:EnT 112:=enT
theorem YuJ:EnT 113:=enT
theorem YuK:EnT 114:=enT
theorem YuL:EnT 115:=enT
theorem YuM:EnT 116:=enT
theorem YrC:EnT 117:=enT
theorem YkM:EnT 120:=enT
theorem YuN:EnT 121:=enT
theorem YuO:EnT 122:=enT
theorem YrD:EnT 125:=enT
theorem YuP:EnT 126:=enT
theorem YrE:EnT 127:=enT
theorem YrF:EnT 128:=enT
theorem Yeu:EnT 129:=enT
theorem Jx:EnT 130:=enT
theorem YkN:EnT 131:=enT
theorem YrG:EnT 132:=enT
theorem Wi:EnT 133:=enT
theorem Yoh:EnT 134:=enT
theorem YrH:EnT 135:=enT
theorem VO:EnT 136:=enT
theorem Yev:EnT 137:=enT
theorem YkO:EnT 138:=enT
theorem YuQ:EnT 139:=enT
theorem YrI:EnT 146:=enT
theorem YrJ:EnT 147:=enT
theorem Yew:EnT 148:=enT
theorem YrK:EnT 151:=enT
theorem YrL:EnT 152:=enT
theorem YrM:EnT 153:=enT
theorem YkP:EnT 154:=enT
theorem YrN:EnT 155:=enT
theorem YrO:EnT 156:=enT
theorem YkQ:EnT 160:=enT
theorem YkR:EnT 161:=enT
theorem YuR:EnT 162:=enT
theorem YrP:EnT 163:=enT
theorem YrQ:EnT 165:=enT
theorem YkS:EnT 166:=enT
theorem YrR:EnT 168:=enT
theorem YrS:EnT 169:=enT
theorem YrT:EnT 170:=enT
theorem YuS:EnT 171:=enT
theorem YrU:EnT 172:=enT
theorem YuT:EnT 173:=enT
theorem YuU:EnT 174:=enT
theorem Yoi:EnT 175:=enT
theorem YrV:EnT 176:=enT
theorem YkT:EnT 177:=enT
theorem YaG:EnT 184:=enT
theorem YrW:EnT 185:=enT
theorem YkU:EnT 186:=enT
theorem YuV:EnT 187:=enT
theorem YrX:EnT 188:=enT
theorem YkV:EnT 189:=enT
theorem YkW:EnT 190:=enT
theorem YuW:EnT 191:=enT
theorem YuX:EnT 192:=enT
theorem Yex:EnT 193:=enT
theorem YuY:EnT 194:=enT
theorem Wj:EnT 195:=enT
theorem YaH:EnT 196:=enT
theorem YrY:EnT 197:=enT
theorem Wk:EnT 198:=enT
theorem YkX:EnT 199:=enT
theorem YrZ:EnT 200:=enT
theorem YuZ:EnT 202:=enT
theorem Yr0:EnT 203:=enT
theorem Yr1:EnT 204:=enT
theorem Yr2:EnT 205:=enT
theorem Yr3:EnT 206:=enT
theorem Yr4:EnT 207:=enT
theorem Yoj:EnT 208:=enT
theorem Yu0:EnT 209:=enT
theorem Yr5:EnT 211:=enT
theorem Jy:EnT 212:=enT
theorem Xy:EnT 213:=enT
theorem YkY:EnT 214:=enT
theorem Yr6:EnT 216:=enT
theorem Yr7:EnT 219:=enT
theorem Yu1:EnT 222:=enT
theorem Yr8:EnT 223:=enT
theorem Yu2:EnT 224:=enT
theorem YkZ:EnT 225:=enT
theorem Yey:EnT 226:=enT
theorem Yk0:EnT 227:=enT
theorem Yr9:EnT 228:=enT
theorem OE:EnT 229:=enT
theorem Yu3:EnT 230:=enT
theorem Yu4:EnT 231:=enT
theorem Ysa:EnT 232:=enT
theorem Yk1:EnT 233:=enT
theorem Yu5:EnT 234:=enT
theorem Ysb:EnT 238:=enT
theorem Yez:EnT 239:=enT
theorem Yok:EnT 242:=enT
theorem Yu6:EnT 243:=enT
theorem Yu7:EnT 244:=enT
theorem Yu8:EnT 245:=enT
theorem Ysc:EnT 246:=enT
theorem Yk2:EnT 247:=enT
theorem YeA:EnT 248:=enT
theorem Yu9:EnT 249:=enT
theorem Yva:EnT 261:=enT
theorem Yol:EnT 262:=enT
theorem Yk3:EnT 263:=enT
theorem Yk4:EnT 264:=enT
theorem Yvb:EnT 265:=enT
theorem Yvc:EnT 267:=enT
theorem Yvd:EnT 268:=enT
theorem YeB:EnT 271:=enT
theorem Yk5:EnT 277:=enT
theorem Yve:EnT 278:=enT
theorem VP:EnT 279:=enT
theorem Jz:EnT 280:=enT
theorem YeC:EnT 281:=enT
theorem Wl:EnT 282:=enT
theorem OF:EnT 283:=enT
theorem Ysd:EnT 284:=enT
theorem Yse:EnT 285:=enT
theorem Ysf:EnT 286:=enT
theorem Yvf:EnT 288:=enT
theorem Yvg:EnT 291:=enT
theorem Yvh:EnT 292:=enT
theorem Yvi:EnT 293:=enT
theorem Yvj:EnT 296:=enT
theorem YaI:EnT 297:=enT
theorem OG:EnT 298:=enT
theorem OH:EnT 299:=enT
theorem Ysg:EnT 300:=enT
theorem Ysh:EnT 301:=enT
theorem YaJ:EnT 303:=enT
theorem Yk6:EnT 306:=enT
theorem Yvk:EnT 309:=enT
theorem Ysi:EnT 311:=enT
theorem Ysj:EnT 312:=enT
theorem Ysk:EnT 313:=enT
theorem ZN:EnT 314:=enT
theorem Yk7:EnT 315:=enT
theorem YeD:EnT 316:=enT
theorem Ysl:EnT 320:=enT
theorem Yvl:EnT 321:=enT
theorem Ysm:EnT 331:=enT
theorem Ysn:EnT 332:=enT
theorem OI:EnT 339:=enT
theorem Yso:EnT 340:=enT
theorem Wm:EnT 341:=enT
theorem Ysp:EnT 342:=enT
theorem Yom:EnT 343:=enT
theorem Yvm:EnT 344:=enT
theorem Ysq:EnT 345:=enT
theorem Yvn:EnT 346:=enT
theorem Ysr:EnT 360:=enT
theorem Yss:EnT 361:=enT
theorem Yst:EnT 362:=enT
theorem Yk8:EnT 363:=enT
theorem Yvo:EnT 364:=enT
theorem YeE:EnT 365:=enT
theorem Yk9:EnT 366:=enT
theorem Yla:EnT 367:=enT
theorem Ysu:EnT 368:=enT
theorem Yvp:EnT 370:=enT
theorem Ysv:EnT 371:=enT
theorem Yvq:EnT 372:=enT
theorem J9:EnT 376:=enT
theorem Ysw:EnT 378:=enT
theorem YeF:EnT 379:=enT
theorem Ysx:EnT 380:=enT
theorem Yvr:EnT 381:=enT
theorem VR:EnT 382:=enT
theorem Ysy:EnT 383:=enT
theorem Yvs:EnT 384:=enT
theorem Ysz:EnT 385:=enT
theorem Yvt:EnT 386:=enT
theorem YsA:EnT 391:=enT
theorem Yvu:EnT 392:=enT
theorem YsB:EnT 393:=enT
theorem YeG:EnT 394:=enT
theorem YeH:EnT 395:=enT
theorem YsC:EnT 396:=enT
theorem Yon:EnT 397:=enT
theorem YsD:EnT 398:=enT
theorem Yvv:EnT 399:=enT
theorem Ylb:EnT 407:=enT
theorem Yvw:EnT 409:=enT
theorem Wn:EnT 414:=enT
theorem Yoo:EnT 415:=enT
theorem Yvx:EnT 416:=enT
theorem YaK:EnT 417:=enT
theorem YaL:EnT 418:=enT
theorem Yvy:EnT 420:=enT
theorem YsE:EnT 421:=enT
theorem YsF:EnT 422:=enT
theorem Yvz:EnT 423:=enT
theorem YvA:EnT 424:=enT
theorem Ylc:EnT 425:=enT
theorem Yop:EnT 426:=enT
theorem YeI:EnT 427:=enT
theorem YvB:EnT 428:=enT
theorem YvC:EnT 429:=enT
theorem Yld:EnT 433:=enT
theorem YvD:EnT 434:=enT
theorem YsG:EnT 435:=enT
theorem YvE:EnT 436:=enT
theorem OJ:EnT 439:=enT
theorem YsH:EnT 440:=enT
theorem YvF:EnT 441:=enT
theorem YsI:EnT 442:=enT
theorem YvG:EnT 443:=enT
theorem YvH:EnT 444:=enT
theorem YvI:EnT 445:=enT
theorem YvJ:EnT 446:=enT
theorem Yle:EnT 447:=enT
theorem YvK:EnT 448:=enT
theorem YsJ:EnT 449:=enT
theorem YvL:EnT 455:=enT
theorem Ylf:EnT 458:=enT
theorem Ylg:EnT 460:=enT
theorem Yoq:EnT 461:=enT
theorem Wo:EnT 480:=enT
theorem YvM:EnT 481:=enT
theorem YvN:EnT 482:=enT
theorem Yhi:EnT 483:=enT
theorem z3(w:World):(zeroValue 3).run Tryz.prog w=.ok (.int .i64 0) w:=by kernel_rfl
theorem z4(w:World):(zeroValue 4).run Tryz.prog w=.ok (.bool false) w:=by kernel_rfl
theorem z66(w:World):(zeroValue 66).run Tryz.prog w=.ok (.agg #[.int .i64 0,.int .i64 0,.int .i64 0,.int .i64 0,.int .i64 0,.int .i64 0]) w:=by kernel_rfl
theorem zi3:((Tryz.prog.info? 3).bind (·.zero))=some (.int .i64 0):=by kernel_rfl
end Go.Proofs.YtjlgijpmnfabcaaGreatDoor
namespace Go.Eng
open Go.RowKit
section
variable {P:Program}{B:Nat}{w0:World}{H:List HP}
theorem Ymf{f:Nat}{xs:Array Value}{x y:Value}(e:x=y)(h:∀w,St B w0 H w->Calls P f xs w (Post B w0 λu K=>u=x/\K=H)){w:World}(hw:St B w0 H w):Calls P f xs w (Post B w0 λu K=>u=y/\K=H):=e▸h w hw
end
section
variable {P:Program}{n:Shp}{B:Nat}{w0:World}{ops:Array Oper}{Q:Exit->Act->World->Prop}{rest:List Oper}{env:Env}{H:List HP}{d:Nat}{ty:TypeId}{pos:String}{after:Array Edge}{x y:Operand}
theorem Yhu{α:Type}{f:α->List Value}(hq:∀a,(f a).length=1){v:Value}:∀(l:List α) (i:Nat) (a:α),f a=[v]->i<l.length->(l.flatMap f).set i v=(l.set i a).flatMap f
 |[],i,a,_,h=>by simp at h
 |b::l,0,a,hv,_=>by
  rw[Rl,List.set_cons_zero,Rl,hv]
  match hb:f b,hq b with
  |[u],_=>rfl
 |b::l,i+1,a,hv,h=>by
  rw[Rl,List.set_cons_succ,Rl]
  have h1:=hq b
  rw[SX _ _ (by omega),h1,SR,Yhu hq l i a hv (by simp_all)]
variable {t e:Nat}
theorem Xt(T:Tab P){α:Type}{f:α->List Value}{l:List α}{i k cap:Nat}{a:α}{v:Value}{A:Option Addr}{K:List HP}(hx:evo env x=some (sptr A (i*1)))(hy:evo env y=some v)(h1:v.oneCell'=true)
 (hu:Upd (sl e 1 A k cap (l.flatMap f)) (sl e 1 A k cap ((l.set i a).flatMap f)) H K) (hv:f a=[v]) (hq:∀a,(f a).length=1) (ht:look T.sc t=some ()) (hi:i<l.length)
 (h:VL P none n B w0 ops Q rest env K):VL P none n B w0 ops Q (⟨none,.store t x y,ty,pos,after,none⟩::rest) env H:=by
 rw[S7]at hx
 refine YaD (e:=e) (size:=1) (k:=k) (cap:=cap) T hx hy h1 ?_ ht (by rw[XG hq,S7];exact hi) h
 rw[Yhu hq l i a hv hi]
 exact hu
theorem Yr(T:Tab P){size bytes:Nat}(ht:look T.sl t=some (e,size,bytes))(hn:Nat.ble (d+1) n.k=true)
 (h:∀g,VL P none n B w0 ops Q rest ((d,.slice (some ⟨g,0,none⟩) 0 0)::env) (sl e size (some ⟨g,0,none⟩) 0 0 []::H)):VL P none n B w0 ops Q (⟨some d,.buildSlice t 0 #[],ty,pos,after,none⟩::rest) env H:=by
 obtain⟨hut,inf,z',hinf,_⟩:=YR (T.slic ht)
 refine Ow (parts:=[]) (ps:=[]) (cs:=#[]) (e:=e) Ye9 (λw=>?_) hn λg=>Zz _ (λw hw=>hw.blk_sl (cs:=[]) (by simp) (by omega)) (h g)
 simp[Instr.buildSlice,run_underlying hut,sizeOf,typeInfo,hinf,Instr.fill,newRow]
 grind
variable {A:HP}{L M:List HP}
theorem Yfa{L':List HP}(h:Rem A L L')(h2:Perm L' M):Perm L (A::M):=Perm.trans h (Perm.cons A h2)
theorem Perm.dropK(p:Perm L M):Perm (A::L) M:=.trans (.drop A L) p
end
end Go.Eng
