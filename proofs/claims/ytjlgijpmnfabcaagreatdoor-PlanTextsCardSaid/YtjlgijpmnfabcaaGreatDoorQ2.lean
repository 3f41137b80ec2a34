/- Lemmas. -/
import Derived.Maps.AppendAt
import Derived.Laws.StructEq
import Derived.ChangeKeysEq
import Derived.MapKept
import Derived.Maps.RangeRun
import Derived.Laws.IdiomCopy
import Derived.Laws.ResultCell
import Derived.Laws.Tables
import Derived.Great.BuildSlice
import Derived.Laws.CopyRow
import Derived.Test.YtjlgijpmnfabcaaGreatDoorQ1
set_option maxRecDepth 100000
set_option maxHeartbeats 8000000
set_option linter.all false
namespace Go.Eng
open Go.RowKit
def sl(e size:Nat)(A:Option Addr)(k cap:Nat)(xs:List Value):HP:=
 ⟨λS w=>w.ownsRow 0 e size (.slice A k cap) k xs/\∀a,A=some a->S a.block,by
  rintro S w w' hs ⟨⟨h1,h2⟩,h3⟩
  refine⟨⟨h1,?_⟩,h3⟩
  rcases h2 with h2|⟨g,c,cur,e1,e2,e3,e4⟩
  ·exact .inl h2
  ·refine .inr ⟨g,c,cur,e1,e2,?_,e4⟩
   injection e1 with e1
   rw[hs g (h3 _ e1)]
   exact e3⟩
variable {e size B k cap j t bytes:Nat}
theorem YuD(S:Nat->Prop)(w:World):(sl e size none 0 0 []).holds S w:=⟨⟨by simp,.inl ⟨rfl,rfl⟩⟩,λa h=>by cases h⟩
variable {w0 w:World}{H:List HP}
theorem St.nilSlice(h:St B w0 H w)(e size:Nat):St B w0 (sl e size none 0 0 []::H) w:=
 ⟨h.below,h.le,λ_=>False,λb=>B<=b/\b<w.heap.size,λ_ hb=>hb.elim,λ_ hb=>hb,λ_ hb=>hb.elim,YuD _ _,h.sep⟩
variable {A:Option Addr}{xs:List Value}
theorem St.sl(h:St B w0 H w)(hm:Eng.sl e size A k cap xs∈H):
 w.ownsRow 0 e size (.slice A k cap) k xs:=by
 obtain⟨S,_,h2,_⟩:=h.at_ hm
 exact h2
variable {v:Value}
theorem OA(h:w.ownsRow 0 e size (.slice A k cap) k xs)(hv:xs[j]? =some v):
 ∃g,A=some ⟨g,0,none⟩/\w.cell? ⟨g,j,none⟩=some v/\∃cur,w.heap[g]? =some (.cells cur e (0,0))/\cur[j]? =some v:=by
 rcases h.2 with⟨e1,e2⟩|⟨g,c,cur,e1,_,e3,_,_,_,e4⟩
 ·have:=h.1
  simp_all
 ·injection e1 with e1
  have hc:cur[j]? =some v:=by
   grind
  exact⟨g,e1,by grind [YW],cur,e3,hc⟩
theorem Yx{P:Program}(h:Ydu P t=some (e,size,bytes)):
 P.underlying t=some (.slice e)/\∃i z,P.info? e=some i/\i.zero=some z/\z.cells.size=size/\i.size=size/\i.bytes=bytes/\0<size/\0<bytes:=by
 unfold Ydu at h
 split at h
 ·rename_i e' hu
  cases hi:P.info? e' with
  |none=>simp_all
  |some i=>
   cases hz:i.zero with
   |none=>simp_all
   |some z=>
    grind
 simp_all
def ZM:List Value->Bool
 |[]=>true
 |v::l=>v.oneCell'&&ZM l
theorem Zl:∀{l:List Value},ZM l=true->∀u∈l,u.oneCell'=true
 |[],_,u,hu=>by cases hu
 |v::l,h,u,hu=>by
  simp only[ZM,Tm]at h
  rcases TV.1 hu with e|e
  ·simp_all
  ·exact Zl h.2 u e
def sptr(A:Option Addr)(j:Nat):Value:=.pointer (A.map λa=>a.add j)
section
variable {P:Program}{m:Mode}{n:Shp}{B:Nat}{w0:World}{Q:Exit->Act->World->Prop}{env:Env}{H:List HP}{ops:Array Oper}{rest:List Oper}
variable {d:Nat}{ty:TypeId}{pos:String}{after:Array Edge}
variable {c:Code}
theorem JN(e size:Nat)(h:VC P n B w0 c Q env (sl e size none 0 0 []::H)):VC P n B w0 c Q env H:=⟨λa w ha hw=>h.run a w ha (hw.nilSlice e size)⟩
variable {x y:Operand}{A:Option Addr}{k cap t e size bytes j:Nat}
theorem Yt7(T:Tab P){tx:Nat}{es:Nat×Nat×Nat}(hx:evo env x=some (.slice A k cap))(ht:look T.sl tx=some es)(hn:Nat.ble (d+1) n.k=true)(h:VL P m n B w0 ops Q rest ((d,.int .i64 k)::env) H):
 VL P m n B w0 ops Q (⟨some d,.call ⟨.builtin .len,#[x],#[tx]⟩,ty,pos,after,none⟩::rest) env H:=by
 obtain⟨e,size,bytes⟩:=es
 obtain⟨hu,_⟩:=Yx (T.slic ht)
 exact Yt rfl rfl hn rfl (λf w ha _=>by simp[execOp,resolve,invoke,builtin,ha.eval hx,Builtin.len_,run_underlying hu,goInt]) h
variable {xs:List Value}{cs:Array Value}
theorem Yma(T:Tab P){tt:Nat}{g mm c:Nat}{fr:Nat×Nat}{K:Option Addr->Nat->List HP}
 (hx:evo env x=some (.slice A k cap)) (ht:look T.sl t=some (e,size,bytes))
 (hy:evo env y=some (.slice (some ⟨g,0,none⟩) mm c)) (hb:blk g (.cells cs tt fr)∈H) (hk:cs.size=mm*size) (h1:ZM cs.toList=true) (hn:Nat.ble (d+1) n.k=true)
 (hu:∀A' cap',Upd (sl e size A k cap xs) (sl e size A' (k+mm) cap' (xs++cs.toList)) H (K A' cap')) (hby:(k+mm)*bytes<=140737488355328)
 (h:∀A' cap',VL P none n B w0 ops Q rest ((d,.slice A' (k+mm) cap')::env) (K A' cap')):
 VL P none n B w0 ops Q (⟨some d,.call ⟨.builtin .append,#[x,y],#[t,t]⟩,ty,pos,after,none⟩::rest) env H:=by
 obtain⟨hut,i,z,hi,hz,hzs,hsi,hbi,hs0,hb0⟩:=Yx (T.slic ht)
 refine Xj (λv K'=>∃A' cap',v=.slice A' (k+mm) cap'/\K'=K A' cap') rfl rfl hn (λa w ha hw=>?_) YqE
 have hmem:sl e size A k cap xs∈H:=YqJ
 have hown:=hw.sl hmem
 have hblk:=(hw.blk hb).1
 have h63:k+mm<=maxLen:=by
  have:k+mm<=(k+mm)*bytes:=Nat.le_mul_of_pos_right _ hb0
  grind [maxLen]
 obtain⟨v',w',hrun,hown',hgrow,_,hat⟩:=run_append_own_at (P:=P) w 0 t ty e i z size bytes hut hi hz hsi hbi hzs hs0 (.slice A k cap) k xs hown ⟨g,0,none⟩ mm c cs.toList (by omega)
  (λj u hj=>by rw[Addr.add_lit,YW hblk,RH];simp_all) (Zl h1) h63 hby (Ti _)
 have hshape:∃A' cap',v'=.slice A' (k+mm) cap':=YtD
 obtain⟨A',cap',rfl⟩:=hshape
 refine⟨_,K A' cap',w',by exact zc96,?_,A',cap',rfl,rfl⟩
 refine hw.updN (hu A' cap') hgrow.os hgrow.tape hgrow.output hgrow.size λS1 ⟨_,hS⟩=>⟨⟨λb=>Value.ownBlock (.slice A' (k+mm) cap')=some b,⟨hown',?_⟩,λb hb=>?_⟩,λb hb hlt=>hgrow.block b hlt (λe=>hb ?_)⟩
 ·rintro a rfl;rfl
 ·rcases hat with e|e
  ·rw[e]at hb
   cases A with
   |none=>cases hb
   |some a=>exact Ytp
  ·rw[e]at hb
   right
   simp only[RI]at hb
   subst hb
   refine⟨TI _,?_⟩
   rcases hown'.2 with⟨e1,_⟩|⟨g',_,_,e1,_,e3,_⟩
   ·rw[e1]at e;cases e
   ·rw[e1]at e
    simp only[Value.ownBlock,RI]at e
    subst e
    rcases SU w.heap.size w'.heap.size with h|h
    ·exact h
    ·rw[SB h]at e3;cases e3
 ·cases A with
  |none=>cases e
  |some a=>simp only[Value.ownBlock,RI]at e;rw[e];exact hS a rfl
variable {i:Int}
theorem YgL(T:Tab P){ki:IntKind}(hx:evo env x=some (.slice A k cap))(hm:sl e size A k cap xs∈H)(hy:evo env y=some (.int ki i))
 (ht:look T.sl t=some (e,size,bytes)) (hn:Nat.ble (d+1) n.k=true) (hi:0<=i/\i<k) (h:VL P m n B w0 ops Q rest ((d,sptr A (i.toNat*size))::env) H):
 VL P m n B w0 ops Q (⟨some d,.indexAddr t x y,ty,pos,after,none⟩::rest) env H:=by
 obtain⟨hut,inf,z,hinf,_,_,hsi,_,_,_⟩:=Yx (T.slic ht)
 refine Yt rfl rfl hn rfl (λa w ha hw=>?_) h
 have hown:=hw.sl hm
 rcases hown.2 with⟨_,e2⟩|⟨g,c,cur,e1,_⟩
 ·omega
 ·injection e1 with e1
  subst e1
  exact zc50
variable {v:Value}
theorem Yi4(T:Tab P)(hx:evo env x=some (sptr A j))(hm:sl e size A k cap xs∈H)(ht:look T.sc t=some ())(hn:Nat.ble (d+1) n.k=true)(hv:xs[j]? =some v)
 (h:VL P m n B w0 ops Q rest ((d,v)::env) H):VL P m n B w0 ops Q (⟨some d,.load t x,ty,pos,after,none⟩::rest) env H:=by
 refine Yt rfl rfl hn rfl (λa w ha hw=>?_) h
 obtain⟨g,rfl,hc,_⟩:=OA (hw.sl hm) hv
 exact Ytd
theorem YaK(T:Tab P){K:List HP}(hx:evo env x=some (sptr A j))(hy:evo env y=some v)(h1:v.oneCell'=true)
 (hu:Upd (sl e size A k cap xs) (sl e size A k cap (xs.set j v)) H K) (ht:look T.sc t=some ()) (hj:j<xs.length)
 (h:VL P none n B w0 ops Q rest env K):VL P none n B w0 ops Q (⟨none,.store t x y,ty,pos,after,none⟩::rest) env H:=by
 have hmem:sl e size A k cap xs∈H:=YiV
 refine JJ rfl rfl (λa w ha hw=>?_) h
 obtain⟨g,rfl,hc,cur,hb,hcj⟩:=OA (hw.sl hmem) (Ta hj)
 refine⟨w.setCell ⟨g,j,none⟩ v,?_,?_⟩
 ·have hcs:v.cells=#[v]:=YqD
  have hz:w.frozen? ⟨g,j,none⟩=false:=Yfk
  simp[execOp,ha.eval hx,ha.eval hy,sptr,Instr.storeAt,Instr.sureAddr,storeVar,hcs,ZO (T.scal ht).2,storeCells,run_store _ _ _ _ _ h1,Addr.add_lit,hc,hz]
 ·refine hw.upd hu rfl rfl rfl (by simp) λS1 ⟨hown,hS⟩=>⟨⟨⟨?_,?_⟩,hS⟩,λb hb' _=>Below.heap_setCell w _ v b (λe=>hb' (by simp_all))⟩
  ·simpa using hown.1
  ·rcases hown.2 with⟨e1,_⟩|⟨g',c',cur',e1,e2,e3,e4,e5,e6,e7⟩
   ·cases e1
   ·injection e1 with e1 e8 e9
    injection e1 with e1
    injection e1 with e1
    subst e1
    refine .inr ⟨g,c',cur'.setIfInBounds j v,by rw[e9],e2,?_,e4,e5,by simpa using e6,?_⟩
    ·simp[World.setCell,Array.getElem?_modify,e3]
    ·rw[<-e7]
     simp only[Array.toList_setIfInBounds]
     rw[List.take_set]
variable {s:ByteArray}
theorem Yds(h:s=⟨#[]⟩):s.size=0:=by rw[h];rfl
theorem OY(h:s≠⟨#[]⟩):1<=s.size:=by
 rcases Ss s.size with e|e
 ·cases s;grind [ByteArray.size]
 omega
variable {xt yt:TypeId}
theorem Yom(hx:evo env x=some (.string s))(hn:Nat.ble (d+1) n.k=true)(h1:s=⟨#[]⟩->s.size=0->VL P m n B w0 ops Q rest ((d,.bool true)::env) H)(h2:s≠⟨#[]⟩->1<=s.size->VL P m n B w0 ops Q rest ((d,.bool false)::env) H):
 VL P m n B w0 ops Q (⟨some d,.binOp .eql xt x (.const (.string ⟨#[]⟩)) yt,ty,pos,after,none⟩::rest) env H:=
 Yfz hx rfl hn (λe=>h1 e (Yds e)) (λe=>h2 e (OY e))
theorem Yoq(hx:evo env x=some (.string s))(hn:Nat.ble (d+1) n.k=true)(h1:s≠⟨#[]⟩->1<=s.size->VL P m n B w0 ops Q rest ((d,.bool true)::env) H)(h2:s=⟨#[]⟩->s.size=0->VL P m n B w0 ops Q rest ((d,.bool false)::env) H):
 VL P m n B w0 ops Q (⟨some d,.binOp .neq xt x (.const (.string ⟨#[]⟩)) yt,ty,pos,after,none⟩::rest) env H:=
 YfB hx rfl hn (λe=>h1 e (OY e)) (λe=>h2 e (Yds e))
theorem YfD(T:Tab P){lo:Operand}{k1:IntKind}(hx:evo env x=some (.string s))(hl:evo env lo=some (.int k1 i))(ht:look T.st t=some ())(hn:Nat.ble (d+1) n.k=true)
 (hb:0<=i/\i<=s.size) (h:VL P m n B w0 ops Q rest ((d,.string (s.extract i.toNat s.size))::env) H):VL P m n B w0 ops Q (⟨some d,.slice t x (some lo) none none,ty,pos,after,none⟩::rest) env H:=by
 refine Yt rfl rfl hn rfl (λa w ha _=>?_) h
 have hu:=T.strs ht
 simp[execOp,ha.eval hx,ha.eval hl,Instr.sliceAt,run_underlying hu,Instr.slice,Instr.sliceBounds,Instr.sliceBound,asIntOf,hb]
theorem Yfu(T:Tab P){k:IntKind}(hx:evo env x=some (.string s))(hy:evo env y=some (.int k i))(ht:look T.st t=some ())(hn:Nat.ble (d+1) n.k=true)
 (hi:0<=i/\i<s.size) (h:∀b:UInt8,s[i.toNat]? =some b->VL P m n B w0 ops Q rest ((d,.int .u8 b.toNat)::env) H):VL P m n B w0 ops Q (⟨some d,.index t x y,ty,pos,after,none⟩::rest) env H:=by
 have hlt:i.toNat<s.size:=by omega
 refine Yt (v:=.int .u8 (s[i.toNat]'hlt).toNat) rfl rfl hn rfl (λa w ha _=>?_) (h _ (by simp_all))
 have hu:=T.strs ht
 simp[execOp,ha.eval hx,ha.eval hy,Instr.index,asIntOf,run_underlying hu,hi.1,hlt]
theorem YqY{k:IntKind}{a b:Int}{tys:Array TypeId}(hx:evo env x=some (.int k a))(hy:evo env y=some (.int k b))(hn:Nat.ble (d+1) n.k=true)(h1:b<a->VL P m n B w0 ops Q rest ((d,.int k b)::env) H)(h2:a<=b->VL P m n B w0 ops Q rest ((d,.int k a)::env) H):
 VL P m n B w0 ops Q (⟨some d,.call ⟨.builtin .min,#[x,y],tys⟩,ty,pos,after,none⟩::rest) env H:=by
 by_cases hc:b<a
 ·exact Yt rfl rfl hn rfl (λf w ha _=>by exact Ytv) (h1 hc)
 ·exact Yt rfl rfl hn rfl (λf w ha _=>by exact Ytv) (h2 (by omega))
theorem OD{len:Nat}{parts:List (Nat×Operand)}{ps:List (Nat×Value)}(hp:YaD env parts ps)(hb:∀w,(Instr.buildSlice t len ps.toArray).run P w=.ok (.slice (some ⟨w.heap.size,0,none⟩) len len) (w.alloc (.cells cs e (0,0))))(hn:Nat.ble (d+1) n.k=true)
 (h:∀g,VL P none n B w0 ops Q rest ((d,.slice (some ⟨g,0,none⟩) len len)::env) (blk g (.cells cs e (0,0))::H)):VL P none n B w0 ops Q (⟨some d,.buildSlice t len parts.toArray,ty,pos,after,none⟩::rest) env H:=by
 refine Xj (λv K=>∃g,v=.slice (some ⟨g,0,none⟩) len len/\K=blk g (.cells cs e (0,0))::H) rfl rfl hn (λa w ha hw=>?_) zc43
 have hm:(parts.toArray.map λ(i,x)=>(i,a.eval x))=ps.toArray:=YtH
 refine⟨_,_,w.alloc (.cells cs e (0,0)),?_,hw.alloc _,w.heap.size,rfl,rfl⟩
 simp_all [execOp]
theorem XW(e size:Nat){ex:Exit}(h:VQ n B w0 Q ex env (sl e size none 0 0 []::H)):VQ n B w0 Q ex env H:=⟨λa w ha hw=>h.run a w ha (hw.nilSlice e size)⟩
def u8n(l:List Nat):List Value:=l.map λb:Nat=>Value.int .u8 (b:Int)
theorem YcT(l:List Nat):(u8n l).length=l.length:=by simp[u8n]
def YiA(l:List Nat):ByteArray:=⟨(l.map UInt8.ofNat).toArray⟩
theorem Ykj(l:List Nat):(YiA l).size=l.length:=by simp[YiA,ByteArray.size]
theorem Ykn(l:List Nat)(s:ByteArray):(l.map λb:Nat=>(b:Int)).foldl (λr n=>r.push (UInt8.ofNat n.toNat)) s=⟨s.data++(l.map UInt8.ofNat).toArray⟩:=by
 induction l generalizing s with
 |nil=>simp
 |cons b l ih=>
  simp_all
theorem Yt3(T:Tab P){s:Nat}{l:List Nat}(hx:evo env x=some (.slice A k cap))(hm:sl e 1 A k cap (u8n l)∈H)(ht:look T.sl t=some (e,size,bytes))(he:look T.ik e=some .u8)(hs:look T.st s=some ())(hn:Nat.ble (d+1) n.k=true)
 (h:VL P m n B w0 ops Q rest ((d,.string (YiA l))::env) H):VL P m n B w0 ops Q (⟨some d,.convert t s x,ty,pos,after,none⟩::rest) env H:=by
 obtain⟨hu,_⟩:=Yx (T.slic ht)
 refine Yt rfl rfl hn rfl (λa w ha hw=>?_) h
 have hown:=hw.sl hm
 have hlen:l.length=k:=by have:=hown.1;simp_all [YcT]
 have hr:(Conv.bytesToString (.slice A k cap)).run P w=.ok (.string (YiA l)) w:=by
  rcases hown.2 with⟨e1,e2⟩|⟨g,c,cur,e1,_,e3,_,_,_,e4⟩
  ·injection e1 with e1
   subst e1
   have:l=[]:=by simp_all
   subst this
   rfl
  ·injection e1 with e1
   subst e1
   have hl:=run_loadCells_list (P:=P) w ⟨g,0,none⟩ (u8n l) (λj v hj=>by
    obtain⟨g',e5,hc,_⟩:=OA hown hj
    simp_all [Go.Addr.add_lit])
   rw[YcT,hlen]at hl
   have e6:u8n l=(l.map λb:Nat=>(b:Int)).map (Value.int .u8):=by simp[u8n]
   rw[e6]at hl
   rw[run_bytesToString w ⟨g,0,none⟩ k cap _ hl,Ykn]
   have e7:ByteArray.empty.data=#[]:=rfl
   grind [YiA]
 simp[execOp,ha.eval hx,run_convert_bytes_string w t s e A k cap hu (Yar (T.ints he)) (T.strs hs),hr]
theorem YgN(T:Tab P){c:Int}{z:Value}(hx:evo env x=some (.int .i64 c))(hy:evo env y=some (.int .i64 c))(ht:look T.sl t=some (e,1,bytes))(hz:((P.info? e).bind (·.zero))=some z)(hz1:z.cells=#[z])(hn:Nat.ble (d+1) n.k=true)(hb:Nat.ble bytes 1000=true)(hc:0<=c/\c<=1000000)
 (h:∀g,VL P none n B w0 ops Q rest ((d,.slice (some ⟨g,0,none⟩) c.toNat c.toNat)::env) (sl e 1 (some ⟨g,0,none⟩) c.toNat c.toNat (List.replicate c.toNat z)::H)):VL P none n B w0 ops Q (⟨some d,.makeSlice t x y,ty,pos,after,none⟩::rest) env H:=by
 obtain⟨hu,i,z',hi,hz',_,hsi,hbi,_,_⟩:=Yx (T.slic ht)
 obtain rfl:z'=z:=by simp_all
 have hb':=TR hb
 refine Xj (λv K=>∃g,v=.slice (some ⟨g,0,none⟩) c.toNat c.toNat/\K=sl e 1 (some ⟨g,0,none⟩) c.toNat c.toNat (List.replicate c.toNat z')::H) rfl rfl hn (λa w ha hw=>?_) zc43
 have hbytes:(i.bytes:Int)*c<=281474976710656:=by
  have h1:(i.bytes:Int)*c<=1000*c:=RO (by omega) hc.1
  omega
 have hrun:=run_make (P:=P) w t e i z' hu hi hz' .i64 .i64 c c hc.1 (SK _) hbytes (by omega)
 rw[hsi,Na,hz1]at hrun
 refine⟨_,_,w.alloc (.cells (madeCells #[z'] c.toNat) e),by simp only[execOp,ha.eval hx,ha.eval hy,Sem.run_bind,hrun,Result.andThen_ok,Sem.run_pure],?_,w.heap.size,rfl,rfl⟩
 have h2:=hw.alloc (.cells (madeCells #[z'] c.toNat) e)
 refine h2.upd (Upd.here _) rfl rfl rfl (TI _) λS1 ⟨h3,h4⟩=>⟨⟨⟨by simp,.inr ⟨w.heap.size,c.toNat,madeCells #[z'] c.toNat,rfl,Ti _,h4,TI _,by grind [maxLen],by simp[size_madeCells],?_⟩⟩,λa ha=>by grind⟩,λ_ _ _=>rfl⟩
 simp_all [toList_madeCells_one]
variable {α β:Type}
theorem YbR(E:α->β->Env)(HH:α->β->List HP)(I:α->β->Prop)(μ:α->β->Nat)(x0:α)(y0:β)(h0:I x0 y0)
 (he:∀t v,get (E x0 y0) t=some v->get env t=some v) (hH:∀w,St B w0 H w->St B w0 (HH x0 y0) w)
 (round:∀x y,I x y->∀K:Act->World->Prop,(∀x' y',I x' y'->μ x' y'<μ x y->∀env' H',(∀t v,get (E x' y') t=some v->get env' t=some v)->(∀w,St B w0 H' w->St B w0 (HH x' y') w)->VQ n B w0 (Exit.then K Q) .normal env' H')->
  VC P n B w0 c (Exit.then K Q) (E x y) (HH x y)):VC P n B w0 (.loop c) Q env H:=
 Yfo (α:=α×β) (λp=>E p.1 p.2) (λp=>HH p.1 p.2) (λp=>I p.1 p.2) (λp=>μ p.1 p.2) (x0,y0) h0 he hH λp hp=>
  round p.1 p.2 hp _ λx' y' hI hμ _ _ he' hH'=>Yb2 (x',y') hI hμ he' hH'
theorem Yg(E:α->Env)(HH:α->List HP)(I:α->Prop)(μ:α->Nat)(x0:α)(h0:I x0)
 (he:∀t v,get (E x0) t=some v->get env t=some v) (hH:∀w,St B w0 H w->St B w0 (HH x0) w)
 (round:∀x,I x->∀K:Act->World->Prop,(∀x',I x'->μ x'<μ x->∀env' H',(∀t v,get (E x') t=some v->get env' t=some v)->(∀w,St B w0 H' w->St B w0 (HH x') w)->VQ n B w0 (Exit.then K Q) .normal env' H')->
  VC P n B w0 c (Exit.then K Q) (E x) (HH x)):VC P n B w0 (.loop c) Q env H:=
 Yfo E HH I μ x0 h0 he hH λp hp=>round p hp _ λx' hI hμ _ _ he' hH'=>Yb2 x' hI hμ he' hH'
theorem Yn8{γ:Type}(E:α->β->γ->Env)(HH:α->β->γ->List HP)(I:α->β->γ->Prop)(μ:α->β->γ->Nat)(x0:α)(y0:β)(z0:γ)(h0:I x0 y0 z0)
 (he:∀t v,get (E x0 y0 z0) t=some v->get env t=some v) (hH:∀w,St B w0 H w->St B w0 (HH x0 y0 z0) w)
 (round:∀x y z,I x y z->∀K:Act->World->Prop,(∀x' y' z',I x' y' z'->μ x' y' z'<μ x y z->∀env' H',(∀t v,get (E x' y' z') t=some v->get env' t=some v)->(∀w,St B w0 H' w->St B w0 (HH x' y' z') w)->VQ n B w0 (Exit.then K Q) .normal env' H')->
  VC P n B w0 c (Exit.then K Q) (E x y z) (HH x y z)):VC P n B w0 (.loop c) Q env H:=
 Yfo (α:=α×β×γ) (λp=>E p.1 p.2.1 p.2.2) (λp=>HH p.1 p.2.1 p.2.2) (λp=>I p.1 p.2.1 p.2.2) (λp=>μ p.1 p.2.1 p.2.2) (x0,y0,z0) h0 he hH λp hp=>
  round p.1 p.2.1 p.2.2 hp _ λx' y' z' hI hμ _ _ he' hH'=>Yb2 (x',y',z') hI hμ he' hH'
end
open Go.ChangeMaps (setBlock)
def O7(P:Program)(t:TypeId):Option Value->Option Value->Bool
 |some (.int k _),some (.int k' _)=>decide (k=k')&&(match P.underlying t with|some (.int _)=>true|_=>false)
 |some (.string _),some (.string _)=>match P.underlying t with|some .string=>true|_=>false
 |some (.bool _),some (.bool _)=>match P.underlying t with|some .bool=>true|_=>false
 |_,_=>false
def Oe(P:Program)(t:TypeId)(xs ys:List Value):Bool:=
 match P.underlying t with
 |some (.struct fs)=>!P.stoodInHeld t&&(fs.toList.map (·.offset)==List.range xs.length)&&(xs.length==ys.length)&&fs.toList.all (λf=>f.name != "_" &&O7 P f.type xs[f.offset]? ys[f.offset]?)
 |_=>false
section
variable {P:Program}
theorem Ygk(w:World)(d:Nat){t:TypeId}{x y:Value}(h:O7 P t (some x) (some y)=true):∃r:Bool,(Op.equalIn (d+1) t x y).run P w=.ok r w/\(r=true↔x=y):=by
 unfold O7 at h
 split at h
 ·rename_i k a k' b e1 e2
  injection e1 with e1;injection e2 with e2
  subst e1;subst e2
  simp only[Tm,To]at h
  obtain⟨rfl,h⟩:=h
  split at h
  ·rename_i q hu
   exact⟨a==b,run_equalIn_int w d t k q a b hu,by simp⟩
  simp_all
 ·rename_i a b e1 e2
  injection e1 with e1;injection e2 with e2
  subst e1;subst e2
  split at h
  ·rename_i hu
   exact⟨a.toList==b.toList,run_equalIn_string w d t a b hu,by rw[Qt];simp⟩
  simp_all
 ·rename_i a b e1 e2
  injection e1 with e1;injection e2 with e2
  subst e1;subst e2
  split at h
  ·rename_i hu
   exact⟨a==b,run_equalIn_bool w d t a b hu,by simp⟩
  simp_all
 simp_all
theorem YjM{t:TypeId}{x y:Option Value}(h:O7 P t x y=true):P.plainKey t=true/\∃a b,x=some a/\y=some b:=by
 unfold O7 at h
 split at h
 ·exact YqG
 ·exact YqG
 ·exact YqG
 simp_all
theorem OR(w:World)(d:Nat)(xs ys:List Value):∀fs:List Field,(∀f∈fs,f.name≠ "_" /\O7 P f.type xs[f.offset]? ys[f.offset]? =true)->
 ∃r:Bool,(Op.eqFields (d+1) xs.toArray ys.toArray fs).run P w=.ok r w/\(r=true↔∀f∈fs,xs[f.offset]? =ys[f.offset]?)
 |[],_=>⟨true,by simp[Op.eqFields],by simp⟩
 |f::fs,hall=>by
  obtain⟨hn,hl⟩:=hall f (by simp)
  obtain⟨hp,a,b,hx,hy⟩:=YjM hl
  rw[hx,hy]at hl
  obtain⟨r,hr,hiff⟩:=Ygk w d hl
  obtain⟨r',hr',hiff'⟩:=OR w d xs ys fs (λg hg=>hall g (by simp[hg]))
  have p1:=run_part_plain (P:=P) (w:=w) hp (xs:=xs.toArray) (off:=f.offset) (v:=a) (by simp_all)
  have p2:=run_part_plain (P:=P) (w:=w) hp (xs:=ys.toArray) (off:=f.offset) (v:=b) (by simp_all)
  simp only[Op.eqFields,hn,ne_eq,not_false_eq_true,Nb,Sem.run_bind,p1,p2,hr,Result.andThen_ok]
  cases r
  all_goals simp_all
variable {xs ys:List Value}
theorem Ydj(w:World){t:TypeId}(h:Oe P t xs ys=true):∃r:Bool,(Op.equal t (.agg xs.toArray) (.agg ys.toArray)).run P w=.ok r w/\(r=true↔xs=ys):=by
 unfold Oe at h
 split at h
 ·rename_i fs hu
  simp only[Tm,RY,Nx,TK,bne_iff_ne,ne_eq]at h
  obtain⟨⟨⟨h1,h2⟩,h3⟩,h4⟩:=h
  have hfs:P.fieldsOf t=fs:=by simp[Program.fieldsOf,hu]
  obtain⟨r,hr,hiff⟩:=OR w 9998 xs ys fs.toList h4
  refine⟨r,?_,?_⟩
  ·grind [Go.Op.equal,Go.Op.maxDepth,run_equalIn_struct]
  ·constructor
   ·intro h
    apply Sl
    intro i
    by_cases hi:i<xs.length
    ·have:i∈fs.toList.map (·.offset):=by simp_all
     grind
    simp_all
   simp_all
 simp_all
end
section
variable {P:Program}{n:Shp}{B:Nat}{w0:World}{Q:Exit->Act->World->Prop}{env:Env}{H:List HP}{m:Mode}{ops:Array Oper}{rest:List Oper}{d:Nat}{ty:TypeId}{pos:String}{after:Array Edge}
variable {x y u:Operand}
theorem ZJ(w:World){op:BinOp}{t:TypeId}{xs ys:Array Value}(hg:P.eqGuardType P.depth t=false):(eqGuard op t x y (.agg xs) (.agg ys)).run P w=.ok () w:=by
 simp_all [eqGuard]
variable {xt yt:TypeId}{xs ys cs:List Value}
theorem YqR(hx:evo env x=some (.agg xs.toArray))(hy:evo env y=some (.agg ys.toArray))(hn:Nat.ble (d+1) n.k=true)(hg:P.eqGuardType P.depth xt=false)(hl:Oe P xt xs ys=true)
 (h1:xs=ys->VL P m n B w0 ops Q rest ((d,.bool true)::env) H) (h2:xs≠ys->VL P m n B w0 ops Q rest ((d,.bool false)::env) H):
 VL P m n B w0 ops Q (⟨some d,.binOp .eql xt x y yt,ty,pos,after,none⟩::rest) env H:=by
 by_cases hc:xs=ys
 ·refine YS hx hy hn (λw=>ZJ w hg) (λw=>?_) (h1 hc)
  exact zc72
 ·refine YS hx hy hn (λw=>ZJ w hg) (λw=>?_) (h2 hc)
  exact zc72
theorem Yby(hx:evo env x=some (.agg xs.toArray))(hy:evo env y=some (.agg ys.toArray))(hn:Nat.ble (d+1) n.k=true)(hg:P.eqGuardType P.depth xt=false)(hl:Oe P xt xs ys=true)
 (h1:xs≠ys->VL P m n B w0 ops Q rest ((d,.bool true)::env) H) (h2:xs=ys->VL P m n B w0 ops Q rest ((d,.bool false)::env) H):
 VL P m n B w0 ops Q (⟨some d,.binOp .neq xt x y yt,ty,pos,after,none⟩::rest) env H:=by
 by_cases hc:xs=ys
 ·refine YS hx hy hn (λw=>ZJ w hg) (λw=>?_) (h2 hc)
  exact zc72
 ·refine YS hx hy hn (λw=>ZJ w hg) (λw=>?_) (h1 hc)
  exact zc72
theorem YaA(w:World)(k:Nat){t e:TypeId}(a:Option Addr)(hu:P.underlying t=some (.pointer e)):(Op.equalIn (k+1) t (.pointer a) (.pointer none)).run P w=.ok a.isNone w:=by
 unfold Op.equalIn
 cases a<;>simp[run_underlying hu]
def Ypp(P:Program)(t:TypeId):Bool:=match P.underlying t with|some (.pointer _)=>true|_=>false
theorem YjJ{t:TypeId}(h:Ypp P t=true):∃e,P.underlying t=some (.pointer e):=by
 unfold Ypp at h
 grind
theorem YgT{a:Option Addr}(hx:evo env x=some (.pointer a))(hn:Nat.ble (d+1) n.k=true)(hu:Ypp P xt=true)
 (h:VL P m n B w0 ops Q rest ((d,.bool a.isNone)::env) H):VL P m n B w0 ops Q (⟨some d,.binOp .eql xt x (.const (.pointer none)) yt,ty,pos,after,none⟩::rest) env H:=by
 obtain⟨e,hu⟩:=YjJ hu
 refine YS hx (y:=.const (.pointer none)) rfl hn (λw=>by simp[eqGuard]) (λw=>?_) h
 simp_all [binOp,Go.Op.equal,Go.Op.maxDepth,YaA]
variable {t e size g o b kt et clock r since:Nat}
theorem ZX{k:Nat}(h:Yca P t=some (k,e,size)):∃i,P.underlying t=some (.array k e)/\P.info? e=some i/\i.size=size:=by
 unfold Yca at h
 split at h
 ·rename_i k' e' hu
  cases hi:P.info? e' with
  |none=>simp_all
  |some i=>
   simp_all
 simp_all
variable {ki:IntKind}{i k:Int}
theorem XF(T:Tab P){k:Nat}(hx:evo env x=some (.pointer (some ⟨g,o,none⟩)))(hy:evo env y=some (.int ki i))(ht:look T.ar t=some (k,e,size))(hn:Nat.ble (d+1) n.k=true)(hi:0<=i/\i<k)
 (h:VL P m n B w0 ops Q rest ((d,.pointer (some ⟨g,o+i.toNat*size,none⟩))::env) H):
 VL P m n B w0 ops Q (⟨some d,.indexAddr t x y,ty,pos,after,none⟩::rest) env H:=by
 obtain⟨inf,hu,hinf,hs⟩:=ZX (T.arra ht)
 refine Yt rfl rfl hn rfl (λa w ha hw=>?_) h
 simp[execOp,ha.eval hx,ha.eval hy,Instr.indexAt,Instr.sureAddr,asIntOf,run_underlying hu,hi,sizeOf,typeInfo,hinf,hs,Addr.add_lit]
theorem YfA(T:Tab P){k:Nat}(hx:evo env x=some (.pointer (some ⟨g,o,none⟩)))(hy:evo env y=some (.int ki i))(ht:look T.ar t=some (k,e,size))(hn:Nat.ble (d+1) n.k=true)(hi:0<=i/\i<=k)
 (h:VL P m n B w0 ops Q rest ((d,.slice (some ⟨g,o,none⟩) i.toNat k)::env) H):
 VL P m n B w0 ops Q (⟨some d,.slice t x none (some y) none,ty,pos,after,none⟩::rest) env H:=by
 obtain⟨inf,hu,hinf,hs⟩:=ZX (T.arra ht)
 refine Yt rfl rfl hn rfl (λa w ha hw=>?_) h
 simp[execOp,ha.eval hx,ha.eval hy,Instr.sliceAt,Instr.sliceBounds,Instr.sliceBound,Instr.sureAddr,asIntOf,run_underlying hu,hi,sizeOf,typeInfo,hinf,Addr.add_lit]
variable {v v0:Value}{K:List HP}
theorem YgY(T:Tab P){i:Nat}{cs:Array Value}{tt:TypeId}(hx:evo env x=some (.pointer (some ⟨g,i,none⟩)))(hy:evo env y=some v)(h1:v.oneCell'=true)
 (hu:Upd (blk g (.cells cs tt (0,0))) (blk g (.cells (cs.setIfInBounds i v) tt (0,0))) H K) (hi:i<cs.size)
 (ht:look T.sc t=some ()) (h:VL P none n B w0 ops Q rest env K):VL P none n B w0 ops Q (⟨none,.store t x y,ty,pos,after,none⟩::rest) env H:=by
 refine JJ rfl rfl (λa w ha hw=>⟨w.setCell ⟨g,i,none⟩ v,?_,hw.setCell hu⟩) h
 have hb:w.heap[g]? =some (.cells cs tt (0,0)):=zc33
 have hc:=YW (i:=i) hb
 have hcs:v.cells=#[v]:=YqD
 have hz:w.frozen? ⟨g,i,none⟩=false:=Yfk
 have hv:cs[i]? =some cs[i]:=by simp[hi]
 exact zc67
abbrev Ents:=List (Int×Value×Nat)
def toE(e:Int×Value×Nat):MapEntry:=⟨.int .i64 e.1,e.2.1,e.2.2⟩
def mobj(es:Ents)(clock:Nat):Obj:=.map (es.map toE).toArray clock
def mget(es:Ents)(k:Int):Option Value:=(es.find? λe=>e.1==k).map (·.2.1)
def mapT(P:Program)(t kt et:TypeId):Bool:=(match P.underlying t with|some (.map a b)=>a==kt&&b==et|_=>false)&&(match P.underlying kt with|some (.int .i64)=>true|_=>false)
theorem Z5{t kt et:TypeId}(h:mapT P t kt et=true):P.underlying t=some (.map kt et)/\P.underlying kt=some (.int .i64):=by
 unfold mapT at h
 grind
variable {es l1 l2:Ents}
theorem QB(i:Nat)(h:mget es k=none):Instr.findNow (.int .i64) (.int .i64 k) (es.map toE) i=some none:=by
 induction es generalizing i with
 |nil=>rfl
 |cons e es ih=>
  simp only[mget,List.find?_cons]at h
  by_cases hk:e.1=k
  ·simp_all
  ·have hk':(e.1==k)=false:=by simp_all
   rw[hk']at h
   have:(k==e.1)=false:=by grind
   simp only[Ru,Instr.findNow,toE,Instr.sameNow,Nb,this]
   exact ih (i+1) h
theorem Vc(i:Nat)(h:mget es k=some v):∃l1 b l2,es=l1++(k,v,b)::l2/\(∀e∈l1,e.1≠k)/\Instr.findNow (.int .i64) (.int .i64 k) (es.map toE) i=some (some (i+l1.length,v)):=by
 induction es generalizing i with
 |nil=>simp[mget]at h
 |cons e es ih=>
  simp only[mget,List.find?_cons]at h
  by_cases hk:e.1=k
  ·have hk':(e.1==k)=true:=by simp_all
   rw[hk']at h
   simp only[Sr,RI]at h
   refine⟨[],e.2.2,es,by grind,by simp,?_⟩
   have:(k==e.1)=true:=by simp_all
   simp_all [Go.Instr.findNow,toE,Go.Instr.sameNow]
  ·have hk':(e.1==k)=false:=by simpa using hk
   rw[hk']at h
   have:(k==e.1)=false:=by simpa usingλe=>hk e.symm
   obtain⟨l1,b,l2,e1,e2,e3⟩:=ih (i+1) h
   refine⟨e::l1,b,l2,by rw[e1];rfl,?_,?_⟩
   ·intro x hx
    rcases TV.1 hx with rfl|hx
    ·exact hk
    ·exact e2 x hx
   ·simp only[Ru,Instr.findNow,toE,Instr.sameNow,Nb,this]
    rw[e3]
    simp;omega
theorem O5(hk:∀e∈l1,e.1≠k):Instr.findNow (.int .i64) (.int .i64 k) ((l1++(k,v0,b)::l2).map toE) 0=some (some (l1.length,v0)):=by
 have:∀i,Instr.findNow (.int .i64) (.int .i64 k) ((l1++(k,v0,b)::l2).map toE) i=some (some (i+l1.length,v0)):=by
  induction l1 with
  |nil=>simp[Instr.findNow,toE,Instr.sameNow]
  |cons e l ih=>
   grind [Go.Instr.findNow,Go.Instr.sameNow,toE]
 simp_all
variable {α:Type}
theorem Yc0(f:α->α)(xs:List α)(y:α)(zs:List α):(xs++y::zs).modify xs.length f=xs++f y::zs:=by
 induction xs with
 |nil=>rfl
 |cons x xs ih=>simp_all
theorem YmM(xs:List α)(y:α)(zs:List α):(xs++y::zs).eraseIdx xs.length=xs++zs:=by
 grind
theorem Jn(w:World){kt:TypeId}(hk:P.underlying kt=some (.int .i64))(k:Int)(b:Bool):(Instr.checkKey b 10000 kt (.int .i64 k)).run P w=.ok () w:=by
 rw[show 10000=9999+1 from rfl]
 unfold Instr.checkKey
 simp[run_underlying hk]
theorem St.setBlock{w:World}{o o':Obj}(h:St B w0 H w)(u:Upd (Eng.blk g o) (Eng.blk g o') H K):St B w0 K (ChangeMaps.setBlock w g o'):=by
 refine h.upd u rfl rfl rfl (by simp[ChangeMaps.setBlock]) λS1 ⟨h1,h2⟩=>⟨⟨h1,?_⟩,λb hb _=>?_⟩
 all_goals grind [Go.ChangeMaps.setBlock]
theorem YbX{t:TypeId}(hn:Nat.ble (d+1) n.k=true)(h:∀g,VL P none n B w0 ops Q rest ((d,.map (some g))::env) (blk g (mobj [] 0)::H)):VL P none n B w0 ops Q (⟨some d,.makeMap t none,ty,pos,after,none⟩::rest) env H:=
 Xj (λv K=>∃g,v=.map (some g)/\K=blk g (mobj [] 0)::H) rfl rfl hn
  (λa w _ hw=>⟨_,_,w.alloc (mobj [] 0),by simp_all [execOp,Go.Instr.makeMap,mobj],hw.alloc _,w.heap.size,rfl,rfl⟩)
  zc43
theorem Yi6(hx:evo env x=some (.map (some g)))(hy:evo env y=some (.int .i64 k))(hm:blk g (mobj es clock)∈H)(ht:mapT P t kt et=true)(hn:Nat.ble (d+1) n.k=true)(hk:mget es k=some v)
 (h:VL P m n B w0 ops Q rest ((d,v)::env) H):VL P m n B w0 ops Q (⟨some d,.lookup t x y false,ty,pos,after,none⟩::rest) env H:=by
 obtain⟨h1,h2⟩:=Z5 ht
 refine Yt rfl rfl hn rfl (λa w ha hw=>?_) h
 have hb:=(hw.blk hm).1
 unfold mobj at hb
 obtain⟨l1,b,l2,_,_,e3⟩:=Vc 0 hk
 simp[execOp,ha.eval hx,ha.eval hy,Instr.lookup,run_underlying h1,getObj,Sem.run,hb,Jn _ h2,MapKept.run_findKey h2 e3]
theorem Yi5{z:Value}(hx:evo env x=some (.map (some g)))(hy:evo env y=some (.int .i64 k))(hm:blk g (mobj es clock)∈H)(ht:mapT P t kt et=true)(hn:Nat.ble (d+1) n.k=true)(hk:mget es k=none)(hz:∀w,(zeroValue et).run P w=.ok z w)
 (h:VL P m n B w0 ops Q rest ((d,z)::env) H):VL P m n B w0 ops Q (⟨some d,.lookup t x y false,ty,pos,after,none⟩::rest) env H:=by
 obtain⟨h1,h2⟩:=Z5 ht
 refine Yt rfl rfl hn rfl (λa w ha hw=>?_) h
 have hb:=(hw.blk hm).1
 unfold mobj at hb
 simp[execOp,ha.eval hx,ha.eval hy,Instr.lookup,run_underlying h1,getObj,Sem.run,hb,Jn _ h2,MapKept.run_findKey h2 (QB 0 hk),hz]
theorem Ymh(hx:evo env x=some (.map (some g)))(hy:evo env y=some (.int .i64 k))(hv:evo env u=some v)(ht:mapT P t kt et=true)
 (hu:Upd (blk g (mobj es clock)) (blk g (mobj (es++[(k,v,clock)]) (clock+1))) H K) (hk:mget es k=none)
 (h:VL P none n B w0 ops Q rest env K):VL P none n B w0 ops Q (⟨none,.mapUpdate t x y u,ty,pos,after,none⟩::rest) env H:=zc24
theorem Ymi(hx:evo env x=some (.map (some g)))(hy:evo env y=some (.int .i64 k))(hv:evo env u=some v)(ht:mapT P t kt et=true)
 (hu:Upd (blk g (mobj (l1++(k,v0,b)::l2) clock)) (blk g (mobj (l1++(k,v,b)::l2) clock)) H K) (hk:∀e∈l1,e.1≠k)
 (h:VL P none n B w0 ops Q rest env K):VL P none n B w0 ops Q (⟨none,.mapUpdate t x y u,ty,pos,after,none⟩::rest) env H:=by
 obtain⟨h1,h2⟩:=Z5 ht
 refine JJ rfl rfl (λa w ha hw=>⟨setBlock w g (mobj (l1++(k,v,b)::l2) clock),?_,hw.setBlock hu⟩) h
 have hb:w.heap[g]? =some (mobj (l1++(k,v0,b)::l2) clock):=zc33
 have hf:=O5 (l2:=l2) (v0:=v0) (b:=b) hk
 exact zc15
theorem Yok(hx:evo env x=some (.map (some g)))(hm:blk g (mobj es clock)∈H)(ht:mapT P t kt et=true)(hn:Nat.ble (d+1) n.k=true)
 (h:∀r,VL P none n B w0 ops Q rest ((d,.pointer (some ⟨r,0,none⟩))::env) (blk r (.mapIter (some g) clock #[] clock)::H)):VL P none n B w0 ops Q (⟨some d,.range t x,ty,pos,after,none⟩::rest) env H:=by
 obtain⟨h1,h2⟩:=Z5 ht
 refine Xj (λv K=>∃r,v=.pointer (some ⟨r,0,none⟩)/\K=blk r (.mapIter (some g) clock #[] clock)::H) rfl rfl hn (λa w ha hw=>?_) zc43
 have hb:=(hw.blk hm).1
 unfold mobj at hb
 refine⟨_,_,w.alloc (.mapIter (some g) clock #[] clock),?_,hw.alloc _,w.heap.size,rfl,rfl⟩
 simp[execOp,ha.eval hx,Instr.range,run_underlying h1,getObj,Sem.run,hb,newObj]
variable {seen:Array Nat}
theorem Yq0{c0:Nat}{K:Nat->List HP}(hx:evo env x=some (.pointer (some ⟨r,0,none⟩)))(hm:blk g (mobj es clock)∈H)(hn:Nat.ble (d+1) n.k=true)
 (hu:∀b,Upd (blk r (.mapIter (some g) since seen c0)) (blk r (.mapIter (some g) since (seen.push b) clock)) H (K b)) (hold:∀e∈es,e.2.2<since) (hsc:since<=c0)
 (h1:(∀e∈es,seen.contains e.2.2=true)->VL P none n B w0 ops Q rest ((d,.tuple #[.bool false])::env) H)
 (h2:∀e∈es,seen.contains e.2.2=false->VL P none n B w0 ops Q rest ((d,.tuple #[.bool true,.int .i64 e.1,e.2.1])::env) (K e.2.2)):
 VL P none n B w0 ops Q (⟨some d,.next x false,ty,pos,after,none⟩::rest) env H:=by
 refine Xj (λv K'=>(v=.tuple #[.bool false]/\K'=H/\∀e∈es,seen.contains e.2.2=true)\/∃e∈es,seen.contains e.2.2=false/\v=.tuple #[.bool true,.int .i64 e.1,e.2.1]/\K'=K e.2.2) rfl rfl hn (λa w ha hw=>?_) (by
  rintro _ _ (⟨rfl,rfl,hs⟩|⟨e,he,hs,rfl,rfl⟩)
  ·exact h1 hs
  ·exact h2 e he hs)
 have hb:=(hw.blk hm).1
 have hr:w.heap[r]? =some (.mapIter (some g) since seen c0):=by
  obtain⟨L1,L2,e,_⟩:=hu 0
  exact(hw.blk (by simp_all)).1
 have hold':∀x∈((es.map toE).toArray).toList,x.born<since:=by
  intro x hx
  obtain⟨e,he,rfl⟩:=TC.1 hx
  exact hold e he
 have hx':(execOp a.eval ⟨some d,.next x false,ty,pos,after,none⟩).run P w=((Instr.next (.pointer (some ⟨r,0,none⟩)) false ty).run P w).andThen λv w'=>.ok (.value v) w':=YlZ
 rcases run_next_at (P:=P) w ty r g since c0 seen _ clock hr hb hold' hsc with⟨hz,hrun⟩|⟨e,he,w1,hw1,hrun⟩
 ·refine⟨_,H,w,by rw[hx',hrun];rfl,hw,.inl ⟨rfl,rfl,λe he=>?_⟩⟩
  cases hs:seen.contains e.2.2 with
  |true=>rfl
  |false=>
   have:toE e∈(leftOf (es.map toE).toArray seen).toList:=by
    simp only[leftOf,Array.toList_filter,RA,TC]
    exact⟨⟨e,he,rfl⟩,by rw[show(toE e).born=e.2.2 from rfl,hs];rfl⟩
   have h0:(leftOf (es.map toE).toArray seen).toList=[]:=by
    rw[Array.eq_empty_of_size_eq_zero hz]
   rw[h0]at this
   cases this
 ·have hmem:e∈es.map toE/\seen.contains e.born=false:=by
   have:=he
   simp only[leftOf,Array.toList_filter,RA]at this
   exact⟨this.1,by simpa using this.2⟩
  obtain⟨⟨e0,he0,rfl⟩,hs⟩:=(⟨TC.1 hmem.1,hmem.2⟩:(∃e0∈es,toE e0=e)/\_)
  have hw1':St B w0 H w1:=by
   rcases hw1 with rfl|rfl
   ·exact hw
   ·exact hw.drew
  exact⟨_,K e0.2.2,_,by rw[hx',hrun];rfl,hw1'.setBlock (hu _),.inr ⟨e0,he0,hs,rfl,rfl⟩⟩
theorem Yod{e:Int×Value×Nat}(hx:evo env x=some (.pointer (some ⟨r,0,none⟩)))(hm:blk g (mobj es clock)∈H)(hr:blk r (.mapIter (some g) since (seen.push e.2.2) clock)∈H)(hn:Nat.ble (d+1) n.k=true)
 (he:e∈es) (hnd:(es.map (·.2.2)).Nodup)
 (h:VL P none n B w0 ops Q rest ((d,.tuple #[.int .i64 e.1,e.2.1])::env) H):VL P none n B w0 ops Q (⟨some d,.entry x,ty,pos,after,none⟩::rest) env H:=by
 refine Yee rfl rfl hn (λa w ha hw=>⟨w,?_,hw⟩) h
 have hb:=(hw.blk hm).1
 have hrun:=run_entry_at (P:=P) w r g since seen _ clock (toE e) (hw.blk hr).1 hb (TC.2 ⟨e,he,rfl⟩) (by grind [toE])
 simp[execOp,ha.eval hx,hrun,toE]
theorem Yoj{o:Oper}{H':List HP}(hg:o.guard=none)(hd:o.dst=none)
 (hr:∀a w,Fits n a env->St B w0 H w->∃w',(execOp a.eval o).run P w=.ok (.value v) w'/\St B w0 H' w')
 (h:VL P none n B w0 ops Q rest env H'):VL P none n B w0 ops Q (o::rest) env H:=by
 refine⟨λa ha w hw=>wpList_plain hg λK hK=>?_⟩
 obtain⟨w',hrun,hst⟩:=hr a w ha hw
 unfold Oper.wp
 rw[hrun,Oper.upon_value,hd]
 exact hK _ _ (h.run _ ha _ hst)
theorem Yme(hx:evo env x=some (.map (some g)))(hy:evo env y=some (.int .i64 k))(ht:mapT P t kt et=true)
 (hu:Upd (blk g (mobj (l1++(k,v0,b)::l2) clock)) (blk g (mobj (l1++l2) clock)) H K) (hk:∀e∈l1,e.1≠k)
 (h:VL P none n B w0 ops Q rest env K):VL P none n B w0 ops Q (⟨none,.call ⟨.builtin .delete,#[x,y],#[t,kt]⟩,ty,pos,after,none⟩::rest) env H:=by
 obtain⟨h1,h2⟩:=Z5 ht
 have hf:=O5 (l2:=l2) (v0:=v0) (b:=b) hk
 have hsz:(l1++(k,v0,b)::l2).map toE=l1.map toE++toE (k,v0,b)::l2.map toE:=by simp
 have her:(List.map toE (l1++(k,v0,b)::l2)).eraseIdx l1.length=List.map toE (l1++l2):=by
  grind [YmM]
 refine Yoj (v:=.tuple #[]) rfl rfl (λa w ha hw=>⟨setBlock w g (mobj (l1++l2) clock),?_,hw.setBlock hu⟩) h
 have hb:w.heap[g]? =some (mobj (l1++(k,v0,b)::l2) clock):=zc33
 unfold mobj at hb
 have hrun:(Builtin.delete_ #[t,kt] ty #[.map (some g),.int .i64 k]).run P w=.ok (.tuple #[]) (setBlock w g (mobj (l1++l2) clock)):=by
  unfold mobj
  clear hsz hu hk
  generalize List.map toE (l1++(k,v0,b)::l2)=L at hf her hb
  generalize List.map toE (l1++l2)=L2 at her
  simp[Builtin.delete_,run_underlying h1,getObj,Sem.run,hb,Jn _ h2,MapKept.run_findKey h2 hf,her,MapKept.run_setObj_map _ hb,setBlock]
 simp[execOp,resolve,ha.eval hx,ha.eval hy,invoke,builtin,hrun]
theorem Yr{fn:Fn}{caps:List Operand}(hc:Args env caps cs)(hn:Nat.ble (d+1) n.k=true)(h:VL P none n B w0 ops Q rest ((d,.func fn #[] cs.toArray)::env) H):
 VL P none n B w0 ops Q (⟨some d,.makeFunc fn #[] caps.toArray,ty,pos,after,none⟩::rest) env H:=by
 refine Yee rfl rfl hn (λa w ha hw=>⟨w,?_,hw⟩) h
 have hmap:caps.toArray.map a.eval=cs.toArray:=by grind [Ua]
 simp[execOp,Instr.makeFunc,hmap]
theorem Yob{f:Nat}{args:List Operand}{tys:Array TypeId}{vs:List Value}(Φ:Value->List HP->Prop)(hx:evo env x=some (.func (.func f) #[] cs.toArray))
 (hc:∀xs w,(callFunc f xs).run P w=.ok (.enter f xs) w) (hargs:Args env args vs) (hn:Nat.ble (d+1) n.k=true)
 (hcall:∀w,St B w0 H w->Calls P f (vs++cs).toArray w (Post B w0 Φ))
 (h:∀v H',Φ v H'->VL P none n B w0 ops Q rest ((d,v)::env) H'):
 VL P none n B w0 ops Q (⟨some d,.call ⟨.value x,args.toArray,tys⟩,ty,pos,after,none⟩::rest) env H:=by
 refine⟨λa ha w hw=>wpList_plain rfl λK hK=>?_⟩
 unfold Oper.wp
 have hmap:args.toArray.map a.eval=vs.toArray:=by grind [Ua]
 have hrun:(execOp a.eval ⟨some d,.call ⟨.value x,args.toArray,tys⟩,ty,pos,after,none⟩).run P w=.ok (.enter f (vs++cs).toArray) w:=zc32
 rw[hrun,Oper.upon_enter]
 exact zc41
def many(L:List HP):HP:=⟨λS w=>sepL L S w,λh hs=>QY hs h⟩
theorem Ydp{M:List HP}{w:World}:∀{L:List HP}{S:Nat->Prop},sepL (L++M) S w->∃S1 S2:Nat->Prop,(∀b,S1 b->S b)/\(∀b,S2 b->S b)/\(∀b,S1 b->¬S2 b)/\sepL L S1 w/\sepL M S2 w
 |[],S,h=>⟨λ_=>False,S,λ_ hb=>hb.elim,λ_ hb=>hb,λ_ hb=>hb.elim,trivial,h⟩
 |A::L,S,h=>by
  obtain⟨T1,T2,h1,h2,h3,h4,h5⟩:=h
  obtain⟨U1,U2,k1,k2,k3,k4,k5⟩:=Ydp h5
  refine⟨λb=>T1 b\/U1 b,U2,λb hb=>hb.elim (h1 b) (λhb=>h2 b (k1 b hb)),λb hb=>h2 b (k2 b hb),λb hb hc=>?_,⟨T1,U1,λb hb=>.inl hb,λb hb=>.inr hb,λb hb hc=>h3 b hb (k1 b hc),h4,k4⟩,k5⟩
  grind
theorem Yfc{M:List HP}{w:World}:∀{L:List HP}{S S1 S2:Nat->Prop},(∀b,S1 b->S b)->(∀b,S2 b->S b)->(∀b,S1 b->¬S2 b)->sepL L S1 w->sepL M S2 w->sepL (L++M) S w
 |[],_,_,_,_,h2,_,_,h=>Vm h h2
 |A::L,S,S1,S2,h1,h2,h3,h4,h5=>by
  obtain⟨T1,T2,k1,k2,k3,k4,k5⟩:=h4
  refine⟨T1,λb=>T2 b\/S2 b,λb hb=>h1 b (k1 b hb),λb hb=>hb.elim (λhb=>h1 b (k2 b hb)) (h2 b),λb hb hc=>?_,k4,Yfc (λb hb=>.inl hb) (λb hb=>.inr hb) (λb hb hc=>h3 b (k2 b hb) hc) k5 h5⟩
  simp_all
theorem Perm.open_(L M:List HP):Perm (many L::M) (L++M):=⟨λ_ _ ⟨_,_,h1,h2,h3,h4,h5⟩=>Yfc h1 h2 h3 h4 h5⟩
theorem Perm.close(L M:List HP):Perm (L++M) (many L::M):=⟨λ_ _ h=>Ydp h⟩
theorem Perm.mid(A:HP):∀(L M:List HP),Perm (L++A::M) (A::(L++M))
 |[],_=>.refl _
 |B::L,M=>.trans (.cons B (.mid A L M)) (.swap B A (L++M))
theorem Perm.mid'(A:HP):∀(L M:List HP),Perm (A::(L++M)) (L++A::M)
 |[],_=>.refl _
 |B::L,M=>.trans (.swap A B (L++M)) (.cons B (.mid' A L M))
theorem Perm.drop(A:HP)(L:List HP):Perm (A::L) L:=⟨λ_ _ h=>Yfd h⟩
theorem Perm.pull(A:HP)(L1 L2 M:List HP):Perm (many (L1++A::L2)::M) (A::many (L1++L2)::M):=by
 refine .trans (.open_ _ _) ?_
 rw[Re,TA]
 refine .trans (.mid A L1 (L2++M)) (.cons A ?_)
 rw[<-Re]
 exact .close _ _
theorem Perm.push(A:HP)(L1 L2 M:List HP):Perm (A::many (L1++L2)::M) (many (L1++A::L2)::M):=by
 refine .trans (.cons A (.open_ _ _)) ?_
 rw[Re]
 refine .trans (.mid' A L1 (L2++M)) ?_
 rw[<-TA,<-Re]
 exact .close _ _
theorem Perm.noMany(M:List HP):Perm M (many []::M):=.close [] M
end
inductive PutAt:List Value->Nat->List Value->List Value->Prop
 |nil {l:List Value}{o:Nat}:PutAt l o [] l
 |cons {l l1 l' r:List Value}{o:Nat}{v:Value}(h:Yed l o v l1) (h2:PutAt l1 (o+1) r l'):PutAt l o (v::r) l'
section
variable {P:Program}{m:Mode}{n:Shp}{B:Nat}{w0:World}{ops:Array Oper}{Q:Exit->Act->World->Prop}{rest:List Oper}{env:Env}{H:List HP}{d:Nat}{ty:TypeId}{pos:String}{after:Array Edge}
theorem OM{g:Nat}{tt:TypeId}{fr:Nat×Nat}:∀{vs cs cs':List Value}{o:Nat}{w:World},PutAt cs o vs cs'->w.heap[g]? =some (.cells cs.toArray tt fr)->(w.setCells g o vs).heap[g]? =some (.cells cs'.toArray tt fr)
 |[],_,_,_,_,h,hb=>by cases h;exact hb
 |v::vs,cs,cs',o,w,h,hb=>by
  cases h with
  |cons h1 h2=>
   rw[World.setCells]
   refine OM h2 ?_
   obtain⟨_,rfl⟩:=h1
   grind [Go.World.setCell]
theorem J4{g b:Nat}(hne:b≠g):∀(vs:List Value) (o:Nat) (w:World),(w.setCells g o vs).heap[b]? =w.heap[b]?
 |[],_,_=>rfl
 |v::vs,o,w=>by rw[World.setCells,J4 hne vs (o+1)];exact Below.heap_setCell w _ v b hne
theorem OS{g:Nat}:∀(vs:List Value) (o:Nat) (w:World),(w.setCells g o vs).os=w.os/\(w.setCells g o vs).tape=w.tape/\(w.setCells g o vs).output=w.output/\(w.setCells g o vs).heap.size=w.heap.size
 |[],_,_=>⟨rfl,rfl,rfl,rfl⟩
 |v::vs,o,w=>by
  obtain⟨h1,h2,h3,h4⟩:=OS (g:=g) vs (o+1) (w.setCell ⟨g,o,none⟩ v)
  exact⟨h1,h2,h3,h4.trans (by simp)⟩
variable {w:World}{K H2:List HP}{g t k p:Nat}{cs' vs:List Value}{tt:TypeId}{fr:Nat×Nat}
theorem St.setCells{o:Nat}{cs:List Value}(h:St B w0 H w)(hp:PutAt cs o vs cs')
 (u:Upd (Eng.blk g (.cells cs.toArray tt fr)) (Eng.blk g (.cells cs'.toArray tt fr)) H K):St B w0 K (w.setCells g o vs):=by
 obtain⟨h1,h2,h3,h4⟩:=OS (g:=g) vs o w
 refine h.upd u h1 h2 h3 (Nat.le_of_eq h4.symm) λS1 ⟨hs,hb⟩=>⟨⟨hs,OM hp hb⟩,λb hnb _=>J4 (λe:b=g=>hnb (by simp_all)) vs o w⟩
theorem Yin:∀{vs l l':List Value}{o:Nat},PutAt l o vs l'->∀j,j<vs.length->o+j<l.length
 |[],_,_,_,_,j,hj=>by simp at hj
 |v::vs,l,l',o,h,j,hj=>by
  cases h with
  |cons h1 h2=>
   obtain⟨h0,rfl⟩:=h1
   cases j with
   |zero=>exact h0
   |succ j=>have:=Yin h2 j (by simp_all);grind
theorem Qn(T:Tab P){i:Nat}{cs:List Value}{x y:Operand}(hx:evo env x=some (.pointer (some ⟨g,i,none⟩)))(hy:evo env y=some (.agg vs.toArray))(h1:ZM vs=true)
 (hu:Upd (blk g (.cells cs.toArray tt (0,0))) (blk g (.cells cs'.toArray tt (0,0))) H K) (hs:PutAt cs i vs cs')
 (ht:look T.ag t=some k) (hk:vs.length=k) (h:VL P none n B w0 ops Q rest env K):VL P none n B w0 ops Q (⟨none,.store t x y,ty,pos,after,none⟩::rest) env H:=by
 refine JJ rfl rfl (λa w ha hw=>⟨w.setCells g i vs,?_,hw.setCells hs hu⟩) h
 have hb:w.heap[g]? =some (.cells cs.toArray tt (0,0)):=zc33
 have hr:=run_storeCells_cells (P:=P) g i vs 0 w (λj hj=>by
  rw[SV,YW hb];grind [Yin]) (λj hj=>by exact Yfk) (Zl h1)
 simp[execOp,ha.eval hx,ha.eval hy,Instr.storeAt,Instr.sureAddr,storeVar,Value.cells,ZO (Up (T.aggs ht)),hk,hr]
variable {cs:Array Value}
theorem Vg(T:Tab P)(hb:w.heap[g]? =some (.cells cs tt fr))(ht:look T.ag t=some k)(hk:cs.size=k):(loadVar t ⟨g,0,none⟩).run P w=.ok (.agg cs) w:=by
 have hl:=run_loadCells_list (P:=P) w ⟨g,0,none⟩ cs.toList (λj v hj=>by exact YtW)
 rw[show cs.toList.length=k by omega]at hl
 simp[loadVar,Jo (T.aggs ht),ZO (Up (T.aggs ht)),hl]
variable {fn:Func}{Φ:Value->List HP->Prop}
theorem Vu{n:Nat}(T:Tab P){rt:Nat}(hr:fn.results=#[.cell p rt])(hp:get env p=some (.pointer (some ⟨g,0,none⟩)))
 (hm:blk g (.cells cs tt fr)∈H) (ht:look T.ag rt=some k) (hk:cs.size=k) (hH:∀w,St B w0 H w->St B w0 H2 w) (h:Φ (.agg cs) H2):VQ ⟨n,[],none⟩ B w0 (bodyPost P fn (Post B w0 Φ)) .ret env H:=by
 refine⟨λa w ha hw=>bodyPost_ret (v:=.agg cs) ?_ ha.defers ⟨_,H2,rfl,hH w hw,h⟩⟩
 have hp':=ha.slot p _ hp
 simp[results,hr,Array.getD_eq_getD_getElem?,hp',asAddr,Vg T (hw.blk hm).1 ht hk]
theorem Yv{n:Nat}(T:Tab P){u rt:Nat}{x:Value}(hr:fn.results=#[.cell p rt,.tmp u])(hp:get env p=some (.pointer (some ⟨g,0,none⟩)))(hu:get env u=some x)
 (hm:blk g (.cells cs tt fr)∈H) (ht:look T.ag rt=some k) (hk:cs.size=k) (hH:∀w,St B w0 H w->St B w0 H2 w) (h:Φ (.tuple #[.agg cs,x]) H2):VQ ⟨n,[],none⟩ B w0 (bodyPost P fn (Post B w0 Φ)) .ret env H:=by
 refine⟨λa w ha hw=>bodyPost_ret (v:=.tuple #[.agg cs,x]) ?_ ha.defers ⟨_,H2,rfl,hH w hw,h⟩⟩
 have hp':=ha.slot p _ hp
 simp[results,hr,Array.getD_eq_getD_getElem?,hp',ha.slot u _ hu,asAddr,Vg T (hw.blk hm).1 ht hk]
end
inductive OT where
 |done
 |n1 (i:Nat) (t:OT)
 |n2 (i:Nat) (t:OT) (j:Nat) (u:OT)
section
variable {P:Program}{n:Shp}{B:Nat}{w0:World}{Q:Exit->Act->World->Prop}{env:Env}{H:List HP}{ops:Array Oper}
def VS(P:Program)(ops:Array Oper)(l:List Oper)(Q:Exit->Act->World->Prop)(S:World->Prop):OT->Act->World->Prop
 |.done,a,w=>Q .normal a w
 |.n1 i t,a,w=>Ys P ops (λe a w=>match e with|.normal=>VS P ops l Q S t a w|_=>False) S [nthO l i] a w
 |.n2 i t j u,a,w=>Ys P ops (λe a w=>match e with|.normal=>VS P ops l Q S t a w|_=>False) S [nthO l i] a w/\Ys P ops (λe a w=>match e with|.normal=>VS P ops l Q S u a w|_=>False) S [nthO l j] a w
def V9(ops:Array Oper)(i:Nat):Bool:=match ops[i]? with|some o=>eff o|none=>false
def YdA(ops:Array Oper)(last:List Nat):OT->Array Bool->Nat->Bool
 |.done,listed,0=>Wc ops last listed
 |.done,_,_+1=>false
 |.n1 i t,listed,k+1=>!last.contains i&&(match ops[i]? with
  |some o=>if eff o then decide (Region.ready .any ops listed=[i])else(Region.ready .any ops listed).contains i&&Region.free .any ops listed i
  |none=>false)&&YdA ops last t (listed.setIfInBounds i true) k
 |.n2 i t j u,listed,k+1=>!last.contains i&&!last.contains j&&V9 ops i&&V9 ops j&&((Region.ready .any ops listed).all λx=>x==i||x==j)&&!(Region.ready .any ops listed).isEmpty&&YdA ops last t (listed.setIfInBounds i true) k&&YdA ops last u (listed.setIfInBounds j true) k
 |.n1 _ _,_,0=>false
 |.n2 _ _ _ _,_,0=>false
variable {l:List Oper}{i:Nat}{o:Oper}
theorem Xf(hl:ops=l.toArray)(ho:ops[i]? =some o):nthO l i=o:=by
 grind [QR]
theorem Vx{S:World->Prop}{Q1:Exit->Act->World->Prop}{last:List Nat}{k:Nat}{listed:Array Bool}{a:Act}{w:World}(ho:ops[i]? =some o)(he:eff o=true)(_hl:last.contains i=false)
 (hQ1:∀e a w,e≠.normal->¬Q1 e a w) (hS:S w) (h:Ys P ops Q1 S [o] a w)
 (hk:∀a w,S w->Q1 .normal a w->XT P ops Q S last k (listed.setIfInBounds i true) a w):
 wpOp P ops Q i (λa' w'=>(last.contains i=false->S w')/\XT P ops Q S last k (listed.setIfInBounds i true) a' w') a w:=by
 unfold Ys at h
 rw[Tn he]at h
 unfold wpOp
 simp only[ho]
 by_cases hw:Region.wanted o (yielded ops a.tmps)=true
 ·rw[Tn hw]at h⊢
  refine .inl (Oper.wp_mono_noQ (λc a w=>hQ1 _ a w (by simp_all)) (by rintro⟨a,w,h⟩;simp_all) (Oper.wp_mono (λa' w' h'=>?_) h))
  exact⟨λ_=>h'.1,hk a' w' h'.1 h'.2⟩
 ·rw[Tf hw]at h⊢
  exact⟨λ_=>hS,hk _ w hS h⟩
theorem VP{S:World->Prop}{last:List Nat}(hs:Region.noSelect ops=true)(hQ:∀c (a:Act) (w:World),¬Q (.panic c) a w)(hlo:¬LetsOut Q)(l:List Oper)(hl:ops=l.toArray)(hlast:YeR ops last=true):
 ∀(t:OT) (k:Nat) (listed:Array Bool) (a:Act) (w:World),Closed ops listed->YdA ops last t listed k=true->S w->VS P ops l (ZS P ops Q (Yd l last)) S t a w->
  XT P ops Q S last (k+last.length) listed a w
 |.done,0,listed,a,w,_,hB,_,h=>by
  have:=Wl (S:=S) l hl (U8 hlast).1 hlo last listed a w (λj hj=>by simp_all) hB h
  simp_all
 |.done,_+1,_,_,_,_,hB,_,_=>by cases hB
 |.n1 _ _,0,_,_,_,_,hB,_,_=>by cases hB
 |.n2 _ _ _ _,0,_,_,_,_,hB,_,_=>by cases hB
 |.n1 i t,k+1,listed,a,w,hcl,hB,hS,h=>by
  simp only[YdA,Tm]at hB
  obtain⟨⟨h0,h1⟩,h2⟩:=hB
  have hno:last.contains i=false:=by simp_all
  cases ho:ops[i]? with
  |none=>simp_all
  |some o=>
   rw[ho]at h1
   have hget:=Xf hl ho
   unfold VS at h
   rw[hget]at h
   rw[Su]
   by_cases he:eff o=true
   ·simp only[he,Nb,To]at h1
    refine⟨λh0=>(by simp_all),λj hj=>?_⟩
    have hj':=hj
    rw[h1]at hj
    obtain rfl:j=i:=by simp_all
    exact Vx ho he hno (λe a w hne=>by simp_all) hS h λa w hS' h'=>VP hs hQ hlo l hl hlast t k _ a w (hcl.set hj') h2 hS' h'
   ·simp only[he]at h1
    simp only[RU,NA,Tm]at h1
    unfold Ys at h
    rw[Tf he]at h
    obtain⟨v,hy,h3⟩:=h
    have hr:i∈Region.ready .any ops listed:=by simp_all
    exact Jt ho (Region.noSelect_spec hs) hQ ((U8 hlast).2 i o ho (by simp_all)) hno _ listed a w hcl (Region.free_spec ho h1.2) hr hy hS (VP hs hQ hlo l hl hlast t k _ _ w (hcl.set hr) h2 hS h3)
 |.n2 i t j u,k+1,listed,a,w,hcl,hB,hS,h=>by
  simp only[YdA,Tm]at hB
  obtain⟨⟨⟨⟨⟨⟨⟨b1,b2⟩,b3⟩,b4⟩,b5⟩,b6⟩,b7⟩,b8⟩:=hB
  have hi:last.contains i=false:=by simp_all
  have hj:last.contains j=false:=by simp_all
  unfold VS at h
  rw[Su]
  refine⟨λh0=>(by simp_all),λx hx=>?_⟩
  have h5:=TK.1 b5 x hx
  simp only[RG,Nx]at h5
  rcases h5 with rfl|rfl
  ·unfold V9 at b3
   cases ho:ops[x]? with
   |none=>simp_all
   |some o=>
    rw[ho]at b3
    have hg:=h.1
    rw[Xf hl ho]at hg
    exact Vx ho b3 hi (λe a w hne=>by cases e<;>simp_all) hS hg λa w hS' h'=>VP hs hQ hlo l hl hlast t k _ a w (hcl.set hx) b7 hS' h'
  ·unfold V9 at b4
   cases ho:ops[x]? with
   |none=>rw[ho]at b4;cases b4
   |some o=>
    rw[ho]at b4
    have hg:=h.2
    rw[Xf hl ho]at hg
    exact Vx ho b4 hj (λe a w hne=>by cases e<;>simp_all) hS hg λa w hS' h'=>VP hs hQ hlo l hl hlast u k _ a w (hcl.set hx) b8 hS' h'
structure VT(P:Program)(n:Shp)(B:Nat)(w0:World)(ops:Array Oper)(l:List Oper)(Q:Exit->Act->World->Prop)(t:OT)(env:Env)(H F:List HP):Prop where
 run:∀a,Fits n a env->∀w,St B w0 (H++F) w->VS P ops l Q (St B w0 H) t a w
def WB(P:Program)(B:Nat)(w0:World)(ops:Array Oper)(l:List Oper)(Q:Exit->Act->World->Prop)(Hc:List HP)(t:OT):Exit->Act->World->Prop
 |.normal,a,w=>VS P ops l Q (St B w0 Hc) t a w
 |_,_,_=>False
variable {t:OT}
theorem YdB:WB P B w0 ops l Q H t=λe a w=>match e with|.normal=>VS P ops l Q (St B w0 H) t a w|_=>False:=by
 funext e a w
 cases e<;>rfl
variable {F Hc:List HP}
theorem YkJ{HF:List HP}(happ:App H F HF)(h:VQ n B w0 Q .normal env HF):VT P n B w0 ops l Q .done env H F:=
 ⟨λa ha w hw=>by exact zc97⟩
theorem YuV(ho:nthO l i=o)(h:VL P (some (some F)) n B w0 ops (WB P B w0 ops l Q H t) [o] env H):VT P n B w0 ops l Q (.n1 i t) env H F:=by
 refine⟨λa ha w hw=>?_⟩
 have h1:Ys P ops (WB P B w0 ops l Q H t) (St B w0 H) [o] a w:=h.run a ha w hw
 grind [VS,YdB]
theorem YuW{j:Nat}{u:OT}{o':Oper}(ho:nthO l i=o)(ho':nthO l j=o')(h:VL P (some (some F)) n B w0 ops (WB P B w0 ops l Q H t) [o] env H)
 (h':VL P (some (some F)) n B w0 ops (WB P B w0 ops l Q H u) [o'] env H):VT P n B w0 ops l Q (.n2 i t j u) env H F:=by
 refine⟨λa ha w hw=>?_⟩
 have h1:Ys P ops (WB P B w0 ops l Q H t) (St B w0 H) [o] a w:=h.run a ha w hw
 have h2:Ys P ops (WB P B w0 ops l Q H u) (St B w0 H) [o'] a w:=h'.run a ha w hw
 unfold VS
 rw[ho,ho',<-YdB,<-YdB]
 simp_all
theorem Y7{H':List HP}(hp:Pull Hc H' F)(h:VT P n B w0 ops l Q t env Hc F):VQ n B w0 (WB P B w0 ops l Q Hc t) .normal env H':=
 ⟨λa w ha hw=>h.run a ha w (hw.perm hp)⟩
theorem JH{id:Nat}(t:OT)(last:List Nat)(mask:List Bool)(hm:P.follows .mixedOrders=true)
 (hB:(Region.noSelect l.toArray&&decide (last.length<=l.toArray.size)&&YeR l.toArray last&&YdA l.toArray last t (Array.replicate l.toArray.size false) (l.toArray.size-last.length))=true)
 (hsp:Split mask H Hc F) {l2:List Oper}(hl2:Yd l last=l2) (h:VT P n B w0 l.toArray l (ZS P l.toArray (Only Q) l2) t env Hc F):VC P n B w0 (.region id l.toArray true) Q env H:=by
 simp only[Tm,To]at hB
 obtain⟨⟨⟨h1,h2⟩,h3⟩,h5⟩:=hB
 refine⟨λa w ha hw=>Zp (Q:=Only Q) ?_ λe a w h=>by exact zc60⟩
 have hst:St B w0 (Hc++F) w.drew:=(hw.perm (Xx hsp)).drew
 have hr:=h.run a ha w.drew hst
 rw[<-hl2]at hr
 have:=VP (S:=St B w0 Hc) h1 (λc a w h=>h) zc42 l rfl h3 t _ _ a w.drew (XG _ _) h5 hst.prefix_ hr
 exact YqH
theorem ZH{α:Type}(E:α->Env)(HH:α->List HP){x y:Code}(h1:∀K:Act->World->Prop,(∀z env' H',(∀t v,get (E z) t=some v->get env' t=some v)->(∀w,St B w0 H' w->St B w0 (HH z) w)->VQ n B w0 (Exit.then K Q) .normal env' H')->VC P n B w0 x (Exit.then K Q) env H)
 (h2:∀z,VC P n B w0 y Q (E z) (HH z)):VC P n B w0 x (Exit.then (wpR P n.r y Q) Q) env H:=by
 have h:=h1 (λa w=>∃z,Fits n a (E z)/\St B w0 (HH z) w) (λz env' H' he hH=>⟨λa w ha hw=>⟨z,ha.sub he,hH w hw⟩⟩)
 refine⟨λa w ha hw=>Zp (h.run a w ha hw) ?_⟩
 intro e a w hq
 cases e with
 |normal=>obtain⟨z,h3,h4⟩:=hq;exact(h2 z).run a w h3 h4
 |exit id=>exact hq
 |goto l=>exact hq
 |ret=>exact hq
 |panic ch=>exact hq
 |outgrown=>exact hq
theorem Xl{d f:Nat}{args:List Operand}{tys:Array TypeId}{ty:TypeId}{pos:String}{after:Array Edge}{vs:List Value}{rest:List Oper}(L:List HP){M LM:List HP}(Φ:Value->List HP->Prop)
 (hc:∀xs w,(callFunc f xs).run P w=.ok (.enter f xs) w) (hargs:Args env args vs) (hp:Pull L H M) (happ:App L M LM) (hn:Nat.ble (d+1) n.k=true)
 (hcall:∀w,St B w0 LM w->Calls P f vs.toArray w (Post B w0 Φ))
 (h:∀v H',Φ v H'->VL P none n B w0 ops Q rest ((d,v)::env) H'):
 VL P none n B w0 ops Q (⟨some d,.call ⟨.value (.func f),args.toArray,tys⟩,ty,pos,after,none⟩::rest) env H:=
 Yf Φ hc hargs hn (λw hw=>hcall w (by rw[Yad happ];exact hw.perm hp)) h
end
def Rd(B:Nat)(w0:World)(H:List HP)(A:Option Addr)(xs:List Value):Prop:=
 ∀w,St B w0 H w->∀j v,xs[j]? =some v->∃g o,A=some ⟨g,o,none⟩/\w.cell? ⟨g,o+j,none⟩=some v
section
variable {B:Nat}{w0:World}{H:List HP}{A:Option Addr}{xs:List Value}
theorem Rd.cons{X:HP}(h:Rd B w0 H A xs):Rd B w0 (X::H) A xs:=λw hw=>h w hw.tail
variable {e size k cap:Nat}
theorem Rd.sl(hm:Eng.sl e size A k cap xs∈H):Rd B w0 H A xs:=λw hw j v hv=>by
 obtain⟨g,e1,hc,_⟩:=OA (hw.sl hm) hv
 grind
theorem Rd.old(h:∀j v,xs[j]? =some v->∃g o,A=some ⟨g,o,none⟩/\g<B/\w0.cell? ⟨g,o+j,none⟩=some v):Rd B w0 H A xs:=λw hw j v hv=>by
 obtain⟨g,o,e1,hg,hc⟩:=h j v hv
 exact⟨g,o,e1,(hw.below.cell (p:=⟨g,o+j,none⟩) hg).trans hc⟩
theorem Rd.nil:Rd B w0 H A []:=λw _ j v hv=>by simp at hv
theorem Rd.mono{H':List HP}(h:Rd B w0 H A xs)(hH:∀w,St B w0 H' w->St B w0 H w):Rd B w0 H' A xs:=λw hw=>h w (hH w hw)
theorem Rd.blk{g:Nat}{cs:Array Value}{t:TypeId}{fr:Nat×Nat}(hm:Eng.blk g (.cells cs t fr)∈H):Rd B w0 H (some ⟨g,0,none⟩) cs.toList:=λw hw j v hv=>by
 refine⟨g,0,rfl,?_⟩
 rw[RH,YW (hw.blk hm).1]
 simp_all
end
theorem Y0{α:Type}{f:α->List Value}{q:Nat}(hq:∀a,(f a).length=q):∀l:List α,(l.flatMap f).length=l.length*q
 |[]=>by simp
 |a::l=>by rw[TN,Tq,hq,Y0 hq l,T0,SH];omega
theorem UC{α:Type}{f:α->List Value}{q:Nat}(hq:∀a,(f a).length=q):∀(l:List α) (i j:Nat) (a:α),l[i]? =some a->j<q->(l.flatMap f)[i*q+j]? =(f a)[j]?
 |[],i,j,a,h,_=>by simp at h
 |b::l,0,j,a,h,hj=>by
  grind
 |b::l,i+1,j,a,h,hj=>by
  rw[TN,RZ (by grind),hq,show(i+1)*q+j-q=i*q+j by grind]
  exact UC hq l i j a (by simp_all) hj
section
variable {P:Program}{m:Mode}{n:Shp}{B:Nat}{w0:World}{ops:Array Oper}{Q:Exit->Act->World->Prop}{rest:List Oper}{env:Env}{H:List HP}{d:Nat}{ty:TypeId}{pos:String}{after:Array Edge}
variable {α:Type}{t cap e size k i q:Nat}{x y:Operand}{A:Option Addr}
theorem Zi(T:Tab P){f:α->List Value}{l:List α}{bytes:Nat}{ki:IntKind}{i:Int}(hx:evo env x=some (.slice A l.length cap))(hy:evo env y=some (.int ki i))
 (hr:Rd B w0 H A (l.flatMap f)) (ht:look T.sl t=some (e,size,bytes)) (hq:∀a,(f a).length=size) (h0:Nat.blt 0 size=true) (hn:Nat.ble (d+1) n.k=true) (hi:0<=i/\i<l.length)
 (h:VL P m n B w0 ops Q rest ((d,sptr A (i.toNat*size))::env) H):VL P m n B w0 ops Q (⟨some d,.indexAddr t x y,ty,pos,after,none⟩::rest) env H:=by
 obtain⟨hut,inf,z,hinf,_,_,hsi,_,_,_⟩:=Yx (T.slic ht)
 refine Yt rfl rfl hn rfl (λa w ha hw=>?_) h
 have h0':0<size:=by simpa using h0
 have hlt:i.toNat<l.length:=by omega
 have hget:=UC hq l i.toNat 0 _ (Ta hlt) h0'
 have hg2:(f l[i.toNat])[0]? =some ((f l[i.toNat])[0]'(by rw[hq];exact h0')):=Ta _
 rw[hg2]at hget
 obtain⟨g,o,rfl,_⟩:=hr w hw _ _ hget
 exact zc50
theorem YgJ(T:Tab P){s f j:Nat}{xs:List Value}(hx:evo env x=some (sptr A j))(hr:Rd B w0 H A xs)(hj:j<xs.length)(hf:WT T.fo s f=some k)(hn:Nat.ble (d+1) n.k=true)
 (h:VL P m n B w0 ops Q rest ((d,sptr A (j+k))::env) H):VL P m n B w0 ops Q (⟨some d,.fieldAddr s x f,ty,pos,after,none⟩::rest) env H:=by
 refine Yt rfl rfl hn rfl (λa w ha hw=>?_) h
 obtain⟨g,o,rfl,_⟩:=hr w hw _ _ (Ta hj)
 have h1:=T.offs hf
 unfold WR at h1
 split at h1
 ·rename_i fs hu
  cases hfl:fs[f]? with
  |none=>simp_all
  |some fld=>
   rw[hfl]at h1
   simp only[S5]at h1
   cases hi:P.info? fld.type with
   |none=>simp_all
   |some inf=>
    rw[hi]at h1
    simp only[S5]at h1
    by_cases hz:inf.size=0
    ·simp_all
    ·rw[Tf hz]at h1
     have h2:fld.offset=k:=by simpa using h1
     subst h2
     simp[execOp,ha.eval hx,sptr,Instr.fieldAt,run_underlying hu,hfl,Instr.sureAddr,fieldPlace,sizeOf,typeInfo,hi,hz,Addr.add_lit,Nat.add_assoc]
 simp_all
variable {v:Value}
theorem YbV(T:Tab P){f:α->List Value}{l:List α}{o:Nat}{b:α}(hx:evo env x=some (sptr A (i*q+o)))(hr:Rd B w0 H A (l.flatMap f))(hb:l[i]? =some b)(hq:∀a,(f a).length=q)
 (ho:Nat.blt o q=true) (hv:nth (f b) o=some v) (ht:look T.sc t=some ()) (hn:Nat.ble (d+1) n.k=true)
 (h:VL P m n B w0 ops Q rest ((d,v)::env) H):VL P m n B w0 ops Q (⟨some d,.load t x,ty,pos,after,none⟩::rest) env H:=by
 refine Yt rfl rfl hn rfl (λa w ha hw=>?_) h
 have hg:=UC hq l i o b hb (by simp_all)
 rw[<-YjU (f b),hv]at hg
 obtain⟨g,u,rfl,hc⟩:=hr w hw _ _ hg
 exact Ytd
theorem ZW(T:Tab P){f:α->List Value}{l:List α}{b:α}(hx:evo env x=some (sptr A (i*q)))(hr:Rd B w0 H A (l.flatMap f))(hb:l[i]? =some b)(hq:∀a,(f a).length=q)
 (ho:Nat.blt 0 q=true) (hv:nth (f b) 0=some v) (ht:look T.sc t=some ()) (hn:Nat.ble (d+1) n.k=true)
 (h:VL P m n B w0 ops Q rest ((d,v)::env) H):VL P m n B w0 ops Q (⟨some d,.load t x,ty,pos,after,none⟩::rest) env H:=
 YbV T (i:=i) (q:=q) (o:=0) (by omega) hr hb hq ho hv ht hn h
theorem YbU(T:Tab P){f:α->List Value}{l:List α}{b:α}(hx:evo env x=some (sptr A (i*q)))(hr:Rd B w0 H A (l.flatMap f))(hb:l[i]? =some b)(hq:∀a,(f a).length=q)
 (ho:Nat.blt 0 q=true) (ht:look T.ag t=some q) (hn:Nat.ble (d+1) n.k=true)
 (h:VL P m n B w0 ops Q rest ((d,.agg (f b).toArray)::env) H):VL P m n B w0 ops Q (⟨some d,.load t x,ty,pos,after,none⟩::rest) env H:=by
 refine Yt rfl rfl hn rfl (λa w ha hw=>?_) h
 have hget:∀j v,(f b)[j]? =some v->(l.flatMap f)[i*q+j]? =some v:=by grind [UC]
 obtain⟨g,u,rfl,_⟩:=hr w hw _ _ (hget 0 _ (Ta (by simp_all)))
 have hl:=run_loadCells_list (P:=P) w ⟨g,u+i*q,none⟩ (f b) (λj v hj=>by
  exact Yty)
 rw[hq]at hl
 exact zc77
theorem YqX{k:IntKind}{a b:Int}{tys:Array TypeId}(hx:evo env x=some (.int k a))(hy:evo env y=some (.int k b))(hn:Nat.ble (d+1) n.k=true)(h1:a<b->VL P m n B w0 ops Q rest ((d,.int k b)::env) H)(h2:b<=a->VL P m n B w0 ops Q rest ((d,.int k a)::env) H):
 VL P m n B w0 ops Q (⟨some d,.call ⟨.builtin .max,#[x,y],tys⟩,ty,pos,after,none⟩::rest) env H:=by
 by_cases hc:b>a
 ·exact Yt rfl rfl hn rfl (λf w ha _=>by exact Ytw) (h1 hc)
 ·exact Yt rfl rfl hn rfl (λf w ha _=>by exact Ytw) (h2 (by omega))
end
def Wd(env:Env):List (Nat×Operand)->Option (List (Nat×Value))
 |[]=>some []
 |(i,x)::l=>match evo env x with
  |none=>none
  |some v=>match Wd env l with
   |none=>none
   |some r=>some ((i,v)::r)
theorem WZ{env:Env}:∀{l:List (Nat×Operand)}{ps:List (Nat×Value)},Wd env l=some ps->YaD env l ps
 |[],ps,h=>by grind [Wd,Ye4]
 |(i,x)::l,ps,h=>by
  unfold Wd at h
  cases hx:evo env x with
  |none=>simp_all
  |some v=>
   rw[hx]at h
   cases hl:Wd env l with
   |none=>simp_all
   |some r=>
    rw[hl]at h
    simp only[RI]at h
    subst h
    exact Yj3 hx (WZ hl)
def Ydx(P:Program)(t:Nat):Option (List (Nat×Nat)):=
 match P.underlying t with
 |some (.struct fs)=>fs.toList.mapM (λf=>(P.info? f.type).map λi=>(f.offset,i.size))
 |some (.array k e)=>(P.info? e).map λi=>(List.range k).map λj=>(j*i.size,i.size)
 |_=>none
def Yac(P:Program)(t:Nat):Option Value:=(P.info? t).bind (·.zero)
structure Tab2(P:Program) where
 zt:List (Nat×Value)
 bt:List (Nat×List (Nat×Nat))
 zt_ok:(zt.map λx=>Yac P x.1)=zt.map λx=>some x.2
 bt_ok:(bt.map λx=>Ydx P x.1)=bt.map λx=>some x.2
theorem WU{β:Type}{f:Nat->Option β}:∀{l:List (Nat×β)},(l.map λx=>f x.1)=(l.map λx=>some x.2)->∀{t:Nat}{v:β},look l t=some v->f t=some v:=by
 intro l h t v hl
 have hm:=JU hl
 clear hl
 induction l with
 |nil=>cases hm
 |cons x l ih=>
  grind
variable {t:Nat}{z:Value}
theorem YdL{P:Program}(h:Yac P t=some z)(w:World):(zeroValue t).run P w=.ok z w:=by
 unfold Yac at h
 cases hi:P.info? t with
 |none=>simp_all
 |some i=>
  simp_all [zeroValue,typeInfo]
def YfY{β:Type}:List Value->(List Value->Option β)->Option β
 |[],k=>k []
 |a::l,k=>YfY l λl'=>k (a::l')
theorem Yap{β:Type}:∀(l:List Value) (k:List Value->Option β),YfY l k=k l
 |[],_=>rfl
 |a::l,k=>by rw[YfY,Yap l]
def Oy:List Value->Nat->List Value->List Value
 |cs,_,[]=>cs
 |cs,off,v::vs=>Oy (cs.set off v) (off+1) vs
def fillL(place:Nat->Option (Nat×Nat))(cs:List Value):List (Nat×Value)->Option (List Value)
 |[]=>some cs
 |(i,v)::rest=>match place i with
  |none=>none
  |some (off,size)=>match Nat.beq v.cells.toList.length size&&Nat.ble (off+size) cs.length with
   |true=>YfY (Oy cs off v.cells.toList) λcs'=>fillL place cs' rest
   |false=>none
theorem QD(off:Nat):∀(l:List Value) (k:Nat) (cs:Array Value),(l.zipIdx k).foldl (λcs (c,j)=>cs.setIfInBounds (off+j) c) cs=(Oy cs.toList (off+k) l).toArray
 |[],_,cs=>by simp[Oy]
 |v::l,k,cs=>by
  rw[List.zipIdx_cons,List.foldl_cons,QD off l (k+1)]
  grind [Oy]
theorem Ycv{place place':Nat->Option (Nat×Nat)}(hp:∀i q,place i=some q->place' i=some q):∀{ps:List (Nat×Value)}{cs r:List Value},fillL place cs ps=some r->fillL place' cs ps=some r
 |[],_,_,h=>h
 |(i,v)::rest,cs,r,h=>by
  unfold fillL at h⊢
  cases hi:place i with
  |none=>simp_all
  |some q=>
   rw[hi]at h
   rw[hp i q hi]
   simp only at h⊢
   split at h
   ·rw[Yap]at h⊢
    exact Ycv hp h
   omega
theorem U5{place:Nat->Option (Nat×Nat)}:∀{ps:List (Nat×Value)}{cs:Array Value}{r:List Value},fillL place cs.toList ps=some r->Instr.fill place cs ps=some r.toArray
 |[],cs,r,h=>by simp[fillL]at h;subst h;simp[Instr.fill]
 |(i,v)::rest,cs,r,h=>by
  unfold fillL at h
  unfold Instr.fill
  cases hp:place i with
  |none=>simp_all
  |some q=>
   obtain⟨off,size⟩:=q
   rw[hp]at h
   simp only at h⊢
   split at h
   ·rw[Yap]at h
    have hz:v.cells.zipIdx.foldl (λcs (c,j)=>cs.setIfInBounds (off+j) c) cs=(Oy cs.toList off v.cells.toList).toArray:=by
     rw[<-Array.foldl_toList,Array.toList_zipIdx]
     simp_all [QD]
    rw[Tf (by simp_all),hz]
    exact U5 (by omega)
   simp_all
def repZ:Nat->List Value->List Value
 |0,_=>[]
 |n+1,z=>z++repZ n z
theorem Ybe(z:List Value):∀n,(repZ n z).length=n*z.length
 |0=>by simp[repZ]
 |n+1=>by rw[repZ,Tq,Ybe z n,SH];omega
theorem Yip(z:List Value)(hz:0<z.length):∀(n j:Nat),j<n*z.length->(repZ n z)[j]? =z[j%z.length]?
 |0,j,h=>by omega
 |n+1,j,h=>by
  rw[repZ]
  by_cases hj:j<z.length
  ·grind [Nat.mod_eq_of_lt]
  ·rw[RZ (by omega),Yip z hz n _ (by grind),<-Nat.mod_eq_sub_mod (by omega)]
theorem Yp2(zs:Array Value)(hz:0<zs.size)(n:Nat):((Array.range (n*zs.size)).map (zs[·%zs.size]!))=(repZ n zs.toList).toArray:=by
 apply Array.ext'
 apply Sl
 intro j
 by_cases hj:j<n*zs.size
 ·have h1:=Yip zs.toList (by omega) n j (by omega)
  have hm:j%zs.size<zs.size:=Nat.mod_lt _ hz
  simp_all
 grind [Ybe]
section
variable {P:Program}{m:Mode}{n:Shp}{B:Nat}{w0:World}{ops:Array Oper}{Q:Exit->Act->World->Prop}{rest:List Oper}{env:Env}{H:List HP}{d:Nat}{ty:TypeId}{pos:String}{after:Array Edge}
variable {z v:Value}
theorem Yl8(T2:Tab2 P){t:TypeId}{cs:Array Value}(hz:look T2.zt t=some z)(hc:z.cells=cs)(hn:Nat.ble (d+1) n.k=true)
 (h:∀g,VL P none n B w0 ops Q rest ((d,.pointer (some ⟨g,0,none⟩))::env) (blk g (.cells cs t (0,0))::H)):VL P none n B w0 ops Q (⟨some d,.alloc t,ty,pos,after,none⟩::rest) env H:=
 Yn9 (YdL (WU T2.zt_ok hz)) hc hn h
variable {parts:List (Nat×Operand)}{ps:List (Nat×Value)}{cs vs:List Value}
theorem Ymc(T2:Tab2 P){t:TypeId}{zc:Array Value}{pl:List (Nat×Nat)}(hp:Wd env parts=some ps)(hz:look T2.zt t=some (.agg zc))(hl:look T2.bt t=some pl)
 (hf:fillL (pl[·]?) zc.toList ps=some cs) (hn:Nat.ble (d+1) n.k=true)
 (h:VL P m n B w0 ops Q rest ((d,.agg cs.toArray)::env) H):VL P m n B w0 ops Q (⟨some d,.build t parts.toArray,ty,pos,after,none⟩::rest) env H:=by
 refine Yoa (WZ hp) (λw=>run_build w t _ cs.toArray ?_) hn h
 have h1:=WU T2.zt_ok hz
 have h2:=WU T2.bt_ok hl
 unfold Yac at h1
 unfold Ydx at h2
 unfold Program.built
 cases hi:P.info? t with
 |none=>simp_all
 |some i=>
  rw[hi]at h1
  have h3:i.zero=some (.agg zc):=h1
  cases hu:P.underlying t with
  |none=>simp_all
  |some dd=>
   rw[hu]at h2
   cases dd<;>try(cases h2;done)
   ·rename_i k e
    cases hie:P.info? e with
    |none=>simp_all
    |some ie=>
     simp only[h3,hie]
     refine U5 (cs:=zc) (Ycv (λa q ha=>?_) hf)
     grind
   ·have h5:=U5 (place:=(pl[·]?)) (cs:=zc) hf
    simp_all [Go.Value.cells]
variable {t f:Nat}
theorem Vp(T:Tab P)(T2:Tab2 P){e len size bytes:Nat}{zl:List Value}(ht:look T.sl t=some (e,size,bytes))(hp:Wd env parts=some ps)(hz:look T2.zt e=some z)(hzc:z.cells=zl.toArray)
 (hf:fillL (λi=>some (i*size,size)) (repZ len zl) ps=some cs) (hn:Nat.ble (d+1) n.k=true) (hl:(Nat.blt 0 (len*size)&&Nat.beq zl.length size&&Nat.ble (len*size) 1000000)=true)
 (h:∀g,VL P none n B w0 ops Q rest ((d,.slice (some ⟨g,0,none⟩) len len)::env) (blk g (.cells cs.toArray e (0,0))::H)):VL P none n B w0 ops Q (⟨some d,.buildSlice t len parts.toArray,ty,pos,after,none⟩::rest) env H:=by
 simp only[Tm]at hl
 obtain⟨⟨hl1,hl2⟩,hl3⟩:=hl
 have hl1':0<len*size:=by simp_all
 have hl3':=TR hl3
 obtain⟨hut,inf,z',hinf,hz',_,hsi,_⟩:=Yx (T.slic ht)
 have h1:=WU T2.zt_ok hz
 unfold Yac at h1
 rw[hinf]at h1
 have h3:inf.zero=some z:=h1
 refine OD (WZ hp) (λw=>run_buildSlice w t e len _ cs.toArray inf z hut hinf h3 (by grind) (by grind) ?_) hn h
 rw[hsi]
 grind [Yp2,U5]
variable {x:Operand}
theorem Yfs(T:Tab P){α:Type}{f:α->List Value}{l:List α}{s fl k i q:Nat}{A:Option Addr}(hx:evo env x=some (sptr A (i*q)))(hr:Rd B w0 H A (l.flatMap f))(hq:∀a,(f a).length=q)(h0:Nat.blt 0 q=true)(hf:WT T.fo s fl=some k)(hn:Nat.ble (d+1) n.k=true)(hi:i<l.length)
 (h:VL P m n B w0 ops Q rest ((d,sptr A (i*q+k))::env) H):VL P m n B w0 ops Q (⟨some d,.fieldAddr s x fl,ty,pos,after,none⟩::rest) env H:=by
 refine YgJ T hx hr ?_ hf hn h
 rw[Y0 hq]
 simp_all
variable {args:List Operand}{tys:Array TypeId}
theorem YnB{a:Act}(ha:Fits n a env)(hx:evo env x=some (.func (.func f) #[] cs.toArray))
 (hc:∀xs w,(callFunc f xs).run P w=.ok (.enter f xs) w) (hargs:Args env args vs) (w:World):
 (execOp a.eval ⟨some d,.call ⟨.value x,args.toArray,tys⟩,ty,pos,after,none⟩).run P w=.ok (.enter f (vs++cs).toArray) w:=by
 have hmap:args.toArray.map a.eval=vs.toArray:=by grind [Ua]
 exact zc32
theorem YY(hx:evo env x=some (.func (.func f) #[] cs.toArray))
 (hc:∀xs w,(callFunc f xs).run P w=.ok (.enter f xs) w) (hargs:Args env args vs) (hn:Nat.ble (d+1) n.k=true)
 (hcall:∀w,St B w0 H w->Calls P f (vs++cs).toArray w (Post B w0 λu K=>u=v/\K=H))
 (h:VL P none n B w0 ops Q rest ((d,v)::env) H):
 VL P none n B w0 ops Q (⟨some d,.call ⟨.value x,args.toArray,tys⟩,ty,pos,after,none⟩::rest) env H:=
 Yob _ hx hc hargs hn hcall zc51
theorem Xh(hx:evo env x=some (.func (.func f) #[] cs.toArray))
 (hc:∀xs w,(callFunc f xs).run P w=.ok (.enter f xs) w) (hargs:Args env args vs) (hn:Nat.ble (d+1) n.k=true)
 (hcall:∀w,St B w0 H w->Calls P f (vs++cs).toArray w (Post B w0 λu K=>u=v/\K=H))
 (h:VL P (some none) n B w0 ops Q rest ((d,v)::env) H):
 VL P (some none) n B w0 ops Q (⟨some d,.call ⟨.value x,args.toArray,tys⟩,ty,pos,after,none⟩::rest) env H:=by
 refine⟨λa ha=>wpQuiet_step λK hK=>?_⟩
 refine⟨v,λw hw=>?_,hK _ ?_⟩
 ·unfold Oper.quietAt
  rw[YnB ha hx hc hargs]
  exact Yto
 ·exact YqF
def effW(o:Oper):Bool:=eff o&&match o.op with|.call ⟨.value _,_,_⟩=>false|.makeFunc _ _ _=>false|_=>true
theorem Yn5{id:Nat}{l:List Oper}(hq:(l.all λo=>!effW o)=true)(hm:P.follows .mixedOrders=true)(hB:Region.lexB .any l.toArray=true)(h:VL P (some none) n B w0 l.toArray Q l env H):VC P n B w0 (.region id l.toArray true) Q env H:=
 by grind [YkB]
theorem Ynv{xs:Array Value}{w:World}(hw:St B w0 H w)(h:Calls P f xs w λe w'=>e=.returned v/\w'=w):Calls P f xs w (Post B w0 λu K=>u=v/\K=H):=
 h.mono (by rintro e w' ⟨rfl,rfl⟩;exact⟨v,H,rfl,hw,rfl,rfl⟩)
end
section
variable {P:Program}{m:Mode}{n:Shp}{B:Nat}{w0:World}{ops:Array Oper}{Q:Exit->Act->World->Prop}{rest:List Oper}{env:Env}{H:List HP}{d:Nat}{ty:TypeId}{pos:String}{after:Array Edge}{x y:Operand}{k:IntKind}{a b:Int}
theorem YgI(T:Tab P){src dst:TypeId}{j:IntKind}(hx:evo env x=some (.int k a))(hs:look T.ik src=some j)(ht:look T.ik dst=some .u64)(hn:Nat.ble (d+1) n.k=true)(hb:0<=a/\a<=18446744073709551615)
 (h:VL P m n B w0 ops Q rest ((d,.int .u64 a)::env) H):VL P m n B w0 ops Q (⟨some d,.convert src dst x,ty,pos,after,none⟩::rest) env H:=
 Qm T hx hs ht hn (by rw[IntWalk.u64_in _ hb];exact h)
variable {f:Nat}{args:List Operand}{tys:Array TypeId}{vs cs:List Value}
theorem ZU{b:Bool}
 (hc:∀xs w,(callFunc f xs).run P w=.ok (.enter f xs) w) (hargs:Args env args vs) (hn:Nat.ble (d+1) n.k=true)
 (hcall:∀w,St B w0 H w->Calls P f vs.toArray w (Post B w0 λu K=>u=.bool b/\K=H))
 (h1:b=true->VL P none n B w0 ops Q rest ((d,.bool true)::env) H) (h2:b=false->VL P none n B w0 ops Q rest ((d,.bool false)::env) H):
 VL P none n B w0 ops Q (⟨some d,.call ⟨.value (.func f),args.toArray,tys⟩,ty,pos,after,none⟩::rest) env H:=by
 cases b
 ·exact Yb hc hargs hn hcall (h2 rfl)
 ·exact Yb hc hargs hn hcall (h1 rfl)
theorem ZT{b:Bool}
 (hc:∀xs w,(callFunc f xs).run P w=.ok (.enter f xs) w) (hargs:Args env args vs) (hn:Nat.ble (d+1) n.k=true)
 (hcall:∀w,St B w0 H w->Calls P f vs.toArray w (Post B w0 λu K=>u=.bool b/\K=H))
 (h1:b=true->VL P (some none) n B w0 ops Q rest ((d,.bool true)::env) H) (h2:b=false->VL P (some none) n B w0 ops Q rest ((d,.bool false)::env) H):
 VL P (some none) n B w0 ops Q (⟨some d,.call ⟨.value (.func f),args.toArray,tys⟩,ty,pos,after,none⟩::rest) env H:=by
 cases b
 ·exact Yc hc hargs hn hcall (h2 rfl)
 ·exact Yc hc hargs hn hcall (h1 rfl)
theorem Vr{x:Operand}{b:Bool}(hx:evo env x=some (.func (.func f) #[] cs.toArray))
 (hc:∀xs w,(callFunc f xs).run P w=.ok (.enter f xs) w) (hargs:Args env args vs) (hn:Nat.ble (d+1) n.k=true)
 (hcall:∀w,St B w0 H w->Calls P f (vs++cs).toArray w (Post B w0 λu K=>u=.bool b/\K=H))
 (h1:b=true->VL P none n B w0 ops Q rest ((d,.bool true)::env) H) (h2:b=false->VL P none n B w0 ops Q rest ((d,.bool false)::env) H):
 VL P none n B w0 ops Q (⟨some d,.call ⟨.value x,args.toArray,tys⟩,ty,pos,after,none⟩::rest) env H:=by
 cases b
 ·exact YY hx hc hargs hn hcall (h2 rfl)
 ·exact YY hx hc hargs hn hcall (h1 rfl)
theorem Vq{x:Operand}{b:Bool}(hx:evo env x=some (.func (.func f) #[] cs.toArray))
 (hc:∀xs w,(callFunc f xs).run P w=.ok (.enter f xs) w) (hargs:Args env args vs) (hn:Nat.ble (d+1) n.k=true)
 (hcall:∀w,St B w0 H w->Calls P f (vs++cs).toArray w (Post B w0 λu K=>u=.bool b/\K=H))
 (h1:b=true->VL P (some none) n B w0 ops Q rest ((d,.bool true)::env) H) (h2:b=false->VL P (some none) n B w0 ops Q rest ((d,.bool false)::env) H):
 VL P (some none) n B w0 ops Q (⟨some d,.call ⟨.value x,args.toArray,tys⟩,ty,pos,after,none⟩::rest) env H:=by
 cases b
 ·exact Xh hx hc hargs hn hcall (h2 rfl)
 ·exact Xh hx hc hargs hn hcall (h1 rfl)
theorem St.blk_sl{w:World}{g e size len:Nat}(h:St B w0 (Eng.blk g (.cells cs.toArray e (0,0))::H) w)(hk:cs.length=len*size)(hl:len<=1000000):St B w0 (Eng.sl e size (some ⟨g,0,none⟩) len len cs::H) w:=by
 refine h.upd (Upd.here _) rfl rfl rfl (TI _) λS1 ⟨h1,h2⟩=>⟨⟨⟨hk,.inr ⟨g,len,cs.toArray,rfl,Ti _,h2,TI _,?_,by omega,?_⟩⟩,λa ha=>by grind⟩,λ_ _ _=>rfl⟩
 all_goals grind [maxLen]
end
section
variable {P:Program}{B:Nat}{w0:World}{H:List HP}
theorem YmA{f:Nat}{xs:Array Value}{x y:Value}(e:x=y)(h:∀w,St B w0 H w->Calls P f xs w (Post B w0 λu K=>u=x/\K=H)){w:World}(hw:St B w0 H w):Calls P f xs w (Post B w0 λu K=>u=y/\K=H):=e▸h w hw
end
section
variable {P:Program}{n:Shp}{B:Nat}{w0:World}{ops:Array Oper}{Q:Exit->Act->World->Prop}{rest:List Oper}{env:Env}{H:List HP}{d:Nat}{ty:TypeId}{pos:String}{after:Array Edge}{x y:Operand}
theorem YhB{α:Type}{f:α->List Value}(hq:∀a,(f a).length=1){v:Value}:∀(l:List α) (i:Nat) (a:α),f a=[v]->i<l.length->(l.flatMap f).set i v=(l.set i a).flatMap f
 |[],i,a,_,h=>by simp at h
 |b::l,0,a,hv,_=>by
  rw[TN,Ny,TN,hv]
  match hb:f b,hq b with
  |[u],_=>rfl
 |b::l,i+1,a,hv,h=>by
  rw[TN,List.set_cons_succ,TN]
  have h1:=hq b
  rw[Nh _ _ (by omega),h1,R7,YhB hq l i a hv (by simp_all)]
variable {t e:Nat}
theorem Xm(T:Tab P){α:Type}{f:α->List Value}{l:List α}{i k cap:Nat}{a:α}{v:Value}{A:Option Addr}{K:List HP}(hx:evo env x=some (sptr A (i*1)))(hy:evo env y=some v)(h1:v.oneCell'=true)
 (hu:Upd (sl e 1 A k cap (l.flatMap f)) (sl e 1 A k cap ((l.set i a).flatMap f)) H K) (hv:f a=[v]) (hq:∀a,(f a).length=1) (ht:look T.sc t=some ()) (hi:i<l.length)
 (h:VL P none n B w0 ops Q rest env K):VL P none n B w0 ops Q (⟨none,.store t x y,ty,pos,after,none⟩::rest) env H:=by
 rw[Na]at hx
 refine YaK (e:=e) (size:=1) (k:=k) (cap:=cap) T hx hy h1 ?_ ht (by rw[Y0 hq,Na];exact hi) h
 rw[YhB hq l i a hv hi]
 exact hu
theorem Xt(T:Tab P){size bytes:Nat}(ht:look T.sl t=some (e,size,bytes))(hn:Nat.ble (d+1) n.k=true)
 (h:∀g,VL P none n B w0 ops Q rest ((d,.slice (some ⟨g,0,none⟩) 0 0)::env) (sl e size (some ⟨g,0,none⟩) 0 0 []::H)):VL P none n B w0 ops Q (⟨some d,.buildSlice t 0 #[],ty,pos,after,none⟩::rest) env H:=by
 obtain⟨hut,inf,z',hinf,_⟩:=Yx (T.slic ht)
 refine OD (parts:=[]) (ps:=[]) (cs:=#[]) (e:=e) Ye4 (λw=>?_) hn λg=>Xy _ (λw hw=>hw.blk_sl (cs:=[]) (by simp) (by omega)) (h g)
 simp[Instr.buildSlice,run_underlying hut,sizeOf,typeInfo,hinf,Instr.fill,newRow]
 grind
variable {A:HP}{L M:List HP}
theorem Ye5{L':List HP}(h:Rem A L L')(h2:Perm L' M):Perm L (A::M):=Perm.trans h (Perm.cons A h2)
theorem Perm.dropK(p:Perm L M):Perm (A::L) M:=.trans (.drop A L) p
end
section
variable {P:Program}{m:Mode}{n:Shp}{B:Nat}{w0:World}{ops:Array Oper}{Q:Exit->Act->World->Prop}{rest:List Oper}{env:Env}{H:List HP}{d:Nat}{ty:TypeId}{pos:String}{after:Array Edge}{x y:Operand}
theorem Xr{α:Type}{f:α->List Value}{q:Nat}(hq:∀a,(f a).length=q):∀(l:List α) (k:Nat),(l.take k).flatMap f=(l.flatMap f).take (k*q)
 |[],k=>by simp
 |a::l,0=>by simp
 |a::l,k+1=>by
  have e1:(k+1)*q=q+k*q:=by grind
  have h1:(f a).take (q+k*q)=f a:=by grind
  rw[List.take_succ_cons,TN,TN,Xr hq l k,e1,SE,hq,h1,Nat.add_sub_cancel_left]
theorem UB{α:Type}{f:α->List Value}{q:Nat}(hq:∀a,(f a).length=q):∀(l:List α) (k:Nat),(l.drop k).flatMap f=(l.flatMap f).drop (k*q)
 |[],k=>by simp
 |a::l,0=>by simp
 |a::l,k+1=>by
  have e1:(k+1)*q=q+k*q:=by grind
  have h1:(f a).drop (q+k*q)=[]:=by simp_all
  rw[List.drop_succ_cons,TN,UB hq l k,e1,List.drop_append,hq,h1,Nat.add_sub_cancel_left,TE]
theorem YhD{α:Type}{f:α->List Value}{q:Nat}(hq:∀a,(f a).length=q){v:Value}{o:Nat}(ho:o<q):∀(l:List α) (i:Nat) (b b':α),l[i]? =some b->f b'=(f b).set o v->(l.flatMap f).set (i*q+o) v=(l.set i b').flatMap f
 |[],i,b,b',h,_=>by simp at h
 |a::l,0,b,b',h,hv=>by
  simp_all
 |a::l,i+1,b,b',h,hv=>by
  have h1:=hq a
  rw[TN,List.set_cons_succ,TN,Nh _ _ (by grind),h1,<-YhD hq ho l i b b' (by simp_all) hv]
  grind
variable {α:Type}
theorem YcA{f:α->List Value}(h1:∀a,ZM (f a)=true)(l:List α):∀v∈l.flatMap f,v.oneCell'=true:=by
 grind [Zl]
def subA(A:Option Addr)(o cap size:Nat):Option Addr:=if cap=o then A else A.map λa=>a.add (o*size)
variable {q cap o k t e size bytes l h mm n' g k' c i:Nat}{A:Option Addr}
theorem Rd.sub{f:α->List Value}{l:List α}(hq:∀a,(f a).length=q)(hr:Rd B w0 H A (l.flatMap f))(hc:l.length<=cap):Rd B w0 H (subA A o cap q) (((l.drop o).take k).flatMap f):=by
 intro w hw j v hv
 rw[Xr hq,UB hq]at hv
 have hv2:((l.flatMap f).drop (o*q))[j]? =some v:=by
  grind
 rw[RL]at hv2
 obtain⟨g,oo,rfl,h2⟩:=hr w hw _ _ hv2
 unfold subA
 by_cases hco:cap=o
 ·have h3:=(Tu.1 hv2).1
  rw[Y0 hq]at h3
  have h4:l.length*q<=o*q:=T9 q (by omega)
  omega
 ·exact⟨g,oo+o*q,by grind [Go.Addr.add_lit],by grind⟩
theorem Rd.take{f:α->List Value}{l:List α}(k:Nat)(hq:∀a,(f a).length=q)(hr:Rd B w0 H A (l.flatMap f)):Rd B w0 H A ((l.take k).flatMap f):=by
 intro w hw j v hv
 rw[Xr hq,SG]at hv
 by_cases hj:j<k*q
 ·rw[Tn hj]at hv;exact hr w hw j v hv
 simp_all
variable {w:World}{mx:Option Value}
theorem Ykh(T:Tab P){lo hi:Option Value}(ht:look T.sl t=some (e,size,bytes))(hb:(Instr.sliceBounds true k cap lo hi mx).run P w=.ok (l,h,mm) w):
 (Instr.slice t (.slice A k cap) lo hi mx).run P w=.ok (.slice (if mm=l then A else A.map (·.add (l*size))) (h-l) (mm-l)) w:=by
 obtain⟨hut,inf,z',hinf,_,_,hsi,_⟩:=Yx (T.slic ht)
 simp[Instr.slice,run_underlying hut,hb,sizeOf,typeInfo,hinf,hsi]
theorem Jp(T:Tab P){lo hi:Option Value}(ht:look T.sl t=some (e,size,bytes))(hb:(Instr.sliceBounds true k cap lo hi mx).run P w=.ok (l,h,mm) w):
 (Instr.sliceAt t (.slice A k cap) lo hi mx).run P w=.ok (.slice (if mm=l then A else A.map (·.add (l*size))) (h-l) (mm-l)) w:=by
 obtain⟨hut,_⟩:=Yx (T.slic ht)
 simp[Instr.sliceAt,run_underlying hut,Ykh T (A:=A) ht hb]
variable {lo hi:Operand}{ki kj:IntKind}{z u:Int}
theorem XV(T:Tab P)(hx:evo env x=some (.slice A k cap))(hl:evo env lo=some (.int ki z))(ht:look T.sl t=some (e,size,bytes))(hn:Nat.ble (d+1) n.k=true)(hb:0<=z/\z<=k)(hn':k-z.toNat=n')
 (h:VL P m n B w0 ops Q rest ((d,.slice (subA A z.toNat cap size) n' (cap-z.toNat))::env) H):VL P m n B w0 ops Q (⟨some d,.slice t x (some lo) none none,ty,pos,after,none⟩::rest) env H:=by
 subst hn'
 refine Yt rfl rfl hn rfl (λf w ha _=>?_) h
 have hb2:(Instr.sliceBounds true k cap (some (.int ki z)) none none).run P w=.ok (z.toNat,k,cap) w:=by simp[Instr.sliceBounds,Instr.sliceBound,asIntOf,hb]
 exact zc91
variable {xs:List Value}
theorem YaJ(T:Tab P)(hx:evo env x=some (.slice A k cap))(hl:evo env hi=some (.int ki z))(hm:sl e size A k cap xs∈H)(ht:look T.sl t=some (e,size,bytes))(hn:Nat.ble (d+1) n.k=true)(hb:0<=z/\z<=k)
 (h:VL P m n B w0 ops Q rest ((d,.slice A z.toNat cap)::env) H):VL P m n B w0 ops Q (⟨some d,.slice t x none (some hi) none,ty,pos,after,none⟩::rest) env H:=by
 refine Yt rfl rfl hn rfl (λf w ha hw=>?_) h
 have hown:=hw.sl hm
 have hkc:k<=cap:=zc46
 have hA:(if cap=0 then A else A.map (·.add (0*size)))=A:=by
  rcases hown.2 with⟨e1,e2⟩|⟨g,c,cur,e1,_⟩
  all_goals grind [Go.Addr.add_lit]
 have hb2:(Instr.sliceBounds true k cap none (some (.int ki z)) none).run P w=.ok (0,z.toNat,cap) w:=by
  have:z<=cap:=by omega
  exact zc52
 have hr:=Jp T (A:=A) ht hb2
 exact Ytk
theorem Zk(T:Tab P){l:List α}(hx:evo env x=some (.slice A l.length cap))(hl:evo env hi=some (.int ki z))(ht:look T.sl t=some (e,size,bytes))(hn:Nat.ble (d+1) n.k=true)(hb:0<=z/\z<=l.length)(hc:l.length<=cap)(hn':z.toNat=n')
 (h:VL P m n B w0 ops Q rest ((d,.slice (subA A 0 cap size) n' cap)::env) H):VL P m n B w0 ops Q (⟨some d,.slice t x none (some hi) none,ty,pos,after,none⟩::rest) env H:=by
 subst hn'
 refine Yt rfl rfl hn rfl (λf w ha hw=>?_) h
 have hb2:(Instr.sliceBounds true l.length cap none (some (.int ki z)) none).run P w=.ok (0,z.toNat,cap) w:=by
  have:z<=cap:=by omega
  exact zc52
 exact zc91
theorem WD(T:Tab P)(hx:evo env x=some (.slice A k cap))(hl:evo env lo=some (.int ki z))(hh:evo env hi=some (.int kj u))(ht:look T.sl t=some (e,size,bytes))(hn:Nat.ble (d+1) n.k=true)(hb:0<=z/\z<=u/\u<=cap)(hn':u.toNat-z.toNat=n')
 (h:VL P m n B w0 ops Q rest ((d,.slice (subA A z.toNat cap size) n' (cap-z.toNat))::env) H):VL P m n B w0 ops Q (⟨some d,.slice t x (some lo) (some hi) none,ty,pos,after,none⟩::rest) env H:=by
 subst hn'
 refine Yt rfl rfl hn rfl (λf w ha _=>?_) h
 have hb2:(Instr.sliceBounds true k cap (some (.int ki z)) (some (.int kj u)) none).run P w=.ok (z.toNat,u.toNat,cap) w:=by
  have h1:0<=u:=by omega
  have h3:z<=max u 0:=by omega
  exact zc52
 have hr:=Jp T (A:=A) ht hb2
 simp only[execOp,ha.eval hx,Sr,ha.eval hl,ha.eval hh,Option.map_none]
 simp[hr,subA]
theorem Ymj(T:Tab P){mx:Operand}{kk:IntKind}{v:Int}(hx:evo env x=some (.slice A k cap))(hl:evo env lo=some (.int ki z))(hh:evo env hi=some (.int kj u))(hv:evo env mx=some (.int kk v))(ht:look T.sl t=some (e,size,bytes))(hn:Nat.ble (d+1) n.k=true)(hb:0<=z/\z<=u/\u<=v/\v<=cap)
 (h:VL P m n B w0 ops Q rest ((d,.slice (if v.toNat=z.toNat then A else A.map (·.add (z.toNat*size))) (u.toNat-z.toNat) (v.toNat-z.toNat))::env) H):VL P m n B w0 ops Q (⟨some d,.slice t x (some lo) (some hi) (some mx),ty,pos,after,none⟩::rest) env H:=by
 refine Yt rfl rfl hn rfl (λf w ha _=>?_) h
 have hb2:(Instr.sliceBounds true k cap (some (.int ki z)) (some (.int kj u)) (some (.int kk v))).run P w=.ok (z.toNat,u.toNat,v.toNat) w:=by
  have h1:0<=u:=by omega
  have h3:z<=max u 0:=by omega
  have h4:0<=v:=by omega
  have h6:u<=max v 0:=by omega
  exact zc52
 have hr:=Jp T (A:=A) ht hb2
 simp only[execOp,ha.eval hx,Sr,ha.eval hl,ha.eval hh,ha.eval hv]
 simp[hr]
theorem QZ{b:Nat}{cs:Array Value}(h:b≠g):(w.setRow g cs).heap[b]? =w.heap[b]? :=by
 simp[World.setRow,Array.getElem?_modify,Ne.symm h]
variable {K:List HP}
theorem St.storeRow{xs' vs:List Value}{cur:Array Value}(hw:St B w0 H w)(hu:Upd (Eng.sl e size A k cap xs) (Eng.sl e size A k' cap xs') H K)(hA:A=some ⟨g,0,none⟩)
 (hb:w.heap[g]? =some (.cells cur e (0,0))) (hcur:cur.size=cap*size) (hk':k'<=cap) (hcm:cap<=maxLen) (hov:o+vs.length<=cur.size) (hx':(cur.toList.take o++vs++cur.toList.drop (o+vs.length)).take (k'*size)=xs') (hxl:xs'.length=k'*size):
 St B w0 K (w.setRow g (cur.toList.take o++vs++cur.toList.drop (o+vs.length)).toArray):=by
 refine hw.upd hu rfl rfl rfl (by simp_all) λS1 ⟨hown,hS⟩=>⟨⟨⟨hxl,.inr ⟨g,cap,_,by rw[hA],Ti _,setRow_heap w g cur _ e _ hb,hk',hcm,?_,by omega⟩⟩,hS⟩,λb hb' _=>QZ λe=>hb' (by simp_all)⟩
 grind
theorem ZK(h:w.ownsRow 0 e size (.slice A k cap) k xs):(A=none/\k=0/\cap=0/\xs=[])\/∃g cur,A=some ⟨g,0,none⟩/\w.heap[g]? =some (.cells cur e (0,0))/\k<=cap/\cap<=maxLen/\cur.size=cap*size/\cur.toList.take (k*size)=xs/\xs.length=k*size:=by
 obtain⟨h1,h2⟩:=h
 rcases h2 with⟨e1,e2⟩|⟨g,c,cur,e1,_,e3,e4,e5,e6,e7⟩
 all_goals simp_all
theorem St.shrink(hw:St B w0 H w)(hk:k'<=k)(hu:Upd (Eng.sl e size A k cap xs) (Eng.sl e size A k' cap (xs.take (k'*size))) H K):St B w0 K w:=by
 refine hw.upd hu rfl rfl rfl (TI _) λS1 ⟨hown,hS⟩=>⟨⟨?_,hS⟩,λ_ _ _=>rfl⟩
 rcases ZK hown with⟨rfl,rfl,rfl,rfl⟩|⟨g,cur,rfl,h1,h2,h3,h4,h5,h6⟩
 ·simp_all
 ·have hm:k'*size<=k*size:=T9 _ hk
  refine⟨by simp_all,.inr ⟨g,cap,cur,rfl,Ti _,h1,by omega,h3,h4,?_⟩⟩
  grind
theorem XE(T:Tab P){f:α->List Value}{l2:List α}{A2:Option Addr}{K:Option Addr->Nat->List HP}
 (hx:evo env x=some (.slice A k cap)) (ht:look T.sl t=some (e,size,bytes)) (hy:evo env y=some (.slice A2 l2.length c)) (hr:Rd B w0 H A2 (l2.flatMap f)) (hq:∀a,(f a).length=size) (h1:∀a,ZM (f a)=true) (hn:Nat.ble (d+1) n.k=true)
 (hu:∀A' cap',Upd (sl e size A k cap xs) (sl e size A' (k+l2.length) cap' (xs++l2.flatMap f)) H (K A' cap')) (hby:(k+l2.length)*bytes<=140737488355328)
 (h:∀A' cap',VL P none n B w0 ops Q rest ((d,.slice A' (k+l2.length) cap')::env) (K A' cap')):
 VL P none n B w0 ops Q (⟨some d,.call ⟨.builtin .append,#[x,y],#[t,t]⟩,ty,pos,after,none⟩::rest) env H:=by
 obtain⟨hut,i,z,hi,hz,hzs,hsi,hbi,hs0,hb0⟩:=Yx (T.slic ht)
 refine Xj (λv K'=>∃A' cap',v=.slice A' (k+l2.length) cap'/\K'=K A' cap') rfl rfl hn (λa w ha hw=>?_) YqE
 have hmem:sl e size A k cap xs∈H:=YqJ
 have hown:=hw.sl hmem
 have h63:k+l2.length<=maxLen:=by
  have:k+l2.length<=(k+l2.length)*bytes:=Nat.le_mul_of_pos_right _ hb0
  grind [maxLen]
 cases A2 with
 |none=>
  have hl0:l2=[]:=by
   cases l2 with
   |nil=>rfl
   |cons b l=>
    have hb:=hq b
    obtain⟨v,hv⟩:∃v,(f b)[0]? =some v:=⟨_,Ta (by omega)⟩
    obtain⟨g,o,e1,_⟩:=hr w hw 0 v (by grind)
    cases e1
  subst hl0
  have hkc:k<=cap:=by
   grind [ZK]
  refine⟨.slice A k cap,K A cap,w,?_,?_,A,cap,by simp,rfl⟩
  ·cases A with
   |none=>simp[execOp,resolve,invoke,builtin,ha.eval hx,ha.eval hy,Builtin.append_,run_underlying hut,sizeOf,typeInfo,hi,Builtin.lenOf,hkc,Builtin.firstCells]
   |some a0=>simp[execOp,resolve,invoke,builtin,ha.eval hx,ha.eval hy,Builtin.append_,run_underlying hut,sizeOf,typeInfo,hi,Builtin.lenOf,hkc,Builtin.firstCells,storeCells]
  ·have:=hu A cap
   simp only[RB,SV,List.flatMap_nil,Rr]at this
   exact hw.upd this rfl rfl rfl (TI _) λS1 hS=>⟨hS,λ_ _ _=>rfl⟩
 |some a2=>
  obtain⟨v',w',hrun,hown',hgrow,_,hat⟩:=run_append_own_at (P:=P) w 0 t ty e i z size bytes hut hi hz hsi hbi hzs hs0 (.slice A k cap) k xs hown a2 l2.length c (l2.flatMap f) (Y0 hq l2)
   (λj u hj=>by
    obtain⟨g,o,e1,e2⟩:=hr w hw j u hj
    injection e1 with e1
    rw[e1,Addr.add_lit];exact e2) (YcA h1 l2) h63 hby (Ti _)
  have hshape:∃A' cap',v'=.slice A' (k+l2.length) cap':=by
   rcases hown'.2 with⟨e1,e2⟩|⟨g',c',_,e1,_⟩
   ·exact⟨none,0,by rw[e1,e2]⟩
   ·exact⟨_,_,e1⟩
  obtain⟨A',cap',rfl⟩:=hshape
  refine⟨_,K A' cap',w',by exact zc96,?_,A',cap',rfl,rfl⟩
  refine hw.updN (hu A' cap') hgrow.os hgrow.tape hgrow.output hgrow.size λS1 ⟨_,hS⟩=>⟨⟨λb=>Value.ownBlock (.slice A' (k+l2.length) cap')=some b,⟨hown',?_⟩,λb hb=>?_⟩,λb hb hlt=>hgrow.block b hlt (λe=>hb ?_)⟩
  ·rintro a rfl;rfl
  ·rcases hat with e|e
   ·rw[e]at hb
    cases A with
    |none=>cases hb
    |some a=>exact Ytp
   ·rw[e]at hb
    right
    simp only[RI]at hb
    subst hb
    refine⟨TI _,?_⟩
    rcases ZK hown' with⟨rfl,_⟩|⟨g',cur',rfl,h5,_⟩
    ·simp[Value.ownBlock]at e
    ·simp only[Value.ownBlock,RI]at e
     rw[<-e]
     exact(Array.getElem?_eq_some_iff.1 h5).1
  ·cases A with
   |none=>simp[Value.ownBlock]at e
   |some a=>have:=hS a rfl;simp only[Value.ownBlock,RI]at e;rwa [e]
theorem Ql(T:Tab P)(T2:Tab2 P){z:Value}(hx:evo env x=some (.slice (subA A o cap size) mm c))(hm:sl e size A k cap xs∈H)(ht:look T.sl t=some (e,size,bytes))(hz:look T2.zt e=some z)(hz1:ZM z.cells.toList=true)(hb:k<=o/\o+mm<=cap)
 (h:VL P none n B w0 ops Q rest env H):VL P none n B w0 ops Q (⟨none,.call ⟨.builtin .clear,#[x],#[t]⟩,ty,pos,after,none⟩::rest) env H:=by
 obtain⟨hut,i,z',hi,hz',hzs,hsi,hbi,hs0,hb0⟩:=Yx (T.slic ht)
 have hzz:z'=z:=by
  have h2:=WU T2.zt_ok hz
  grind [Yac]
 subst hzz
 refine Yoj (v:=.tuple #[]) rfl rfl (λa w ha hw=>?_) h
 rcases ZK (hw.sl hm)with⟨rfl,rfl,rfl,rfl⟩|⟨g,cur,rfl,h1,h2,h3,h4,h5,h6⟩
 ·obtain rfl:mm=0:=by omega
  refine⟨w,?_,hw⟩
  have:subA none o 0 size=none:=by grind [subA]
  rw[this]at hx
  exact zc70
 ·by_cases hm0:mm=0
  ·subst hm0
   refine⟨w,?_,hw⟩
   cases hsa:subA (some ⟨g,0,none⟩) o cap size with
   |none=>rw[hsa]at hx;exact zc70
   |some b=>rw[hsa]at hx;exact zc70
  ·have hsa:subA (some ⟨g,0,none⟩) o cap size=some ⟨g,o*size,none⟩:=Ytz
   rw[hsa]at hx
   have hlen:(Builtin.zeroCells z'.cells mm).toList.length=mm*size:=by simp[Builtin.zeroCells,hzs]
   have hone:∀v∈(Builtin.zeroCells z'.cells mm).toList,v.oneCell'=true:=by
    intro v hv
    simp only[Builtin.zeroCells,Array.toList_map,TC]at hv
    obtain⟨j,_,rfl⟩:=hv
    have hlt:j%z'.cells.size<z'.cells.size:=Nat.mod_lt _ (by omega)
    rw[getElem!_pos z'.cells (j%z'.cells.size) hlt]
    exact Zl hz1 _ (by simp)
   have hov:o*size+(Builtin.zeroCells z'.cells mm).toList.length<=cur.size:=by
    rw[hlen,h4,<-SH];exact T9 _ hb.2
   have hrun:=run_storeCells_at (P:=P) g (o*size) e (Builtin.zeroCells z'.cells mm).toList 0 cur w h1 (by rw[SV];exact hov) hone
   rw[SV]at hrun
   obtain⟨L1,L2,hL⟩:∃L1 L2,H=L1++sl e size (some ⟨g,0,none⟩) k cap xs::L2:=List.append_of_mem hm
   refine⟨_,?_,hw.storeRow (k':=k) (xs':=xs) ⟨L1,L2,hL,hL⟩ rfl h1 h4 h2 h3 hov ?_ h6⟩
   ·have hzv:(zeroValue e).run P w=.ok z' w:=YdL (by unfold Yac;rw[hi];exact hz') w
    obtain⟨m',rfl⟩:∃m',mm=m'+1:=⟨mm-1,by omega⟩
    simp[execOp,resolve,invoke,builtin,ha.eval hx,Builtin.clear_,run_underlying hut,hzv,hrun]
   ·have hko:k*size<=o*size:=T9 _ hb.1
    have hoc:o*size<=cur.toList.length:=by simp;omega
    rw[Re,List.take_append_of_le_length Yfj,List.take_take,SQ hko]
    exact h5
theorem Yfq(T:Tab P){j:Nat}(hx:evo env x=some (.slice A i cap))(hy:evo env y=some (.slice (subA A j cap size) mm c))(ht:look T.sl t=some (e,size,bytes))(hn:Nat.ble (d+1) n.k=true)
 (hu:Upd (sl e size A k cap xs) (sl e size A (i+mm) cap (xs.take (i*size)++xs.drop (j*size))) H K) (h1:∀v∈xs,v.oneCell'=true) (hb:i<=j/\j<=k/\mm=k-j/\0<k)
 (h:VL P none n B w0 ops Q rest ((d,.slice A (i+mm) cap)::env) K):
 VL P none n B w0 ops Q (⟨some d,.call ⟨.builtin .append,#[x,y],#[t,t]⟩,ty,pos,after,none⟩::rest) env H:=by
 obtain⟨hut,inf,z,hi,hz,hzs,hsi,hbi,hs0,hb0⟩:=Yx (T.slic ht)
 refine Xj (λv K'=>v=.slice A (i+mm) cap/\K'=K) rfl rfl hn (λa w ha hw=>?_) zc51
 have hmem:sl e size A k cap xs∈H:=YiV
 rcases ZK (hw.sl hmem)with⟨rfl,e1,_⟩|⟨g,cur,rfl,g1,g2,g3,g4,g5,g6⟩
 ·omega
 have hdl:(xs.drop (j*size)).length=mm*size:=by rw[TZ,g6,hb.2.2.1,Nat.sub_mul]
 have hij:i*size<=j*size:=T9 _ hb.1
 have hjk:j*size<=k*size:=T9 _ hb.2.1
 have hkc:k*size<=cap*size:=T9 _ g2
 have hov:i*size+(xs.drop (j*size)).length<=cur.size:=by rw[TZ,g6,g4];omega
 have hrun:=run_storeCells_at (P:=P) g (i*size) e (xs.drop (j*size)) 0 cur w g1 (by rw[SV];exact hov) (λv hv=>h1 v (List.mem_of_mem_drop hv))
 rw[SV]at hrun
 refine⟨_,K,_,?_,hw.storeRow (k':=i+mm) (o:=i*size) (vs:=xs.drop (j*size)) hu rfl g1 g4 (by omega) g3 hov ?_ ?_,rfl,rfl⟩
 ·have hf:(Builtin.firstCells size mm (.slice (subA (some ⟨g,0,none⟩) j cap size) mm c)).run P w=.ok (xs.drop (j*size)).toArray w:=by
   by_cases hcj:cap=j
   ·have hm0:mm=0:=by omega
    have hnil:xs.drop (j*size)=[]:=RS (by rw[hdl,hm0];simp)
    unfold subA
    rw[Tn hcj,hnil]
    exact run_firstCells_some (P:=P) (w:=w) size mm _ mm c [] (by simp[hm0]) (by simp)
   ·unfold subA
    rw[Tf hcj,Sr,Addr.add_lit,RH]
    refine run_firstCells_some (P:=P) (w:=w) size mm _ mm c _ hdl λq v hq=>?_
    rw[RL]at hq
    have h7:=(Tu.1 hq).1
    rw[Addr.add_lit]
    simp only[World.cell?,g1]
    rw[<-g5,SG]at hq
    by_cases hlt:j*size+q<k*size
    ·rw[Tn hlt]at hq
     simpa using hq
    ·rw[Tf hlt]at hq;cases hq
  have hneed:i+mm<=cap:=by omega
  have hadd:(⟨g,0,none⟩:Addr).add (i*size)=⟨g,i*size,none⟩:=by rw[Addr.add_lit,RH]
  simp[execOp,resolve,invoke,builtin,ha.eval hx,ha.eval hy,Builtin.append_,run_underlying hut,sizeOf,typeInfo,hi,hsi,Builtin.lenOf,hneed,hf,hadd,hrun]
 all_goals grind [SH]
theorem Vs(T:Tab P){f:α->List Value}{l:List α}{b b':α}{v:Value}(hx:evo env x=some (sptr A (i*q+o)))(hy:evo env y=some v)(h1:v.oneCell'=true)
 (hu:Upd (sl e q A k cap (l.flatMap f)) (sl e q A k cap ((l.set i b').flatMap f)) H K) (hb:l[i]? =some b) (hv:f b'=(f b).set o v) (hq:∀a,(f a).length=q) (ho:Nat.blt o q=true) (ht:look T.sc t=some ())
 (h:VL P none n B w0 ops Q rest env K):VL P none n B w0 ops Q (⟨none,.store t x y,ty,pos,after,none⟩::rest) env H:=by
 have ho':o<q:=by simp_all
 have hi:=(Tu.1 hb).1
 refine YaK (xs:=l.flatMap f) (e:=e) (size:=q) (k:=k) (cap:=cap) T hx hy h1 ?_ ht ?_ h
 ·rw[YhD hq ho' l i b b' hb hv];exact hu
 ·rw[Y0 hq]
  exact YtL
end
end Go.Eng
