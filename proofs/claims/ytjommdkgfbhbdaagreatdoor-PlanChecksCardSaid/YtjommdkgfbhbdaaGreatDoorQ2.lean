/- Lemmas. -/
import Derived.Maps.AppendAt
import Derived.Laws.StructEq
import Derived.ChangeKeysEq
import Derived.MapKept
import Derived.Maps.RangeRun
import Derived.Laws.IdiomCopy
import Derived.Laws.ResultCell
import Derived.Laws.Tables
import Derived.Great.BuildSlice
import Derived.Test.YtjommdkgfbhbdaaGreatDoorProg
import Derived.KernelRfl
import Derived.Test.YtjommdkgfbhbdaaGreatDoorQ1
set_option maxRecDepth 100000
set_option maxHeartbeats 8000000
set_option linter.all false
namespace Go.Eng
open Go.RowKit
def sl(e size:Nat)(A:Option Addr)(k cap:Nat)(xs:List Value):HP:=
 ⟨λS w=>w.ownsRow 0 e size (.slice A k cap) k xs/\∀a,A=some a->S a.block,by
  rintro S w w' hs ⟨⟨h1,h2⟩,h3⟩
  refine⟨⟨h1,?_⟩,h3⟩
  rcases h2 with h2|⟨g,c,cur,e1,e2,e3,e4⟩
  ·exact .inl h2
  ·refine .inr ⟨g,c,cur,e1,e2,?_,e4⟩
   injection e1 with e1
   rw[hs g (h3 _ e1)]
   exact e3⟩
variable {e size B k cap j t bytes:Nat}
theorem Yvq(S:Nat->Prop)(w:World):(sl e size none 0 0 []).holds S w:=⟨⟨by simp,.inl ⟨rfl,rfl⟩⟩,λa h=>by cases h⟩
variable {w0 w:World}{H:List HP}
theorem St.nilSlice(h:St B w0 H w)(e size:Nat):St B w0 (sl e size none 0 0 []::H) w:=
 ⟨h.below,h.le,λ_=>False,λb=>B<=b/\b<w.heap.size,λ_ hb=>hb.elim,λ_ hb=>hb,λ_ hb=>hb.elim,Yvq _ _,h.sep⟩
variable {A:Option Addr}{xs:List Value}
theorem St.sl(h:St B w0 H w)(hm:Eng.sl e size A k cap xs∈H):
 w.ownsRow 0 e size (.slice A k cap) k xs:=by
 obtain⟨S,_,h2,_⟩:=h.at_ hm
 exact h2
variable {v:Value}
theorem OW(h:w.ownsRow 0 e size (.slice A k cap) k xs)(hv:xs[j]? =some v):
 ∃g,A=some ⟨g,0,none⟩/\w.cell? ⟨g,j,none⟩=some v/\∃cur,w.heap[g]? =some (.cells cur e (0,0))/\cur[j]? =some v:=by
 rcases h.2 with⟨e1,e2⟩|⟨g,c,cur,e1,_,e3,_,_,_,e4⟩
 ·have:=h.1
  simp_all
 ·injection e1 with e1
  have hc:cur[j]? =some v:=by
   grind
  exact⟨g,e1,by grind [Y7],cur,e3,hc⟩
theorem YG{P:Program}(h:Yd4 P t=some (e,size,bytes)):
 P.underlying t=some (.slice e)/\∃i z,P.info? e=some i/\i.zero=some z/\z.cells.size=size/\i.size=size/\i.bytes=bytes/\0<size/\0<bytes:=by
 unfold Yd4 at h
 split at h
 ·rename_i e' hu
  cases hi:P.info? e' with
  |none=>simp_all
  |some i=>
   cases hz:i.zero with
   |none=>simp_all
   |some z=>
    grind
 simp_all
def Ji:List Value->Bool
 |[]=>true
 |v::l=>v.oneCell'&&Ji l
theorem ZR:∀{l:List Value},Ji l=true->∀u∈l,u.oneCell'=true
 |[],_,u,hu=>by cases hu
 |v::l,h,u,hu=>by
  simp only[Ji,Tq]at h
  rcases RA.1 hu with e|e
  ·simp_all
  ·exact ZR h.2 u e
def sptr(A:Option Addr)(j:Nat):Value:=.pointer (A.map λa=>a.add j)
section
variable {P:Program}{m:Mode}{n:Shp}{B:Nat}{w0:World}{Q:Exit->Act->World->Prop}{env:Env}{H:List HP}{ops:Array Oper}{rest:List Oper}
variable {d:Nat}{ty:TypeId}{pos:String}{after:Array Edge}
variable {c:Code}
theorem Vc(e size:Nat)(h:VC P n B w0 c Q env (sl e size none 0 0 []::H)):VC P n B w0 c Q env H:=⟨λa w ha hw=>h.run a w ha (hw.nilSlice e size)⟩
variable {x y lo:Operand}{A:Option Addr}{k cap t e size bytes j:Nat}
theorem YuR(T:Tab P){tx:Nat}{es:Nat×Nat×Nat}(hx:evo env x=some (.slice A k cap))(ht:look T.sl tx=some es)(hn:Nat.ble (d+1) n.k=true)(h:VL P m n B w0 ops Q rest ((d,.int .i64 k)::env) H):
 VL P m n B w0 ops Q (⟨some d,.call ⟨.builtin .len,#[x],#[tx]⟩,ty,pos,after,none⟩::rest) env H:=by
 obtain⟨e,size,bytes⟩:=es
 obtain⟨hu,_⟩:=YG (T.slic ht)
 exact Yt rfl rfl hn rfl (λf w ha _=>by simp[execOp,resolve,invoke,builtin,ha.eval hx,Builtin.len_,run_underlying hu,goInt]) h
variable {xs:List Value}{cs:Array Value}
theorem YmH(T:Tab P){tt:Nat}{g mm c:Nat}{fr:Nat×Nat}{K:Option Addr->Nat->List HP}
 (hx:evo env x=some (.slice A k cap)) (ht:look T.sl t=some (e,size,bytes))
 (hy:evo env y=some (.slice (some ⟨g,0,none⟩) mm c)) (hb:blk g (.cells cs tt fr)∈H) (hk:cs.size=mm*size) (h1:Ji cs.toList=true) (hn:Nat.ble (d+1) n.k=true)
 (hu:∀A' cap',Upd (sl e size A k cap xs) (sl e size A' (k+mm) cap' (xs++cs.toList)) H (K A' cap')) (hby:(k+mm)*bytes<=140737488355328)
 (h:∀A' cap',VL P none n B w0 ops Q rest ((d,.slice A' (k+mm) cap')::env) (K A' cap')):
 VL P none n B w0 ops Q (⟨some d,.call ⟨.builtin .append,#[x,y],#[t,t]⟩,ty,pos,after,none⟩::rest) env H:=by
 obtain⟨hut,i,z,hi,hz,hzs,hsi,hbi,hs0,hb0⟩:=YG (T.slic ht)
 refine XA (λv K'=>∃A' cap',v=.slice A' (k+mm) cap'/\K'=K A' cap') rfl rfl hn (λa w ha hw=>?_) YqT
 have hmem:sl e size A k cap xs∈H:=YqY
 have hown:=hw.sl hmem
 have hblk:=(hw.blk hb).1
 have h63:k+mm<=maxLen:=by
  have:k+mm<=(k+mm)*bytes:=Nat.le_mul_of_pos_right _ hb0
  grind [maxLen]
 obtain⟨v',w',hrun,hown',hgrow,_,hat⟩:=run_append_own_at (P:=P) w 0 t ty e i z size bytes hut hi hz hsi hbi hzs hs0 (.slice A k cap) k xs hown ⟨g,0,none⟩ mm c cs.toList (by omega)
  (λj u hj=>by rw[Addr.add_lit,Y7 hblk,Ri];simp_all) (ZR h1) h63 hby (Td _)
 have hshape:∃A' cap',v'=.slice A' (k+mm) cap':=Yuo
 obtain⟨A',cap',rfl⟩:=hshape
 refine⟨_,K A' cap',w',by exact YqO,?_,A',cap',rfl,rfl⟩
 refine hw.updN (hu A' cap') hgrow.os hgrow.tape hgrow.output hgrow.size λS1 ⟨_,hS⟩=>⟨⟨λb=>Value.ownBlock (.slice A' (k+mm) cap')=some b,⟨hown',?_⟩,λb hb=>?_⟩,λb hb hlt=>hgrow.block b hlt (λe=>hb ?_)⟩
 ·rintro a rfl;rfl
 ·rcases hat with e|e
  ·rw[e]at hb
   cases A with
   |none=>cases hb
   |some a=>exact Yud
  ·rw[e]at hb
   right
   simp only[RX]at hb
   subst hb
   refine⟨TK _,?_⟩
   rcases hown'.2 with⟨e1,_⟩|⟨g',_,_,e1,_,e3,_⟩
   ·rw[e1]at e;cases e
   ·rw[e1]at e
    simp only[Value.ownBlock,RX]at e
    subst e
    rcases Nh w.heap.size w'.heap.size with h|h
    ·exact h
    ·rw[SC h]at e3;cases e3
 ·cases A with
  |none=>cases e
  |some a=>simp only[Value.ownBlock,RX]at e;rw[e];exact hS a rfl
variable {i:Int}
theorem Yg8(T:Tab P){ki:IntKind}(hx:evo env x=some (.slice A k cap))(hm:sl e size A k cap xs∈H)(hy:evo env y=some (.int ki i))
 (ht:look T.sl t=some (e,size,bytes)) (hn:Nat.ble (d+1) n.k=true) (hi:0<=i/\i<k) (h:VL P m n B w0 ops Q rest ((d,sptr A (i.toNat*size))::env) H):
 VL P m n B w0 ops Q (⟨some d,.indexAddr t x y,ty,pos,after,none⟩::rest) env H:=by
 obtain⟨hut,inf,z,hinf,_,_,hsi,_,_,_⟩:=YG (T.slic ht)
 refine Yt rfl rfl hn rfl (λa w ha hw=>?_) h
 have hown:=hw.sl hm
 rcases hown.2 with⟨_,e2⟩|⟨g,c,cur,e1,_⟩
 ·omega
 ·injection e1 with e1
  subst e1
  exact zc61
variable {v:Value}
theorem YjG(T:Tab P)(hx:evo env x=some (sptr A j))(hm:sl e size A k cap xs∈H)(ht:look T.sc t=some ())(hn:Nat.ble (d+1) n.k=true)(hv:xs[j]? =some v)
 (h:VL P m n B w0 ops Q rest ((d,v)::env) H):VL P m n B w0 ops Q (⟨some d,.load t x,ty,pos,after,none⟩::rest) env H:=by
 refine Yt rfl rfl hn rfl (λa w ha hw=>?_) h
 obtain⟨g,rfl,hc,_⟩:=OW (hw.sl hm) hv
 exact YtZ
theorem WT(T:Tab P){K:List HP}(hx:evo env x=some (sptr A j))(hy:evo env y=some v)(h1:v.oneCell'=true)
 (hu:Upd (sl e size A k cap xs) (sl e size A k cap (xs.set j v)) H K) (ht:look T.sc t=some ()) (hj:j<xs.length)
 (h:VL P none n B w0 ops Q rest env K):VL P none n B w0 ops Q (⟨none,.store t x y,ty,pos,after,none⟩::rest) env H:=by
 have hmem:sl e size A k cap xs∈H:=Yjv
 refine J6 rfl rfl (λa w ha hw=>?_) h
 obtain⟨g,rfl,hc,cur,hb,hcj⟩:=OW (hw.sl hmem) (Ta hj)
 refine⟨w.setCell ⟨g,j,none⟩ v,?_,?_⟩
 ·have hcs:v.cells=#[v]:=YqS
  have hz:w.frozen? ⟨g,j,none⟩=false:=YfP
  simp[execOp,ha.eval hx,ha.eval hy,sptr,Instr.storeAt,Instr.sureAddr,storeVar,hcs,Jl (T.scal ht).2,storeCells,run_store _ _ _ _ _ h1,Addr.add_lit,hc,hz]
 ·refine hw.upd hu rfl rfl rfl (by simp) λS1 ⟨hown,hS⟩=>⟨⟨⟨?_,?_⟩,hS⟩,λb hb' _=>Below.heap_setCell w _ v b (λe=>hb' (by simp_all))⟩
  ·simpa using hown.1
  ·rcases hown.2 with⟨e1,_⟩|⟨g',c',cur',e1,e2,e3,e4,e5,e6,e7⟩
   ·cases e1
   ·injection e1 with e1 e8 e9
    injection e1 with e1
    injection e1 with e1
    subst e1
    refine .inr ⟨g,c',cur'.setIfInBounds j v,by rw[e9],e2,?_,e4,e5,by simpa using e6,?_⟩
    ·simp[World.setCell,Array.getElem?_modify,e3]
    ·rw[<-e7]
     simp only[Array.toList_setIfInBounds]
     rw[List.take_set]
variable {s:ByteArray}
theorem Yk1(h:s=⟨#[]⟩):s.size=0:=by rw[h];rfl
theorem YeS(h:s≠⟨#[]⟩):1<=s.size:=by
 rcases Su s.size with e|e
 ·cases s;grind [ByteArray.size]
 omega
theorem YoL{xt yt:TypeId}(hx:evo env x=some (.string s))(hn:Nat.ble (d+1) n.k=true)(h1:s≠⟨#[]⟩->1<=s.size->VL P m n B w0 ops Q rest ((d,.bool true)::env) H)(h2:s=⟨#[]⟩->s.size=0->VL P m n B w0 ops Q rest ((d,.bool false)::env) H):
 VL P m n B w0 ops Q (⟨some d,.binOp .neq xt x (.const (.string ⟨#[]⟩)) yt,ty,pos,after,none⟩::rest) env H:=
 Yrn hx rfl hn (λe=>h1 e (YeS e)) (λe=>h2 e (Yk1 e))
variable {k1:IntKind}
theorem YmP(T:Tab P){hi:Operand}{k2:IntKind}{j:Int}(hx:evo env x=some (.string s))(hl:evo env lo=some (.int k1 i))(hh:evo env hi=some (.int k2 j))(ht:look T.st t=some ())(hn:Nat.ble (d+1) n.k=true)
 (hb:0<=i/\i<=j/\j<=s.size) (h:VL P m n B w0 ops Q rest ((d,.string (s.extract i.toNat j.toNat))::env) H):VL P m n B w0 ops Q (⟨some d,.slice t x (some lo) (some hi) none,ty,pos,after,none⟩::rest) env H:=by
 refine Yt rfl rfl hn rfl (λa w ha _=>?_) h
 have hu:=T.strs ht
 simp[execOp,ha.eval hx,ha.eval hl,ha.eval hh,Instr.sliceAt,run_underlying hu,run_slice_string w t s k1 k2 i j hu hb.1 hb.2.1 hb.2.2]
theorem Yf4(T:Tab P)(hx:evo env x=some (.string s))(hl:evo env lo=some (.int k1 i))(ht:look T.st t=some ())(hn:Nat.ble (d+1) n.k=true)
 (hb:0<=i/\i<=s.size) (h:VL P m n B w0 ops Q rest ((d,.string (s.extract i.toNat s.size))::env) H):VL P m n B w0 ops Q (⟨some d,.slice t x (some lo) none none,ty,pos,after,none⟩::rest) env H:=by
 refine Yt rfl rfl hn rfl (λa w ha _=>?_) h
 have hu:=T.strs ht
 simp[execOp,ha.eval hx,ha.eval hl,Instr.sliceAt,run_underlying hu,Instr.slice,Instr.sliceBounds,Instr.sliceBound,asIntOf,hb]
theorem QC(T:Tab P){k:IntKind}(hx:evo env x=some (.string s))(hy:evo env y=some (.int k i))(ht:look T.st t=some ())(hn:Nat.ble (d+1) n.k=true)
 (hi:0<=i/\i<s.size) (h:∀b:UInt8,s[i.toNat]? =some b->VL P m n B w0 ops Q rest ((d,.int .u8 b.toNat)::env) H):VL P m n B w0 ops Q (⟨some d,.index t x y,ty,pos,after,none⟩::rest) env H:=by
 have hlt:i.toNat<s.size:=by omega
 refine Yt (v:=.int .u8 (s[i.toNat]'hlt).toNat) rfl rfl hn rfl (λa w ha _=>?_) (h _ (by simp_all))
 have hu:=T.strs ht
 simp[execOp,ha.eval hx,ha.eval hy,Instr.index,asIntOf,run_underlying hu,hi.1,hlt]
theorem Yrg{k:IntKind}{a b:Int}{tys:Array TypeId}(hx:evo env x=some (.int k a))(hy:evo env y=some (.int k b))(hn:Nat.ble (d+1) n.k=true)(h1:b<a->VL P m n B w0 ops Q rest ((d,.int k b)::env) H)(h2:a<=b->VL P m n B w0 ops Q rest ((d,.int k a)::env) H):
 VL P m n B w0 ops Q (⟨some d,.call ⟨.builtin .min,#[x,y],tys⟩,ty,pos,after,none⟩::rest) env H:=by
 by_cases hc:b<a
 ·exact Yt rfl rfl hn rfl (λf w ha _=>by exact Yuh) (h1 hc)
 ·exact Yt rfl rfl hn rfl (λf w ha _=>by exact Yuh) (h2 (by omega))
theorem OZ{len:Nat}{parts:List (Nat×Operand)}{ps:List (Nat×Value)}(hp:Ya6 env parts ps)(hb:∀w,(Instr.buildSlice t len ps.toArray).run P w=.ok (.slice (some ⟨w.heap.size,0,none⟩) len len) (w.alloc (.cells cs e (0,0))))(hn:Nat.ble (d+1) n.k=true)
 (h:∀g,VL P none n B w0 ops Q rest ((d,.slice (some ⟨g,0,none⟩) len len)::env) (blk g (.cells cs e (0,0))::H)):VL P none n B w0 ops Q (⟨some d,.buildSlice t len parts.toArray,ty,pos,after,none⟩::rest) env H:=by
 refine XA (λv K=>∃g,v=.slice (some ⟨g,0,none⟩) len len/\K=blk g (.cells cs e (0,0))::H) rfl rfl hn (λa w ha hw=>?_) zc53
 have hm:(parts.toArray.map λ(i,x)=>(i,a.eval x))=ps.toArray:=Yus
 refine⟨_,_,w.alloc (.cells cs e (0,0)),?_,hw.alloc _,w.heap.size,rfl,rfl⟩
 simp_all [execOp]
theorem ZQ(e size:Nat){ex:Exit}(h:VQ n B w0 Q ex env (sl e size none 0 0 []::H)):VQ n B w0 Q ex env H:=⟨λa w ha hw=>h.run a w ha (hw.nilSlice e size)⟩
def u8n(l:List Nat):List Value:=l.map λb:Nat=>Value.int .u8 (b:Int)
theorem Ydu(l:List Nat):(u8n l).length=l.length:=by simp[u8n]
def Yjb(l:List Nat):ByteArray:=⟨(l.map UInt8.ofNat).toArray⟩
theorem Yk6(l:List Nat)(s:ByteArray):(l.map λb:Nat=>(b:Int)).foldl (λr n=>r.push (UInt8.ofNat n.toNat)) s=⟨s.data++(l.map UInt8.ofNat).toArray⟩:=by
 induction l generalizing s with
 |nil=>simp
 |cons b l ih=>
  simp_all
theorem Yow(T:Tab P){s:Nat}{l:List Nat}(hx:evo env x=some (.slice A k cap))(hm:sl e 1 A k cap (u8n l)∈H)(ht:look T.sl t=some (e,size,bytes))(he:look T.ik e=some .u8)(hs:look T.st s=some ())(hn:Nat.ble (d+1) n.k=true)
 (h:VL P m n B w0 ops Q rest ((d,.string (Yjb l))::env) H):VL P m n B w0 ops Q (⟨some d,.convert t s x,ty,pos,after,none⟩::rest) env H:=by
 obtain⟨hu,_⟩:=YG (T.slic ht)
 refine Yt rfl rfl hn rfl (λa w ha hw=>?_) h
 have hown:=hw.sl hm
 have hlen:l.length=k:=by have:=hown.1;simp_all [Ydu]
 have hr:(Conv.bytesToString (.slice A k cap)).run P w=.ok (.string (Yjb l)) w:=by
  rcases hown.2 with⟨e1,e2⟩|⟨g,c,cur,e1,_,e3,_,_,_,e4⟩
  ·injection e1 with e1
   subst e1
   have:l=[]:=by simp_all
   subst this
   rfl
  ·injection e1 with e1
   subst e1
   have hl:=run_loadCells_list (P:=P) w ⟨g,0,none⟩ (u8n l) (λj v hj=>by
    obtain⟨g',e5,hc,_⟩:=OW hown hj
    simp_all [Go.Addr.add_lit])
   rw[Ydu,hlen]at hl
   have e6:u8n l=(l.map λb:Nat=>(b:Int)).map (Value.int .u8):=by simp[u8n]
   rw[e6]at hl
   rw[run_bytesToString w ⟨g,0,none⟩ k cap _ hl,Yk6]
   have e7:ByteArray.empty.data=#[]:=rfl
   grind [Yjb]
 simp[execOp,ha.eval hx,run_convert_bytes_string w t s e A k cap hu (YaQ (T.ints he)) (T.strs hs),hr]
theorem Ycq(T:Tab P){c:Int}{z:Value}(hx:evo env x=some (.int .i64 c))(hy:evo env y=some (.int .i64 c))(ht:look T.sl t=some (e,1,bytes))(hz:((P.info? e).bind (·.zero))=some z)(hz1:z.cells=#[z])(hn:Nat.ble (d+1) n.k=true)(hb:Nat.ble bytes 1000=true)(hc:0<=c/\c<=1000000)
 (h:∀g,VL P none n B w0 ops Q rest ((d,.slice (some ⟨g,0,none⟩) c.toNat c.toNat)::env) (sl e 1 (some ⟨g,0,none⟩) c.toNat c.toNat (List.replicate c.toNat z)::H)):VL P none n B w0 ops Q (⟨some d,.makeSlice t x y,ty,pos,after,none⟩::rest) env H:=by
 obtain⟨hu,i,z',hi,hz',_,hsi,hbi,_,_⟩:=YG (T.slic ht)
 obtain rfl:z'=z:=by simp_all
 have hb':=TR hb
 refine XA (λv K=>∃g,v=.slice (some ⟨g,0,none⟩) c.toNat c.toNat/\K=sl e 1 (some ⟨g,0,none⟩) c.toNat c.toNat (List.replicate c.toNat z')::H) rfl rfl hn (λa w ha hw=>?_) zc53
 have hbytes:(i.bytes:Int)*c<=281474976710656:=Yt7
 have hrun:=run_make (P:=P) w t e i z' hu hi hz' .i64 .i64 c c hc.1 (SK _) hbytes (by omega)
 rw[hsi,RG,hz1]at hrun
 refine⟨_,_,w.alloc (.cells (madeCells #[z'] c.toNat) e),by simp only[execOp,ha.eval hx,ha.eval hy,Sem.run_bind,hrun,Result.andThen_ok,Sem.run_pure],?_,w.heap.size,rfl,rfl⟩
 have h2:=hw.alloc (.cells (madeCells #[z'] c.toNat) e)
 refine h2.upd (Upd.here _) rfl rfl rfl (TK _) λS1 ⟨h3,h4⟩=>⟨⟨⟨by simp,.inr ⟨w.heap.size,c.toNat,madeCells #[z'] c.toNat,rfl,Td _,h4,TK _,by grind [maxLen],by simp[size_madeCells],?_⟩⟩,λa ha=>by grind⟩,λ_ _ _=>rfl⟩
 simp_all [toList_madeCells_one]
variable {α β:Type}
theorem Yci(E:α->β->Env)(HH:α->β->List HP)(I:α->β->Prop)(μ:α->β->Nat)(x0:α)(y0:β)(h0:I x0 y0)
 (he:∀t v,get (E x0 y0) t=some v->get env t=some v) (hH:∀w,St B w0 H w->St B w0 (HH x0 y0) w)
 (round:∀x y,I x y->∀K:Act->World->Prop,(∀x' y',I x' y'->μ x' y'<μ x y->∀env' H',(∀t v,get (E x' y') t=some v->get env' t=some v)->(∀w,St B w0 H' w->St B w0 (HH x' y') w)->VQ n B w0 (Exit.then K Q) .normal env' H')->
  VC P n B w0 c (Exit.then K Q) (E x y) (HH x y)):VC P n B w0 (.loop c) Q env H:=
 YfT (α:=α×β) (λp=>E p.1 p.2) (λp=>HH p.1 p.2) (λp=>I p.1 p.2) (λp=>μ p.1 p.2) (x0,y0) h0 he hH λp hp=>
  round p.1 p.2 hp _ λx' y' hI hμ _ _ he' hH'=>Ycv (x',y') hI hμ he' hH'
theorem Ye(E:α->Env)(HH:α->List HP)(I:α->Prop)(μ:α->Nat)(x0:α)(h0:I x0)
 (he:∀t v,get (E x0) t=some v->get env t=some v) (hH:∀w,St B w0 H w->St B w0 (HH x0) w)
 (round:∀x,I x->∀K:Act->World->Prop,(∀x',I x'->μ x'<μ x->∀env' H',(∀t v,get (E x') t=some v->get env' t=some v)->(∀w,St B w0 H' w->St B w0 (HH x') w)->VQ n B w0 (Exit.then K Q) .normal env' H')->
  VC P n B w0 c (Exit.then K Q) (E x) (HH x)):VC P n B w0 (.loop c) Q env H:=
 YfT E HH I μ x0 h0 he hH λp hp=>round p hp _ λx' hI hμ _ _ he' hH'=>Ycv x' hI hμ he' hH'
theorem You{γ:Type}(E:α->β->γ->Env)(HH:α->β->γ->List HP)(I:α->β->γ->Prop)(μ:α->β->γ->Nat)(x0:α)(y0:β)(z0:γ)(h0:I x0 y0 z0)
 (he:∀t v,get (E x0 y0 z0) t=some v->get env t=some v) (hH:∀w,St B w0 H w->St B w0 (HH x0 y0 z0) w)
 (round:∀x y z,I x y z->∀K:Act->World->Prop,(∀x' y' z',I x' y' z'->μ x' y' z'<μ x y z->∀env' H',(∀t v,get (E x' y' z') t=some v->get env' t=some v)->(∀w,St B w0 H' w->St B w0 (HH x' y' z') w)->VQ n B w0 (Exit.then K Q) .normal env' H')->
  VC P n B w0 c (Exit.then K Q) (E x y z) (HH x y z)):VC P n B w0 (.loop c) Q env H:=
 YfT (α:=α×β×γ) (λp=>E p.1 p.2.1 p.2.2) (λp=>HH p.1 p.2.1 p.2.2) (λp=>I p.1 p.2.1 p.2.2) (λp=>μ p.1 p.2.1 p.2.2) (x0,y0,z0) h0 he hH λp hp=>
  round p.1 p.2.1 p.2.2 hp _ λx' y' z' hI hμ _ _ he' hH'=>Ycv (x',y',z') hI hμ he' hH'
end
open Go.ChangeMaps (setBlock)
def Qo(P:Program)(t:TypeId):Option Value->Option Value->Bool
 |some (.int k _),some (.int k' _)=>decide (k=k')&&(match P.underlying t with|some (.int _)=>true|_=>false)
 |some (.string _),some (.string _)=>match P.underlying t with|some .string=>true|_=>false
 |some (.bool _),some (.bool _)=>match P.underlying t with|some .bool=>true|_=>false
 |_,_=>false
def OB(P:Program)(t:TypeId)(xs ys:List Value):Bool:=
 match P.underlying t with
 |some (.struct fs)=>!P.stoodInHeld t&&(fs.toList.map (·.offset)==List.range xs.length)&&(xs.length==ys.length)&&fs.toList.all (λf=>f.name != "_" &&Qo P f.type xs[f.offset]? ys[f.offset]?)
 |_=>false
section
variable {P:Program}
theorem YgN(w:World)(d:Nat){t:TypeId}{x y:Value}(h:Qo P t (some x) (some y)=true):∃r:Bool,(Op.equalIn (d+1) t x y).run P w=.ok r w/\(r=true↔x=y):=by
 unfold Qo at h
 split at h
 ·rename_i k a k' b e1 e2
  injection e1 with e1;injection e2 with e2
  subst e1;subst e2
  simp only[Tq,Tm]at h
  obtain⟨rfl,h⟩:=h
  split at h
  ·rename_i q hu
   exact⟨a==b,run_equalIn_int w d t k q a b hu,by simp⟩
  simp_all
 ·rename_i a b e1 e2
  injection e1 with e1;injection e2 with e2
  subst e1;subst e2
  split at h
  ·rename_i hu
   exact⟨a.toList==b.toList,run_equalIn_string w d t a b hu,by rw[QO];simp⟩
  simp_all
 ·rename_i a b e1 e2
  injection e1 with e1;injection e2 with e2
  subst e1;subst e2
  split at h
  ·rename_i hu
   exact⟨a==b,run_equalIn_bool w d t a b hu,by simp⟩
  simp_all
 simp_all
theorem Yku{t:TypeId}{x y:Option Value}(h:Qo P t x y=true):P.plainKey t=true/\∃a b,x=some a/\y=some b:=by
 unfold Qo at h
 split at h
 ·exact YqV
 ·exact YqV
 ·exact YqV
 simp_all
theorem Qb(w:World)(d:Nat)(xs ys:List Value):∀fs:List Field,(∀f∈fs,f.name≠ "_" /\Qo P f.type xs[f.offset]? ys[f.offset]? =true)->
 ∃r:Bool,(Op.eqFields (d+1) xs.toArray ys.toArray fs).run P w=.ok r w/\(r=true↔∀f∈fs,xs[f.offset]? =ys[f.offset]?)
 |[],_=>⟨true,by simp[Op.eqFields],by simp⟩
 |f::fs,hall=>by
  obtain⟨hn,hl⟩:=hall f (by simp)
  obtain⟨hp,a,b,hx,hy⟩:=Yku hl
  rw[hx,hy]at hl
  obtain⟨r,hr,hiff⟩:=YgN w d hl
  obtain⟨r',hr',hiff'⟩:=Qb w d xs ys fs (λg hg=>hall g (by simp[hg]))
  have p1:=run_part_plain (P:=P) (w:=w) hp (xs:=xs.toArray) (off:=f.offset) (v:=a) (by simp_all)
  have p2:=run_part_plain (P:=P) (w:=w) hp (xs:=ys.toArray) (off:=f.offset) (v:=b) (by simp_all)
  simp only[Op.eqFields,hn,ne_eq,not_false_eq_true,Ni,Sem.run_bind,p1,p2,hr,Result.andThen_ok]
  cases r
  all_goals simp_all
variable {xs ys:List Value}
theorem YdW(w:World){t:TypeId}(h:OB P t xs ys=true):∃r:Bool,(Op.equal t (.agg xs.toArray) (.agg ys.toArray)).run P w=.ok r w/\(r=true↔xs=ys):=by
 unfold OB at h
 split at h
 ·rename_i fs hu
  simp only[Tq,R9,NB,TL,bne_iff_ne,ne_eq]at h
  obtain⟨⟨⟨h1,h2⟩,h3⟩,h4⟩:=h
  have hfs:P.fieldsOf t=fs:=by simp[Program.fieldsOf,hu]
  obtain⟨r,hr,hiff⟩:=Qb w 9998 xs ys fs.toList h4
  refine⟨r,?_,?_⟩
  ·grind [Go.Op.equal,Go.Op.maxDepth,run_equalIn_struct]
  ·constructor
   ·intro h
    apply Si
    intro i
    by_cases hi:i<xs.length
    ·have:i∈fs.toList.map (·.offset):=by simp_all
     grind
    simp_all
   simp_all
 simp_all
end
section
variable {P:Program}{n:Shp}{B:Nat}{w0:World}{Q:Exit->Act->World->Prop}{env:Env}{H:List HP}{m:Mode}{ops:Array Oper}{rest:List Oper}{d:Nat}{ty:TypeId}{pos:String}{after:Array Edge}
variable {x y u:Operand}
theorem Je(w:World){op:BinOp}{t:TypeId}{xs ys:Array Value}(hg:P.eqGuardType P.depth t=false):(eqGuard op t x y (.agg xs) (.agg ys)).run P w=.ok () w:=by
 simp_all [eqGuard]
variable {xt yt:TypeId}{xs ys cs:List Value}
theorem Yq6(hx:evo env x=some (.agg xs.toArray))(hy:evo env y=some (.agg ys.toArray))(hn:Nat.ble (d+1) n.k=true)(hg:P.eqGuardType P.depth xt=false)(hl:OB P xt xs ys=true)
 (h1:xs=ys->VL P m n B w0 ops Q rest ((d,.bool true)::env) H) (h2:xs≠ys->VL P m n B w0 ops Q rest ((d,.bool false)::env) H):
 VL P m n B w0 ops Q (⟨some d,.binOp .eql xt x y yt,ty,pos,after,none⟩::rest) env H:=by
 by_cases hc:xs=ys
 ·refine Y3 hx hy hn (λw=>Je w hg) (λw=>?_) (h1 hc)
  exact zc88
 ·refine Y3 hx hy hn (λw=>Je w hg) (λw=>?_) (h2 hc)
  exact zc88
theorem Yq7(hx:evo env x=some (.agg xs.toArray))(hy:evo env y=some (.agg ys.toArray))(hn:Nat.ble (d+1) n.k=true)(hg:P.eqGuardType P.depth xt=false)(hl:OB P xt xs ys=true)
 (h1:xs≠ys->VL P m n B w0 ops Q rest ((d,.bool true)::env) H) (h2:xs=ys->VL P m n B w0 ops Q rest ((d,.bool false)::env) H):
 VL P m n B w0 ops Q (⟨some d,.binOp .neq xt x y yt,ty,pos,after,none⟩::rest) env H:=by
 by_cases hc:xs=ys
 ·refine Y3 hx hy hn (λw=>Je w hg) (λw=>?_) (h2 hc)
  exact zc88
 ·refine Y3 hx hy hn (λw=>Je w hg) (λw=>?_) (h1 hc)
  exact zc88
theorem Ya2(w:World)(k:Nat){t e:TypeId}(a:Option Addr)(hu:P.underlying t=some (.pointer e)):(Op.equalIn (k+1) t (.pointer a) (.pointer none)).run P w=.ok a.isNone w:=by
 unfold Op.equalIn
 cases a<;>simp[run_underlying hu]
def YpN(P:Program)(t:TypeId):Bool:=match P.underlying t with|some (.pointer _)=>true|_=>false
theorem Ykq{t:TypeId}(h:YpN P t=true):∃e,P.underlying t=some (.pointer e):=by
 unfold YpN at h
 grind
theorem Yhh{a:Option Addr}(hx:evo env x=some (.pointer a))(hn:Nat.ble (d+1) n.k=true)(hu:YpN P xt=true)
 (h:VL P m n B w0 ops Q rest ((d,.bool a.isNone)::env) H):VL P m n B w0 ops Q (⟨some d,.binOp .eql xt x (.const (.pointer none)) yt,ty,pos,after,none⟩::rest) env H:=by
 obtain⟨e,hu⟩:=Ykq hu
 refine Y3 hx (y:=.const (.pointer none)) rfl hn (λw=>by simp[eqGuard]) (λw=>?_) h
 simp_all [binOp,Go.Op.equal,Go.Op.maxDepth,Ya2]
variable {t e size g o b kt et clock r since:Nat}
theorem Jt{k:Nat}(h:YcD P t=some (k,e,size)):∃i,P.underlying t=some (.array k e)/\P.info? e=some i/\i.size=size:=by
 unfold YcD at h
 split at h
 ·rename_i k' e' hu
  cases hi:P.info? e' with
  |none=>simp_all
  |some i=>
   simp_all
 simp_all
variable {ki:IntKind}{i k:Int}
theorem YL(T:Tab P){k:Nat}(hx:evo env x=some (.pointer (some ⟨g,o,none⟩)))(hy:evo env y=some (.int ki i))(ht:look T.ar t=some (k,e,size))(hn:Nat.ble (d+1) n.k=true)(hi:0<=i/\i<k)
 (h:VL P m n B w0 ops Q rest ((d,.pointer (some ⟨g,o+i.toNat*size,none⟩))::env) H):
 VL P m n B w0 ops Q (⟨some d,.indexAddr t x y,ty,pos,after,none⟩::rest) env H:=by
 obtain⟨inf,hu,hinf,hs⟩:=Jt (T.arra ht)
 refine Yt rfl rfl hn rfl (λa w ha hw=>?_) h
 simp[execOp,ha.eval hx,ha.eval hy,Instr.indexAt,Instr.sureAddr,asIntOf,run_underlying hu,hi,sizeOf,typeInfo,hinf,hs,Addr.add_lit]
theorem Yf2(T:Tab P){k:Nat}(hx:evo env x=some (.pointer (some ⟨g,o,none⟩)))(hy:evo env y=some (.int ki i))(ht:look T.ar t=some (k,e,size))(hn:Nat.ble (d+1) n.k=true)(hi:0<=i/\i<=k)
 (h:VL P m n B w0 ops Q rest ((d,.slice (some ⟨g,o,none⟩) i.toNat k)::env) H):
 VL P m n B w0 ops Q (⟨some d,.slice t x none (some y) none,ty,pos,after,none⟩::rest) env H:=by
 obtain⟨inf,hu,hinf,hs⟩:=Jt (T.arra ht)
 refine Yt rfl rfl hn rfl (λa w ha hw=>?_) h
 simp[execOp,ha.eval hx,ha.eval hy,Instr.sliceAt,Instr.sliceBounds,Instr.sliceBound,Instr.sureAddr,asIntOf,run_underlying hu,hi,sizeOf,typeInfo,hinf,Addr.add_lit]
variable {v v0:Value}{K:List HP}
theorem Yhm(T:Tab P){i:Nat}{cs:Array Value}{tt:TypeId}(hx:evo env x=some (.pointer (some ⟨g,i,none⟩)))(hy:evo env y=some v)(h1:v.oneCell'=true)
 (hu:Upd (blk g (.cells cs tt (0,0))) (blk g (.cells (cs.setIfInBounds i v) tt (0,0))) H K) (hi:i<cs.size)
 (ht:look T.sc t=some ()) (h:VL P none n B w0 ops Q rest env K):VL P none n B w0 ops Q (⟨none,.store t x y,ty,pos,after,none⟩::rest) env H:=by
 refine J6 rfl rfl (λa w ha hw=>⟨w.setCell ⟨g,i,none⟩ v,?_,hw.setCell hu⟩) h
 have hb:w.heap[g]? =some (.cells cs tt (0,0)):=zc39
 have hc:=Y7 (i:=i) hb
 have hcs:v.cells=#[v]:=YqS
 have hz:w.frozen? ⟨g,i,none⟩=false:=YfP
 have hv:cs[i]? =some cs[i]:=by simp[hi]
 exact zc79
abbrev Ents:=List (Int×Value×Nat)
def toE(e:Int×Value×Nat):MapEntry:=⟨.int .i64 e.1,e.2.1,e.2.2⟩
def mobj(es:Ents)(clock:Nat):Obj:=.map (es.map toE).toArray clock
def mget(es:Ents)(k:Int):Option Value:=(es.find? λe=>e.1==k).map (·.2.1)
def mapT(P:Program)(t kt et:TypeId):Bool:=(match P.underlying t with|some (.map a b)=>a==kt&&b==et|_=>false)&&(match P.underlying kt with|some (.int .i64)=>true|_=>false)
theorem JZ{t kt et:TypeId}(h:mapT P t kt et=true):P.underlying t=some (.map kt et)/\P.underlying kt=some (.int .i64):=by
 unfold mapT at h
 grind
variable {es l1 l2:Ents}
theorem QY(i:Nat)(h:mget es k=none):Instr.findNow (.int .i64) (.int .i64 k) (es.map toE) i=some none:=by
 induction es generalizing i with
 |nil=>rfl
 |cons e es ih=>
  simp only[mget,List.find?_cons]at h
  by_cases hk:e.1=k
  ·simp_all
  ·have hk':(e.1==k)=false:=by simp_all
   rw[hk']at h
   have:(k==e.1)=false:=by grind
   simp only[Rx,Instr.findNow,toE,Instr.sameNow,Ni,this]
   exact ih (i+1) h
theorem Wj(i:Nat)(h:mget es k=some v):∃l1 b l2,es=l1++(k,v,b)::l2/\(∀e∈l1,e.1≠k)/\Instr.findNow (.int .i64) (.int .i64 k) (es.map toE) i=some (some (i+l1.length,v)):=by
 induction es generalizing i with
 |nil=>simp[mget]at h
 |cons e es ih=>
  simp only[mget,List.find?_cons]at h
  by_cases hk:e.1=k
  ·have hk':(e.1==k)=true:=by simp_all
   rw[hk']at h
   simp only[Ss,RX]at h
   refine⟨[],e.2.2,es,by grind,by simp,?_⟩
   have:(k==e.1)=true:=by simp_all
   simp_all [Go.Instr.findNow,toE,Go.Instr.sameNow]
  ·have hk':(e.1==k)=false:=by simpa using hk
   rw[hk']at h
   have:(k==e.1)=false:=by simpa usingλe=>hk e.symm
   obtain⟨l1,b,l2,e1,e2,e3⟩:=ih (i+1) h
   refine⟨e::l1,b,l2,by rw[e1];rfl,?_,?_⟩
   ·intro x hx
    rcases RA.1 hx with rfl|hx
    ·exact hk
    ·exact e2 x hx
   ·simp only[Rx,Instr.findNow,toE,Instr.sameNow,Ni,this]
    rw[e3]
    simp;omega
theorem Yc7(hk:∀e∈l1,e.1≠k):Instr.findNow (.int .i64) (.int .i64 k) ((l1++(k,v0,b)::l2).map toE) 0=some (some (l1.length,v0)):=by
 have:∀i,Instr.findNow (.int .i64) (.int .i64 k) ((l1++(k,v0,b)::l2).map toE) i=some (some (i+l1.length,v0)):=by
  induction l1 with
  |nil=>simp[Instr.findNow,toE,Instr.sameNow]
  |cons e l ih=>
   grind [Go.Instr.findNow,Go.Instr.sameNow,toE]
 simp_all
theorem YdD{α:Type}(f:α->α)(xs:List α)(y:α)(zs:List α):(xs++y::zs).modify xs.length f=xs++f y::zs:=by
 induction xs with
 |nil=>rfl
 |cons x xs ih=>simp_all
theorem VD(w:World){kt:TypeId}(hk:P.underlying kt=some (.int .i64))(k:Int)(b:Bool):(Instr.checkKey b 10000 kt (.int .i64 k)).run P w=.ok () w:=by
 rw[show 10000=9999+1 from rfl]
 unfold Instr.checkKey
 simp[run_underlying hk]
theorem St.setBlock{w:World}{o o':Obj}(h:St B w0 H w)(u:Upd (Eng.blk g o) (Eng.blk g o') H K):St B w0 K (ChangeMaps.setBlock w g o'):=by
 refine h.upd u rfl rfl rfl (by simp[ChangeMaps.setBlock]) λS1 ⟨h1,h2⟩=>⟨⟨h1,?_⟩,λb hb _=>?_⟩
 all_goals grind [Go.ChangeMaps.setBlock]
theorem YjK{t:TypeId}(hn:Nat.ble (d+1) n.k=true)(h:∀g,VL P none n B w0 ops Q rest ((d,.map (some g))::env) (blk g (mobj [] 0)::H)):VL P none n B w0 ops Q (⟨some d,.makeMap t none,ty,pos,after,none⟩::rest) env H:=
 XA (λv K=>∃g,v=.map (some g)/\K=blk g (mobj [] 0)::H) rfl rfl hn
  (λa w _ hw=>⟨_,_,w.alloc (mobj [] 0),by simp_all [execOp,Go.Instr.makeMap,mobj],hw.alloc _,w.heap.size,rfl,rfl⟩)
  zc53
theorem YjI(hx:evo env x=some (.map (some g)))(hy:evo env y=some (.int .i64 k))(hm:blk g (mobj es clock)∈H)(ht:mapT P t kt et=true)(hn:Nat.ble (d+1) n.k=true)(hk:mget es k=some v)
 (h:VL P m n B w0 ops Q rest ((d,v)::env) H):VL P m n B w0 ops Q (⟨some d,.lookup t x y false,ty,pos,after,none⟩::rest) env H:=by
 obtain⟨h1,h2⟩:=JZ ht
 refine Yt rfl rfl hn rfl (λa w ha hw=>?_) h
 have hb:=(hw.blk hm).1
 unfold mobj at hb
 obtain⟨l1,b,l2,_,_,e3⟩:=Wj 0 hk
 simp[execOp,ha.eval hx,ha.eval hy,Instr.lookup,run_underlying h1,getObj,Sem.run,hb,VD _ h2,MapKept.run_findKey h2 e3]
theorem YjH{z:Value}(hx:evo env x=some (.map (some g)))(hy:evo env y=some (.int .i64 k))(hm:blk g (mobj es clock)∈H)(ht:mapT P t kt et=true)(hn:Nat.ble (d+1) n.k=true)(hk:mget es k=none)(hz:∀w,(zeroValue et).run P w=.ok z w)
 (h:VL P m n B w0 ops Q rest ((d,z)::env) H):VL P m n B w0 ops Q (⟨some d,.lookup t x y false,ty,pos,after,none⟩::rest) env H:=by
 obtain⟨h1,h2⟩:=JZ ht
 refine Yt rfl rfl hn rfl (λa w ha hw=>?_) h
 have hb:=(hw.blk hm).1
 unfold mobj at hb
 simp[execOp,ha.eval hx,ha.eval hy,Instr.lookup,run_underlying h1,getObj,Sem.run,hb,VD _ h2,MapKept.run_findKey h2 (QY 0 hk),hz]
theorem YmM(hx:evo env x=some (.map (some g)))(hy:evo env y=some (.int .i64 k))(hv:evo env u=some v)(ht:mapT P t kt et=true)
 (hu:Upd (blk g (mobj es clock)) (blk g (mobj (es++[(k,v,clock)]) (clock+1))) H K) (hk:mget es k=none)
 (h:VL P none n B w0 ops Q rest env K):VL P none n B w0 ops Q (⟨none,.mapUpdate t x y u,ty,pos,after,none⟩::rest) env H:=zc29
theorem YmN(hx:evo env x=some (.map (some g)))(hy:evo env y=some (.int .i64 k))(hv:evo env u=some v)(ht:mapT P t kt et=true)
 (hu:Upd (blk g (mobj (l1++(k,v0,b)::l2) clock)) (blk g (mobj (l1++(k,v,b)::l2) clock)) H K) (hk:∀e∈l1,e.1≠k)
 (h:VL P none n B w0 ops Q rest env K):VL P none n B w0 ops Q (⟨none,.mapUpdate t x y u,ty,pos,after,none⟩::rest) env H:=by
 obtain⟨h1,h2⟩:=JZ ht
 refine J6 rfl rfl (λa w ha hw=>⟨setBlock w g (mobj (l1++(k,v,b)::l2) clock),?_,hw.setBlock hu⟩) h
 have hb:w.heap[g]? =some (mobj (l1++(k,v0,b)::l2) clock):=zc39
 have hf:=Yc7 (l2:=l2) (v0:=v0) (b:=b) hk
 exact zc14
theorem YoI(hx:evo env x=some (.map (some g)))(hm:blk g (mobj es clock)∈H)(ht:mapT P t kt et=true)(hn:Nat.ble (d+1) n.k=true)
 (h:∀r,VL P none n B w0 ops Q rest ((d,.pointer (some ⟨r,0,none⟩))::env) (blk r (.mapIter (some g) clock #[] clock)::H)):VL P none n B w0 ops Q (⟨some d,.range t x,ty,pos,after,none⟩::rest) env H:=by
 obtain⟨h1,h2⟩:=JZ ht
 refine XA (λv K=>∃r,v=.pointer (some ⟨r,0,none⟩)/\K=blk r (.mapIter (some g) clock #[] clock)::H) rfl rfl hn (λa w ha hw=>?_) zc53
 have hb:=(hw.blk hm).1
 unfold mobj at hb
 refine⟨_,_,w.alloc (.mapIter (some g) clock #[] clock),?_,hw.alloc _,w.heap.size,rfl,rfl⟩
 simp[execOp,ha.eval hx,Instr.range,run_underlying h1,getObj,Sem.run,hb,newObj]
variable {seen:Array Nat}
theorem Yri{c0:Nat}{K:Nat->List HP}(hx:evo env x=some (.pointer (some ⟨r,0,none⟩)))(hm:blk g (mobj es clock)∈H)(hn:Nat.ble (d+1) n.k=true)
 (hu:∀b,Upd (blk r (.mapIter (some g) since seen c0)) (blk r (.mapIter (some g) since (seen.push b) clock)) H (K b)) (hold:∀e∈es,e.2.2<since) (hsc:since<=c0)
 (h1:(∀e∈es,seen.contains e.2.2=true)->VL P none n B w0 ops Q rest ((d,.tuple #[.bool false])::env) H)
 (h2:∀e∈es,seen.contains e.2.2=false->VL P none n B w0 ops Q rest ((d,.tuple #[.bool true,.int .i64 e.1,e.2.1])::env) (K e.2.2)):
 VL P none n B w0 ops Q (⟨some d,.next x false,ty,pos,after,none⟩::rest) env H:=by
 refine XA (λv K'=>(v=.tuple #[.bool false]/\K'=H/\∀e∈es,seen.contains e.2.2=true)\/∃e∈es,seen.contains e.2.2=false/\v=.tuple #[.bool true,.int .i64 e.1,e.2.1]/\K'=K e.2.2) rfl rfl hn (λa w ha hw=>?_) (by
  rintro _ _ (⟨rfl,rfl,hs⟩|⟨e,he,hs,rfl,rfl⟩)
  ·exact h1 hs
  ·exact h2 e he hs)
 have hb:=(hw.blk hm).1
 have hr:w.heap[r]? =some (.mapIter (some g) since seen c0):=by
  obtain⟨L1,L2,e,_⟩:=hu 0
  exact(hw.blk (by simp_all)).1
 have hold':∀x∈((es.map toE).toArray).toList,x.born<since:=by
  intro x hx
  obtain⟨e,he,rfl⟩:=TD.1 hx
  exact hold e he
 have hx':(execOp a.eval ⟨some d,.next x false,ty,pos,after,none⟩).run P w=((Instr.next (.pointer (some ⟨r,0,none⟩)) false ty).run P w).andThen λv w'=>.ok (.value v) w':=Ymw
 rcases run_next_at (P:=P) w ty r g since c0 seen _ clock hr hb hold' hsc with⟨hz,hrun⟩|⟨e,he,w1,hw1,hrun⟩
 ·refine⟨_,H,w,by rw[hx',hrun];rfl,hw,.inl ⟨rfl,rfl,λe he=>?_⟩⟩
  cases hs:seen.contains e.2.2 with
  |true=>rfl
  |false=>
   have:toE e∈(leftOf (es.map toE).toArray seen).toList:=by
    simp only[leftOf,Array.toList_filter,RU,TD]
    exact⟨⟨e,he,rfl⟩,by rw[show(toE e).born=e.2.2 from rfl,hs];rfl⟩
   have h0:(leftOf (es.map toE).toArray seen).toList=[]:=by
    rw[Array.eq_empty_of_size_eq_zero hz]
   rw[h0]at this
   cases this
 ·have hmem:e∈es.map toE/\seen.contains e.born=false:=by
   have:=he
   simp only[leftOf,Array.toList_filter,RU]at this
   exact⟨this.1,by simpa using this.2⟩
  obtain⟨⟨e0,he0,rfl⟩,hs⟩:=(⟨TD.1 hmem.1,hmem.2⟩:(∃e0∈es,toE e0=e)/\_)
  have hw1':St B w0 H w1:=by
   rcases hw1 with rfl|rfl
   ·exact hw
   ·exact hw.drew
  exact⟨_,K e0.2.2,_,by rw[hx',hrun];rfl,hw1'.setBlock (hu _),.inr ⟨e0,he0,hs,rfl,rfl⟩⟩
theorem YoB{e:Int×Value×Nat}(hx:evo env x=some (.pointer (some ⟨r,0,none⟩)))(hm:blk g (mobj es clock)∈H)(hr:blk r (.mapIter (some g) since (seen.push e.2.2) clock)∈H)(hn:Nat.ble (d+1) n.k=true)
 (he:e∈es) (hnd:(es.map (·.2.2)).Nodup)
 (h:VL P none n B w0 ops Q rest ((d,.tuple #[.int .i64 e.1,e.2.1])::env) H):VL P none n B w0 ops Q (⟨some d,.entry x,ty,pos,after,none⟩::rest) env H:=by
 refine YeX rfl rfl hn (λa w ha hw=>⟨w,?_,hw⟩) h
 have hb:=(hw.blk hm).1
 have hrun:=run_entry_at (P:=P) w r g since seen _ clock (toE e) (hw.blk hr).1 hb (TD.2 ⟨e,he,rfl⟩) (by grind [toE])
 simp[execOp,ha.eval hx,hrun,toE]
theorem YuX{o:Oper}{H':List HP}(hg:o.guard=none)(hd:o.dst=none)
 (hr:∀a w,Fits n a env->St B w0 H w->∃w',(execOp a.eval o).run P w=.ok (.value v) w'/\St B w0 H' w')
 (h:VL P none n B w0 ops Q rest env H'):VL P none n B w0 ops Q (o::rest) env H:=by
 refine⟨λa ha w hw=>wpList_plain hg λK hK=>?_⟩
 obtain⟨w',hrun,hst⟩:=hr a w ha hw
 unfold Oper.wp
 rw[hrun,Oper.upon_value,hd]
 exact hK _ _ (h.run _ ha _ hst)
theorem Ys{fn:Fn}{caps:List Operand}(hc:Args env caps cs)(hn:Nat.ble (d+1) n.k=true)(h:VL P none n B w0 ops Q rest ((d,.func fn #[] cs.toArray)::env) H):
 VL P none n B w0 ops Q (⟨some d,.makeFunc fn #[] caps.toArray,ty,pos,after,none⟩::rest) env H:=by
 refine YeX rfl rfl hn (λa w ha hw=>⟨w,?_,hw⟩) h
 have hmap:caps.toArray.map a.eval=cs.toArray:=by grind [Uq]
 simp[execOp,Instr.makeFunc,hmap]
theorem Yoy{f:Nat}{args:List Operand}{tys:Array TypeId}{vs:List Value}(Φ:Value->List HP->Prop)(hx:evo env x=some (.func (.func f) #[] cs.toArray))
 (hc:∀xs w,(callFunc f xs).run P w=.ok (.enter f xs) w) (hargs:Args env args vs) (hn:Nat.ble (d+1) n.k=true)
 (hcall:∀w,St B w0 H w->Calls P f (vs++cs).toArray w (Post B w0 Φ))
 (h:∀v H',Φ v H'->VL P none n B w0 ops Q rest ((d,v)::env) H'):
 VL P none n B w0 ops Q (⟨some d,.call ⟨.value x,args.toArray,tys⟩,ty,pos,after,none⟩::rest) env H:=by
 refine⟨λa ha w hw=>wpList_plain rfl λK hK=>?_⟩
 unfold Oper.wp
 have hmap:args.toArray.map a.eval=vs.toArray:=by grind [Uq]
 have hrun:(execOp a.eval ⟨some d,.call ⟨.value x,args.toArray,tys⟩,ty,pos,after,none⟩).run P w=.ok (.enter f (vs++cs).toArray) w:=zc38
 rw[hrun,Oper.upon_enter]
 exact zc51
def many(L:List HP):HP:=⟨λS w=>sepL L S w,λh hs=>Yao hs h⟩
theorem Yd0{M:List HP}{w:World}:∀{L:List HP}{S:Nat->Prop},sepL (L++M) S w->∃S1 S2:Nat->Prop,(∀b,S1 b->S b)/\(∀b,S2 b->S b)/\(∀b,S1 b->¬S2 b)/\sepL L S1 w/\sepL M S2 w
 |[],S,h=>⟨λ_=>False,S,λ_ hb=>hb.elim,λ_ hb=>hb,λ_ hb=>hb.elim,trivial,h⟩
 |A::L,S,h=>by
  obtain⟨T1,T2,h1,h2,h3,h4,h5⟩:=h
  obtain⟨U1,U2,k1,k2,k3,k4,k5⟩:=Yd0 h5
  refine⟨λb=>T1 b\/U1 b,U2,λb hb=>hb.elim (h1 b) (λhb=>h2 b (k1 b hb)),λb hb=>h2 b (k2 b hb),λb hb hc=>?_,⟨T1,U1,λb hb=>.inl hb,λb hb=>.inr hb,λb hb hc=>h3 b hb (k1 b hc),h4,k4⟩,k5⟩
  grind
theorem YfH{M:List HP}{w:World}:∀{L:List HP}{S S1 S2:Nat->Prop},(∀b,S1 b->S b)->(∀b,S2 b->S b)->(∀b,S1 b->¬S2 b)->sepL L S1 w->sepL M S2 w->sepL (L++M) S w
 |[],_,_,_,_,h2,_,_,h=>U5 h h2
 |A::L,S,S1,S2,h1,h2,h3,h4,h5=>by
  obtain⟨T1,T2,k1,k2,k3,k4,k5⟩:=h4
  refine⟨T1,λb=>T2 b\/S2 b,λb hb=>h1 b (k1 b hb),λb hb=>hb.elim (λhb=>h1 b (k2 b hb)) (h2 b),λb hb hc=>?_,k4,YfH (λb hb=>.inl hb) (λb hb=>.inr hb) (λb hb hc=>h3 b (k2 b hb) hc) k5 h5⟩
  simp_all
theorem Perm.open_(L M:List HP):Perm (many L::M) (L++M):=⟨λ_ _ ⟨_,_,h1,h2,h3,h4,h5⟩=>YfH h1 h2 h3 h4 h5⟩
theorem Perm.close(L M:List HP):Perm (L++M) (many L::M):=⟨λ_ _ h=>Yd0 h⟩
theorem Perm.mid(A:HP):∀(L M:List HP),Perm (L++A::M) (A::(L++M))
 |[],_=>.refl _
 |B::L,M=>.trans (.cons B (.mid A L M)) (.swap B A (L++M))
theorem Perm.mid'(A:HP):∀(L M:List HP),Perm (A::(L++M)) (L++A::M)
 |[],_=>.refl _
 |B::L,M=>.trans (.swap A B (L++M)) (.cons B (.mid' A L M))
theorem Perm.drop(A:HP)(L:List HP):Perm (A::L) L:=⟨λ_ _ h=>YfI h⟩
theorem Perm.pull(A:HP)(L1 L2 M:List HP):Perm (many (L1++A::L2)::M) (A::many (L1++L2)::M):=by
 refine .trans (.open_ _ _) ?_
 rw[TV,TA]
 refine .trans (.mid A L1 (L2++M)) (.cons A ?_)
 rw[<-TV]
 exact .close _ _
theorem Perm.push(A:HP)(L1 L2 M:List HP):Perm (A::many (L1++L2)::M) (many (L1++A::L2)::M):=by
 refine .trans (.cons A (.open_ _ _)) ?_
 rw[TV]
 refine .trans (.mid' A L1 (L2++M)) ?_
 rw[<-TA,<-TV]
 exact .close _ _
theorem Perm.noMany(M:List HP):Perm M (many []::M):=.close [] M
end
inductive PutAt:List Value->Nat->List Value->List Value->Prop
 |nil {l:List Value}{o:Nat}:PutAt l o [] l
 |cons {l l1 l' r:List Value}{o:Nat}{v:Value}(h:YeW l o v l1) (h2:PutAt l1 (o+1) r l'):PutAt l o (v::r) l'
section
variable {P:Program}{m:Mode}{n:Shp}{B:Nat}{w0:World}{ops:Array Oper}{Q:Exit->Act->World->Prop}{rest:List Oper}{env:Env}{H:List HP}{d:Nat}{ty:TypeId}{pos:String}{after:Array Edge}
theorem O3{g:Nat}{tt:TypeId}{fr:Nat×Nat}:∀{vs cs cs':List Value}{o:Nat}{w:World},PutAt cs o vs cs'->w.heap[g]? =some (.cells cs.toArray tt fr)->(w.setCells g o vs).heap[g]? =some (.cells cs'.toArray tt fr)
 |[],_,_,_,_,h,hb=>by cases h;exact hb
 |v::vs,cs,cs',o,w,h,hb=>by
  cases h with
  |cons h1 h2=>
   rw[World.setCells]
   refine O3 h2 ?_
   obtain⟨_,rfl⟩:=h1
   grind [Go.World.setCell]
theorem Vr{g b:Nat}(hne:b≠g):∀(vs:List Value) (o:Nat) (w:World),(w.setCells g o vs).heap[b]? =w.heap[b]?
 |[],_,_=>rfl
 |v::vs,o,w=>by rw[World.setCells,Vr hne vs (o+1)];exact Below.heap_setCell w _ v b hne
theorem Qc{g:Nat}:∀(vs:List Value) (o:Nat) (w:World),(w.setCells g o vs).os=w.os/\(w.setCells g o vs).tape=w.tape/\(w.setCells g o vs).output=w.output/\(w.setCells g o vs).heap.size=w.heap.size
 |[],_,_=>⟨rfl,rfl,rfl,rfl⟩
 |v::vs,o,w=>by
  obtain⟨h1,h2,h3,h4⟩:=Qc (g:=g) vs (o+1) (w.setCell ⟨g,o,none⟩ v)
  exact⟨h1,h2,h3,h4.trans (by simp)⟩
variable {w:World}{K H2:List HP}{g t k p:Nat}{cs' vs:List Value}{tt:TypeId}{fr:Nat×Nat}
theorem St.setCells{o:Nat}{cs:List Value}(h:St B w0 H w)(hp:PutAt cs o vs cs')
 (u:Upd (Eng.blk g (.cells cs.toArray tt fr)) (Eng.blk g (.cells cs'.toArray tt fr)) H K):St B w0 K (w.setCells g o vs):=by
 obtain⟨h1,h2,h3,h4⟩:=Qc (g:=g) vs o w
 refine h.upd u h1 h2 h3 (Nat.le_of_eq h4.symm) λS1 ⟨hs,hb⟩=>⟨⟨hs,O3 hp hb⟩,λb hnb _=>Vr (λe:b=g=>hnb (by simp_all)) vs o w⟩
theorem YiM:∀{vs l l':List Value}{o:Nat},PutAt l o vs l'->∀j,j<vs.length->o+j<l.length
 |[],_,_,_,_,j,hj=>by simp at hj
 |v::vs,l,l',o,h,j,hj=>by
  cases h with
  |cons h1 h2=>
   obtain⟨h0,rfl⟩:=h1
   cases j with
   |zero=>exact h0
   |succ j=>have:=YiM h2 j (by simp_all);grind
theorem QD(T:Tab P){i:Nat}{cs:List Value}{x y:Operand}(hx:evo env x=some (.pointer (some ⟨g,i,none⟩)))(hy:evo env y=some (.agg vs.toArray))(h1:Ji vs=true)
 (hu:Upd (blk g (.cells cs.toArray tt (0,0))) (blk g (.cells cs'.toArray tt (0,0))) H K) (hs:PutAt cs i vs cs')
 (ht:look T.ag t=some k) (hk:vs.length=k) (h:VL P none n B w0 ops Q rest env K):VL P none n B w0 ops Q (⟨none,.store t x y,ty,pos,after,none⟩::rest) env H:=by
 refine J6 rfl rfl (λa w ha hw=>⟨w.setCells g i vs,?_,hw.setCells hs hu⟩) h
 have hb:w.heap[g]? =some (.cells cs.toArray tt (0,0)):=zc39
 have hr:=run_storeCells_cells (P:=P) g i vs 0 w (λj hj=>by
  rw[SR,Y7 hb];grind [YiM]) (λj hj=>by exact YfP) (ZR h1)
 simp[execOp,ha.eval hx,ha.eval hy,Instr.storeAt,Instr.sureAddr,storeVar,Value.cells,Jl (UF (T.aggs ht)),hk,hr]
variable {cs:Array Value}
theorem VE(T:Tab P)(hb:w.heap[g]? =some (.cells cs tt fr))(ht:look T.ag t=some k)(hk:cs.size=k):(loadVar t ⟨g,0,none⟩).run P w=.ok (.agg cs) w:=by
 have hl:=run_loadCells_list (P:=P) w ⟨g,0,none⟩ cs.toList (λj v hj=>by exact YuH)
 rw[show cs.toList.length=k by omega]at hl
 simp[loadVar,JJ (T.aggs ht),Jl (UF (T.aggs ht)),hl]
variable {fn:Func}{Φ:Value->List HP->Prop}
theorem ZA{n:Nat}(T:Tab P){rt:Nat}(hr:fn.results=#[.cell p rt])(hp:get env p=some (.pointer (some ⟨g,0,none⟩)))
 (hm:blk g (.cells cs tt fr)∈H) (ht:look T.ag rt=some k) (hk:cs.size=k) (hH:∀w,St B w0 H w->St B w0 H2 w) (h:Φ (.agg cs) H2):VQ ⟨n,[],none⟩ B w0 (bodyPost P fn (Post B w0 Φ)) .ret env H:=by
 refine⟨λa w ha hw=>bodyPost_ret (v:=.agg cs) ?_ ha.defers ⟨_,H2,rfl,hH w hw,h⟩⟩
 have hp':=ha.slot p _ hp
 simp[results,hr,Array.getD_eq_getD_getElem?,hp',asAddr,VE T (hw.blk hm).1 ht hk]
theorem Yy{n:Nat}(T:Tab P){u rt:Nat}{x:Value}(hr:fn.results=#[.cell p rt,.tmp u])(hp:get env p=some (.pointer (some ⟨g,0,none⟩)))(hu:get env u=some x)
 (hm:blk g (.cells cs tt fr)∈H) (ht:look T.ag rt=some k) (hk:cs.size=k) (hH:∀w,St B w0 H w->St B w0 H2 w) (h:Φ (.tuple #[.agg cs,x]) H2):VQ ⟨n,[],none⟩ B w0 (bodyPost P fn (Post B w0 Φ)) .ret env H:=by
 refine⟨λa w ha hw=>bodyPost_ret (v:=.tuple #[.agg cs,x]) ?_ ha.defers ⟨_,H2,rfl,hH w hw,h⟩⟩
 have hp':=ha.slot p _ hp
 simp[results,hr,Array.getD_eq_getD_getElem?,hp',ha.slot u _ hu,asAddr,VE T (hw.blk hm).1 ht hk]
end
inductive OT where
 |done
 |n1 (i:Nat) (t:OT)
 |n2 (i:Nat) (t:OT) (j:Nat) (u:OT)
section
variable {P:Program}{n:Shp}{B:Nat}{w0:World}{Q:Exit->Act->World->Prop}{env:Env}{H:List HP}{ops:Array Oper}
def Ud(P:Program)(ops:Array Oper)(l:List Oper)(Q:Exit->Act->World->Prop)(S:World->Prop):OT->Act->World->Prop
 |.done,a,w=>Q .normal a w
 |.n1 i t,a,w=>Yv P ops (λe a w=>match e with|.normal=>Ud P ops l Q S t a w|_=>False) S [nthO l i] a w
 |.n2 i t j u,a,w=>Yv P ops (λe a w=>match e with|.normal=>Ud P ops l Q S t a w|_=>False) S [nthO l i] a w/\Yv P ops (λe a w=>match e with|.normal=>Ud P ops l Q S u a w|_=>False) S [nthO l j] a w
def Up(ops:Array Oper)(i:Nat):Bool:=match ops[i]? with|some o=>eff o|none=>false
def Yec(ops:Array Oper)(last:List Nat):OT->Array Bool->Nat->Bool
 |.done,listed,0=>Wn ops last listed
 |.done,_,_+1=>false
 |.n1 i t,listed,k+1=>!last.contains i&&(match ops[i]? with
  |some o=>if eff o then decide (Region.ready .any ops listed=[i])else(Region.ready .any ops listed).contains i&&Region.free .any ops listed i
  |none=>false)&&Yec ops last t (listed.setIfInBounds i true) k
 |.n2 i t j u,listed,k+1=>!last.contains i&&!last.contains j&&Up ops i&&Up ops j&&((Region.ready .any ops listed).all λx=>x==i||x==j)&&!(Region.ready .any ops listed).isEmpty&&Yec ops last t (listed.setIfInBounds i true) k&&Yec ops last u (listed.setIfInBounds j true) k
 |.n1 _ _,_,0=>false
 |.n2 _ _ _ _,_,0=>false
variable {l:List Oper}{i:Nat}{o:Oper}
theorem Xx(hl:ops=l.toArray)(ho:ops[i]? =some o):nthO l i=o:=by
 grind [Yad]
theorem VZ{S:World->Prop}{Q1:Exit->Act->World->Prop}{last:List Nat}{k:Nat}{listed:Array Bool}{a:Act}{w:World}(ho:ops[i]? =some o)(he:eff o=true)(_hl:last.contains i=false)
 (hQ1:∀e a w,e≠.normal->¬Q1 e a w) (hS:S w) (h:Yv P ops Q1 S [o] a w)
 (hk:∀a w,S w->Q1 .normal a w->Zl P ops Q S last k (listed.setIfInBounds i true) a w):
 wpOp P ops Q i (λa' w'=>(last.contains i=false->S w')/\Zl P ops Q S last k (listed.setIfInBounds i true) a' w') a w:=by
 unfold Yv at h
 rw[Tn he]at h
 unfold wpOp
 simp only[ho]
 by_cases hw:Region.wanted o (yielded ops a.tmps)=true
 ·rw[Tn hw]at h⊢
  refine .inl (Oper.wp_mono_noQ (λc a w=>hQ1 _ a w (by simp_all)) (by rintro⟨a,w,h⟩;simp_all) (Oper.wp_mono (λa' w' h'=>?_) h))
  exact⟨λ_=>h'.1,hk a' w' h'.1 h'.2⟩
 ·rw[Tj hw]at h⊢
  exact⟨λ_=>hS,hk _ w hS h⟩
theorem Uc{S:World->Prop}{last:List Nat}(hs:Region.noSelect ops=true)(hQ:∀c (a:Act) (w:World),¬Q (.panic c) a w)(hlo:¬LetsOut Q)(l:List Oper)(hl:ops=l.toArray)(hlast:Yfr ops last=true):
 ∀(t:OT) (k:Nat) (listed:Array Bool) (a:Act) (w:World),Closed ops listed->Yec ops last t listed k=true->S w->Ud P ops l (Jp P ops Q (Yc l last)) S t a w->
  Zl P ops Q S last (k+last.length) listed a w
 |.done,0,listed,a,w,_,hB,_,h=>by
  have:=Wx (S:=S) l hl (Wk hlast).1 hlo last listed a w (λj hj=>by simp_all) hB h
  simp_all
 |.done,_+1,_,_,_,_,hB,_,_=>by cases hB
 |.n1 _ _,0,_,_,_,_,hB,_,_=>by cases hB
 |.n2 _ _ _ _,0,_,_,_,_,hB,_,_=>by cases hB
 |.n1 i t,k+1,listed,a,w,hcl,hB,hS,h=>by
  simp only[Yec,Tq]at hB
  obtain⟨⟨h0,h1⟩,h2⟩:=hB
  have hno:last.contains i=false:=by simp_all
  cases ho:ops[i]? with
  |none=>simp_all
  |some o=>
   rw[ho]at h1
   have hget:=Xx hl ho
   unfold Ud at h
   rw[hget]at h
   rw[Sv]
   by_cases he:eff o=true
   ·simp only[he,Ni,Tm]at h1
    refine⟨λh0=>(by simp_all),λj hj=>?_⟩
    have hj':=hj
    rw[h1]at hj
    obtain rfl:j=i:=by simp_all
    exact VZ ho he hno (λe a w hne=>by simp_all) hS h λa w hS' h'=>Uc hs hQ hlo l hl hlast t k _ a w (hcl.set hj') h2 hS' h'
   ·simp only[he]at h1
    simp only[RO,NC,Tq]at h1
    unfold Yv at h
    rw[Tj he]at h
    obtain⟨v,hy,h3⟩:=h
    have hr:i∈Region.ready .any ops listed:=by simp_all
    exact JN ho (Region.noSelect_spec hs) hQ ((Wk hlast).2 i o ho (by simp_all)) hno _ listed a w hcl (Region.free_spec ho h1.2) hr hy hS (Uc hs hQ hlo l hl hlast t k _ _ w (hcl.set hr) h2 hS h3)
 |.n2 i t j u,k+1,listed,a,w,hcl,hB,hS,h=>by
  simp only[Yec,Tq]at hB
  obtain⟨⟨⟨⟨⟨⟨⟨b1,b2⟩,b3⟩,b4⟩,b5⟩,b6⟩,b7⟩,b8⟩:=hB
  have hi:last.contains i=false:=by simp_all
  have hj:last.contains j=false:=by simp_all
  unfold Ud at h
  rw[Sv]
  refine⟨λh0=>(by simp_all),λx hx=>?_⟩
  have h5:=TL.1 b5 x hx
  simp only[RH,NB]at h5
  rcases h5 with rfl|rfl
  ·unfold Up at b3
   cases ho:ops[x]? with
   |none=>simp_all
   |some o=>
    rw[ho]at b3
    have hg:=h.1
    rw[Xx hl ho]at hg
    exact VZ ho b3 hi (λe a w hne=>by cases e<;>simp_all) hS hg λa w hS' h'=>Uc hs hQ hlo l hl hlast t k _ a w (hcl.set hx) b7 hS' h'
  ·unfold Up at b4
   cases ho:ops[x]? with
   |none=>rw[ho]at b4;cases b4
   |some o=>
    rw[ho]at b4
    have hg:=h.2
    rw[Xx hl ho]at hg
    exact VZ ho b4 hj (λe a w hne=>by cases e<;>simp_all) hS hg λa w hS' h'=>Uc hs hQ hlo l hl hlast u k _ a w (hcl.set hx) b8 hS' h'
structure VT(P:Program)(n:Shp)(B:Nat)(w0:World)(ops:Array Oper)(l:List Oper)(Q:Exit->Act->World->Prop)(t:OT)(env:Env)(H F:List HP):Prop where
 run:∀a,Fits n a env->∀w,St B w0 (H++F) w->Ud P ops l Q (St B w0 H) t a w
def WP(P:Program)(B:Nat)(w0:World)(ops:Array Oper)(l:List Oper)(Q:Exit->Act->World->Prop)(Hc:List HP)(t:OT):Exit->Act->World->Prop
 |.normal,a,w=>Ud P ops l Q (St B w0 Hc) t a w
 |_,_,_=>False
variable {t:OT}
theorem Yed:WP P B w0 ops l Q H t=λe a w=>match e with|.normal=>Ud P ops l Q (St B w0 H) t a w|_=>False:=by
 funext e a w
 cases e<;>rfl
variable {F Hc:List HP}
theorem Ylr{HF:List HP}(happ:App H F HF)(h:VQ n B w0 Q .normal env HF):VT P n B w0 ops l Q .done env H F:=
 ⟨λa ha w hw=>by exact Ymq⟩
theorem YvH(ho:nthO l i=o)(h:VL P (some (some F)) n B w0 ops (WP P B w0 ops l Q H t) [o] env H):VT P n B w0 ops l Q (.n1 i t) env H F:=by
 refine⟨λa ha w hw=>?_⟩
 have h1:Yv P ops (WP P B w0 ops l Q H t) (St B w0 H) [o] a w:=h.run a ha w hw
 grind [Ud,Yed]
theorem YvI{j:Nat}{u:OT}{o':Oper}(ho:nthO l i=o)(ho':nthO l j=o')(h:VL P (some (some F)) n B w0 ops (WP P B w0 ops l Q H t) [o] env H)
 (h':VL P (some (some F)) n B w0 ops (WP P B w0 ops l Q H u) [o'] env H):VT P n B w0 ops l Q (.n2 i t j u) env H F:=by
 refine⟨λa ha w hw=>?_⟩
 have h1:Yv P ops (WP P B w0 ops l Q H t) (St B w0 H) [o] a w:=h.run a ha w hw
 have h2:Yv P ops (WP P B w0 ops l Q H u) (St B w0 H) [o'] a w:=h'.run a ha w hw
 unfold Ud
 rw[ho,ho',<-Yed,<-Yed]
 simp_all
theorem Xf{H':List HP}(hp:Pull Hc H' F)(h:VT P n B w0 ops l Q t env Hc F):VQ n B w0 (WP P B w0 ops l Q Hc t) .normal env H':=
 ⟨λa w ha hw=>h.run a ha w (hw.perm hp)⟩
theorem Jb{id:Nat}(t:OT)(last:List Nat)(mask:List Bool)(hm:P.follows .mixedOrders=true)
 (hB:(Region.noSelect l.toArray&&decide (last.length<=l.toArray.size)&&Yfr l.toArray last&&Yec l.toArray last t (Array.replicate l.toArray.size false) (l.toArray.size-last.length))=true)
 (hsp:Split mask H Hc F) {l2:List Oper}(hl2:Yc l last=l2) (h:VT P n B w0 l.toArray l (Jp P l.toArray (Only Q) l2) t env Hc F):VC P n B w0 (.region id l.toArray true) Q env H:=by
 simp only[Tq,Tm]at hB
 obtain⟨⟨⟨h1,h2⟩,h3⟩,h5⟩:=hB
 refine⟨λa w ha hw=>ZX (Q:=Only Q) ?_ λe a w h=>by exact zc72⟩
 have hst:St B w0 (Hc++F) w.drew:=(hw.perm (XU hsp)).drew
 have hr:=h.run a ha w.drew hst
 rw[<-hl2]at hr
 have:=Uc (S:=St B w0 Hc) h1 (λc a w h=>h) zc54 l rfl h3 t _ _ a w.drew (X5 _ _) h5 hst.prefix_ hr
 exact YqW
theorem Zs{α:Type}(E:α->Env)(HH:α->List HP){x y:Code}(h1:∀K:Act->World->Prop,(∀z env' H',(∀t v,get (E z) t=some v->get env' t=some v)->(∀w,St B w0 H' w->St B w0 (HH z) w)->VQ n B w0 (Exit.then K Q) .normal env' H')->VC P n B w0 x (Exit.then K Q) env H)
 (h2:∀z,VC P n B w0 y Q (E z) (HH z)):VC P n B w0 x (Exit.then (wpR P n.r y Q) Q) env H:=by
 have h:=h1 (λa w=>∃z,Fits n a (E z)/\St B w0 (HH z) w) (λz env' H' he hH=>⟨λa w ha hw=>⟨z,ha.sub he,hH w hw⟩⟩)
 refine⟨λa w ha hw=>ZX (h.run a w ha hw) ?_⟩
 intro e a w hq
 cases e with
 |normal=>obtain⟨z,h3,h4⟩:=hq;exact(h2 z).run a w h3 h4
 |exit id=>exact hq
 |goto l=>exact hq
 |ret=>exact hq
 |panic ch=>exact hq
 |outgrown=>exact hq
theorem XD{d f:Nat}{args:List Operand}{tys:Array TypeId}{ty:TypeId}{pos:String}{after:Array Edge}{vs:List Value}{rest:List Oper}(L:List HP){M LM:List HP}(Φ:Value->List HP->Prop)
 (hc:∀xs w,(callFunc f xs).run P w=.ok (.enter f xs) w) (hargs:Args env args vs) (hp:Pull L H M) (happ:App L M LM) (hn:Nat.ble (d+1) n.k=true)
 (hcall:∀w,St B w0 LM w->Calls P f vs.toArray w (Post B w0 Φ))
 (h:∀v H',Φ v H'->VL P none n B w0 ops Q rest ((d,v)::env) H'):
 VL P none n B w0 ops Q (⟨some d,.call ⟨.value (.func f),args.toArray,tys⟩,ty,pos,after,none⟩::rest) env H:=
 Yg Φ hc hargs hn (λw hw=>hcall w (by rw[YaA happ];exact hw.perm hp)) h
end
def Rd(B:Nat)(w0:World)(H:List HP)(A:Option Addr)(xs:List Value):Prop:=
 ∀w,St B w0 H w->∀j v,xs[j]? =some v->∃g o,A=some ⟨g,o,none⟩/\w.cell? ⟨g,o+j,none⟩=some v
section
variable {B:Nat}{w0:World}{H:List HP}{A:Option Addr}{xs:List Value}
theorem Rd.cons{X:HP}(h:Rd B w0 H A xs):Rd B w0 (X::H) A xs:=λw hw=>h w hw.tail
variable {e size k cap:Nat}
theorem Rd.sl(hm:Eng.sl e size A k cap xs∈H):Rd B w0 H A xs:=λw hw j v hv=>by
 obtain⟨g,e1,hc,_⟩:=OW (hw.sl hm) hv
 grind
theorem Rd.old(h:∀j v,xs[j]? =some v->∃g o,A=some ⟨g,o,none⟩/\g<B/\w0.cell? ⟨g,o+j,none⟩=some v):Rd B w0 H A xs:=λw hw j v hv=>by
 obtain⟨g,o,e1,hg,hc⟩:=h j v hv
 exact⟨g,o,e1,(hw.below.cell (p:=⟨g,o+j,none⟩) hg).trans hc⟩
theorem Rd.nil:Rd B w0 H A []:=λw _ j v hv=>by simp at hv
theorem Rd.mono{H':List HP}(h:Rd B w0 H A xs)(hH:∀w,St B w0 H' w->St B w0 H w):Rd B w0 H' A xs:=λw hw=>h w (hH w hw)
theorem Rd.blk{g:Nat}{cs:Array Value}{t:TypeId}{fr:Nat×Nat}(hm:Eng.blk g (.cells cs t fr)∈H):Rd B w0 H (some ⟨g,0,none⟩) cs.toList:=λw hw j v hv=>by
 refine⟨g,0,rfl,?_⟩
 rw[Ri,Y7 (hw.blk hm).1]
 simp_all
end
theorem Xb{α:Type}{f:α->List Value}{q:Nat}(hq:∀a,(f a).length=q):∀l:List α,(l.flatMap f).length=l.length*q
 |[]=>by simp
 |a::l=>by rw[Re,Tt,hq,Xb hq l,Ro,SL];omega
theorem UU{α:Type}{f:α->List Value}{q:Nat}(hq:∀a,(f a).length=q):∀(l:List α) (i j:Nat) (a:α),l[i]? =some a->j<q->(l.flatMap f)[i*q+j]? =(f a)[j]?
 |[],i,j,a,h,_=>by simp at h
 |b::l,0,j,a,h,hj=>by
  grind
 |b::l,i+1,j,a,h,hj=>by
  rw[Re,SD (by grind),hq,show(i+1)*q+j-q=i*q+j by grind]
  exact UU hq l i j a (by simp_all) hj
section
variable {P:Program}{m:Mode}{n:Shp}{B:Nat}{w0:World}{ops:Array Oper}{Q:Exit->Act->World->Prop}{rest:List Oper}{env:Env}{H:List HP}{d:Nat}{ty:TypeId}{pos:String}{after:Array Edge}
variable {α:Type}{t cap e size k i q:Nat}{x y:Operand}{A:Option Addr}
theorem Yba(T:Tab P){f:α->List Value}{l:List α}{bytes:Nat}{ki:IntKind}{i:Int}(hx:evo env x=some (.slice A l.length cap))(hy:evo env y=some (.int ki i))
 (hr:Rd B w0 H A (l.flatMap f)) (ht:look T.sl t=some (e,size,bytes)) (hq:∀a,(f a).length=size) (h0:Nat.blt 0 size=true) (hn:Nat.ble (d+1) n.k=true) (hi:0<=i/\i<l.length)
 (h:VL P m n B w0 ops Q rest ((d,sptr A (i.toNat*size))::env) H):VL P m n B w0 ops Q (⟨some d,.indexAddr t x y,ty,pos,after,none⟩::rest) env H:=by
 obtain⟨hut,inf,z,hinf,_,_,hsi,_,_,_⟩:=YG (T.slic ht)
 refine Yt rfl rfl hn rfl (λa w ha hw=>?_) h
 have h0':0<size:=by simpa using h0
 have hlt:i.toNat<l.length:=by omega
 have hget:=UU hq l i.toNat 0 _ (Ta hlt) h0'
 have hg2:(f l[i.toNat])[0]? =some ((f l[i.toNat])[0]'(by rw[hq];exact h0')):=Ta _
 rw[hg2]at hget
 obtain⟨g,o,rfl,_⟩:=hr w hw _ _ hget
 exact zc61
theorem Yg6(T:Tab P){s f j:Nat}{xs:List Value}(hx:evo env x=some (sptr A j))(hr:Rd B w0 H A xs)(hj:j<xs.length)(hf:Of T.fo s f=some k)(hn:Nat.ble (d+1) n.k=true)
 (h:VL P m n B w0 ops Q rest ((d,sptr A (j+k))::env) H):VL P m n B w0 ops Q (⟨some d,.fieldAddr s x f,ty,pos,after,none⟩::rest) env H:=by
 refine Yt rfl rfl hn rfl (λa w ha hw=>?_) h
 obtain⟨g,o,rfl,_⟩:=hr w hw _ _ (Ta hj)
 have h1:=T.offs hf
 unfold W9 at h1
 split at h1
 ·rename_i fs hu
  cases hfl:fs[f]? with
  |none=>simp_all
  |some fld=>
   rw[hfl]at h1
   simp only[Nv]at h1
   cases hi:P.info? fld.type with
   |none=>simp_all
   |some inf=>
    rw[hi]at h1
    simp only[Nv]at h1
    by_cases hz:inf.size=0
    ·simp_all
    ·rw[Tj hz]at h1
     have h2:fld.offset=k:=by simpa using h1
     subst h2
     simp[execOp,ha.eval hx,sptr,Instr.fieldAt,run_underlying hu,hfl,Instr.sureAddr,fieldPlace,sizeOf,typeInfo,hi,hz,Addr.add_lit,Nat.add_assoc]
 simp_all
variable {v:Value}
theorem Ycp(T:Tab P){f:α->List Value}{l:List α}{o:Nat}{b:α}(hx:evo env x=some (sptr A (i*q+o)))(hr:Rd B w0 H A (l.flatMap f))(hb:l[i]? =some b)(hq:∀a,(f a).length=q)
 (ho:Nat.blt o q=true) (hv:nth (f b) o=some v) (ht:look T.sc t=some ()) (hn:Nat.ble (d+1) n.k=true)
 (h:VL P m n B w0 ops Q rest ((d,v)::env) H):VL P m n B w0 ops Q (⟨some d,.load t x,ty,pos,after,none⟩::rest) env H:=by
 refine Yt rfl rfl hn rfl (λa w ha hw=>?_) h
 have hg:=UU hq l i o b hb (by simp_all)
 rw[<-YkA (f b),hv]at hg
 obtain⟨g,u,rfl,hc⟩:=hr w hw _ _ hg
 exact YtZ
theorem Yha(T:Tab P){f:α->List Value}{l:List α}{b:α}(hx:evo env x=some (sptr A (i*q)))(hr:Rd B w0 H A (l.flatMap f))(hb:l[i]? =some b)(hq:∀a,(f a).length=q)
 (ho:Nat.blt 0 q=true) (hv:nth (f b) 0=some v) (ht:look T.sc t=some ()) (hn:Nat.ble (d+1) n.k=true)
 (h:VL P m n B w0 ops Q rest ((d,v)::env) H):VL P m n B w0 ops Q (⟨some d,.load t x,ty,pos,after,none⟩::rest) env H:=
 Ycp T (i:=i) (q:=q) (o:=0) (by omega) hr hb hq ho hv ht hn h
theorem Yco(T:Tab P){f:α->List Value}{l:List α}{b:α}(hx:evo env x=some (sptr A (i*q)))(hr:Rd B w0 H A (l.flatMap f))(hb:l[i]? =some b)(hq:∀a,(f a).length=q)
 (ho:Nat.blt 0 q=true) (ht:look T.ag t=some q) (hn:Nat.ble (d+1) n.k=true)
 (h:VL P m n B w0 ops Q rest ((d,.agg (f b).toArray)::env) H):VL P m n B w0 ops Q (⟨some d,.load t x,ty,pos,after,none⟩::rest) env H:=by
 refine Yt rfl rfl hn rfl (λa w ha hw=>?_) h
 have hget:∀j v,(f b)[j]? =some v->(l.flatMap f)[i*q+j]? =some v:=by grind [UU]
 obtain⟨g,u,rfl,_⟩:=hr w hw _ _ (hget 0 _ (Ta (by simp_all)))
 have hl:=run_loadCells_list (P:=P) w ⟨g,u+i*q,none⟩ (f b) (λj v hj=>by
  exact Yuj)
 rw[hq]at hl
 exact zc92
theorem Yrf{k:IntKind}{a b:Int}{tys:Array TypeId}(hx:evo env x=some (.int k a))(hy:evo env y=some (.int k b))(hn:Nat.ble (d+1) n.k=true)(h1:a<b->VL P m n B w0 ops Q rest ((d,.int k b)::env) H)(h2:b<=a->VL P m n B w0 ops Q rest ((d,.int k a)::env) H):
 VL P m n B w0 ops Q (⟨some d,.call ⟨.builtin .max,#[x,y],tys⟩,ty,pos,after,none⟩::rest) env H:=by
 by_cases hc:b>a
 ·exact Yt rfl rfl hn rfl (λf w ha _=>by exact Yui) (h1 hc)
 ·exact Yt rfl rfl hn rfl (λf w ha _=>by exact Yui) (h2 (by omega))
end
def Wo(env:Env):List (Nat×Operand)->Option (List (Nat×Value))
 |[]=>some []
 |(i,x)::l=>match evo env x with
  |none=>none
  |some v=>match Wo env l with
   |none=>none
   |some r=>some ((i,v)::r)
theorem Oh{env:Env}:∀{l:List (Nat×Operand)}{ps:List (Nat×Value)},Wo env l=some ps->Ya6 env l ps
 |[],ps,h=>by grind [Wo,YfB]
 |(i,x)::l,ps,h=>by
  unfold Wo at h
  cases hx:evo env x with
  |none=>simp_all
  |some v=>
   rw[hx]at h
   cases hl:Wo env l with
   |none=>simp_all
   |some r=>
    rw[hl]at h
    simp only[RX]at h
    subst h
    exact YkJ hx (Oh hl)
def Yd7(P:Program)(t:Nat):Option (List (Nat×Nat)):=
 match P.underlying t with
 |some (.struct fs)=>fs.toList.mapM (λf=>(P.info? f.type).map λi=>(f.offset,i.size))
 |some (.array k e)=>(P.info? e).map λi=>(List.range k).map λj=>(j*i.size,i.size)
 |_=>none
def Yay(P:Program)(t:Nat):Option Value:=(P.info? t).bind (·.zero)
structure Tab2(P:Program) where
 zt:List (Nat×Value)
 bt:List (Nat×List (Nat×Nat))
 zt_ok:(zt.map λx=>Yay P x.1)=zt.map λx=>some x.2
 bt_ok:(bt.map λx=>Yd7 P x.1)=bt.map λx=>some x.2
theorem Og{β:Type}{f:Nat->Option β}:∀{l:List (Nat×β)},(l.map λx=>f x.1)=(l.map λx=>some x.2)->∀{t:Nat}{v:β},look l t=some v->f t=some v:=by
 intro l h t v hl
 have hm:=Vj hl
 clear hl
 induction l with
 |nil=>cases hm
 |cons x l ih=>
  grind
variable {t:Nat}{z:Value}
theorem Yeo{P:Program}(h:Yay P t=some z)(w:World):(zeroValue t).run P w=.ok z w:=by
 unfold Yay at h
 cases hi:P.info? t with
 |none=>simp_all
 |some i=>
  simp_all [zeroValue,typeInfo]
def Ygo{β:Type}:List Value->(List Value->Option β)->Option β
 |[],k=>k []
 |a::l,k=>Ygo l λl'=>k (a::l')
theorem YaN{β:Type}:∀(l:List Value) (k:List Value->Option β),Ygo l k=k l
 |[],_=>rfl
 |a::l,k=>by rw[Ygo,YaN l]
def OR:List Value->Nat->List Value->List Value
 |cs,_,[]=>cs
 |cs,off,v::vs=>OR (cs.set off v) (off+1) vs
def fillL(place:Nat->Option (Nat×Nat))(cs:List Value):List (Nat×Value)->Option (List Value)
 |[]=>some cs
 |(i,v)::rest=>match place i with
  |none=>none
  |some (off,size)=>match Nat.beq v.cells.toList.length size&&Nat.ble (off+size) cs.length with
   |true=>Ygo (OR cs off v.cells.toList) λcs'=>fillL place cs' rest
   |false=>none
theorem Q3(off:Nat):∀(l:List Value) (k:Nat) (cs:Array Value),(l.zipIdx k).foldl (λcs (c,j)=>cs.setIfInBounds (off+j) c) cs=(OR cs.toList (off+k) l).toArray
 |[],_,cs=>by simp[OR]
 |v::l,k,cs=>by
  rw[List.zipIdx_cons,List.foldl_cons,Q3 off l (k+1)]
  grind [OR]
theorem Yc5{place place':Nat->Option (Nat×Nat)}(hp:∀i q,place i=some q->place' i=some q):∀{ps:List (Nat×Value)}{cs r:List Value},fillL place cs ps=some r->fillL place' cs ps=some r
 |[],_,_,h=>h
 |(i,v)::rest,cs,r,h=>by
  unfold fillL at h⊢
  cases hi:place i with
  |none=>simp_all
  |some q=>
   rw[hi]at h
   rw[hp i q hi]
   simp only at h⊢
   split at h
   ·rw[YaN]at h⊢
    exact Yc5 hp h
   omega
theorem Wh{place:Nat->Option (Nat×Nat)}:∀{ps:List (Nat×Value)}{cs:Array Value}{r:List Value},fillL place cs.toList ps=some r->Instr.fill place cs ps=some r.toArray
 |[],cs,r,h=>by simp[fillL]at h;subst h;simp[Instr.fill]
 |(i,v)::rest,cs,r,h=>by
  unfold fillL at h
  unfold Instr.fill
  cases hp:place i with
  |none=>simp_all
  |some q=>
   obtain⟨off,size⟩:=q
   rw[hp]at h
   simp only at h⊢
   split at h
   ·rw[YaN]at h
    have hz:v.cells.zipIdx.foldl (λcs (c,j)=>cs.setIfInBounds (off+j) c) cs=(OR cs.toList off v.cells.toList).toArray:=by
     rw[<-Array.foldl_toList,Array.toList_zipIdx]
     simp_all [Q3]
    rw[Tj (by simp_all),hz]
    exact Wh (by omega)
   simp_all
def repZ:Nat->List Value->List Value
 |0,_=>[]
 |n+1,z=>z++repZ n z
theorem YbA(z:List Value):∀n,(repZ n z).length=n*z.length
 |0=>by simp[repZ]
 |n+1=>by rw[repZ,Tt,YbA z n,SL];omega
theorem YiQ(z:List Value)(hz:0<z.length):∀(n j:Nat),j<n*z.length->(repZ n z)[j]? =z[j%z.length]?
 |0,j,h=>by omega
 |n+1,j,h=>by
  rw[repZ]
  by_cases hj:j<z.length
  ·grind [Nat.mod_eq_of_lt]
  ·rw[SD (by omega),YiQ z hz n _ (by grind),<-Nat.mod_eq_sub_mod (by omega)]
theorem Yqk(zs:Array Value)(hz:0<zs.size)(n:Nat):((Array.range (n*zs.size)).map (zs[·%zs.size]!))=(repZ n zs.toList).toArray:=by
 apply Array.ext'
 apply Si
 intro j
 by_cases hj:j<n*zs.size
 ·have h1:=YiQ zs.toList (by omega) n j (by omega)
  have hm:j%zs.size<zs.size:=Nat.mod_lt _ hz
  simp_all
 grind [YbA]
section
variable {P:Program}{m:Mode}{n:Shp}{B:Nat}{w0:World}{ops:Array Oper}{Q:Exit->Act->World->Prop}{rest:List Oper}{env:Env}{H:List HP}{d:Nat}{ty:TypeId}{pos:String}{after:Array Edge}
variable {z v:Value}
theorem YmF(T2:Tab2 P){t:TypeId}{cs:Array Value}(hz:look T2.zt t=some z)(hc:z.cells=cs)(hn:Nat.ble (d+1) n.k=true)
 (h:∀g,VL P none n B w0 ops Q rest ((d,.pointer (some ⟨g,0,none⟩))::env) (blk g (.cells cs t (0,0))::H)):VL P none n B w0 ops Q (⟨some d,.alloc t,ty,pos,after,none⟩::rest) env H:=
 Yov (Yeo (Og T2.zt_ok hz)) hc hn h
variable {parts:List (Nat×Operand)}{ps:List (Nat×Value)}{cs vs:List Value}
theorem YmJ(T2:Tab2 P){t:TypeId}{zc:Array Value}{pl:List (Nat×Nat)}(hp:Wo env parts=some ps)(hz:look T2.zt t=some (.agg zc))(hl:look T2.bt t=some pl)
 (hf:fillL (pl[·]?) zc.toList ps=some cs) (hn:Nat.ble (d+1) n.k=true)
 (h:VL P m n B w0 ops Q rest ((d,.agg cs.toArray)::env) H):VL P m n B w0 ops Q (⟨some d,.build t parts.toArray,ty,pos,after,none⟩::rest) env H:=by
 refine Yox (Oh hp) (λw=>run_build w t _ cs.toArray ?_) hn h
 have h1:=Og T2.zt_ok hz
 have h2:=Og T2.bt_ok hl
 unfold Yay at h1
 unfold Yd7 at h2
 unfold Program.built
 cases hi:P.info? t with
 |none=>simp_all
 |some i=>
  rw[hi]at h1
  have h3:i.zero=some (.agg zc):=h1
  cases hu:P.underlying t with
  |none=>simp_all
  |some dd=>
   rw[hu]at h2
   cases dd<;>try(cases h2;done)
   ·rename_i k e
    cases hie:P.info? e with
    |none=>simp_all
    |some ie=>
     simp only[h3,hie]
     refine Wh (cs:=zc) (Yc5 (λa q ha=>?_) hf)
     grind
   ·have h5:=Wh (place:=(pl[·]?)) (cs:=zc) hf
    simp_all [Go.Value.cells]
variable {t f:Nat}
theorem VN(T:Tab P)(T2:Tab2 P){e len size bytes:Nat}{zl:List Value}(ht:look T.sl t=some (e,size,bytes))(hp:Wo env parts=some ps)(hz:look T2.zt e=some z)(hzc:z.cells=zl.toArray)
 (hf:fillL (λi=>some (i*size,size)) (repZ len zl) ps=some cs) (hn:Nat.ble (d+1) n.k=true) (hl:(Nat.blt 0 (len*size)&&Nat.beq zl.length size&&Nat.ble (len*size) 1000000)=true)
 (h:∀g,VL P none n B w0 ops Q rest ((d,.slice (some ⟨g,0,none⟩) len len)::env) (blk g (.cells cs.toArray e (0,0))::H)):VL P none n B w0 ops Q (⟨some d,.buildSlice t len parts.toArray,ty,pos,after,none⟩::rest) env H:=by
 simp only[Tq]at hl
 obtain⟨⟨hl1,hl2⟩,hl3⟩:=hl
 have hl1':0<len*size:=by simp_all
 have hl3':=TR hl3
 obtain⟨hut,inf,z',hinf,hz',_,hsi,_⟩:=YG (T.slic ht)
 have h1:=Og T2.zt_ok hz
 unfold Yay at h1
 rw[hinf]at h1
 have h3:inf.zero=some z:=h1
 refine OZ (Oh hp) (λw=>run_buildSlice w t e len _ cs.toArray inf z hut hinf h3 (by grind) (by grind) ?_) hn h
 rw[hsi]
 grind [Yqk,Wh]
variable {x:Operand}
theorem YfX(T:Tab P){α:Type}{f:α->List Value}{l:List α}{s fl k i q:Nat}{A:Option Addr}(hx:evo env x=some (sptr A (i*q)))(hr:Rd B w0 H A (l.flatMap f))(hq:∀a,(f a).length=q)(h0:Nat.blt 0 q=true)(hf:Of T.fo s fl=some k)(hn:Nat.ble (d+1) n.k=true)(hi:i<l.length)
 (h:VL P m n B w0 ops Q rest ((d,sptr A (i*q+k))::env) H):VL P m n B w0 ops Q (⟨some d,.fieldAddr s x fl,ty,pos,after,none⟩::rest) env H:=by
 refine Yg6 T hx hr ?_ hf hn h
 rw[Xb hq]
 simp_all
variable {args:List Operand}{tys:Array TypeId}
theorem YnX{a:Act}(ha:Fits n a env)(hx:evo env x=some (.func (.func f) #[] cs.toArray))
 (hc:∀xs w,(callFunc f xs).run P w=.ok (.enter f xs) w) (hargs:Args env args vs) (w:World):
 (execOp a.eval ⟨some d,.call ⟨.value x,args.toArray,tys⟩,ty,pos,after,none⟩).run P w=.ok (.enter f (vs++cs).toArray) w:=by
 have hmap:args.toArray.map a.eval=vs.toArray:=by grind [Uq]
 exact zc38
theorem Zg(hx:evo env x=some (.func (.func f) #[] cs.toArray))
 (hc:∀xs w,(callFunc f xs).run P w=.ok (.enter f xs) w) (hargs:Args env args vs) (hn:Nat.ble (d+1) n.k=true)
 (hcall:∀w,St B w0 H w->Calls P f (vs++cs).toArray w (Post B w0 λu K=>u=v/\K=H))
 (h:VL P none n B w0 ops Q rest ((d,v)::env) H):
 VL P none n B w0 ops Q (⟨some d,.call ⟨.value x,args.toArray,tys⟩,ty,pos,after,none⟩::rest) env H:=
 Yoy _ hx hc hargs hn hcall zc63
theorem Jq(hx:evo env x=some (.func (.func f) #[] cs.toArray))
 (hc:∀xs w,(callFunc f xs).run P w=.ok (.enter f xs) w) (hargs:Args env args vs) (hn:Nat.ble (d+1) n.k=true)
 (hcall:∀w,St B w0 H w->Calls P f (vs++cs).toArray w (Post B w0 λu K=>u=v/\K=H))
 (h:VL P (some none) n B w0 ops Q rest ((d,v)::env) H):
 VL P (some none) n B w0 ops Q (⟨some d,.call ⟨.value x,args.toArray,tys⟩,ty,pos,after,none⟩::rest) env H:=by
 refine⟨λa ha=>wpQuiet_step λK hK=>?_⟩
 refine⟨v,λw hw=>?_,hK _ ?_⟩
 ·unfold Oper.quietAt
  rw[YnX ha hx hc hargs]
  exact Yuc
 ·exact YqU
def effW(o:Oper):Bool:=eff o&&match o.op with|.call ⟨.value _,_,_⟩=>false|.makeFunc _ _ _=>false|_=>true
theorem Yor{id:Nat}{l:List Oper}(hq:(l.all λo=>!effW o)=true)(hm:P.follows .mixedOrders=true)(hB:Region.lexB .any l.toArray=true)(h:VL P (some none) n B w0 l.toArray Q l env H):VC P n B w0 (.region id l.toArray true) Q env H:=
 by grind [Ylk]
theorem YnS{xs:Array Value}{w:World}(hw:St B w0 H w)(h:Calls P f xs w λe w'=>e=.returned v/\w'=w):Calls P f xs w (Post B w0 λu K=>u=v/\K=H):=
 h.mono (by rintro e w' ⟨rfl,rfl⟩;exact⟨v,H,rfl,hw,rfl,rfl⟩)
end
section
variable {P:Program}{m:Mode}{n:Shp}{B:Nat}{w0:World}{ops:Array Oper}{Q:Exit->Act->World->Prop}{rest:List Oper}{env:Env}{H:List HP}{d:Nat}{ty:TypeId}{pos:String}{after:Array Edge}{x y:Operand}{k:IntKind}{a b:Int}
theorem WQ(T:Tab P){src dst:TypeId}{j:IntKind}(hx:evo env x=some (.int k a))(hs:look T.ik src=some j)(ht:look T.ik dst=some .u64)(hn:Nat.ble (d+1) n.k=true)(hb:0<=a/\a<=18446744073709551615)
 (h:VL P m n B w0 ops Q rest ((d,.int .u64 a)::env) H):VL P m n B w0 ops Q (⟨some d,.convert src dst x,ty,pos,after,none⟩::rest) env H:=
 Jc T hx hs ht hn (by rw[IntWalk.u64_in _ hb];exact h)
variable {f:Nat}{args:List Operand}{tys:Array TypeId}{vs cs:List Value}
theorem YS{b:Bool}
 (hc:∀xs w,(callFunc f xs).run P w=.ok (.enter f xs) w) (hargs:Args env args vs) (hn:Nat.ble (d+1) n.k=true)
 (hcall:∀w,St B w0 H w->Calls P f vs.toArray w (Post B w0 λu K=>u=.bool b/\K=H))
 (h1:b=true->VL P none n B w0 ops Q rest ((d,.bool true)::env) H) (h2:b=false->VL P none n B w0 ops Q rest ((d,.bool false)::env) H):
 VL P none n B w0 ops Q (⟨some d,.call ⟨.value (.func f),args.toArray,tys⟩,ty,pos,after,none⟩::rest) env H:=by
 cases b
 ·exact Yb hc hargs hn hcall (h2 rfl)
 ·exact Yb hc hargs hn hcall (h1 rfl)
theorem ZY{b:Bool}
 (hc:∀xs w,(callFunc f xs).run P w=.ok (.enter f xs) w) (hargs:Args env args vs) (hn:Nat.ble (d+1) n.k=true)
 (hcall:∀w,St B w0 H w->Calls P f vs.toArray w (Post B w0 λu K=>u=.bool b/\K=H))
 (h1:b=true->VL P (some none) n B w0 ops Q rest ((d,.bool true)::env) H) (h2:b=false->VL P (some none) n B w0 ops Q rest ((d,.bool false)::env) H):
 VL P (some none) n B w0 ops Q (⟨some d,.call ⟨.value (.func f),args.toArray,tys⟩,ty,pos,after,none⟩::rest) env H:=by
 cases b
 ·exact Yn hc hargs hn hcall (h2 rfl)
 ·exact Yn hc hargs hn hcall (h1 rfl)
theorem VO{x:Operand}{b:Bool}(hx:evo env x=some (.func (.func f) #[] cs.toArray))
 (hc:∀xs w,(callFunc f xs).run P w=.ok (.enter f xs) w) (hargs:Args env args vs) (hn:Nat.ble (d+1) n.k=true)
 (hcall:∀w,St B w0 H w->Calls P f (vs++cs).toArray w (Post B w0 λu K=>u=.bool b/\K=H))
 (h1:b=true->VL P none n B w0 ops Q rest ((d,.bool true)::env) H) (h2:b=false->VL P none n B w0 ops Q rest ((d,.bool false)::env) H):
 VL P none n B w0 ops Q (⟨some d,.call ⟨.value x,args.toArray,tys⟩,ty,pos,after,none⟩::rest) env H:=by
 cases b
 ·exact Zg hx hc hargs hn hcall (h2 rfl)
 ·exact Zg hx hc hargs hn hcall (h1 rfl)
theorem YjE{x:Operand}{b:Bool}(hx:evo env x=some (.func (.func f) #[] cs.toArray))
 (hc:∀xs w,(callFunc f xs).run P w=.ok (.enter f xs) w) (hargs:Args env args vs) (hn:Nat.ble (d+1) n.k=true)
 (hcall:∀w,St B w0 H w->Calls P f (vs++cs).toArray w (Post B w0 λu K=>u=.bool b/\K=H))
 (h1:b=true->VL P (some none) n B w0 ops Q rest ((d,.bool true)::env) H) (h2:b=false->VL P (some none) n B w0 ops Q rest ((d,.bool false)::env) H):
 VL P (some none) n B w0 ops Q (⟨some d,.call ⟨.value x,args.toArray,tys⟩,ty,pos,after,none⟩::rest) env H:=by
 cases b
 ·exact Jq hx hc hargs hn hcall (h2 rfl)
 ·exact Jq hx hc hargs hn hcall (h1 rfl)
theorem St.blk_sl{w:World}{g e size len:Nat}(h:St B w0 (Eng.blk g (.cells cs.toArray e (0,0))::H) w)(hk:cs.length=len*size)(hl:len<=1000000):St B w0 (Eng.sl e size (some ⟨g,0,none⟩) len len cs::H) w:=by
 refine h.upd (Upd.here _) rfl rfl rfl (TK _) λS1 ⟨h1,h2⟩=>⟨⟨⟨hk,.inr ⟨g,len,cs.toArray,rfl,Td _,h2,TK _,?_,by omega,?_⟩⟩,λa ha=>by grind⟩,λ_ _ _=>rfl⟩
 all_goals grind [maxLen]
end
end Go.Eng
namespace Go.Proofs.YtjommdkgfbhbdaaGreatDoor
open Go.Eng
abbrev CX(B:Nat)(w0:World)(f:Nat)(l:List Value)(w:World)(F:Value->List Eng.HP->Prop):Prop:=Calls Tryz.prog f l.toArray w (Eng.Post B w0 F)
theorem Yvw:([(3,()),(4,()),(5,()),(22,()),(23,()),(24,()),(30,()),(31,()),(35,()),(36,()),(39,()),(91,()),(118,()),(119,()),(127,()),(207,()),(209,()),(241,()),(245,()),(301,()),(376,()),(394,()),(417,())].all λx:Nat×Unit=>oneT Tryz.prog x.1)=true:=by kernel_rfl
theorem Yvr:([(26,6),(33,3),(38,12),(45,6),(93,7),(162,5),(164,3),(189,5),(203,5),(208,8),(211,10),(249,17),(262,9),(268,3),(280,16),(325,4),(327,4),(331,160),(333,32),(374,2),(424,4)].all λx:Nat×Nat=>aggT Tryz.prog x.1==some x.2)=true:=by kernel_rfl
theorem Yvu:([(26,0,0),(26,1,1),(26,2,2),(26,3,3),(26,4,4),(26,5,5),(33,0,0),(33,1,1),(33,2,2),(38,0,0),(38,1,6),(38,2,7),(38,3,10),(38,4,11),(45,0,0),(45,1,1),(45,2,2),(45,3,3),(45,4,4),(45,5,5),(80,0,0),(80,1,12),(93,0,0),(93,1,6),(121,0,0),(121,1,1),(162,0,0),(162,1,1),(162,2,2),(162,3,3),(162,4,4),(164,0,0),(164,1,1),(164,2,2),(189,0,0),(189,1,1),(189,2,2),(189,3,3),(189,4,4),(211,0,0),(211,1,8),(211,2,9),(249,0,0),(249,1,6),(249,2,9),(249,3,15),(249,4,16),(262,0,0),(262,1,6),(268,0,0),(268,1,1),(268,2,2),(374,0,0),(374,1,1),(419,0,0),(419,1,1),(424,0,0),(424,1,1),(424,2,2),(424,3,3)].all λx:Nat×Nat×Nat=>W9 Tryz.prog x.1 x.2.1==some x.2.2)=true:=by kernel_rfl
theorem Yvx:([(22,(24,1,24)),(23,(164,3,24)),(24,(3,1,8)),(27,(45,6,48)),(30,(93,7,72)),(31,(162,5,40)),(35,(189,5,104)),(36,(3,1,8)),(91,(127,1,24)),(119,(5,1,1)),(127,(3,1,8)),(265,(268,3,24)),(324,(207,1,4)),(376,(374,2,16)),(417,(424,4,32))].all λx:Nat×(Nat×Nat×Nat)=>Yd4 Tryz.prog x.1==some x.2)=true:=by kernel_rfl
theorem Yvs:([(203,(5,3,1)),(208,(8,207,1)),(280,(16,207,1)),(325,(4,3,1)),(327,(4,207,1)),(330,(16,3,1)),(331,(10,330,16)),(333,(8,325,4)),(388,(10,9,1))].all λx:Nat×(Nat×Nat×Nat)=>YcD Tryz.prog x.1==some x.2)=true:=by kernel_rfl
theorem Yvv:([(2,.i64),(3,.i64),(5,.u8),(160,.u64),(207,.u32),(209,.u64)].all λx:Nat×IntKind=>decide (intT Tryz.prog x.1=some x.2))=true:=by kernel_rfl
theorem Yvy:([(9,())].all λx:Nat×Unit=>YgV Tryz.prog x.1)=true:=by kernel_rfl
def T:Tab Tryz.prog:=⟨_,_,_,_,_,_,_,Yvw,Yvr,Yvu,Yvx,Yvs,Yvv,Yvy⟩
abbrev tabL_zt:List (Nat×Value):=[(3,.int .i64 0),(4,.bool false),(5,.int .u8 0),(24,.slice none 0 0),(26,.agg #[.int .i64 0,.slice none 0 0,.int .i64 0,.int .i64 0,.slice none 0 0,.slice none 0 0]),(31,.slice none 0 0),(33,.agg #[.int .i64 0,.int .i64 0,.slice none 0 0]),(38,.agg #[.int .i64 0,.slice none 0 0,.int .i64 0,.int .i64 0,.slice none 0 0,.slice none 0 0,.slice none 0 0,.int .i64 0,.int .i64 0,.slice none 0 0,.slice none 0 0,.slice none 0 0]),(45,.agg #[.int .i64 0,.int .i64 0,.int .i64 0,.int .i64 0,.int .i64 0,.int .i64 0]),(80,.agg #[.int .i64 0,.slice none 0 0,.int .i64 0,.int .i64 0,.slice none 0 0,.slice none 0 0,.slice none 0 0,.int .i64 0,.int .i64 0,.slice none 0 0,.slice none 0 0,.slice none 0 0,.int .i64 0]),(93,.agg #[.int .i64 0,.int .i64 0,.int .i64 0,.int .i64 0,.int .i64 0,.int .i64 0,.slice none 0 0]),(121,.agg #[.pointer none,.slice none 0 0]),(127,.slice none 0 0),(162,.agg #[.int .i64 0,.int .i64 0,.int .i64 0,.int .i64 0,.int .i64 0]),(164,.agg #[.int .i64 0,.int .i64 0,.int .i64 0]),(189,.agg #[.int .i64 0,.slice none 0 0,.slice none 0 0,.slice none 0 0,.slice none 0 0]),(203,.agg #[.int .i64 0,.int .i64 0,.int .i64 0,.int .i64 0,.int .i64 0]),(207,.int .u32 0),(208,.agg #[.int .u32 0,.int .u32 0,.int .u32 0,.int .u32 0,.int .u32 0,.int .u32 0,.int .u32 0,.int .u32 0]),(211,.agg #[.int .u32 0,.int .u32 0,.int .u32 0,.int .u32 0,.int .u32 0,.int .u32 0,.int .u32 0,.int .u32 0,.slice none 0 0,.int .u64 0]),(241,.nilFunc),(245,.map none),(249,.agg #[.int .i64 0,.slice none 0 0,.int .i64 0,.int .i64 0,.slice none 0 0,.slice none 0 0,.int .i64 0,.int .i64 0,.slice none 0 0,.int .i64 0,.int .i64 0,.int .i64 0,.int .i64 0,.int .i64 0,.int .i64 0,.slice none 0 0,.int .i64 0]),(262,.agg #[.int .i64 0,.slice none 0 0,.int .i64 0,.int .i64 0,.slice none 0 0,.slice none 0 0,.int .i64 0,.int .i64 0,.slice none 0 0]),(268,.agg #[.int .i64 0,.int .i64 0,.int .i64 0]),(280,.agg #[.int .u32 0,.int .u32 0,.int .u32 0,.int .u32 0,.int .u32 0,.int .u32 0,.int .u32 0,.int .u32 0,.int .u32 0,.int .u32 0,.int .u32 0,.int .u32 0,.int .u32 0,.int .u32 0,.int .u32 0,.int .u32 0]),(325,.agg #[.int .i64 0,.int .i64 0,.int .i64 0,.int .i64 0]),(327,.agg #[.int .u32 0,.int .u32 0,.int .u32 0,.int .u32 0]),(330,.agg #[.int .i64 0,.int .i64 0,.int .i64 0,.int .i64 0,.int .i64 0,.int .i64 0,.int .i64 0,.int .i64 0,.int .i64 0,.int .i64 0,.int .i64 0,.int .i64 0,.int .i64 0,.int .i64 0,.int .i64 0,.int .i64 0]),(331,.agg #[.int .i64 0,.int .i64 0,.int .i64 0,.int .i64 0,.int .i64 0,.int .i64 0,.int .i64 0,.int .i64 0,.int .i64 0,.int .i64 0,.int .i64 0,.int .i64 0,.int .i64 0,.int .i64 0,.int .i64 0,.int .i64 0,.int .i64 0,.int .i64 0,.int .i64 0,.int .i64 0,.int .i64 0,.int .i64 0,.int .i64 0,.int .i64 0,.int .i64 0,.int .i64 0,.int .i64 0,.int .i64 0,.int .i64 0,.int .i64 0,.int .i64 0,.int .i64 0,.int .i64 0,.int .i64 0,.int .i64 0,.int .i64 0,.int .i64 0,.int .i64 0,.int .i64 0,.int .i64 0,.int .i64 0,.int .i64 0,.int .i64 0,.int .i64 0,.int .i64 0,.int .i64 0,.int .i64 0,.int .i64 0,.int .i64 0,.int .i64 0,.int .i64 0,.int .i64 0,.int .i64 0,.int .i64 0,.int .i64 0,.int .i64 0,.int .i64 0,.int .i64 0,.int .i64 0,.int .i64 0,.int .i64 0,.int .i64 0,.int .i64 0,.int .i64 0,.int .i64 0,.int .i64 0,.int .i64 0,.int .i64 0,.int .i64 0,.int .i64 0,.int .i64 0,.int .i64 0,.int .i64 0,.int .i64 0,.int .i64 0,.int .i64 0,.int .i64 0,.int .i64 0,.int .i64 0,.int .i64 0,.int .i64 0,.int .i64 0,.int .i64 0,.int .i64 0,.int .i64 0,.int .i64 0,.int .i64 0,.int .i64 0,.int .i64 0,.int .i64 0,.int .i64 0,.int .i64 0,.int .i64 0,.int .i64 0,.int .i64 0,.int .i64 0,.int .i64 0,.int .i64 0,.int .i64 0,.int .i64 0,.int .i64 0,.int .i64 0,.int .i64 0,.int .i64 0,.int .i64 0,.int .i64 0,.int .i64 0,.int .i64 0,.int .i64 0,.int .i64 0,.int .i64 0,.int .i64 0,.int .i64 0,.int .i64 0,.int .i64 0,.int .i64 0,.int .i64 0,.int .i64 0,.int .i64 0,.int .i64 0,.int .i64 0,.int .i64 0,.int .i64 0,.int .i64 0,.int .i64 0,.int .i64 0,.int .i64 0,.int .i64 0,.int .i64 0,.int .i64 0,.int .i64 0,.int .i64 0,.int .i64 0,.int .i64 0,.int .i64 0,.int .i64 0,.int .i64 0,.int .i64 0,.int .i64 0,.int .i64 0,.int .i64 0,.int .i64 0,.int .i64 0,.int .i64 0,.int .i64 0,.int .i64 0,.int .i64 0,.int .i64 0,.int .i64 0,.int .i64 0,.int .i64 0,.int .i64 0,.int .i64 0,.int .i64 0,.int .i64 0,.int .i64 0,.int .i64 0,.int .i64 0,.int .i64 0,.int .i64 0]),(333,.agg #[.int .i64 0,.int .i64 0,.int .i64 0,.int .i64 0,.int .i64 0,.int .i64 0,.int .i64 0,.int .i64 0,.int .i64 0,.int .i64 0,.int .i64 0,.int .i64 0,.int .i64 0,.int .i64 0,.int .i64 0,.int .i64 0,.int .i64 0,.int .i64 0,.int .i64 0,.int .i64 0,.int .i64 0,.int .i64 0,.int .i64 0,.int .i64 0,.int .i64 0,.int .i64 0,.int .i64 0,.int .i64 0,.int .i64 0,.int .i64 0,.int .i64 0,.int .i64 0]),(374,.agg #[.int .i64 0,.int .i64 0]),(388,.agg #[.string ⟨#[]⟩,.string ⟨#[]⟩,.string ⟨#[]⟩,.string ⟨#[]⟩,.string ⟨#[]⟩,.string ⟨#[]⟩,.string ⟨#[]⟩,.string ⟨#[]⟩,.string ⟨#[]⟩,.string ⟨#[]⟩]),(394,.map none),(419,.agg #[.int .i64 0,.slice none 0 0]),(424,.agg #[.int .i64 0,.int .i64 0,.int .i64 0,.int .i64 0])]
theorem Yvz:(tabL_zt.map λx:Nat×Value=>Yay Tryz.prog x.1)=tabL_zt.map λx:Nat×Value=>some x.2:=by kernel_rfl
abbrev tabL_bt:List (Nat×List (Nat×Nat)):=[(26,[(0,1),(1,1),(2,1),(3,1),(4,1),(5,1)]),(33,[(0,1),(1,1),(2,1)]),(38,[(0,6),(6,1),(7,3),(10,1),(11,1)]),(45,[(0,1),(1,1),(2,1),(3,1),(4,1),(5,1)]),(80,[(0,12),(12,1)]),(93,[(0,6),(6,1)]),(162,[(0,1),(1,1),(2,1),(3,1),(4,1)]),(164,[(0,1),(1,1),(2,1)]),(189,[(0,1),(1,1),(2,1),(3,1),(4,1)]),(203,[(0,1),(1,1),(2,1),(3,1),(4,1)]),(208,[(0,1),(1,1),(2,1),(3,1),(4,1),(5,1),(6,1),(7,1)]),(211,[(0,8),(8,1),(9,1)]),(249,[(0,6),(6,3),(9,6),(15,1),(16,1)]),(262,[(0,6),(6,3)]),(268,[(0,1),(1,1),(2,1)]),(325,[(0,1),(1,1),(2,1),(3,1)]),(327,[(0,1),(1,1),(2,1),(3,1)]),(330,[(0,1),(1,1),(2,1),(3,1),(4,1),(5,1),(6,1),(7,1),(8,1),(9,1),(10,1),(11,1),(12,1),(13,1),(14,1),(15,1)]),(331,[(0,16),(16,16),(32,16),(48,16),(64,16),(80,16),(96,16),(112,16),(128,16),(144,16)]),(333,[(0,4),(4,4),(8,4),(12,4),(16,4),(20,4),(24,4),(28,4)]),(374,[(0,1),(1,1)]),(388,[(0,1),(1,1),(2,1),(3,1),(4,1),(5,1),(6,1),(7,1),(8,1),(9,1)]),(419,[(0,1),(1,1)]),(424,[(0,1),(1,1),(2,1),(3,1)])]
theorem Yvt:(tabL_bt.map λx:Nat×List (Nat×Nat)=>Yd7 Tryz.prog x.1)=tabL_bt.map λx:Nat×List (Nat×Nat)=>some x.2:=by kernel_rfl
def T2:Tab2 Tryz.prog:=⟨_,_,Yvz,Yvt⟩
abbrev EnT(k:Nat):Prop:=∀(xs:Array Value) (w:World),(callFunc k xs).run Tryz.prog w=.ok (.enter k xs) w
theorem enT{k:Nat}(h:EnT k:=by exactλ_ _=>by kernel_rfl):EnT k:=h
theorem en8:EnT 8:=enT
theorem en10:EnT 10:=enT
theorem en13:EnT 13:=enT
theorem en16:EnT 16:=enT
theorem en18:EnT 18:=enT
theorem en19:EnT 19:=enT
theorem en20:EnT 20:=enT
theorem en21:EnT 21:=enT
theorem en22:EnT 22:=enT
theorem en23:EnT 23:=enT
theorem en35:EnT 35:=enT
theorem en36:EnT 36:=enT
theorem en37:EnT 37:=enT
theorem en38:EnT 38:=enT
theorem en39:EnT 39:=enT
theorem en40:EnT 40:=enT
theorem en41:EnT 41:=enT
theorem en42:EnT 42:=enT
theorem en43:EnT 43:=enT
theorem en44:EnT 44:=enT
theorem en45:EnT 45:=enT
theorem en46:EnT 46:=enT
theorem en47:EnT 47:=enT
theorem en58:EnT 58:=enT
theorem en59:EnT 59:=enT
theorem en60:EnT 60:=enT
theorem en61:EnT 61:=enT
theorem en66:EnT 66:=enT
theorem en67:EnT 67:=enT
theorem en68:EnT 68:=enT
theorem en69:EnT 69:=enT
theorem en70:EnT 70:=enT
theorem en71:EnT 71:=enT
theorem en72:EnT 72:=enT
theorem en75:EnT 75:=enT
theorem en76:EnT 76:=enT
theorem en77:EnT 77:=enT
theorem en78:EnT 78:=enT
theorem en80:EnT 80:=enT
theorem en81:EnT 81:=enT
theorem en82:EnT 82:=enT
theorem en83:EnT 83:=enT
theorem en84:EnT 84:=enT
theorem en85:EnT 85:=enT
theorem en86:EnT 86:=enT
theorem en87:EnT 87:=enT
theorem en88:EnT 88:=enT
theorem en89:EnT 89:=enT
theorem en90:EnT 90:=enT
theorem en91:EnT 91:=enT
theorem en92:EnT 92:=enT
theorem en93:EnT 93:=enT
theorem en94:EnT 94:=enT
theorem en95:EnT 95:=enT
theorem Ysv:EnT 117:=enT
theorem Ypf:EnT 118:=enT
theorem Ysw:EnT 119:=enT
theorem YvL:EnT 120:=enT
theorem YvM:EnT 121:=enT
theorem Ysx:EnT 122:=enT
theorem Ysy:EnT 123:=enT
theorem YvN:EnT 124:=enT
theorem YvO:EnT 125:=enT
theorem Ypg:EnT 126:=enT
theorem YvP:EnT 127:=enT
theorem YvQ:EnT 128:=enT
theorem Ysz:EnT 129:=enT
theorem YvR:EnT 130:=enT
theorem YvS:EnT 131:=enT
theorem YsA:EnT 132:=enT
theorem UR:EnT 133:=enT
theorem WH:EnT 142:=enT
theorem YhL:EnT 143:=enT
theorem YsB:EnT 145:=enT
theorem YvT:EnT 146:=enT
theorem Yph:EnT 147:=enT
theorem YsC:EnT 150:=enT
theorem YvU:EnT 151:=enT
theorem Ypi:EnT 152:=enT
theorem YvV:EnT 153:=enT
theorem YvW:EnT 154:=enT
theorem Yfa:EnT 155:=enT
theorem YvX:EnT 156:=enT
theorem YlE:EnT 159:=enT
theorem Yfb:EnT 160:=enT
theorem YlF:EnT 162:=enT
theorem YvY:EnT 163:=enT
theorem YcY:EnT 164:=enT
theorem YvZ:EnT 165:=enT
theorem YsD:EnT 166:=enT
theorem YsE:EnT 167:=enT
theorem YsF:EnT 168:=enT
theorem YsG:EnT 169:=enT
theorem YsH:EnT 170:=enT
theorem YlG:EnT 171:=enT
theorem YsI:EnT 172:=enT
theorem YsJ:EnT 173:=enT
theorem YsK:EnT 174:=enT
theorem Yv0:EnT 175:=enT
theorem Yv1:EnT 176:=enT
theorem Yv2:EnT 177:=enT
theorem Yv3:EnT 178:=enT
theorem Yv4:EnT 179:=enT
theorem YsL:EnT 180:=enT
theorem YlH:EnT 181:=enT
theorem YsM:EnT 182:=enT
theorem YsN:EnT 183:=enT
theorem Yv5:EnT 184:=enT
theorem Yv6:EnT 185:=enT
theorem Ypj:EnT 186:=enT
theorem YsO:EnT 187:=enT
theorem YsP:EnT 188:=enT
theorem Yv7:EnT 189:=enT
theorem Yv8:EnT 190:=enT
theorem XM:EnT 209:=enT
theorem YlI:EnT 210:=enT
theorem Yv9:EnT 211:=enT
theorem Ywa:EnT 212:=enT
theorem YsQ:EnT 213:=enT
theorem Ywb:EnT 214:=enT
theorem Ywc:EnT 215:=enT
theorem YsR:EnT 216:=enT
theorem YsS:EnT 217:=enT
theorem Ywd:EnT 218:=enT
theorem YsT:EnT 221:=enT
theorem YcZ:EnT 222:=enT
theorem Ywe:EnT 223:=enT
theorem Ywf:EnT 224:=enT
theorem YsU:EnT 226:=enT
theorem Ywg:EnT 229:=enT
theorem Ywh:EnT 231:=enT
theorem Ywi:EnT 233:=enT
theorem YsV:EnT 234:=enT
theorem Ywj:EnT 235:=enT
theorem YlJ:EnT 236:=enT
theorem YsW:EnT 237:=enT
theorem Ywk:EnT 238:=enT
theorem Ywl:EnT 239:=enT
theorem Ypk:EnT 242:=enT
theorem W5:EnT 243:=enT
theorem YsX:EnT 244:=enT
theorem Ypl:EnT 245:=enT
theorem YlK:EnT 248:=enT
theorem YsY:EnT 249:=enT
theorem YsZ:EnT 250:=enT
theorem YlL:EnT 251:=enT
theorem Yfc:EnT 252:=enT
theorem YlM:EnT 253:=enT
theorem Ys0:EnT 254:=enT
theorem Ys1:EnT 255:=enT
theorem Ys2:EnT 256:=enT
theorem Ys3:EnT 257:=enT
theorem Ys4:EnT 258:=enT
theorem Ys5:EnT 259:=enT
theorem Ys6:EnT 260:=enT
theorem Ywm:EnT 261:=enT
theorem Ywn:EnT 262:=enT
theorem Ys7:EnT 263:=enT
theorem Ys8:EnT 264:=enT
theorem Ywo:EnT 265:=enT
theorem Ypm:EnT 266:=enT
theorem Ywp:EnT 267:=enT
theorem Yfd:EnT 268:=enT
theorem YlN:EnT 269:=enT
theorem Ywq:EnT 270:=enT
theorem Ywr:EnT 271:=enT
theorem Yws:EnT 272:=enT
theorem Ywt:EnT 281:=enT
theorem Ywu:EnT 282:=enT
theorem Ys9:EnT 283:=enT
theorem Ywv:EnT 284:=enT
theorem Yww:EnT 285:=enT
theorem Ybi:EnT 286:=enT
theorem Vg:EnT 287:=enT
theorem Ywx:EnT 288:=enT
theorem Ywy:EnT 289:=enT
theorem Yta:EnT 290:=enT
theorem Ytb:EnT 291:=enT
theorem Ytc:EnT 292:=enT
theorem Ywz:EnT 293:=enT
theorem Ybj:EnT 305:=enT
theorem YwA:EnT 307:=enT
theorem Ypn:EnT 308:=enT
theorem Ytd:EnT 309:=enT
theorem YwB:EnT 310:=enT
theorem YwC:EnT 312:=enT
theorem YwD:EnT 313:=enT
theorem YhM:EnT 317:=enT
theorem Yte:EnT 318:=enT
theorem YwE:EnT 319:=enT
theorem W6:EnT 320:=enT
theorem YwF:EnT 321:=enT
theorem YwG:EnT 322:=enT
theorem YwH:EnT 323:=enT
theorem YwI:EnT 324:=enT
theorem YwJ:EnT 325:=enT
theorem YwK:EnT 326:=enT
theorem Ypo:EnT 327:=enT
theorem Ytf:EnT 328:=enT
theorem Ytg:EnT 329:=enT
theorem Yfe:EnT 330:=enT
theorem YhN:EnT 331:=enT
theorem Yc0:EnT 332:=enT
theorem YwL:EnT 333:=enT
theorem YwM:EnT 334:=enT
theorem YwN:EnT 335:=enT
theorem Yth:EnT 337:=enT
theorem YwO:EnT 338:=enT
theorem YwP:EnT 339:=enT
theorem YwQ:EnT 340:=enT
theorem Yti:EnT 341:=enT
theorem YlO:EnT 342:=enT
theorem YhO:EnT 343:=enT
theorem YwR:EnT 344:=enT
theorem YwS:EnT 345:=enT
theorem YwT:EnT 346:=enT
theorem Ypp:EnT 347:=enT
theorem YwU:EnT 348:=enT
theorem Ytj:EnT 354:=enT
theorem Ytk:EnT 355:=enT
theorem YwV:EnT 356:=enT
theorem Yff:EnT 364:=enT
theorem Ypq:EnT 365:=enT
theorem YwW:EnT 366:=enT
theorem Ytl:EnT 367:=enT
theorem YwX:EnT 368:=enT
theorem YwY:EnT 369:=enT
theorem YwZ:EnT 370:=enT
theorem Ypr:EnT 371:=enT
theorem YlP:EnT 372:=enT
theorem Yw0:EnT 373:=enT
theorem Yw1:EnT 374:=enT
theorem Yw2:EnT 381:=enT
theorem Yw3:EnT 382:=enT
theorem Ybk:EnT 383:=enT
theorem Yw4:EnT 384:=enT
theorem Ytm:EnT 385:=enT
theorem Ytn:EnT 386:=enT
theorem Yw5:EnT 387:=enT
theorem Yps:EnT 388:=enT
theorem Yto:EnT 389:=enT
theorem Ytp:EnT 390:=enT
theorem YlQ:EnT 391:=enT
theorem YlR:EnT 392:=enT
theorem Yw6:EnT 393:=enT
theorem Yw7:EnT 394:=enT
theorem Yw8:EnT 395:=enT
theorem Yw9:EnT 396:=enT
theorem Ytq:EnT 397:=enT
theorem Ytr:EnT 402:=enT
theorem Yxa:EnT 404:=enT
theorem Yxb:EnT 405:=enT
theorem Yts:EnT 406:=enT
theorem Yxc:EnT 407:=enT
theorem Yxd:EnT 408:=enT
theorem Yxe:EnT 411:=enT
theorem Yxf:EnT 412:=enT
theorem Yxg:EnT 413:=enT
theorem YhP:EnT 419:=enT
theorem Ytt:EnT 420:=enT
theorem Yxh:EnT 421:=enT
theorem Yxi:EnT 422:=enT
theorem Ytu:EnT 429:=enT
theorem Ytv:EnT 431:=enT
theorem Ypt:EnT 432:=enT
theorem WI:EnT 451:=enT
theorem Yxj:EnT 452:=enT
theorem Yxk:EnT 453:=enT
theorem YhQ:EnT 454:=enT
theorem z3(w:World):(zeroValue 3).run Tryz.prog w=.ok (.int .i64 0) w:=by kernel_rfl
theorem z4(w:World):(zeroValue 4).run Tryz.prog w=.ok (.bool false) w:=by kernel_rfl
theorem z45(w:World):(zeroValue 45).run Tryz.prog w=.ok (.agg #[.int .i64 0,.int .i64 0,.int .i64 0,.int .i64 0,.int .i64 0,.int .i64 0]) w:=by kernel_rfl
theorem z127(w:World):(zeroValue 127).run Tryz.prog w=.ok (.slice none 0 0) w:=by kernel_rfl
theorem zi3:((Tryz.prog.info? 3).bind (·.zero))=some (.int .i64 0):=by kernel_rfl
theorem zi5:((Tryz.prog.info? 5).bind (·.zero))=some (.int .u8 0):=by kernel_rfl
end Go.Proofs.YtjommdkgfbhbdaaGreatDoor
