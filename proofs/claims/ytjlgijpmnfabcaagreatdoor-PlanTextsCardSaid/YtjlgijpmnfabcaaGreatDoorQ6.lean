/- Lemmas. -/
import Derived.Lib.AppendZeros
import Derived.RangeFuncFrom
import Derived.RangeFuncNested
import Derived.RangeFuncLeaves
import Derived.Lib.OthersKept
import Derived.Lib.AppendStr
import Derived.Laws.Externs
import Derived.Test.YtjlgijpmnfabcaaGreatDoorQ4
set_option maxRecDepth 100000
set_option maxHeartbeats 8000000
set_option linter.all false
namespace Go.Eng
open Go.RowKit
open Go.ChangeMaps (setBlock)
inductive OU where
 |done
 |n1 (i:Nat) (t:OU)
 |n2 (i:Nat) (t:OU) (j:Nat) (u:OU)
 |n3 (i:Nat) (t:OU) (j:Nat) (u:OU) (k:Nat) (v:OU)
section
variable {P:Program}{n:Shp}{B:Nat}{w0:World}{Q:Exit->Act->World->Prop}{env:Env}{H:List HP}{ops:Array Oper}
def XM(P:Program)(ops:Array Oper)(l:List Oper)(Q:Exit->Act->World->Prop)(S:World->Prop):OU->Act->World->Prop
 |.done,a,w=>Q .normal a w
 |.n1 i t,a,w=>Ys P ops (λe a w=>match e with|.normal=>XM P ops l Q S t a w|_=>False) S [nthO l i] a w
 |.n2 i t j u,a,w=>Ys P ops (λe a w=>match e with|.normal=>XM P ops l Q S t a w|_=>False) S [nthO l i] a w/\Ys P ops (λe a w=>match e with|.normal=>XM P ops l Q S u a w|_=>False) S [nthO l j] a w
 |.n3 i t j u k v,a,w=>Ys P ops (λe a w=>match e with|.normal=>XM P ops l Q S t a w|_=>False) S [nthO l i] a w/\Ys P ops (λe a w=>match e with|.normal=>XM P ops l Q S u a w|_=>False) S [nthO l j] a w/\Ys P ops (λe a w=>match e with|.normal=>XM P ops l Q S v a w|_=>False) S [nthO l k] a w
def VO(ops:Array Oper)(last:List Nat):OU->Array Bool->Nat->Bool
 |.done,listed,0=>JZ ops last listed
 |.done,_,_+1=>false
 |.n1 i t,listed,k+1=>!last.contains i&&(match ops[i]? with
  |some o=>if eff o then decide (Region.ready .any ops listed=[i])else(Region.ready .any ops listed).contains i&&Region.free .any ops listed i
  |none=>false)&&VO ops last t (listed.setIfInBounds i true) k
 |.n2 i t j u,listed,k+1=>!last.contains i&&!last.contains j&&V9 ops i&&V9 ops j&&((Region.ready .any ops listed).all λx=>x==i||x==j)&&!(Region.ready .any ops listed).isEmpty&&VO ops last t (listed.setIfInBounds i true) k&&VO ops last u (listed.setIfInBounds j true) k
 |.n3 i t j u q v,listed,k+1=>!last.contains i&&!last.contains j&&!last.contains q&&V9 ops i&&V9 ops j&&V9 ops q&&((Region.ready .any ops listed).all λx=>x==i||x==j||x==q)&&!(Region.ready .any ops listed).isEmpty&&VO ops last t (listed.setIfInBounds i true) k&&VO ops last u (listed.setIfInBounds j true) k&&VO ops last v (listed.setIfInBounds q true) k
 |.n1 _ _,_,0=>false
 |.n2 _ _ _ _,_,0=>false
 |.n3 _ _ _ _ _ _,_,0=>false
theorem Z7{S:World->Prop}{last:List Nat}(hs:Region.noSelect ops=true)(hQ:∀c (a:Act) (w:World),¬Q (.panic c) a w)(hlo:¬LetsOut Q)(l:List Oper)(hl:ops=l.toArray)(hlast:YcS ops last=true):
 ∀(t:OU) (k:Nat) (listed:Array Bool) (a:Act) (w:World),Closed ops listed->VO ops last t listed k=true->S w->XM P ops l (ZS P ops Q (Yd l last)) S t a w->
  XT P ops Q S last (k+last.length) listed a w
 |.done,0,listed,a,w,_,hB,_,h=>by
  exact Ytg
 |.done,_+1,_,_,_,_,hB,_,_=>by cases hB
 |.n1 _ _,0,_,_,_,_,hB,_,_=>by cases hB
 |.n2 _ _ _ _,0,_,_,_,_,hB,_,_=>by cases hB
 |.n3 _ _ _ _ _ _,0,_,_,_,_,hB,_,_=>by cases hB
 |.n1 i t,k+1,listed,a,w,hcl,hB,hS,h=>by
  simp only[VO,Tm]at hB
  obtain⟨⟨h0,h1⟩,h2⟩:=hB
  have hno:last.contains i=false:=by simp_all
  cases ho:ops[i]? with
  |none=>simp_all
  |some o=>
   rw[ho]at h1
   have hget:=Xf hl ho
   unfold XM at h
   rw[hget]at h
   rw[Su]
   by_cases he:eff o=true
   ·simp only[he,Nb,To]at h1
    refine⟨λh0=>(by simp_all),λj hj=>?_⟩
    have hj':=hj
    rw[h1]at hj
    obtain rfl:j=i:=by simp_all
    exact Vx ho he hno (λe a w hne=>by simp_all) hS h λa w hS' h'=>Z7 hs hQ hlo l hl hlast t k _ a w (hcl.set hj') h2 hS' h'
   ·simp only[he]at h1
    simp only[RU,NA,Tm]at h1
    unfold Ys at h
    rw[Tf he]at h
    obtain⟨v,hy,h3⟩:=h
    have hr:i∈Region.ready .any ops listed:=by simp_all
    exact Jt ho (Region.noSelect_spec hs) hQ ((VB hlast).2 i o ho (by simp_all) hno) hno _ listed a w hcl (Region.free_spec ho h1.2) hr hy hS (Z7 hs hQ hlo l hl hlast t k _ _ w (hcl.set hr) h2 hS h3)
 |.n2 i t j u,k+1,listed,a,w,hcl,hB,hS,h=>by
  simp only[VO,Tm]at hB
  obtain⟨⟨⟨⟨⟨⟨⟨b1,b2⟩,b3⟩,b4⟩,b5⟩,b6⟩,b7⟩,b8⟩:=hB
  have hi:last.contains i=false:=by simp_all
  have hj:last.contains j=false:=by simp_all
  unfold XM at h
  rw[Su]
  refine⟨λh0=>(by simp_all),λx hx=>?_⟩
  have h5:=TK.1 b5 x hx
  simp only[RG,Nx]at h5
  rcases h5 with rfl|rfl
  ·unfold V9 at b3
   cases ho:ops[x]? with
   |none=>simp_all
   |some o=>
    exact zc53
  ·unfold V9 at b4
   cases ho:ops[x]? with
   |none=>rw[ho]at b4;cases b4
   |some o=>
    rw[ho]at b4
    have hg:=h.2
    exact zc68
 |.n3 i t j u q v,k+1,listed,a,w,hcl,hB,hS,h=>by
  simp only[VO,Tm]at hB
  obtain⟨⟨⟨⟨⟨⟨⟨⟨⟨⟨b1,b2⟩,b2q⟩,b3⟩,b4⟩,b4q⟩,b5⟩,b6⟩,b7⟩,b8⟩,b9⟩:=hB
  have hi:last.contains i=false:=by simpa using b1
  have hj:last.contains j=false:=by simpa using b2
  have hq:last.contains q=false:=by simpa using b2q
  unfold XM at h
  rw[Su]
  refine⟨λh0=>(by rw[h0]at b6;cases b6),λx hx=>?_⟩
  have h5:=TK.1 b5 x hx
  simp only[RG,Nx]at h5
  rcases h5 with(rfl|rfl)|rfl
  ·unfold V9 at b3
   cases ho:ops[x]? with
   |none=>rw[ho]at b3;cases b3
   |some o=>
    exact zc53
  ·unfold V9 at b4
   cases ho:ops[x]? with
   |none=>rw[ho]at b4;cases b4
   |some o=>
    rw[ho]at b4
    have hg:=h.2.1
    exact zc68
  ·unfold V9 at b4q
   cases ho:ops[x]? with
   |none=>rw[ho]at b4q;cases b4q
   |some o=>
    rw[ho]at b4q
    have hg:=h.2.2
    rw[Xf hl ho]at hg
    exact Vx ho b4q hq (λe a w hne=>by cases e<;>simp_all) hS hg λa w hS' h'=>Z7 hs hQ hlo l hl hlast v k _ a w (hcl.set hx) b9 hS' h'
structure VU(P:Program)(n:Shp)(B:Nat)(w0:World)(ops:Array Oper)(l:List Oper)(Q:Exit->Act->World->Prop)(t:OU)(env:Env)(H F:List HP):Prop where
 run:∀a,Fits n a env->∀w,St B w0 (H++F) w->XM P ops l Q (St B w0 H) t a w
def Z8(P:Program)(B:Nat)(w0:World)(ops:Array Oper)(l:List Oper)(Q:Exit->Act->World->Prop)(Hc:List HP)(t:OU):Exit->Act->World->Prop
 |.normal,a,w=>XM P ops l Q (St B w0 Hc) t a w
 |_,_,_=>False
variable {l:List Oper}
theorem Vn{t:OU}:Z8 P B w0 ops l Q H t=λe a w=>match e with|.normal=>XM P ops l Q (St B w0 H) t a w|_=>False:=by
 funext e a w
 cases e<;>rfl
variable {F Hc:List HP}
theorem Yq6{HF:List HP}(happ:App H F HF)(h:VQ n B w0 Q .normal env HF):VU P n B w0 ops l Q .done env H F:=
 ⟨λa ha w hw=>by exact zc97⟩
variable {i j:Nat}{o o':Oper}
theorem YkK{t:OU}(ho:nthO l i=o)(h:VL P (some (some F)) n B w0 ops (Z8 P B w0 ops l Q H t) [o] env H):VU P n B w0 ops l Q (.n1 i t) env H F:=by
 refine⟨λa ha w hw=>?_⟩
 have h1:Ys P ops (Z8 P B w0 ops l Q H t) (St B w0 H) [o] a w:=h.run a ha w hw
 grind [XM,Vn]
variable {u:OU}
theorem YkL{t:OU}(ho:nthO l i=o)(ho':nthO l j=o')(h:VL P (some (some F)) n B w0 ops (Z8 P B w0 ops l Q H t) [o] env H)
 (h':VL P (some (some F)) n B w0 ops (Z8 P B w0 ops l Q H u) [o'] env H):VU P n B w0 ops l Q (.n2 i t j u) env H F:=by
 refine⟨λa ha w hw=>?_⟩
 have h1:Ys P ops (Z8 P B w0 ops l Q H t) (St B w0 H) [o] a w:=h.run a ha w hw
 have h2:Ys P ops (Z8 P B w0 ops l Q H u) (St B w0 H) [o'] a w:=h'.run a ha w hw
 unfold XM
 rw[ho,ho',<-Vn,<-Vn]
 simp_all
theorem Yr9{q:Nat}{t v:OU}{o2:Oper}(ho:nthO l i=o)(ho':nthO l j=o')(ho2:nthO l q=o2)(h:VL P (some (some F)) n B w0 ops (Z8 P B w0 ops l Q H t) [o] env H)
 (h':VL P (some (some F)) n B w0 ops (Z8 P B w0 ops l Q H u) [o'] env H) (h2:VL P (some (some F)) n B w0 ops (Z8 P B w0 ops l Q H v) [o2] env H):VU P n B w0 ops l Q (.n3 i t j u q v) env H F:=by
 refine⟨λa ha w hw=>?_⟩
 have h1:Ys P ops (Z8 P B w0 ops l Q H t) (St B w0 H) [o] a w:=h.run a ha w hw
 have h2':Ys P ops (Z8 P B w0 ops l Q H u) (St B w0 H) [o'] a w:=h'.run a ha w hw
 have h3:Ys P ops (Z8 P B w0 ops l Q H v) (St B w0 H) [o2] a w:=h2.run a ha w hw
 unfold XM
 rw[ho,ho',ho2,<-Vn,<-Vn,<-Vn]
 simp_all
theorem Qp{H':List HP}{t:OU}(hp:Pull Hc H' F)(h:VU P n B w0 ops l Q t env Hc F):VQ n B w0 (Z8 P B w0 ops l Q Hc t) .normal env H':=
 ⟨λa w ha hw=>h.run a ha w (hw.perm hp)⟩
theorem Qj{id:Nat}(t:OU)(last:List Nat)(mask:List Bool)(hm:P.follows .mixedOrders=true)
 (hB:(Region.noSelect l.toArray&&decide (last.length<=l.toArray.size)&&YcS l.toArray last&&VO l.toArray last t (Array.replicate l.toArray.size false) (l.toArray.size-last.length))=true)
 (hsp:Split mask H Hc F) {l2:List Oper}(hl2:Yd l last=l2) (h:VU P n B w0 l.toArray l (ZS P l.toArray (Only Q) l2) t env Hc F):VC P n B w0 (.region id l.toArray true) Q env H:=by
 simp only[Tm,To]at hB
 obtain⟨⟨⟨h1,h2⟩,h3⟩,h5⟩:=hB
 refine⟨λa w ha hw=>Zp (Q:=Only Q) ?_ λe a w h=>by exact zc60⟩
 have hst:St B w0 (Hc++F) w.drew:=(hw.perm (Xx hsp)).drew
 have hr:=h.run a ha w.drew hst
 rw[<-hl2]at hr
 have:=Z7 (S:=St B w0 Hc) h1 (λc a w h=>h) zc42 l rfl h3 t _ _ a w.drew (XG _ _) h5 hst.prefix_ hr
 exact YqH
end
def MB(es:Ents)(f:Int->Bool):Prop:=∀k,mget es k=if f k=true then some (.bool true)else none
structure MOk(es:Ents)(clock:Nat):Prop where
 nd:(es.map λe=>e.2.2).Nodup
 kn:(es.map λe=>e.1).Nodup
 lt:∀e∈es,e.2.2<clock
theorem MB.nil:MB [] (λ_=>false):=λ_=>rfl
variable {c:Nat}
theorem MOk.nil:MOk [] c:=by grind [Go.Eng.MOk.mk]
theorem Ya9(es l:Ents)(k:Int):mget (es++l) k=(mget es k).or (mget l k):=by
 grind [mget]
variable {es:Ents}{f:Int->Bool}
theorem MB.ext{g:Int->Bool}(h:MB es f)(e:∀v,f v=g v):MB es g:=λk=>by rw[<-e k];exact h k
variable {k:Int}
theorem MB.put(h:MB es f)(hk:f k=false):MB (es++[(k,.bool true,c)]) (λv=>decide (v=k)||f v):=λv=>by
 rw[Ya9,h v]
 by_cases hv:v=k
 all_goals simp_all [mget,Ne.symm]
theorem MB.mem(h:MB es f){e:Int×Value×Nat}(he:e∈es):f e.1=true:=by
 have hk:=h e.1
 cases hf:f e.1 with
 |true=>rfl
 |false=>
  unfold mget at hk
  cases hx:es.find? (λx=>x.1==e.1)with
  |none=>grind
  |some x=>simp_all
variable {v:Value}
theorem MOk.put(h:MOk es c)(hf:MB es f)(hk:f k=false):MOk (es++[(k,v,c)]) (c+1):=by
 refine⟨?_,?_,λe he=>?_⟩
 ·rw[Rk]
  refine NB.2 ⟨h.nd,by simp,λa ha b hb=>?_⟩
  obtain⟨e,he,rfl⟩:=TC.1 ha
  obtain rfl:b=c:=by simp_all
  have:=h.lt e he
  omega
 ·rw[Rk]
  refine NB.2 ⟨h.kn,by simp,λa ha b hb=>?_⟩
  obtain⟨e,he,rfl⟩:=TC.1 ha
  intro e2
  have:=hf.mem he
  simp_all
 ·rcases TU.1 he with he|he
  ·have:=h.lt e he;omega
  simp_all
theorem MB.at_(h:MB es f)(hk:f k=true):∃e∈es,e.1=k:=by
 have h1:=h k
 unfold mget at h1
 cases hx:es.find? (λx=>x.1==k)with
 |none=>simp_all
 |some x=>grind
theorem Upd.same{A:HP}:∀{L:List HP},A∈L->Upd A A L L
 |_::_,.head _=>Upd.here _
 |X::_,.tail _ h=>(Upd.same h).there X
section
variable {P:Program}{m:Mode}{n:Shp}{B:Nat}{w0:World}{ops:Array Oper}{Q:Exit->Act->World->Prop}{rest:List Oper}{env:Env}{H:List HP}{d:Nat}{ty:TypeId}{pos:String}{after:Array Edge}{x y u:Operand}
theorem Yub{xt:TypeId}{a:Int}(hx:evo env x=some (.int .i64 a))(hn:Nat.ble (d+1) n.k=true)(hb: -9223372036854775808<= -a/\ -a<=9223372036854775807)(h:VL P m n B w0 ops Q rest ((d,.int .i64 (-a))::env) H):
 VL P m n B w0 ops Q (⟨some d,.unOp .neg xt x,ty,pos,after,none⟩::rest) env H:=
 Yt rfl rfl hn rfl (λa' w ha _=>by
  have h0:(Op.intArith .sub .i64 0 a).run P w=.ok (.int .i64 (-a)) w:=by
   show Result.ok (Value.int .i64 (IntKind.i64.wrap (0-a))) w=_
   grind [Go.IntWalk.i64_in]
  simp[execOp,ha.eval hx,Op.unary,h0]) h
variable {t kt et g clock:Nat}{es:Ents}{f:Int->Bool}{k:Int}
theorem YbW{b:Bool}(hx:evo env x=some (.map (some g)))(hy:evo env y=some (.int .i64 k))(hm:blk g (mobj es clock)∈H)(ht:mapT P t kt et=true)(hn:Nat.ble (d+1) n.k=true)(hz:Yac P et=some (.bool false))(hf:MB es f)(hk:f k=b)
 (h:VL P m n B w0 ops Q rest ((d,.bool b)::env) H):VL P m n B w0 ops Q (⟨some d,.lookup t x y false,ty,pos,after,none⟩::rest) env H:=by
 have h1:=hf k
 cases b with
 |true=>grind [Yi6]
 |false=>grind [Yi5,YdL]
variable {K:Ents->Nat->List HP}
theorem YkH(hx:evo env x=some (.map (some g)))(hy:evo env y=some (.int .i64 k))(hv:evo env u=some (.bool true))(ht:mapT P t kt et=true)(hu:∀es' c',Upd (blk g (mobj es clock)) (blk g (mobj es' c')) H (K es' c'))(hf:MB es f)(ho:MOk es clock)
 (h:∀es' c',MB es' (λv=>decide (v=k)||f v)->MOk es' c'->clock<=c'->(∀e∈es,e∈es')->VL P none n B w0 ops Q rest env (K es' c')):VL P none n B w0 ops Q (⟨none,.mapUpdate t x y u,ty,pos,after,none⟩::rest) env H:=by
 have h1:=hf k
 cases hk:f k with
 |true=>
  rw[hk,Tn rfl]at h1
  obtain⟨l1,b,l2,rfl,hl,_⟩:=Vc 0 h1
  exact Ymi hx hy hv ht (hu _ _) hl (h _ _ (hf.ext λv=>by simp_all) ho (TI _) λ_ he=>he)
 |false=>
  rw[hk,Tf (by decide)]at h1
  exact Ymh hx hy hv ht (hu _ _) h1 (h _ _ (hf.put hk) (ho.put hf hk) (Nat.le_succ _) λ_ he=>List.mem_append_left _ he)
variable {v:Value}
theorem Ymg{b:Nat}{l1 l2:Ents}{v0:Value}{K:List HP}(hx:evo env x=some (.map (some g)))(hy:evo env y=some (.int .i64 k))(hv:evo env u=some v)(ht:mapT P t kt et=true)
 (hu:Upd (blk g (mobj (l1++(k,v0,b)::l2) clock)) (blk g (mobj (l1++(k,v,b)::l2) clock)) H K) (hk:∀e∈l1,e.1≠k)
 (h:VL P none n B w0 ops Q rest env K):VL P none n B w0 ops Q (⟨none,.insert t x y u,ty,pos,after,none⟩::rest) env H:=by
 obtain⟨h1,h2⟩:=Z5 ht
 refine JJ rfl rfl (λa w ha hw=>⟨setBlock w g (mobj (l1++(k,v,b)::l2) clock),?_,hw.setBlock hu⟩) h
 have hb:w.heap[g]? =some (mobj (l1++(k,v0,b)::l2) clock):=zc33
 unfold mobj at hb
 have hf:=O5 (l2:=l2) (v0:=v0) (b:=b) hk
 have hsz:(l1++(k,v0,b)::l2).map toE=l1.map toE++toE (k,v0,b)::l2.map toE:=by simp
 exact zc15
theorem YgW(hx:evo env x=some (.map none))(ht:mapT P t kt et=true)(hn:Nat.ble (d+1) n.k=true)
 (h:∀r,VL P none n B w0 ops Q rest ((d,.pointer (some ⟨r,0,none⟩))::env) (blk r (.mapIter none 0 #[] 0)::H)):VL P none n B w0 ops Q (⟨some d,.range t x,ty,pos,after,none⟩::rest) env H:=by
 obtain⟨h1,h2⟩:=Z5 ht
 refine Xj (λv K=>∃r,v=.pointer (some ⟨r,0,none⟩)/\K=blk r (.mapIter none 0 #[] 0)::H) rfl rfl hn (λa w ha hw=>?_) zc43
 refine⟨_,_,w.alloc (.mapIter none 0 #[] 0),?_,hw.alloc _,w.heap.size,rfl,rfl⟩
 simp[execOp,ha.eval hx,Instr.range,run_underlying h1,Sem.run,newObj]
theorem Yi8{r:Nat}(hx:evo env x=some (.pointer (some ⟨r,0,none⟩)))(hm:blk r (.mapIter none 0 #[] 0)∈H)(hn:Nat.ble (d+1) n.k=true)
 (h:VL P none n B w0 ops Q rest ((d,.tuple #[.bool false])::env) H):VL P none n B w0 ops Q (⟨some d,.next x false,ty,pos,after,none⟩::rest) env H:=by
 refine Yee rfl rfl hn (λa w ha hw=>⟨w,?_,hw⟩) h
 have hb:=(hw.blk hm).1
 simp[execOp,ha.eval hx,Instr.next,getObj,Sem.run,hb]
theorem YqV(hx:evo env x=some (.map (some g)))(hy:evo env y=some (.int .i64 k))(hv:evo env u=some (.bool true))(ht:mapT P t kt et=true)(hu:∀es' c',Upd (blk g (mobj es clock)) (blk g (mobj es' c')) H (K es' c'))(hf:MB es f)(ho:MOk es clock)
 (h:∀es' c',MB es' (λv=>decide (v=k)||f v)->MOk es' c'->VL P none n B w0 ops Q rest env (K es' c')):VL P none n B w0 ops Q (⟨none,.insert t x y u,ty,pos,after,none⟩::rest) env H:=by
 have h1:=hf k
 cases hk:f k with
 |true=>
  rw[hk,Tn rfl]at h1
  obtain⟨l1,b,l2,rfl,hl,_⟩:=Vc 0 h1
  refine Ymg hx hy hv ht (hu _ _) hl (h _ _ (hf.ext λv=>by simp_all) ho)
 |false=>
  rw[hk,Tf (by decide)]at h1
  exact Ymf hx hy hv ht (hu _ _) h1 (h _ _ (hf.put hk) (ho.put hf hk))
theorem YkF{K:Ents->List HP}(hx:evo env x=some (.map (some g)))(hy:evo env y=some (.int .i64 k))(ht:mapT P t kt et=true)(hu:∀es',Upd (blk g (mobj es clock)) (blk g (mobj es' clock)) H (K es'))(hf:MB es f)(ho:MOk es clock)(hk:f k=true)
 (h:∀es',MB es' (λv=>!decide (v=k)&&f v)->MOk es' clock->VL P none n B w0 ops Q rest env (K es')):VL P none n B w0 ops Q (⟨none,.call ⟨.builtin .delete,#[x,y],#[t,kt]⟩,ty,pos,after,none⟩::rest) env H:=by
 have h1:=hf k
 have hkn:=ho.kn
 rw[hk,Tn rfl]at h1
 obtain⟨l1,b,l2,rfl,hl,_⟩:=Vc 0 h1
 have hsub:(l1++l2).Sublist (l1++(k,.bool true,b)::l2):=by simp_all
 refine Yme hx hy ht (hu _) hl (h _ (λv=>?_) ⟨ho.nd.sublist (hsub.map _),ho.kn.sublist (hsub.map _),λe he=>ho.lt e (hsub.subset he)⟩)
 have hv:=hf v
 rw[Ya9]at hv⊢
 by_cases e:v=k
 ·have n1:mget l1 v=none:=by
   unfold mget
   rw[List.find?_eq_none.2 λx hx=>by grind];rfl
  have n2:mget l2 v=none:=by
   unfold mget
   rw[List.find?_eq_none.2 λx hx=>by
    grind];rfl
  simp_all
 simp_all [mget,Ne.symm]
end
end Go.Eng
namespace Go.Proofs.YtjlgijpmnfabcaaGreatDoor
open Go.RowKit Go.Eng Go.Nw
variable {A:Option Addr}{cap B:Nat}{w0 w:World}{H:List HP}
theorem YoN(xs:List Int)(n:NetM)(g:Nat)(hw:St B w0 (blk g (.cells #[.int .i64 n.nodes,.slice n.pA n.rows.length n.pcap,.int .i64 n.noise,.int .i64 n.thr,.slice n.lA n.links.length n.lcap,.slice n.mA n.margin.length n.mcap] 26 (0,0))::H) w):
 CX B w0 243 [.slice A xs.length cap,.pointer (some ⟨g,0,none⟩)] w λv K=>v=.bool (wide n.nodes xs)/\K=blk g (.cells #[.int .i64 n.nodes,.slice n.pA n.rows.length n.pcap,.int .i64 n.noise,.int .i64 n.thr,.slice n.lA n.links.length n.lcap,.slice n.mA n.margin.length n.mcap] 26 (0,0))::H:=by
 refine Ya Tryz.func243 Tryz.ntmps243 rfl rfl hw ?_
 unfold wide
 repeat'(first|refine zgb ?_|(refine zge ?_ ?_<;>intro _<;>try exact zo)|fail)
 ·rename_i h
  exact zc27
 ·rename_i h
  exact zc27
theorem YoO(p:Int)(hw:St B w0 H w):CX B w0 244 [.int .i64 p] w λv K=>v=.bool (Jl p)/\K=H:=by
 refine Ya Tryz.func244 Tryz.ntmps244 rfl rfl hw ?_
 unfold Jl
 repeat'(first|refine zgc ?_|(refine zge ?_ ?_<;>intro _<;>try exact zo)|fail)
 ·exact zc27
 ·exact zc27
 ·exact zc27
theorem YoP(xs:List Int)(hl:xs.length<=9223372036854775807)(g:Nat)(hr:Rd B w0 H A (xs.flatMap numF))(hw:St B w0 (blk g (.cells #[.func (.func 244) #[] #[]] 235 (0,0))::H) w):
 CX B w0 245 [.slice A xs.length cap,.pointer (some ⟨g,0,none⟩)] w λv K=>v=.bool (xs.any Jl)/\K=blk g (.cells #[.func (.func 244) #[] #[]] 235 (0,0))::H:=by
 refine Ya Tryz.func245 Tryz.ntmps245 rfl rfl hw ?_
 repeat'(first|((first|apply Yb Ylb|apply Yc Ylb);exact za;exact rfl;exactλ_ hw=>(Uv (λz:Int=>.int .i64 z) Jl xs 244 [] Yvf hl hr.cons (λa _ _ hw=>YoO a hw) hw))|refine zga ?_|fail)
 apply Ye;exact rfl;exact rfl
 exact⟨rfl,rfl⟩
theorem Yg6(n:NetM)(p:List Int->Bool):(n.rows.any λr=>p r.xs)=n.net.power.any p:=by grind [Go.Proofs.YtjlgijpmnfabcaaGreatDoor.NetM.net]
theorem Ybt(n:NetM)(hin:n.In B w0 H)(hw:St B w0 H w):
 CX B w0 146 [n.val] w λv K=>v=.int .i64 (Wk n.net)/\K=H:=by
 refine Ya Tryz.func146 Tryz.ntmps146 rfl rfl hw ?_
 obtain⟨hpw,hrw,hlk,hmg,hs1,hs2,hs3,hs4⟩:=hin
 have e1:n.net.power.length=n.rows.length:=by simp[NetM.net]
 have e2:n.net.nodes=n.nodes:=rfl
 unfold Wk
 rw[e1,e2,<-Yg6,<-Yg6 n (λr=>r.any Jl)]
 repeat'(first|(apply zg29;(apply Yr;exact za;exact rfl))|refine zgc ?_|(refine zge ?_ ?_<;>intro _<;>try exact zo)|(refine zgh ?_;intro _)|fail)
 ·((repeat apply Ym);apply Ye;exact rfl;exact rfl;refine⟨TG _ ?_,rfl⟩)
  omega
 rename_i g _
 repeat'(first|((first|apply Yb Yo0|apply Yc Yo0);exact za;exact rfl;exactλ_ hw=>(Uw (λr:RowM=>.slice r.A r.xs.length r.cap) (λr=>wide n.nodes r.xs) n.rows 243 [.pointer (some ⟨g,0,none⟩)] Yve hs1 hpw.cons (λa _ _ hw=>YoN a.xs n g hw) hw))|refine zgc ?_|fail)
 cases hc:(n.rows.any λr=>wide n.nodes r.xs)
 rotate_left
 ·exact zc40
 repeat'(first|(apply zg29;(apply Yr;exact za;exact rfl))|refine zgd ?_|(refine zgh ?_;intro _)|fail)
 rename_i g2
 apply Yb Yo0
 exact za
 exact rfl
 exactλ_ hw=>Uw (λr:RowM=>.slice r.A r.xs.length r.cap) (λr=>r.xs.any Jl) n.rows 245 [.pointer (some ⟨g2,0,none⟩)] Yvg hs1 hpw.cons.cons (λa ha _ hw=>YoP a.xs (hs2 a ha) g2 (hrw a ha).cons hw) hw
 cases hd:(n.rows.any λr=>r.xs.any Jl)
 ·refine zX8 ?_
  ((repeat apply Ym);apply Ye;exact rfl;exact rfl;refine⟨TG _ ?_,rfl⟩)
  simp_all
 ·exact zc40
abbrev netB(g:Nat)(n:NetM):HP:=blk g (.cells #[.int .i64 n.nodes,.slice n.pA n.rows.length n.pcap,.int .i64 n.noise,.int .i64 n.thr,.slice n.lA n.links.length n.lcap,.slice n.mA n.margin.length n.mcap] 26 (0,0))
def Xa:List Int->Int
 |[]=>0
 |a::l=>if a≠0 then a else Xa l
theorem YfX(l:List Int){k:Nat}{a:Int}(h:l[k]? =some a):Xa (l.drop k)=if a≠0 then a else Xa (l.drop (k+1)):=by
 grind [Rh,Xa]
variable {B:Nat}{w0 w:World}{H:List HP}
theorem YlF(l:List Int)(hlen:l.length<=1000){A:Option Addr}{cap:Nat}(hr:Rd B w0 H A (l.flatMap numF))(hw:St B w0 H w):
 CX B w0 72 [.slice A l.length cap] w λv K=>v=.int .i64 (Xa l)/\K=H:=by
 refine Ya Tryz.func72 Tryz.ntmps72 rfl rfl hw ?_
 refine zX8 ?_
 refine Yg (λ(k:Nat)=>[(8,.int .i64 k),(7,.int .i64 l.length),(6,.slice A l.length cap),(3,.int .i64 0)]) (λ_=>H) (λk=>k<=l.length/\Xa l=Xa (l.drop k)) (λk=>l.length-k) 0 ⟨Ti _,by simp⟩ ?_ (λw hw=>hw) ?_
 ·exact zc1
 rintro k ⟨hk,hi⟩ K hK
 by_cases hlt:k<l.length
 ·obtain⟨a,ha⟩:∃a,l[k]? =some a:=⟨_,Ta hlt⟩
  rw[YfX l ha]at hi
  repeat'(first|refine zgd ?_|(refine zge ?_ ?_<;>intro _<;>try exact zo)|fail)
  ·rename_i h
   rw[Tn h]at hi
   exact zc64
  ·rename_i h
   rw[Tf (by omega)]at hi
   refine zX9 ?_
   apply hK (k+1)
   ·omega
   ·omega
   ·exact zc1
   exact zc20
 ·refine zX1 ?_<;>intros
  ((repeat apply Ym);apply Ye;exact rfl;exact rfl;refine⟨TG _ ?_,rfl⟩)
  rw[hi,Rf (by omega)];rfl
theorem Yux(x y:Int):Xa [x,y]=if x=0 then y else x:=by
 simp only[Xa]
 omega
theorem Vb(a b:Lk)(hw:St B w0 H w):CX B w0 248 [lkV a,lkV b] w λv K=>v=.int .i64 (cmpL a b)/\K=H:=by
 refine Ya Tryz.func248 Tryz.ntmps248 rfl rfl hw ?_
 refine zX15 ?_<;>intros
 apply YI [0,1,2,3,5,6,7,8,4,9,10,11,12] [] [true,true]
 kernel_rfl
 kernel_rfl
 exact zy
 (simp only[Yd,nthO];rfl)
 exact rfl
 refine zX16 ?_<;>intros
 rename_i g
 first|apply Yb en72|apply Yc en72
 exact za
 exact rfl
 exactλ_ hw=>(YlF [cmpI a.1 b.1,cmpI a.2.1 b.2.1] (by simp) (Rd.blk (g:=g) (cs:=#[.int .i64 (cmpI a.1 b.1),.int .i64 (cmpI a.2.1 b.2.1)]) (by(focus exact zc2))) hw)
 refine zX17 ?_
 ((repeat apply Ym);apply Ye;exact rfl;exact rfl;refine⟨TG _ ?_,rfl⟩)
 rw[Yux];rfl
theorem Qv(n:NetM)(g:Nat)(a:Int)(hm:netB g n∈H)(hw:St B w0 H w):
 CX B w0 247 [.int .i64 a,.pointer (some ⟨g,0,none⟩)] w λv K=>v=.bool (decide (0<=a/\a<n.nodes))/\K=H:=by
 refine Ya Tryz.func247 Tryz.ntmps247 rfl rfl hw ?_
 repeat'(first|refine zgc ?_|(refine zgf ?_ ?_<;>intro _<;>try exact zo)|fail)
 ·exact zc27
 ·exact zc27
 ·exact YlV
theorem Yil{n:Net}{a b:Int}{r:List Int}{p:Int}(h1:n.power[a.toNat]? =some r)(h2:r[b.toNat]? =some p):powr n a b=p:=by grind [powr]
variable {B:Nat}{w0 w:World}{H:List HP}
theorem Yce(n:NetM)(i:Nat)(hin:n.In B w0 H)(hi:i<n.links.length)(hml:n.margin.length=n.links.length)(ht:Wk n.net=0)(hw:St B w0 H w):
 CX B w0 147 [n.val,.int .i64 i] w λv K=>v=.int .i64 (OO n.net i)/\K=H:=by
 refine Ya Tryz.func147 Tryz.ntmps147 rfl rfl hw ?_
 obtain⟨hpw,hrw,hlk,hmg,hs1,hs2,hs3,hs4⟩:=hin
 obtain⟨t1,t2,t3⟩:=YiD ht
 obtain⟨l,hl⟩:∃l,n.links[i]? =some l:=⟨_,Ta hi⟩
 obtain⟨z,hz⟩:∃z,n.margin[i]? =some z:=⟨_,Ta (by omega)⟩
 have e1:lnk n.net i=l:=Vf hl
 have e2:mar n.net i=z:=Yf4 hz
 have e3:n.net.nodes=n.nodes:=rfl
 have e4:n.net.power.length=n.rows.length:=by simp[NetM.net]
 rw[e4,e3]at t1
 unfold OO
 rw[e1,e2,e3]
 by_cases h1:0<=l.1/\l.1<n.nodes
 rotate_left
 ·skip
  repeat'(first|((first|apply Vr (cs:=[_])|apply Vq (cs:=[_]));exact rfl;exact Ylc;exact za;exact rfl;exactλ_ hw=>(Qv n _ _ zm hw);all_goals(intro hB;(try simp only[To,Rl]at hB);try exact zo))|(apply zg29;(apply Yr;exact za;exact rfl))|refine zgd ?_|(refine zgh ?_;intro _)|fail)
  exact zc63
 by_cases h2:0<=l.2.1/\l.2.1<n.nodes
 rotate_left
 ·skip
  repeat'(first|((first|apply Vr (cs:=[_])|apply Vq (cs:=[_]));exact rfl;exact Ylc;exact za;exact rfl;exactλ_ hw=>(Qv n _ _ zm hw);all_goals(intro hB;(try simp only[To,Rl]at hB);try exact zo))|(apply zg29;(apply Yr;exact za;exact rfl))|refine zgd ?_|(refine zgh ?_;intro _)|fail)
  exact zc63
 obtain⟨r,hr⟩:∃r,n.rows[l.1.toNat]? =some r:=⟨_,Ta (by omega)⟩
 have hrm:r∈n.rows:=Tc hr
 have hrr:=hrw r hrm
 have hrs:=hs2 r hrm
 have hrl:(r.xs.length:Int)=n.nodes:=t2 r.xs (TC.2 ⟨r,hrm,rfl⟩)
 obtain⟨p,hp⟩:∃p,r.xs[l.2.1.toNat]? =some p:=⟨_,Ta (by omega)⟩
 rw[Yil (n:=n.net) (r:=r.xs) (by simp[NetM.net,hr]) hp]
 by_cases h0:0<i
 ·obtain⟨q,hq⟩:∃q,n.links[((i:Int)-1).toNat]? =some q:=⟨_,Ta (by omega)⟩
  rw[show lnk n.net (i-1)=q from Vf (by rw[show i-1=((i:Int)-1).toNat by omega];exact hq)]
  repeat'(first|((first|apply Vr (cs:=[_])|apply Vq (cs:=[_]));exact rfl;exact Ylc;exact za;exact rfl;exactλ_ hw=>(Qv n _ _ zm hw);all_goals(intro hB;(try simp only[To,Rl]at hB);try exact zo))|((first|apply Yb Yey|apply Yc Yey);exact za;exact rfl;exactλ_ hw=>(Vb q l hw))|(apply zg28;first|refine zs83 ?_|refine zs84 ?_)|(apply zg29;(apply Yr;exact za;exact rfl))|refine zgd ?_|(refine zgf ?_ ?_<;>intro _<;>try exact zo)|(refine zgh ?_;intro _)|fail)
  all_goals(((repeat apply Ym);apply Ye;exact rfl;exact rfl;refine⟨TG _ ?_,rfl⟩);(repeat(first|refine Zm (by omega) ?_|refine Zn (by omega) ?_));rfl)
 ·skip
  repeat'(first|((first|apply Vr (cs:=[_])|apply Vq (cs:=[_]));exact rfl;exact Ylc;exact za;exact rfl;exactλ_ hw=>(Qv n _ _ zm hw);all_goals(intro hB;(try simp only[To,Rl]at hB);try exact zo))|((first|apply Yb Yey|apply Yc Yey);exact za;exact rfl;exactλ_ hw=>(Vb _ _ hw))|(apply zg28;first|refine zs83 ?_|refine zs84 ?_)|(apply zg29;(apply Yr;exact za;exact rfl))|refine zgd ?_|(refine zgf ?_ ?_<;>intro _<;>try exact zo)|(refine zgh ?_;intro _)|fail)
  all_goals(((repeat apply Ym);apply Ye;exact rfl;exact rfl;refine⟨TG _ ?_,rfl⟩);(repeat(first|refine Zm (by omega) ?_|refine Zn (by omega) ?_));rfl)
theorem YV(n:NetM)(hin:n.In B w0 H)(hw:St B w0 H w):
 CX B w0 68 [n.val] w λv K=>v=.int .i64 (Yo n.net)/\K=H:=by
 refine Ya Tryz.func68 Tryz.ntmps68 rfl rfl hw ?_
 have e3:n.net.nodes=n.nodes:=rfl
 have e5:n.net.noise=n.noise:=rfl
 have e6:n.net.thr=n.thr:=rfl
 have e7:n.net.links=n.links:=rfl
 have e8:n.net.margin=n.margin:=rfl
 have hs1:=hin.s1
 have hs3:=hin.s3
 have hs4:=hin.s4
 unfold Yo
 rw[e3,e5,e6,e7,e8]
 (apply Xs;apply YX;apply YT;exact rfl;exact rfl;intro g)
 repeat'(first|((first|apply Yb Ysh|apply Yc Ysh);exact za;exact rfl;exactλ_ hw=>(Ybt n hin.cons hw))|refine zgd ?_|(refine zge ?_ ?_<;>intro _<;>try exact zo)|fail)
 any_goals(((repeat apply Ym);apply Ye;exact rfl;exact rfl;refine⟨TG _ ?_,rfl⟩);(repeat(first|refine Zm (by omega) ?_|refine Zn (by omega) ?_));rfl)
 have ht:Wk n.net=0:=by assumption
 refine Yg (λ(k:Nat)=>[(54,.int .i64 k),(53,.int .i64 n.links.length),(1,.pointer (some ⟨g,0,none⟩))]) (λ_=>netB g n::H) (λk=>k<=n.links.length/\VD n.net n.links.length 0=VD n.net (n.links.length-k) k) (λk=>n.links.length-k) 0 ⟨Ti _,rfl⟩ ?_ (λw hw=>hw) ?_
 ·exact zc1
 rintro k ⟨hk,hi⟩ K hK
 by_cases hlt:k<n.links.length
 ·skip
  repeat'(first|((first|apply Yb Ysi|apply Yc Ysi);exact za;exact rfl;exactλ_ hw=>(Yce n k hin.cons hlt (by omega) ht hw))|refine zgd ?_|(refine zge ?_ ?_<;>intro _<;>try exact zo)|fail)
  ·((repeat apply Ym);apply Ye;exact rfl;exact rfl;refine⟨TG _ ?_,rfl⟩)
   (repeat(first|refine Zm (by omega) ?_|refine Zn (by omega) ?_))
   rw[hi];exact(YhY n.net hlt (by assumption)).symm
  ·apply hK (k+1)
   ·exact⟨by omega,by rw[hi];exact YhX n.net hlt (by assumption)⟩
   ·omega
   ·exact zc1
   exact zc20
 ·refine zX1 ?_<;>intros
  ((repeat apply Ym);apply Ye;exact rfl;exact rfl;refine⟨TG _ ?_,rfl⟩)
  (repeat(first|refine Zm (by omega) ?_|refine Zn (by omega) ?_))
  rw[hi,show n.links.length-k=0 by omega];rfl
end Go.Proofs.YtjlgijpmnfabcaaGreatDoor
namespace Go.Eng
open Go.RowKit
section
variable {P:Program}{m:Mode}{n:Shp}{B:Nat}{w0:World}{ops:Array Oper}{Q:Exit->Act->World->Prop}{rest:List Oper}{env:Env}{H:List HP}{d:Nat}{ty:TypeId}{pos:String}{after:Array Edge}{x y u:Operand}
def YjH(P:Program)(t:TypeId):Bool:=match P.underlying t with|some (.int _)=>true|_=>false
theorem YhP{t:TypeId}(h:YjH P t=true):∃k,P.underlying t=some (.int k):=by
 unfold YjH at h
 grind
theorem YkC(T:Tab P){tx k c:Nat}{A:Option Addr}{es:Nat×Nat×Nat}(hx:evo env x=some (.slice A k c))(ht:look T.sl tx=some es)(hn:Nat.ble (d+1) n.k=true)(h:VL P m n B w0 ops Q rest ((d,.int .i64 c)::env) H):
 VL P m n B w0 ops Q (⟨some d,.call ⟨.builtin .cap,#[x],#[tx]⟩,ty,pos,after,none⟩::rest) env H:=by
 obtain⟨e,size,bytes⟩:=es
 obtain⟨hu,_⟩:=Yx (T.slic ht)
 exact Yt rfl rfl hn rfl (λa w ha _=>by simp[execOp,resolve,invoke,builtin,ha.eval hx,Builtin.cap_,run_underlying hu];rfl) h
end
variable {w:World}{K:List HP}
theorem St.putObj{B:Nat}{w0:World}{H:List HP}{g:Nat}{o o':Obj}(h:St B w0 H w)(u:Upd (Eng.blk g o) (Eng.blk g o') H K):St B w0 K (w.putObj g o'):=by
 have hlt:g<w.heap.size:=by
  obtain⟨L1,L2,rfl,_⟩:=u
  exact(h.blk (g:=g) (o:=o) (by simp)).2.2
 refine h.upd u rfl rfl rfl (by simp_all) λS1 ⟨h1,_⟩=>⟨⟨h1,World.putObj_heap_same hlt⟩,λb hb _=>World.putObj_heap_other λe=>hb (e▸h1)⟩
theorem YpV(X:HP)(Y M:List HP):Perm (Y++X::M) (X::(Y++M)):=by
 induction Y with
 |nil=>exact .refl _
 |cons A Y ih=>exact(ih.cons A).trans (.swap A X _)
theorem Ynu(X:HP)(Y M:List HP):Perm (X::(Y++M)) (Y++X::M):=by
 induction Y with
 |nil=>exact .refl _
 |cons A Y ih=>exact(Perm.swap X A _).trans (ih.cons A)
theorem Yig(Y:List HP){L M:List HP}(p:Perm L M):Perm (Y++L) (Y++M):=by
 induction Y with
 |nil=>exact p
 |cons A Y ih=>exact ih.cons A
def Yb4(P:Program)(l:Nat)(args:List Value)(B:Nat)(w0:World)(H:List HP)(Φt Φf:List HP->Prop):Prop:=
 ∀w,St B w0 H w->YieldAt Fence.wide 0 P l args.toArray w λe w'=>
  (e=.returned (.bool true)/\∃K,Φt K/\St B w0 K w')\/(e=.returned (.bool false)/\∃K,Φf K/\St B w0 K w')
def YbP(P:Program)(gf:Nat)(lb:List Value)(xs:List (List Value))(B:Nat)(w0:World)(HI:List HP):Prop:=
 ∀(l:Nat) (S:Nat->List HP->Prop) (X:List HP->Prop),
  (∀(i:Nat) (args:List Value),xs[i]? =some args->∀(Y L:List HP),S i L->
   Yb4 P l args B w0 (Y++many L::HI) (λK=>∃L',S (i+1) L'/\K=Y++many L'::HI) (λK=>∃L',X L'/\K=Y++many L'::HI))->
  ∀L0,S 0 L0->∀w,St B w0 (many L0::HI) w->
   CallsIn Fence.wide 0 P gf (.func (.yield l) #[] #[]::lb).toArray w (Post B w0 λ_ K=>(∃L,S xs.length L/\K=many L::HI)\/∃L,X L/\K=many L::HI)
def jump:Exit->Option Code
 |.ret=>some .ret
 |.exit id=>some (.exit id)
 |_=>none
def Yky{α:Type}(B:Nat)(w0:World)(R:HP)(HI:List HP)(I:α->Prop)(HH:α->List HP)(X:Exit->List HP->Prop):Exit->Act->World->Prop
 |.normal,_,w=>∃y,I y/\St B w0 (R::(HH y++HI)) w
 |.ret,_,w=>∃K,X .ret K/\St B w0 (R::(K++HI)) w
 |.exit id,_,w=>∃K,X (.exit id) K/\St B w0 (R::(K++HI)) w
 |_,_,_=>False
def Ykw{α:Type}(P:Program)(l B:Nat)(w0:World)(body:Code)(R:HP)(HI:List HP)(I:α->Prop)(HH:α->List HP)(X:Exit->List HP->Prop):Exit->Act->World->Prop
 |.normal,a,w=>∃K,St B w0 (R::K) w/\∀R' w',St B w0 (R'::K) w'->wpR P (some l) body (Yky B w0 R' HI I HH X) a w'
 |_,_,_=>False
def Ul:List Nat->List Value->Env->Env
 |p::ps,v::vs,e=>Ul ps vs ((p,v)::e)
 |_,_,e=>e
section
variable {P:Program}{B:Nat}{w0:World}{Q:Exit->Act->World->Prop}{env:Env}{H:List HP}{k:Nat}
variable {α:Type}{l gf n:Nat}{body c:Code}{R:HP}{HI K:List HP}{X:Exit->List HP->Prop}
theorem Jv{I:α->Prop}{HH:α->List HP}(hr:Rem R H K)
 (h:∀R',VC P ⟨k,[],some l⟩ B w0 body (Yky B w0 R' HI I HH X) env (R'::K)):VQ ⟨k,[],some l⟩ B w0 (Ykw P l B w0 body R HI I HH X) .normal env H:=
 ⟨λa _ ha hw=>⟨K,hw.perm hr,λR' w' hw'=>(h R').run a w' ha hw'⟩⟩
theorem VX{n:Shp}{I:α->Prop}{HH:α->List HP}(y:α)(hI:I y)(hH:∀w,St B w0 H w->St B w0 (R::(HH y++HI)) w):
 VQ n B w0 (Yky B w0 R HI I HH X) .normal env H:=⟨λ_ w _ hw=>⟨y,hI,hH w hw⟩⟩
theorem Qo{n:Shp}{I:α->Prop}{HH:α->List HP}(K:List HP)(hX:X .ret K)(hH:∀w,St B w0 H w->St B w0 (R::(K++HI)) w):
 VQ n B w0 (Yky B w0 R HI I HH X) .ret env H:=⟨λ_ w _ hw=>⟨K,hX,hH w hw⟩⟩
theorem YhA:∀(ps:List Nat) (vs:List Value) (t:Array Value) (e:Env),t.size=k->(∀s v,get e s=some v->t[s]? =some v)->ps.all (λp=>Nat.ble (p+1) k)=true->ps.length=vs.length->
 ((ps.zip vs).foldl (λt (x:Nat×Value)=>t.setIfInBounds x.1 x.2) t).size=k/\∀s v,get (Ul ps vs e) s=some v->((ps.zip vs).foldl (λt (x:Nat×Value)=>t.setIfInBounds x.1 x.2) t)[s]? =some v
 |[],[],t,e,hs,hg,_,_=>⟨hs,hg⟩
 |p::ps,v::vs,t,e,hs,hg,hp,hl=>by
  simp only[Nu,Tm]at hp
  have hlt:=TR hp.1
  refine YhA ps vs (t.setIfInBounds p v) ((p,v)::e) (by simp_all) (λs u hu=>?_) hp.2 (by simp_all)
  by_cases e2:p=s
  ·subst e2
   rw[get,Tn rfl]at hu
   grind
  simp_all [get]
variable {ds:List Deferred}{lb:List Value}{xs:List (List Value)}
theorem X5{g:Operand}{ps:List Nat}{assign:Code}(HI:List HP)(HH:α->List HP)(I:Nat->α->Prop)(X:Exit->List HP->Prop)(x0:α)
 (hg:evo env g=some (.func (.func gf) #[] lb.toArray)) (hc:∀xs w,(callFunc gf xs).run P w=.ok (.enter gf xs) w) (hiter:YbP P gf lb xs B w0 HI)
 (hps:ps.all (λp=>Nat.ble (p+1) k)=true) (hlen:∀args∈xs,args.length=ps.length) (hca:calm assign=true) (hcb:calm body=true)
 (hH:∀w,St B w0 H w->St B w0 (HH x0++HI) w) (h0:I 0 x0)
 (hround:∀(l i:Nat) (args:List Value) (R:HP) (x:α),xs[i]? =some args->I i x->VC P ⟨k,[],some l⟩ B w0 assign (Ykw P l B w0 body R HI (I (i+1)) HH X) (Ul ps args env) (R::(HH x++HI)))
 (hdone:∀D x,I xs.length x->VQ ⟨k,⟨.collected D,#[]⟩::ds,none⟩ B w0 Q .normal env (blk D (.deferred (some []))::(HH x++HI)))
 (hstop:∀D e K,X e K->(jump e).isSome=true->VQ ⟨k,⟨.collected D,#[]⟩::ds,none⟩ B w0 Q e env (blk D (.deferred (some []))::(K++HI))):
 VC P ⟨k,ds,none⟩ B w0 (.rangeFunc g ps.toArray assign body) Q env H:=by
 refine⟨λa w ha hw=>?_⟩
 show(Code.rangeFunc g ps.toArray assign body).wp P Q a w
 refine(wpIn_wide (n:=0)).1 (wpIn_rangeFunc ?_)
 intro fn _
 obtain⟨rec,hrec⟩:∃rec:LoopState->Option Code->Loop,rec=λst pe=>{state:=st,pending:=pe,fn,tmps:=a.tmps,params:=ps.toArray,assign,body,defers:=w.heap.size}:=⟨_,rfl⟩
 have hst:=((hH w hw).alloc (.deferred (some []))).alloc (.loop (rec .ready none))
 rw[World.size_alloc]at hst
 obtain⟨l,hl⟩:∃l,w.heap.size+1=l:=⟨_,rfl⟩
 obtain⟨D,hD⟩:∃D,w.heap.size=D:=⟨_,rfl⟩
 rw[hl,hD]at hst
 obtain⟨W1,hW1⟩:∃W1,(w.alloc (.deferred (some []))).alloc (.loop (rec .ready none))=W1:=⟨_,rfl⟩
 rw[hW1]at hst
 refine⟨l,[⟨.collected D,#[]⟩],W1,{target:=.fn (.func gf) lb.toArray,args:=#[.func (.yield l) #[] #[]]},W1,gf,(.func (.yield l) #[] #[]::lb).toArray,W1,?_,?_,?_,?_,λh=>by simp[Fence.wide]at h,?_⟩
 ·simp_all [run_enterLoop_outer]
 ·simp only[resolve,ha.eval hg]
  simp[go_sem]
 ·intro f' _;trivial
 ·grind [invoke]
 ·refine CallsIn.mono (hiter l (λi L=>∃x,I i x/\L=blk l (.loop (rec .ready none))::blk D (.deferred (some []))::HH x)
   (λL=>∃e K c,X e K/\jump e=some c/\L=blk l (.loop (rec .done (some c)))::blk D (.deferred (some []))::K) ?_ _ ⟨x0,h0,rfl⟩ _ (hst.perm (.close (blk l (.loop (rec .ready none))::blk D (.deferred (some []))::HH x0) HI))) ?_
  ·--one round
   rintro i args hx Y L ⟨x,hI,rfl⟩ W hW
   have hp1:∀(lp:Loop) (M:List HP),Perm (Y++many (blk l (.loop lp)::blk D (.deferred (some []))::M)::HI) (many (Y++[blk l (.loop lp),blk D (.deferred (some []))])::(M++HI)):=λlp M=>by
    refine(Yig Y (.open_ _ _)).trans ?_
    have:Y++((blk l (.loop lp)::blk D (.deferred (some []))::M)++HI)=(Y++[blk l (.loop lp),blk D (.deferred (some []))])++(M++HI):=by simp
    rw[this]
    exact .close _ _
   have hp2:∀(lp:Loop) (M:List HP),Perm (many (Y++[blk l (.loop lp),blk D (.deferred (some []))])::(M++HI)) (Y++many (blk l (.loop lp)::blk D (.deferred (some []))::M)::HI):=λlp M=>by
    refine Perm.trans (.open_ _ _) ?_
    have:(Y++[blk l (.loop lp),blk D (.deferred (some []))])++(M++HI)=Y++((blk l (.loop lp)::blk D (.deferred (some []))::M)++HI):=by simp
    rw[this]
    exact Yig Y (.close _ _)
   have hpf:∀(lp:Loop) (M:List HP),Perm (many (Y++[blk l (.loop lp),blk D (.deferred (some []))])::M) (blk l (.loop lp)::(Y++blk D (.deferred (some []))::M)):=λlp M=>by
    refine Perm.trans (.open_ _ _) ?_
    have:(Y++[blk l (.loop lp),blk D (.deferred (some []))])++M=Y++blk l (.loop lp)::(blk D (.deferred (some []))::M):=by simp
    rw[this]
    exact YpV _ _ _
   have hpb:∀(lp:Loop) (M:List HP),Perm (blk l (.loop lp)::(Y++blk D (.deferred (some []))::M)) (many (Y++[blk l (.loop lp),blk D (.deferred (some []))])::M):=λlp M=>by
    refine Perm.trans (Ynu _ _ _) ?_
    have:Y++blk l (.loop lp)::(blk D (.deferred (some []))::M)=(Y++[blk l (.loop lp),blk D (.deferred (some []))])++M:=by simp
    rw[this]
    exact .close _ _
   have hW1:=hW.perm (hp1 _ _)
   have hW2:=hW1.perm (hpf _ _)
   have hlp:=(hW2.blk TB).1
   have hal:=hlen args (Tc hx)
   have hy:=run_yield (P:=P) (args:=args.toArray) hlp (by rw[hrec];simp[hal])
   rw[hrec]at hy
   refine⟨fn,_,assign,body,hy,roundIn_of_wpIn trivial ?_⟩
   have hfit:=YhA ps args a.tmps env ha.size (λs v h=>ha.slot s v h) hps hal.symm
   have hz:(ps.toArray.zip args.toArray).foldl (λt (x:Nat×Value)=>t.setIfInBounds x.1 x.2) a.tmps=(ps.zip args).foldl (λt (x:Nat×Value)=>t.setIfInBounds x.1 x.2) a.tmps:=by
    rw[<-Array.foldl_toList];simp
   have hva:=(hround l i args (many (Y++[blk l (.loop (rec .ready none)),blk D (.deferred (some []))])) x hx hI).run
    {tmps:=(ps.toArray.zip args.toArray).foldl (λt (x:Nat×Value)=>t.setIfInBounds x.1 x.2) a.tmps,defers:=[]} W ⟨rfl,by rw[hz];exact hfit.1,λs v h=>by rw[hz];exact hfit.2 s v h⟩ hW1
   refine wpIn_mono (hva zc42 hca) ?_
   intro e a1 w1 hq
   cases e with
   |normal=>
    obtain⟨K,hK,hbody⟩:=hq
    have hK2:=hK.perm (hpf _ _)
    have hlp2:=(hK2.blk TB).1
    refine⟨_,run_beginRound hlp2 (by rw[hrec]),?_⟩
    have hK3:=(hK2.putObj (o':=.loop {rec .ready none with state:=.busy}) (.here _)).perm (hpb _ _)
    have hvb:=hbody _ _ hK3
    refine wpIn_mono (hvb zc42 hcb) ?_
    intro e a3 w3 hq3
    have fin:∀(jp:Option Code) (M:List HP),St B w0 (many (Y++[blk l (.loop {rec .ready none with state:=.busy}),blk D (.deferred (some []))])::(M++HI)) w3->
     ∃w4,(Instr.endRound l jp).run P w3=.ok (.bool jp.isNone) w4/\St B w0 (Y++many (blk l (.loop (rec (if jp.isNone then .ready else .done) jp))::blk D (.deferred (some []))::M)::HI) w4:=λjp M h3=>by
     have h4:=h3.perm (hpf _ _)
     have h5:=(h4.blk TB).1
     have h6:=run_endRound (P:=P) jp h5
     refine⟨_,h6,?_⟩
     have h7:=((h4.putObj (o':=.loop (rec (if jp.isNone then .ready else .done) jp)) (.here _)).perm (hpb _ _)).perm (hp2 _ _)
     rw[hrec]at h7⊢
     exact h7
    cases e with
    |normal=>
     obtain⟨y,hIy,h3⟩:=hq3
     obtain⟨w4,h5,h6⟩:=fin none _ h3
     exact⟨_,w4,h5,.inl ⟨rfl,_,⟨_,⟨y,hIy,rfl⟩,rfl⟩,h6⟩⟩
    |ret=>
     obtain⟨K3,hX3,h3⟩:=hq3
     obtain⟨w4,h5,h6⟩:=fin (some .ret) _ h3
     exact⟨_,w4,h5,.inr ⟨rfl,_,⟨_,⟨.ret,K3,.ret,hX3,rfl,rfl⟩,rfl⟩,h6⟩⟩
    |exit id=>
     obtain⟨K3,hX3,h3⟩:=hq3
     obtain⟨w4,h5,h6⟩:=fin (some (.exit id)) _ h3
     exact⟨_,w4,h5,.inr ⟨rfl,_,⟨_,⟨.exit id,K3,.exit id,hX3,rfl,rfl⟩,rfl⟩,h6⟩⟩
    |goto t=>exact hq3.elim
    |panic ch=>exact hq3.elim
    |outgrown=>exact hq3.elim
   |ret=>exact hq
   |exit id=>exact hq
   |goto t=>exact hq
   |panic ch=>exact hq
   |outgrown=>exact hq
  ·--behind the iterator
   rintro e W2 ⟨v,K,rfl,hst2,hK⟩
   have hpn:∀st pe,(rec st pe).pending=pe:=λst pe=>by rw[hrec]
   have hds:∀{M:List HP}{w':World},St B w0 M w'->Fits ⟨k,⟨.collected D,#[]⟩::ds,none⟩ {a with defers:=[⟨.collected D,#[]⟩]++a.defers} env:=λ_=>
    ⟨by rw[ha.defers];rfl,ha.size,ha.slot⟩
   rcases hK with⟨L,⟨x,hI,rfl⟩,rfl⟩|⟨L,⟨e,K,c,hX,hj,rfl⟩,rfl⟩
   ·have h1:=hst2.perm (.open_ _ _)
    have h2:=(h1.blk TB).1
    have h3:=run_endLoop (P:=P) h2 (by rw[hrec];simp)
    have h4:=(h1.putObj (o':=.loop {rec .ready none with state:=.exhausted}) (.here _)).tail
    refine⟨none,_,h3.trans (TG (λj=>Result.ok j _) (hpn _ _)),?_⟩
    exact(hdone D x hI).run _ _ (hds h4) h4
   ·have h1:=hst2.perm (.open_ _ _)
    have h2:=(h1.blk TB).1
    have h3:=run_endLoop (P:=P) h2 (by rw[hrec];simp)
    have h4:=(h1.putObj (o':=.loop {rec .done (some c)with state:=.exhausted}) (.here _)).tail
    refine⟨some c,_,h3.trans (TG (λj=>Result.ok j _) (hpn _ _)),?_⟩
    have h5:=(hstop D e K hX (by rw[hj];rfl)).run _ _ (hds h4) h4
    cases e with
    |ret=>obtain rfl:=Tv hj;exact wpIn_ret h5
    |exit id=>obtain rfl:=Tv hj;exact wpIn_exit h5
    |normal=>cases hj
    |goto t=>cases hj
    |panic ch=>cases hj
    |outgrown=>cases hj
variable {fn:Func}{w:World}
theorem XZ{f:FuncId}{args:List Value}{Φ:Value->List HP->Prop}(hf:P.funcs[f]? =some fn)(hn:fn.ntmps=n)(hb:fn.body=some c)
 (hle:Nat.ble args.length n=true) (hw:St B w0 H w) (h:VC P ⟨n,[],none⟩ B w0 c (bodyPostM Fence.wide 0 P fn (Post B w0 Φ)) (WF 0 args) H):Calls P f args.toArray w (Post B w0 Φ):=by
 refine(callsIn_wide (n:=0)).1 (callsIn_of_wp_marks hf hb trivial ((wpIn_wide (n:=0)).2 (h.run _ w ⟨rfl,?_,λt v ht=>?_⟩ hw)))
 ·simp_all
 exact YtY
theorem YhU{R:Ending->World->Prop}{a:Act}(h:bodyPost P fn R .ret a w):bodyPostM Fence.wide 0 P fn R .ret a w:=by
 obtain⟨h1,h2⟩:=h
 show LeavesInM Fence.wide 0 P fn a.tmps R a.defers .returning w
 rw[h1]
 exact h2
theorem VQ_m{R:Ending->World->Prop}(h:VQ ⟨n,[],none⟩ B w0 (bodyPost P fn R) .ret env H):VQ ⟨n,[],none⟩ B w0 (bodyPostM Fence.wide 0 P fn R) .ret env H:=
 ⟨λa w ha hw=>YhU (h.run a w ha hw)⟩
theorem Zr{D:Nat}{R:Ending->World->Prop}{H':List HP}(hr:Rem (blk D (.deferred (some []))) H H')(h:VQ ⟨n,ds,none⟩ B w0 (bodyPostM Fence.wide 0 P fn R) .ret env H'):
 VQ ⟨n,⟨.collected D,#[]⟩::ds,none⟩ B w0 (bodyPostM Fence.wide 0 P fn R) .ret env H:=by
 refine⟨λa w ha hw=>?_⟩
 show LeavesInM Fence.wide 0 P fn a.tmps R a.defers .returning w
 rw[ha.defers]
 have hw2:=hw.perm hr
 have hb:=(hw2.blk TB).1
 refine⟨by simp,.inl ⟨D,_,rfl,run_takeDeferred hb,?_⟩⟩
 have h3:=(hw2.putObj (o':=.deferred none) (.here _)).tail
 exact h.run {a with defers:=ds} _ ⟨rfl,ha.size,ha.slot⟩ h3
theorem WS{ops:Array Oper}(hlo:¬LetsOut Q):∀(os:List Oper) (a:Act) (w:World),wpList P ops Q os a w->wpListIn Fence.wide 0 P ops Q os a w
 |[],_,_,h=>h
 |o::os,a,w,h=>by
  unfold wpList at h
  unfold wpListIn
  split
  ·rename_i hw
   rw[Tn hw]at h
   rcases h with h|⟨_,h⟩
   ·refine⟨λf _=>trivial,?_⟩
    have h2:=Oper.wp_mono (λa w h=>WS hlo os a w h) h
    unfold Oper.wp at h2
    have hs:Oper.semAt Fence.wide.round a.eval o=execOp a.eval o:=Oper.semAt_none _ _
    rw[hs]
    generalize(execOp a.eval o).run P w=res at h2⊢
    cases res with
    |ok x w'=>
     exact zc31
    |halt x w'=>exact zc69
   simp_all
  ·rename_i hw
   rw[Tf hw]at h
   exact⟨λf _=>trivial,WS hlo os _ w h⟩
def YQ(P:Program)(ops:Array Oper)(Q:Exit->Act->World->Prop)(l:List Oper):Exit->Act->World->Prop
 |.normal,a,w=>wpListIn Fence.wide 0 P ops Q l a w
 |e,a,w=>Q e a w
theorem YcX{ops:Array Oper}{l:List Oper}(hlo:¬LetsOut Q):∀(os:List Oper) (a:Act) (w:World),wpList P ops (YQ P ops Q l) os a w->wpListIn Fence.wide 0 P ops Q (os++l) a w
 |[],_,_,h=>h
 |o::os,a,w,h=>by
  unfold wpList at h
  rw[TA]
  unfold wpListIn
  split
  ·rename_i hw
   rw[Tn hw]at h
   rcases h with h|⟨_,h⟩
   ·refine⟨λf _=>trivial,?_⟩
    have h2:=Oper.wp_mono (λa w h=>YcX hlo os a w h) h
    unfold Oper.wp at h2
    have hs:Oper.semAt Fence.wide.round a.eval o=execOp a.eval o:=Oper.semAt_none _ _
    rw[hs]
    generalize(execOp a.eval o).run P w=res at h2⊢
    cases res with
    |ok x w'=>
     exact zc31
    |halt x w'=>exact zc69
   ·exact(hlo h).elim
  ·rename_i hw
   rw[Tf hw]at h
   exact⟨λf _=>trivial,YcX hlo os _ w h⟩
theorem YbS{id:Nat}{l:List Oper}(k:Nat){l1 l2:List Oper}(h1:l.take k=l1)(h2:l.drop k=l2)(hlo:¬LetsOut Q)(h:VL P none ⟨n,ds,none⟩ B w0 l.toArray (YQ P l.toArray Q l2) l1 env H):
 VC P ⟨n,ds,none⟩ B w0 (.region id l.toArray false) Q env H:=by
 refine⟨λa w ha hw=>?_⟩
 refine(wpIn_wide (n:=0)).1 (wpIn_region_lit ?_)
 have:=YcX hlo _ _ _ (h.run a ha w hw)
 grind [RN]
variable {ops:Array Oper}{ty:TypeId}{pos:String}{after:Array Edge}{rest:List Oper}
theorem Yb3{d:Nat}{x:Operand}{args:List Operand}{tys:Array TypeId}{gd:Option (Nat×Bool)}{vs:List Value}(Φt Φf:List HP->Prop)
 (hgd:∀a:Act,Fits ⟨n,ds,none⟩ a env->Region.wanted ⟨some d,.call ⟨.value x,args.toArray,tys⟩,ty,pos,after,gd⟩ (yielded ops a.tmps)=true)
 (hx:evo env x=some (.func (.yield l) #[] #[])) (hargs:Args env args vs) (hn:Nat.ble (d+1) n=true) (hlo:¬LetsOut Q) (hy:Yb4 P l vs B w0 H Φt Φf)
 (ht:∀K,Φt K->VL P none ⟨n,ds,none⟩ B w0 ops Q rest ((d,.bool true)::env) K)
 (hf:∀K,Φf K->VL P none ⟨n,ds,none⟩ B w0 ops Q rest ((d,.bool false)::env) K):
 VQ ⟨n,ds,none⟩ B w0 (YQ P ops Q (⟨some d,.call ⟨.value x,args.toArray,tys⟩,ty,pos,after,gd⟩::rest)) .normal env H:=by
 refine⟨λa w ha hw=>?_⟩
 show wpListIn Fence.wide 0 P ops Q _ a w
 unfold wpListIn
 rw[Tn (hgd a ha)]
 refine⟨λf _=>trivial,?_⟩
 obtain⟨fn,tmps,assign,body,hrun,hround⟩:=hy w hw
 have hmap:args.toArray.map a.eval=vs.toArray:=by grind [Ua]
 have hs:Oper.semAt Fence.wide.round a.eval ⟨some d,.call ⟨.value x,args.toArray,tys⟩,ty,pos,after,gd⟩=execOp a.eval ⟨some d,.call ⟨.value x,args.toArray,tys⟩,ty,pos,after,gd⟩:=Oper.semAt_none _ _
 rw[hs]
 have hex:(execOp a.eval ⟨some d,.call ⟨.value x,args.toArray,tys⟩,ty,pos,after,gd⟩).run P w=.ok (.round l fn tmps assign body) w:=zc32
 rw[hex,Oper.uponIn_round]
 refine⟨λhd=>by simp[Fence.wide]at hd,RoundIn.mono hround ?_⟩
 rintro e w' (⟨rfl,K',hΦ,hst⟩|⟨rfl,K',hΦ,hst⟩)
 ·exact WS hlo _ _ _ ((ht K' hΦ).run _ (ha.put (TR hn) _) _ hst)
 ·exact WS hlo _ _ _ ((hf K' hΦ).run _ (ha.put (TR hn) _) _ hst)
theorem Yg4{o:Oper}(hlo:¬LetsOut Q)(h:VL P none ⟨n,ds,none⟩ B w0 ops Q (o::rest) env H):VQ ⟨n,ds,none⟩ B w0 (YQ P ops Q (o::rest)) .normal env H:=
 ⟨λa w ha hw=>WS hlo _ _ _ (h.run a ha w hw)⟩
variable {dst:Option Tmp}{op:Op}
theorem Ybl:∀a:Act,Fits ⟨n,ds,none⟩ a env->Region.wanted ⟨dst,op,ty,pos,after,none⟩ (yielded ops a.tmps)=true:=by grind [Go.Region.wanted]
theorem Ybm{j s:Nat}{b:Bool}{oj:Oper}(hj:ops[j]? =some oj)(hs:oj.dst=some s)(hv:get env s=some (.bool b)):
 ∀a:Act,Fits ⟨n,ds,none⟩ a env->Region.wanted ⟨dst,op,ty,pos,after,some (j,b)⟩ (yielded ops a.tmps)=true:=λa ha=>by simp[Region.wanted,yielded,hj,hs,ha.slot s _ hv]
theorem YbQ(hf:P.funcs[gf]? =some fn)(hn:fn.ntmps=n)(hb:fn.body=some c)(hle:Nat.ble (lb.length+1) n=true)
 (h:∀(l:Nat) (S:Nat->List HP->Prop) (X:List HP->Prop),
  (∀(i:Nat) (args:List Value),xs[i]? =some args->∀(Y L:List HP),S i L->
   Yb4 P l args B w0 (Y++many L::HI) (λK=>∃L',S (i+1) L'/\K=Y++many L'::HI) (λK=>∃L',X L'/\K=Y++many L'::HI))->
  ∀L0,S 0 L0->VC P ⟨n,[],none⟩ B w0 c (bodyPost P fn (Post B w0 λ_ K=>(∃L,S xs.length L/\K=many L::HI)\/∃L,X L/\K=many L::HI)) (WF 0 (.func (.yield l) #[] #[]::lb)) (many L0::HI)):YbP P gf lb xs B w0 HI:=by
 intro l S X hy L0 h0 w hw
 exact callsIn_wide.2 (Ya (args:=.func (.yield l) #[] #[]::lb) hf hn hb hle hw (h l S X hy L0 h0))
end
end Go.Eng
namespace Go.Proofs.YtjlgijpmnfabcaaGreatDoor
open Go.RowKit Go.Eng Go.Nw
variable {B:Nat}{w0 w:World}{H:List HP}
theorem Yiw(n:NetM)(t:Lk)(hin:n.In B w0 H)(hok:Ok n.net)(hw:St B w0 H w):
 CX B w0 249 [.slice n.lA n.links.length n.lcap,lkV t,.func (.func 248) #[] #[]] w λv K=>∃k:Nat,
  v=.tuple #[.int .i64 k,.bool (decide (k<n.links.length/\cmpL (lnk n.net k) t=0))]/\k<=n.links.length/\(∀j,j<k->cmpL (lnk n.net j) t<0)/\(∀j,k<=j->j<n.links.length->0<=cmpL (lnk n.net j) t)/\K=H:=by
 refine Ya Tryz.func249 Tryz.ntmps249 rfl rfl hw ?_
 obtain⟨hpw,hrw,hlk,hmg,hs1,hs2,hs3,hs4⟩:=hin
 have hl8:n.links.length<=128:=hok.k0
 (apply Xs;apply YX;apply YT;exact rfl;exact rfl;intro g)
 refine zX8 ?_
 refine YbR (λ(lo hi:Nat)=>[(9,.int .i64 lo),(10,.int .i64 hi),(8,.int .i64 n.links.length),(0,.slice n.lA n.links.length n.lcap),(2,.func (.func 248) #[] #[]),(4,.pointer (some ⟨g,0,none⟩))]) (λ_ _=>blk g (.cells #[.int .i64 t.1,.int .i64 t.2.1,.int .i64 t.2.2] 145 (0,0))::H)
  (λlo hi=>lo<=hi/\hi<=n.links.length/\(∀j,j<lo->cmpL (lnk n.net j) t<0)/\(∀j,hi<=j->j<n.links.length->0<=cmpL (lnk n.net j) t)) (λlo hi=>hi-lo) 0 n.links.length ⟨by omega,by omega,λj hj=>by omega,λj h1 h2=>by omega⟩ ?_ (λw hw=>hw) ?_
 ·exact zc1
 rintro lo hi ⟨h1,h2,h3,h4⟩ K hK
 by_cases hlt:lo<hi
 ·obtain⟨b,hb⟩:∃b,n.links[(((lo:Int)+hi)/2).toNat]? =some b:=⟨_,Ta (by omega)⟩
  have hm:(((lo:Int)+hi)/2).toNat=(lo+hi)/2:=by omega
  have eb:lnk n.net ((lo+hi)/2)=b:=by rw[<-hm];exact Vf hb
  repeat'(first|((first|apply YY (cs:=[])|apply Xh (cs:=[]));exact rfl;exact Yey;exact za;exact rfl;exactλ_ hw=>(Vb b t hw))|(apply zg28;refine zs84 ?_)|refine zgd ?_|(refine zge ?_ ?_<;>intro _<;>try exact zo)|fail)
  ·rename_i hc
   apply hK ((lo+hi)/2+1) hi
   ·refine⟨by omega,by omega,λj hj=>?_,h4⟩
    by_cases e:j=(lo+hi)/2
    ·rw[e,eb];exact hc
    ·have h5:=Ydw hok j ((lo+hi)/2) (by omega) (by show _<n.links.length;omega)
     rw[eb]at h5
     rw[Ut]at*
     omega
   ·omega
   ·exact zc1
   exact zc20
  ·rename_i hc
   apply hK lo ((lo+hi)/2)
   ·refine⟨by omega,by omega,h3,λj hj hjl=>?_⟩
    by_cases e:j=(lo+hi)/2
    ·rw[e,eb];exact hc
    ·have h5:=Ydw hok ((lo+hi)/2) j (by omega) hjl
     rw[eb]at h5
     have h6:¬cmpL b t<0:=by omega
     have h7:¬cmpL (lnk n.net j) t<0:=by
      rw[Ut]at*
      omega
     omega
   ·omega
   ·exact zc1
   exact zc20
 ·obtain rfl:lo=hi:=by omega
  by_cases hl:lo<n.links.length
  ·obtain⟨b,hb⟩:∃b,n.links[lo]? =some b:=⟨_,Ta hl⟩
   have eb:lnk n.net lo=b:=Vf hb
   repeat'(first|((first|apply YY (cs:=[])|apply Xh (cs:=[]));exact rfl;exact Yey;exact za;exact rfl;exactλ_ hw=>(Vb b t hw))|(apply zg28;refine zs84 ?_)|refine zgd ?_|(refine zgf ?_ ?_<;>intro _<;>try exact zo)|fail)
   all_goals(apply Ym;apply YN;(iterate 3 exact rfl);refine⟨lo,?_,h2,h3,h4,rfl⟩;rw[eb])
   ·rw[Td ⟨hl,by assumption⟩]
   ·rw[Tj λhc=>absurd hc.2 (by assumption)]
  ·refine zX18 ?_<;>intros
   apply Ym;apply YN;(iterate 3 exact rfl)
   refine⟨lo,?_,h2,h3,h4,rfl⟩
   rw[Tj λhc=>hl hc.1]
theorem Yan(n:NetM)(a b:Int)(hin:n.In B w0 H)(hok:Ok n.net)(hw:St B w0 H w):
 CX B w0 148 [n.val,.int .i64 a,.int .i64 b] w λv K=>v=.int .i64 (Yy n.net a b)/\K=H:=by
 refine Ya Tryz.func148 Tryz.ntmps148 rfl rfl hw ?_
 (apply Xs;apply YX;apply YT;exact rfl;exact rfl;intro g)
 refine zX2 ?_
 apply Yf _ Yvh
 exact za
 exact rfl
 exactλ_ hw=>(Yiw n (a,b,0) hin.cons hok (hw))
 rintro _ _ ⟨k,rfl,hk,h1,h2,rfl⟩
 have hf:=Yhw hok hk h1 h2
 rw[hf]
 by_cases hc:k<n.links.length/\cmpL (lnk n.net k) (a,b,0)=0
 ·rw[Td hc]
  refine zX2 ?_
  ((repeat apply Ym);apply Ye;exact rfl;exact rfl;refine⟨TG _ ?_,rfl⟩)
  exact(Tn hc).symm
 ·rw[Tj hc]
  refine zX2 ?_
  ((repeat apply Ym);apply Ye;exact rfl;exact rfl;refine⟨TG _ ?_,rfl⟩)
  exact(Tf hc).symm
def XS(n:Net)(a b:Int):Int:=if Yo n≠0 then -1 else Yy n a b
theorem X8(n:NetM)(a b:Int)(hin:n.In B w0 H)(hw:St B w0 H w):
 CX B w0 69 [n.val,.int .i64 a,.int .i64 b] w λv K=>v=.int .i64 (XS n.net a b)/\K=H:=by
 refine Ya Tryz.func69 Tryz.ntmps69 rfl rfl hw ?_
 unfold XS
 repeat'(first|((first|apply Yb en68|apply Yc en68);exact za;exact rfl;exactλ_ hw=>(YV n hin.cons hw))|((first|apply Yb Yeu|apply Yc Yeu);exact za;exact rfl;exactλ_ hw=>(Yan n _ _ hin.cons (YK (by assumption)) hw))|refine zgb ?_|(refine zge ?_ ?_<;>intro _<;>try exact zo)|(refine zgh ?_;intro _)|fail)
 all_goals(((repeat apply Ym);apply Ye;exact rfl;exact rfl;refine⟨TG _ ?_,rfl⟩);(repeat(first|refine Zm (by omega) ?_|refine Zn (by omega) ?_));rfl)
theorem YcJ(n:NetM)(s d:Int)(hok:Ok n.net)(hs:0<=s/\s<=8796093022208)(hd:0<=d/\d<=8796093022208)(hw:St B w0 H w):
 CX B w0 363 [n.val,.int .i64 s,.int .i64 d] w λv K=>v=.bool (ZA n.net s d)/\K=H:=by
 refine Ya Tryz.func363 Tryz.ntmps363 rfl rfl hw ?_
 have hb: -9223372036854775808<=n.thr*(n.noise+d)/\n.thr*(n.noise+d)<=9223372036854775807:=Yrn hok hd.1 hd.2
 have hz0:0<=n.noise:=hok.z0
 have hz1:n.noise<=68719476736:=hok.z1
 unfold ZA
 show VC Tryz.prog _ B w0 _ (bodyPost Tryz.prog _ (Post B w0 λv K=>v=.bool (decide (n.thr*(n.noise+d)<=s*1000))/\K=H)) _ _
 repeat'(first|refine zgd ?_|(refine zgf ?_ ?_<;>intro _<;>try exact zo)|(refine zgh ?_;intro _)|fail)
 ·exact zc98
 ·exact zc98
def X7(n:Net)(s d:Int):Bool:=decide (Yo n=0)&&(decide (0<=s/\0<=d/\s<=8796093022208/\d<=8796093022208)&&ZA n s d)
theorem O0(n:NetM)(s d:Int)(hin:n.In B w0 H)(hw:St B w0 H w):
 CX B w0 282 [n.val,.int .i64 s,.int .i64 d] w λv K=>v=.bool (X7 n.net s d)/\K=H:=by
 refine Ya Tryz.func282 Tryz.ntmps282 rfl rfl hw ?_
 unfold X7
 by_cases h0:Yo n.net=0
 rotate_left
 ·rw[Tj h0]
  repeat'(first|((first|apply Yb en68|apply Yc en68);exact za;exact rfl;exactλ_ hw=>(YV n hin.cons hw))|refine zgc ?_|(refine zge ?_ ?_<;>intro _<;>try exact zo)|(refine zgh ?_;intro _)|fail)
  exact zc98
 rw[Td h0]
 by_cases h1:0<=s/\0<=d/\s<=8796093022208/\d<=8796093022208
 rotate_left
 ·rw[Tj h1]
  repeat'(first|((first|apply Yb en68|apply Yc en68);exact za;exact rfl;exactλ_ hw=>(YV n hin.cons hw))|refine zgc ?_|(refine zgf ?_ ?_<;>intro _<;>try exact zo)|(refine zgh ?_;intro _)|fail)
  all_goals((repeat apply Ym);apply Ye;exact rfl;exact rfl;exact⟨rfl,rfl⟩)
 rw[Td h1]
 repeat'(first|((first|apply Yb en68|apply Yc en68);exact za;exact rfl;exactλ_ hw=>(YV n hin.cons hw))|((first|apply Yb Ylg|apply Yc Ylg);exact za;exact rfl;exactλ_ hw=>(YcJ n _ _ (YK h0) (by omega) (by omega) hw))|refine zgc ?_|(refine zgf ?_ ?_<;>intro _<;>try exact zo)|(refine zgh ?_;intro _)|fail)
 all_goals((repeat apply Ym);apply Ye;exact rfl;exact rfl;exact⟨rfl,rfl⟩)
theorem YiJ(n:NetM)(i:Nat)(hin:n.In B w0 H)(hok:Ok n.net)(hi:i<n.links.length)(hw:St B w0 H w):
 CX B w0 362 [n.val,.int .i64 i] w λv K=>v=.bool (ZL n.net i)/\K=H:=by
 refine Ya Tryz.func362 Tryz.ntmps362 rfl rfl hw ?_
 obtain⟨hpw,hrw,hlk,hmg,hs1,hs2,hs3,hs4⟩:=id hin
 have hml:n.margin.length=n.links.length:=hok.k1
 obtain⟨l,hl⟩:∃l,n.links[i]? =some l:=⟨_,Ta hi⟩
 obtain⟨z,hz⟩:∃z,n.margin[i]? =some z:=⟨_,Ta (by omega)⟩
 have e1:lnk n.net i=l:=Vf hl
 have e2:mar n.net i=z:=Yf4 hz
 have hzb:=YjP hok hi
 unfold ZL
 rw[e2]at hzb
 rw[e1,e2]
 by_cases hb:0<=Yy n.net l.2.1 l.1
 ·have hlt:(Yy n.net l.2.1 l.1).toNat<n.links.length:=Zs hb
  obtain⟨y,hy⟩:∃y,n.margin[(Yy n.net l.2.1 l.1).toNat]? =some y:=⟨_,Ta (by omega)⟩
  have e3:mar n.net (Yy n.net l.2.1 l.1).toNat=y:=Yf4 hy
  have hyb:=YjP hok hlt
  rw[e3]at hyb
  rw[e3,Td hb]
  repeat'(first|((first|apply Yb Yeu|apply Yc Yeu);exact za;exact rfl;exactλ_ hw=>(Yan n _ _ hin.cons hok hw))|((first|apply ZU Ylg|apply ZT Ylg);exact za;exact rfl;exactλ_ hw=>(YcJ n _ _ hok (by omega) (by omega) hw);all_goals(intro hB;(try simp only[To,Rl]at hB);try exact zo))|(apply zg28;refine zs84 ?_)|refine zgd ?_|(refine zgf ?_ ?_<;>intro _<;>try exact zo)|(refine zgh ?_;intro _)|fail)
  all_goals((repeat apply Ym);apply Ye;exact rfl;exact rfl;refine⟨?_,rfl⟩;simp_all)
 ·rw[Tj hb]
  repeat'(first|((first|apply Yb Yeu|apply Yc Yeu);exact za;exact rfl;exactλ_ hw=>(Yan n _ _ hin.cons hok hw))|(apply zg28;refine zs84 ?_)|refine zgd ?_|(refine zgf ?_ ?_<;>intro _<;>try exact zo)|(refine zgh ?_;intro _)|fail)
  all_goals((repeat apply Ym);exact zc4)
def JG(n:Net)(i:Int):Bool:=decide (Yo n=0)&&(decide (0<=i/\i<n.links.length)&&ZL n i.toNat)
theorem VW(n:NetM)(i:Int)(hin:n.In B w0 H)(hw:St B w0 H w):
 CX B w0 280 [n.val,.int .i64 i] w λv K=>v=.bool (JG n.net i)/\K=H:=by
 refine Ya Tryz.func280 Tryz.ntmps280 rfl rfl hw ?_
 have hs3:=hin.s3
 have e7:n.net.links=n.links:=rfl
 unfold JG
 rw[e7]
 by_cases h0:Yo n.net=0
 rotate_left
 ·rw[Tj h0]
  repeat'(first|((first|apply Yb en68|apply Yc en68);exact za;exact rfl;exactλ_ hw=>(YV n hin.cons hw))|refine zgc ?_|(refine zgf ?_ ?_<;>intro _<;>try exact zo)|(refine zgh ?_;intro _)|fail)
  all_goals((repeat apply Ym);exact zc4)
 rw[Td h0]
 by_cases h1:0<=i/\i<n.links.length
 rotate_left
 ·rw[Tj h1]
  repeat'(first|((first|apply Yb en68|apply Yc en68);exact za;exact rfl;exactλ_ hw=>(YV n hin.cons hw))|refine zgc ?_|(refine zgf ?_ ?_<;>intro _<;>try exact zo)|(refine zgh ?_;intro _)|fail)
  all_goals((repeat apply Ym);apply Ye;exact rfl;exact rfl;exact⟨rfl,rfl⟩)
 rw[Td h1]
 obtain⟨k,rfl⟩:∃k:Nat,i=k:=⟨i.toNat,by omega⟩
 repeat'(first|((first|apply Yb en68|apply Yc en68);exact za;exact rfl;exactλ_ hw=>(YV n hin.cons hw))|((first|apply Yb YsJ|apply Yc YsJ);exact za;exact rfl;exactλ_ hw=>(YiJ n _ hin.cons (YK h0) (by omega) hw))|refine zgc ?_|(refine zgf ?_ ?_<;>intro _<;>try exact zo)|(refine zgh ?_;intro _)|fail)
 all_goals((repeat apply Ym);exact zc4)
def YZ(n:Net)(a b:Int):Bool:=decide (0<=Yy n a b)&&(decide (0<=Yy n b a)&&(ZA n (mar n (Yy n a b).toNat) 0&&ZA n (mar n (Yy n b a).toNat) 0))
variable {n:Net}{i:Nat}
theorem YmT(h:Ok n)(hi:i<n.links.length):Yy n (lnk n i).1 (lnk n i).2.1=i:=by
 have h1:∀j,j<i->cmpL (lnk n j) ((lnk n i).1,(lnk n i).2.1,(lnk n i).2.2)<0:=λj hj=>Ydw h j i hj hi
 have h2:∀j,i<=j->j<n.links.length->0<=cmpL (lnk n j) ((lnk n i).1,(lnk n i).2.1,(lnk n i).2.2):=λj hj hl=>by
  by_cases e:i=j
  ·subst e
   have:cmpL (lnk n i) ((lnk n i).1,(lnk n i).2.1,(lnk n i).2.2)=0:=Uu.2 ⟨rfl,rfl⟩
   omega
  ·have h3:=Ydw h i j (by omega) hl
   have h4:¬cmpL (lnk n j) ((lnk n i).1,(lnk n i).2.1,(lnk n i).2.2)<0:=by
    grind [Ut]
   omega
 rw[Yhw h (Nat.le_of_lt hi) h1 h2,Tn ⟨hi,Uu.2 ⟨rfl,rfl⟩⟩]
theorem Ybk(h:Ok n)(hi:i<n.links.length):ZL n i=YZ n (lnk n i).1 (lnk n i).2.1:=by
 grind [ZL,YZ,YmT]
def YB(c:Cel):Int:=c.2.2.1
def toC(c:Cel):Int:=c.2.2.2.1
def Xo(c:Cel):Int:=c.2.2.2.2
def YC(a b:Cel):Bool:=decide (YB a=YB b\/YB a=toC b\/toC a=YB b\/toC a=toC b)
theorem JE(a b:Cel):YC a b=YC b a:=by
 unfold YC
 grind
def VZ(n:Net)(l:List Flw)(s:Sch)(i:Nat):Int:=
 if Zv s (Yn s i)=false then 2
 else if YZ n (YB (Yn s i)) (toC (Yn s i))=false\/Z3 l (Xo (Yn s i))<0 then 7
 else if 0<i/\Y4 (Yn s (i-1)) (Yn s i)=false then 5 else 0
def ZR(s:Sch)(i:Nat):Bool:=(List.range i).any λk=>decide ((Yn s k).1=(Yn s i).1)&&YC (Yn s i) (Yn s k)
def Ze(c d:Cel):Bool:=decide (d.1=c.1/\d.2.1=c.2.1)
def YG(s:Sch)(i:Nat):List Cel:=s.cells.filter (Ze (Yn s i))
def YJ(s:Sch)(i:Nat):Nat:=((s.cells.take i).filter (Ze (Yn s i))).length
def celL(l:List Cel)(i:Nat):Cel:=l.getD i (0,0,0,0,0)
def powN(n:Net)(a b:Int):Int:=if insE a n.nodes=true/\insE b n.nodes=true then powr n a b else 0
def Yz(n:Net)(l:List Cel)(j:Nat)(node:Int):Nat->Int
 |0=>0
 |k+1=>Yz n l j node k+if k=j then 0 else powN n (YB (celL l k)) node+powN n (toC (celL l k)) node
def Uj(n:Net)(c:Cel):Bool:=!(insE (YB c) n.nodes)||!(insE (toC c) n.nodes)
def Uy(n:Net)(l:List Cel)(i node:Int):Int:=
 if Yo n≠0\/i<0\/l.length<=i\/insE node n.nodes=false\/l.any (Uj n)=true then 0 else Yz n l i.toNat node l.length
def ZF(n:Net)(s:Sch)(i:Nat):Bool:=
 !(X7 n (mar n (Yy n (YB (Yn s i)) (toC (Yn s i))).toNat) (Uy n (YG s i) (YJ s i) (toC (Yn s i))))||!(X7 n (mar n (Yy n (toC (Yn s i)) (YB (Yn s i))).toNat) (Uy n (YG s i) (YJ s i) (YB (Yn s i))))
def Zg(n:Net)(l:List Flw)(s:Sch):Int:=
 if Yo n≠0 then 1 else if(YE n.nodes l).2≠0 then 1 else if ZP s=false then 2
 else if(l.any λf=>decide (s.len.tmod f.2.2.2.1≠0))=true then 11 else if 512<s.cells.length then 8 else 0
def Jz(n:Net)(l:List Flw)(s:Sch):Int×Int:=YH (VZ n l s) s.cells.length 0
def VR(s:Sch):Int×Int:=YH (λi=>if ZR s i=true then 6 else 0) s.cells.length 0
def Yes(n:Net)(s:Sch):Int×Int:=YH (λi=>if ZF n s i=true then 16 else 0) s.cells.length 0
def schE(n:Net)(l:List Flw)(s:Sch):Int×Int:=
 if Zg n l s≠0 then(-1,Zg n l s)else if(Jz n l s).2≠0 then Jz n l s else if(VR s).2≠0 then VR s else Yes n s
def Ygj(n:Net)(l:List Cel)(i:Nat):Bool:=
 !(YZ n (YB (celL l i)) (toC (celL l i)))||((List.range l.length).any λk=>decide (k≠i)&&YC (celL l i) (celL l k))
   ||(!(ZA n (mar n (Yy n (YB (celL l i)) (toC (celL l i))).toNat) (Yz n l i (toC (celL l i)) l.length))||!(ZA n (mar n (Yy n (toC (celL l i)) (YB (celL l i))).toNat) (Yz n l i (YB (celL l i)) l.length)))
variable {n:Net}
theorem Xk(h:Ok n){u v:Int}(hg:YZ n u v=true):(0<=u/\u<n.nodes)/\(0<=v/\v<n.nodes)/\u≠v/\0<=Yy n u v/\0<=Yy n v u:=by
 unfold YZ at hg
 simp only[Tm,To]at hg
 obtain⟨h1,h2,_⟩:=hg
 obtain⟨k1,k2⟩:=QC h1
 have:=h.lk _ (Zs h1)
 have a1:=this.f0;have a2:=this.f1;have a3:=this.t0;have a4:=this.t1;have a5:=this.ne
 omega
theorem YiK(h:Yo n=0)(a b:Int):JG n (XS n a b)=YZ n a b:=by
 have hok:=YK h
 unfold JG XS
 by_cases h0:0<=Yy n a b
 ·have hl:=Zs h0
  simp_all [Ybk,QC]
 simp_all [decide_eq_false,YZ]
variable {s:Sch}{i:Nat}
theorem Ydr(h:i<s.cells.length):(YG s i)[YJ s i]? =some (Yn s i):=by
 have h1:=YU h
 have hsp:s.cells=s.cells.take i++Yn s i::s.cells.drop (i+1):=by
  grind [List.getElem_cons_drop,RN]
 unfold YG YJ
 have hp:Ze (Yn s i) (Yn s i)=true:=by grind [Ze]
 grind
structure Fine(n:Net)(s:Sch):Prop where
 good:∀c∈s.cells,YZ n (YB c) (toC c)=true
 once:s.cells.Pairwise λa b=>a.1=b.1->YC a b=false
theorem Yrk{l:List Flw}(h1:(Jz n l s).2=0)(h2:(VR s).2=0):Fine n s:=by
 have k1:=YD.1 h1
 have k2:=YD.1 h2
 constructor
 ·exact zc62
 ·refine Rb.2 λi j hi hj hij hs=>?_
  have:=k2 j (Ti _) (by omega)
  have e1:Yn s i=s.cells[i]:=XO (Ta hi)
  have e2:Yn s j=s.cells[j]:=XO (Ta hj)
  cases ht:YC s.cells[i] s.cells[j]with
  |false=>rfl
  |true=>
   have hb:ZR s j=true:=by
    unfold ZR
    rw[Ri]
    refine⟨i,T8.2 hij,?_⟩
    rw[e1,e2,Td hs,RV,JE]
    exact ht
   simp only[hb,Nb]at this
   omega
theorem Yuy(h:Ok n){a b:Int}(ha:0<=a/\a<n.nodes)(hb:0<=b/\b<n.nodes):0<=powr n a b/\powr n a b<=68719476736:=by
 have hp:=h.p0
 obtain⟨r,hr⟩:∃r,n.power[a.toNat]? =some r:=⟨_,Ta (by omega)⟩
 have hrm:=Tc hr
 have hl:=h.p1 r hrm
 obtain⟨p,hpe⟩:∃p,r[b.toNat]? =some p:=⟨_,Ta (by omega)⟩
 have:=h.p2 r hrm p (Tc hpe)
 grind [powr]
theorem We(h:Ok n)(a b:Int):0<=powN n a b/\powN n a b<=68719476736:=by
 unfold powN
 split
 all_goals simp_all [insE,Yuy]
theorem YfR{n:Net}(h:Ok n)(l:List Cel)(j:Nat)(node:Int):∀k:Nat,0<=Yz n l j node k/\Yz n l j node k<=(k:Int)*137438953472
 |0=>by simp[Yz]
 |k+1=>by
  have h1:=YfR h l j node k
  have h2:=We h (YB (celL l k)) node
  have h3:=We h (toC (celL l k)) node
  grind [Yz]
theorem YnF(h:Ok n)(hf:Fine n s)(i:Nat):(YG s i).length<=16:=by
 have hsub:(YG s i).Sublist s.cells:=SZ
 have hpw:(YG s i).Pairwise λa b=>YC a b=false:=zc38
 have hnd:((YG s i).flatMap λc=>[YB c,toC c]).Nodup:=by
  refine List.pairwise_flatMap.2 ⟨λc hc=>?_,hpw.imp λ{a b} hab x hx y hy=>?_⟩
  ·have:=Xk h (hf.good c (hsub.subset hc))
   simp_all
  ·unfold YC at hab
   grind
 have hlen:=Go.Nw.nodup_len n.nodes.toNat _ hnd (λx hx=>by
  obtain⟨c,hc,hx⟩:=RP.1 hx
  have:=Xk h (hf.good c (hsub.subset hc))
  grind)
 have h2:((YG s i).flatMap λc=>[YB c,toC c]).length=(YG s i).length*2:=by
  induction YG s i with
  |nil=>rfl
  |cons c l ih=>grind
 have:=h.n1
 omega
theorem YoU(hck:Yo n=0)(hf:Fine n s)(hi:i<s.cells.length):ZF n s i=Ygj n (YG s i) (YJ s i):=by
 have hok:=YK hck
 have hat:=Ydr hi
 have hlt:=(Tu.1 hat).1
 have hc:celL (YG s i) (YJ s i)=Yn s i:=by grind [celL]
 have hsub:(YG s i).Sublist s.cells:=SZ
 have hg:=hf.good _ (ZY hi)
 have hgn:=Xk hok hg
 have hle:=YnF hok hf i
 have hpw:(YG s i).Pairwise λa b=>YC a b=false:=zc38
 have hto:((List.range (YG s i).length).any λk=>decide (k≠YJ s i)&&YC (celL (YG s i) (YJ s i)) (celL (YG s i) k))=false:=by
  rw[RJ]
  intro k hk
  have hk:=T8.1 hk
  by_cases e:k=YJ s i
  ·rw[Tj (λh=>h e)];simp
  ·have hpk:=Rb.1 hpw
   have e1:celL (YG s i) k=(YG s i)[k]:=by unfold celL;rw[Tz,Ta hk];rfl
   have e2:celL (YG s i) (YJ s i)=(YG s i)[YJ s i]:=YtA
   rw[Td e,RV,e1,e2]
   rcases Nat.lt_or_gt_of_ne e with h|h
   ·rw[JE,hpk k _ hk hlt h];simp
   ·rw[hpk _ k hlt hk h];simp
 have hno:(YG s i).any (Uj n)=false:=by
  rw[RJ]
  intro c hcm
  have:=Xk hok (hf.good c (hsub.subset hcm))
  unfold Uj insE
  rw[Td this.1,Td this.2.1]
  simp
 have hde:∀node,0<=node->node<n.nodes->Uy n (YG s i) (YJ s i) node=Yz n (YG s i) (YJ s i) node (YG s i).length:=λnode h0 h1=>by
  unfold Uy
  rw[Tf]
  ·rfl
  ·rintro(h|h|h|h|h)
   ·exact h hck
   ·omega
   ·omega
   ·unfold insE at h
    have:=of_decide_eq_false h
    omega
   ·rw[hno]at h;cases h
 have hhe:∀(a b node:Int),0<=Yy n a b->X7 n (mar n (Yy n a b).toNat) (Yz n (YG s i) (YJ s i) node (YG s i).length)=ZA n (mar n (Yy n a b).toNat) (Yz n (YG s i) (YJ s i) node (YG s i).length):=λa b node h0=>by
  have h1:=YjP hok (Zs h0)
  have h2:=YfR hok (YG s i) (YJ s i) node (YG s i).length
  unfold X7
  rw[Td hck,Td (by omega)]
  rfl
 grind [ZF,Ygj]
def ltB(c:Cel)(x:Cel):Bool:=Y4 x c
def posE(l:List Cel)(c:Cel):Nat:=(l.takeWhile (ltB c)).length
structure Pos(l:List Cel)(c:Cel)(k:Nat):Prop where
 le:k<=l.length
 lo:∀i x,i<k->l[i]? =some x->Y4 x c=true
 hi:∀i x,k<=i->l[i]? =some x->Y4 x c=false
abbrev Ord(l:List Cel):Prop:=l.Pairwise λa b=>Y4 a b=true
variable {l:List Cel}{x c:Cel}
theorem Ygb(h:Ord l){i j:Nat}{y:Cel}(hx:l[i]? =some x)(hy:l[j]? =some y)(hij:i<j):Y4 x y=true:=by
 grind [Rb]
theorem Q7{α:Type}{p:α->Bool}:∀{l:List α}{i:Nat}{x:α},i<(l.takeWhile p).length->l[i]? =some x->p x=true
 |[],_,_,h,_=>by simp at h
 |a::l,i,x,h,hx=>by
  cases hp:p a with
  |false=>simp_all
  |true=>
   cases i with
   |zero=>simp_all
   |succ i=>exact Q7 (l:=l) (i:=i) (by simp_all) (by simp_all)
theorem Q5{α:Type}{p:α->Bool}:∀{l:List α}{x:α},l[(l.takeWhile p).length]? =some x->p x=false
 |[],_,h=>by simp at h
 |a::l,x,h=>by
  cases hp:p a with
  |false=>simp_all
  |true=>
   exact Q5 (l:=l) (by simp_all)
theorem Q6{α:Type}{p:α->Bool}:∀l:List α,(l.takeWhile p).length<=l.length
 |[]=>TI _
 |a::l=>by
  rw[List.takeWhile_cons]
  split
  ·have:=Q6 (p:=p) l;simp_all
  ·simp
theorem Ygg(h:Ord l)(c:Cel):Pos l c (posE l c):=by
 refine⟨Q6 l,λi x hi hx=>show ltB c x=true from Q7 hi hx,λi x hi hx=>?_⟩
 unfold posE at hi
 obtain⟨y,hy⟩:∃y,l[(l.takeWhile (ltB c)).length]? =some y:=⟨_,Ta (Nat.lt_of_le_of_lt hi (Tu.1 hx).1)⟩
 have h1:Y4 y c=false:=by grind [ltB,Q5]
 rcases Nat.eq_or_lt_of_le hi with e|hlt
 ·simp_all
 ·have h2:=Ygb h hy hx hlt
  grind [ZZ]
variable {k:Nat}
theorem Pos.eq{m:Nat}(h1:Pos l c k)(h2:Pos l c m):k=m:=by
 rcases ND k m with h|h|h
 ·obtain⟨x,hx⟩:∃x,l[k]? =some x:=⟨_,Ta (by have:=h2.le;omega)⟩
  have:=h1.hi k x (TI _) hx
  rw[h2.lo k x h hx]at this;simp_all
 ·exact h
 ·obtain⟨x,hx⟩:∃x,l[m]? =some x:=⟨_,Ta (by have:=h1.le;omega)⟩
  have:=h2.hi m x (TI _) hx
  rw[h1.lo m x h hx]at this;simp_all
theorem Pos.posE(h:Ord l)(hk:Pos l c k):k=posE l c:=hk.eq (Ygg h c)
theorem YrP(h:Ord l)(hk:Pos l c k):l[k]? =some c↔c∈l:=by
 constructor
 ·grind
 ·intro hm
  obtain⟨i,hi⟩:=TP.1 hm
  rcases ND i k with h1|h1|h1
  ·have:=hk.lo i c h1 hi
   grind [Jy]
  ·simp_all
  ·obtain⟨x,hx⟩:∃x,l[k]? =some x:=⟨_,Ta (by grind)⟩
   have h2:=hk.hi k x (TI _) hx
   grind [Ygb]
def insC(l:List Cel)(c:Cel):List Cel:=l.take (posE l c)++c::l.drop (posE l c)
def XI:Sch:=⟨0,0,[]⟩
def atE(s:Sch)(slot:Int):List Cel:=if Y1 s=false\/slot<0 then []else s.cells.filter λc=>decide (c.1=slot.tmod s.len)
def movC(d:Int)(c:Cel):Cel:=(c.1+d,c.2)
def repC(s:Sch)(k:Nat):List Cel:=(List.range k).flatMap λi:Nat=>s.cells.map (movC ((i:Int)*s.len))
theorem YhO(l:List Cel)(c:Cel):(insC l c).Perm (c::l):=by
 refine List.perm_middle.trans ?_
 rw[RN]
theorem On:x∈insC l c↔x=c\/x∈l:=by
 grind [YhO]
theorem Yrv(h:Ord l)(hc:c∉l):Ord (insC l c):=by
 have hp:=Ygg h c
 have hsp:Ord (l.take (posE l c)++l.drop (posE l c)):=by simp_all
 obtain⟨h1,h2,h3⟩:=List.pairwise_append.1 hsp
 have hlo:∀x∈l.take (posE l c),Y4 x c=true:=λx hx=>by
  obtain⟨i,hi⟩:=TP.1 hx
  have hil:=(Tu.1 hi).1
  rw[TT]at hil
  rw[SX (by omega)]at hi
  exact hp.lo i x (by omega) hi
 have hhi:∀x∈l.drop (posE l c),Y4 c x=true:=λx hx=>by
  obtain⟨i,hi⟩:=TP.1 hx
  rw[RL]at hi
  have h4:=hp.hi _ x (Nat.le_add_right _ _) hi
  grind [Qu]
 refine List.pairwise_append.2 ⟨h1,.cons hhi h2,λx hx y hy=>?_⟩
 grind
theorem Ye2(h:Ord l):l.Nodup:=h.imp λ{a b} hab e=>by grind [Jy]
end Go.Proofs.YtjlgijpmnfabcaaGreatDoor
namespace Go.Eng
open Go.RowKit
section
variable {P:Program}{m:Mode}{n:Shp}{B:Nat}{w0:World}{ops:Array Oper}{Q:Exit->Act->World->Prop}{rest:List Oper}{env:Env}{H:List HP}{d:Nat}{ty:TypeId}{pos:String}{after:Array Edge}
theorem J7(T:Tab P){t g o k e size:Nat}{x:Operand}(hx:evo env x=some (.pointer (some ⟨g,o,none⟩)))(ht:look T.ar t=some (k,e,size))(hn:Nat.ble (d+1) n.k=true)
 (h:VL P m n B w0 ops Q rest ((d,.slice (some ⟨g,o,none⟩) k k)::env) H):
 VL P m n B w0 ops Q (⟨some d,.slice t x none none none,ty,pos,after,none⟩::rest) env H:=by
 obtain⟨inf,hu,hinf,hs⟩:=ZX (T.arra ht)
 refine Yt rfl rfl hn rfl (λa w ha hw=>?_) h
 simp[execOp,ha.eval hx,Instr.sliceAt,Instr.sliceBounds,Instr.sureAddr,run_underlying hu,sizeOf,typeInfo,hinf,Addr.add_lit]
theorem Yg8:∀(L:List HP),App L [] L
 |[]=>rfl
 |_::L=>⟨rfl,Yg8 L⟩
theorem Xc{id:Nat}{l:List Oper}(o1 last:List Nat)(hm:P.follows .mixedOrders=true)
 (hB:(Region.noSelect l.toArray&&decide ((o1++last).length=l.toArray.size)&&YeR l.toArray last&&(o1.all λj=>!last.contains j)&&Wc l.toArray (o1++last) (Array.replicate l.toArray.size false))=true)
 {l1 l2:List Oper}(hl1:Yd l o1=l1) (hl2:Yd l last=l2) (h:VL P (some (some [])) n B w0 l.toArray (ZS P l.toArray (Only Q) l2) l1 env H):VC P n B w0 (.region id l.toArray true) Q env H:=by
 simp only[Tm,To]at hB
 obtain⟨⟨⟨⟨h1,h2⟩,h3⟩,h4⟩,h5⟩:=hB
 refine⟨λa w ha hw=>Zp (Q:=Only Q) ?_ λe a w h=>by exact zc60⟩
 have hst:St B w0 (H++[]) w.drew:=by rw[Rr];exact hw.drew
 have hr:Ys P l.toArray (ZS P l.toArray (Only Q) l2) (St B w0 H) l1 a w.drew:=h.run a ha w.drew hst
 rw[<-hl1,<-hl2]at hr
 have:=Vz (S:=St B w0 H) h1 (λc a w h=>h) zc42 l rfl h3 o1 _ a w.drew (XG _ _) (λj hj=>by simp_all) h5 hst.prefix_ hr
 exact YlY
end
end Go.Eng
namespace Go.Proofs.YtjlgijpmnfabcaaGreatDoor
open Go.RowKit Go.Eng Go.Nw
def cmpV(a b:List Int):Int:=if XK a b=true then -1 else if XK b a=true then 1 else 0
theorem YdU(a b:List Int)(hla:a.length<=1000000000000)(hlb:b.length<=1000000000000){A1 A2:Option Addr}{c1 c2 B:Nat}{w0:World}{H:List HP}{w:World}(hr1:Rd B w0 H A1 (a.flatMap numF))(hr2:Rd B w0 H A2 (b.flatMap numF))(hw:St B w0 H w):
 CX B w0 286 [.slice A1 a.length c1,.slice A2 b.length c2] w λv K=>v=.int .i64 (cmpV a b)/\K=H:=by
 refine Ya Tryz.func286 Tryz.ntmps286 rfl rfl hw ?_
 refine zX8 ?_
 refine Yg (λ(i:Nat)=>[(11,.int .i64 i),(10,.int .i64 a.length),(9,.slice A1 a.length c1),(0,.slice A1 a.length c1),(1,.slice A2 b.length c2)]) (λ_=>H) (λi=>i<=a.length/\i<=b.length/\XK a b=XK (a.drop i) (b.drop i)/\XK b a=XK (b.drop i) (a.drop i)) (λi=>a.length-i) 0 ⟨Ti _,Ti _,rfl,rfl⟩ ?_ (λw hw=>hw) ?_
 ·exact zc1
 rintro i ⟨hi,hib,e1,e2⟩ K hK
 by_cases hlt:i<a.length
 ·obtain⟨x,hx⟩:∃x,a[i]? =some x:=⟨_,Ta hlt⟩
  by_cases hltb:i<b.length
  ·obtain⟨y,hy⟩:∃y,b[i]? =some y:=⟨_,Ta hltb⟩
   have d1:=YhW hx hy
   have d2:=YhW hy hx
   have hcm:=λ{w:World}(hw:St B w0 H w)=>WK x y hw
   by_cases hxy:x=y
   ·rw[Tf (λh=>h hxy)]at d1
    rw[Tf (λh=>h hxy.symm)]at d2
    rw[show cmpI x y=0 by unfold cmpI;rw[Tf (by omega),Tf (by omega)]]at hcm
    refine zX23 ?_<;>intros
    apply hK (i+1)
    ·exact⟨by omega,by omega,e1.trans d1,e2.trans d2⟩
    ·omega
    ·exact zc1
    exact zc20
   ·rw[Tn hxy]at d1
    rw[Tn (Nz hxy)]at d2
    clear hK
    rcases Int.lt_or_gt_of_ne hxy with h|h
    ·rw[show cmpI x y= -1 by unfold cmpI;rw[Tn h]]at hcm
     have hv:cmpV a b= -1:=by unfold cmpV;rw[e1,d1,Tn (Td h)]
     rw[hv]
     refine zX23 ?_<;>intros
     exact zc4
    ·rw[show cmpI x y=1 by unfold cmpI;rw[Tf (by omega),Tn h]]at hcm
     have hv:cmpV a b=1:=by unfold cmpV;rw[e1,d1,Tj (by omega),Tf (by decide),e2,d2,Tn (Td h)]
     rw[hv]
     refine zX23 ?_<;>intros
     exact zc4
  ·obtain rfl:i=b.length:=by omega
   clear hK
   have hv:cmpV a b=1:=by
    unfold cmpV
    rw[e1,e2,R9,Rh hlt]
    rfl
   rw[hv]
   refine zX24 ?_<;>intros
   exact zc4
 ·obtain rfl:i=a.length:=by omega
  clear hK
  rw[R9]at e1 e2
  by_cases hl:a.length<b.length
  ·have hv:cmpV a b= -1:=by
    unfold cmpV
    rw[e1,Rh hl]
    rfl
   rw[hv]
   refine zX1 ?_<;>intros
   exact zc4
  ·have hv:cmpV a b=0:=by
    unfold cmpV
    rw[e1,e2,Rf (by omega)]
    rfl
   rw[hv]
   refine zX1 ?_<;>intros
   exact zc4
end Go.Proofs.YtjlgijpmnfabcaaGreatDoor
namespace Go.Eng
open Go.RowKit
section
variable {P:Program}{B:Nat}{w0 w:World}{H:List HP}
variable {f:Nat}{xs:Array Value}
theorem WI{Φ:Value->Prop}(hw:St B w0 H w)(h:Calls P f xs w (Post w.heap.size w λu _=>Φ u)):Calls P f xs w (Post B w0 λu K=>Φ u/\K=H):=
 h.mono λ_ _ ⟨u,_,e1,hst,hΦ⟩=>⟨u,H,e1,hw.grow hst.below,hΦ,rfl⟩
theorem Yje{u:Value}(hw:St B w0 H w)(h:Calls P f xs w λe w'=>e=.returned u/\Below w.heap.size w w'):Calls P f xs w (Post B w0 λv K=>v=u/\K=H):=
 h.mono λ_ _ ⟨e1,hb⟩=>⟨u,H,e1,hw.grow hb,rfl,rfl⟩
variable {A:Option Addr}
theorem Rd.here{xs:List Value}(hr:Rd B w0 H A xs)(hw:St B w0 H w):Rd w.heap.size w [] A xs:=Rd.old λj v hv=>by
 obtain⟨g,o,e1,hc⟩:=hr w hw j v hv
 refine⟨g,o,e1,?_,hc⟩
 rcases SU g w.heap.size with h|h
 ·exact h
 ·simp[World.cell?,Array.getElem?_eq_none h]at hc
theorem Perm.openT(H:List HP):Perm [many H] H:=by
 have:=Perm.open_ H []
 simp_all
theorem Perm.closeT(H:List HP):Perm H [many H]:=by
 have:=Perm.close H []
 simp_all
theorem Rd.tail{xs:List Value}(h:Rd B w0 H A xs):Rd B w0 [many H] A xs:=h.mono λ_ hw=>hw.perm (.openT _)
end
end Go.Eng
namespace Go.Proofs.YtjlgijpmnfabcaaGreatDoor
open Go.RowKit Go.Eng Go.Nw
def celF(c:Cel):List Value:=[.int .i64 c.1,.int .i64 c.2.1,.int .i64 c.2.2.1,.int .i64 c.2.2.2.1,.int .i64 c.2.2.2.2]
def celV(c:Cel):Value:=.agg #[.int .i64 c.1,.int .i64 c.2.1,.int .i64 c.2.2.1,.int .i64 c.2.2.2.1,.int .i64 c.2.2.2.2]
structure SchM where
 len:Int
 off:Int
 A:Option Addr
 cap:Nat
 cells:List Cel
def SchM.sch(s:SchM):Sch:=⟨s.len,s.off,s.cells⟩
def SchM.val(s:SchM):Value:=.agg #[.int .i64 s.len,.int .i64 s.off,.slice s.A s.cells.length s.cap]
theorem Yaj(a b:Cel):cmpV (nums a) (nums b)<0↔Y4 a b=true:=by
 unfold cmpV Y4
 grind
theorem YoL(a b:Cel):cmpV (nums a) (nums b)=0↔a=b:=by
 unfold cmpV
 constructor
 ·intro h
  split at h
  ·cases h
  ·split at h
   ·cases h
   ·exact Qu (by grind [Y4]) (by grind [Y4])
 simp_all [YcU]
variable {B:Nat}{w0 w:World}{H:List HP}
theorem QS(c:Cel)(hw:St B w0 H w):
 CX B w0 45 [celV c] w λv K=>v=celV c/\K=H:=by
 refine Ya Tryz.func45 Tryz.ntmps45 rfl rfl hw ?_
 refine zX25 ?_<;>intros
 (apply Vu T (H2:=H);exact rfl;exact rfl;(focus exact zc2);exact rfl;exact rfl;(intro w hw;refine hw.perm ?_;focus exact zc3);exact Ybp)
theorem Yj1(a b:Cel)(hw:St B w0 H w):
 CX B w0 200 [celV a,celV b,.func (.func 45) #[] #[]] w λv K=>v=.int .i64 (cmpV (nums a) (nums b))/\K=H:=by
 refine Ya Tryz.func200 Tryz.ntmps200 rfl rfl hw ?_
 apply Xs
 iterate 5 (first|refine zga ?_|(refine zgh ?_;intro _)|fail)
 apply YfG
 apply Xs
 refine ZH (λ(z:Nat×Nat)=>[(7,.pointer (some ⟨z.1,0,none⟩)),(8,.pointer (some ⟨z.2,0,none⟩))]) (λz=>blk z.1 (.cells (celF a).toArray 113 (0,0))::blk z.2 (.cells (celF b).toArray 113 (0,0))::H) ?_ ?_
 ·intro K hK
  apply Qj (.n1 0 (.n1 1 (.n1 3 (.n1 4 (.n3 2 (.n3 5 (.n2 6 (.n1 7 .done) 7 (.n1 6 .done)) 6 (.n2 5 (.n1 7 .done) 7 (.n1 5 .done)) 7 (.n2 5 (.n1 6 .done) 6 (.n1 5 .done))) 6 (.n2 2 (.n2 5 (.n1 7 .done) 7 (.n1 5 .done)) 7 (.n1 2 (.n1 5 .done))) 7 (.n2 2 (.n2 5 (.n1 6 .done) 6 (.n1 5 .done)) 6 (.n1 2 (.n1 5 .done)))))))) [8,9] [true,true]
  kernel_rfl
  kernel_rfl
  exact zy
  (simp only[Yd,nthO];rfl)
  repeat'(first|((first|apply YY (cs:=[])|apply Xh (cs:=[]));exact rfl;exact en45;exact za;exact rfl;exactλ_ hw=>(QS _ hw))|(apply Yr9;(simp only[nthO];rfl);(simp only[nthO];rfl);(simp only[nthO];rfl))|(apply YkL;(simp only[nthO];rfl);(simp only[nthO];rfl))|(apply YkK;(simp only[nthO];rfl))|(apply Qp;try exact zl)|(apply Yj;try exact zl)|refine zgd ?_|(refine zgh ?_;intro _)|fail)
  all_goals(
   rename_i ga gb
   first
    |(refine hK (ga,gb) _ _ zu ?_;dsimp only[celF];exact zk;done)
    |(refine hK (gb,ga) _ _ zu ?_;dsimp only[celF];exact zk;done))
 rintro⟨g1,g2⟩
 dsimp only
 have hA:Rd B w0 (blk g1 (.cells (celF a).toArray 113 (0,0))::blk g2 (.cells (celF b).toArray 113 (0,0))::H) (some ⟨g1,0,none⟩) ((nums a).flatMap numF):=Rd.blk (cs:=(celF a).toArray) (.head _)
 have hB:Rd B w0 (blk g1 (.cells (celF a).toArray 113 (0,0))::blk g2 (.cells (celF b).toArray 113 (0,0))::H) (some ⟨g2,0,none⟩) ((nums b).flatMap numF):=Rd.blk (cs:=(celF b).toArray) (.tail _ (.head _))
 repeat'(first|(apply J7 T (e:=3);(iterate 3 exact rfl))|((first|apply Yb Ysz|apply Yc Ysz);exact za;exact rfl;exactλ_ hw=>(YdU (nums a) (nums b) (by simp[nums]) (by simp[nums]) hA hB hw))|(apply zg28;refine zs84 ?_)|refine zgd ?_|fail)
 apply Yh H
 ·exact zc0
 exact zc27
theorem OG(a b:Cel)(hw:St B w0 H w):
 CX B w0 108 [celV a,celV b] w λv K=>v=.int .i64 (cmpV (nums a) (nums b))/\K=H:=by
 refine Ya Tryz.func108 Tryz.ntmps108 rfl rfl hw ?_
 repeat'(first|((first|apply Yb Yst|apply Yc Yst);exact za;exact rfl;exactλ_ hw=>(Yj1 a b hw))|refine zgb ?_|(refine zgh ?_;intro _)|fail)
 apply Yh H
 ·exact zk
 apply Ye;exact rfl;exact rfl
 exact⟨rfl,rfl⟩
theorem Ya2(x n:Int)(hw:St B w0 H w):
 CX B w0 199 [.int .i64 x,.int .i64 n] w λv K=>v=.bool (insE x n)/\K=H:=by
 refine Ya Tryz.func199 Tryz.ntmps199 rfl rfl hw ?_
 repeat'(first|refine zgc ?_|(refine zgf ?_ ?_<;>intro _<;>try exact zo)|fail)
 all_goals(
  apply Ye;exact rfl;exact rfl
  first
   |exact⟨by rw[show insE x n=true from Td (by omega)],rfl⟩
   |exact⟨by rw[show insE x n=false from Tj (by omega)],rfl⟩)
theorem Ybd(s:SchM)(c:Cel)(hw:St B w0 H w):
 CX B w0 198 [s.val,celV c] w λv K=>v=.bool (Zv s.sch c)/\K=H:=by
 refine Ya Tryz.func198 Tryz.ntmps198 rfl rfl hw ?_
 repeat'(first|((first|apply ZU Yk9|apply ZT Yk9);exact za;exact rfl;exactλ_ hw=>(Ya2 _ _ hw);all_goals(intro hB;(try simp only[To,Rl]at hB);try exact zo))|refine zgc ?_|(refine zgh ?_;intro _)|fail)
 all_goals(
  apply Yh H
  ·exact zk
  apply Ye;exact rfl;exact rfl
  exact⟨by simp[Zv,SchM.sch, *],rfl⟩)
theorem YaY(s:SchM)(c:Cel)(hw:St B w0 H w):
 CX B w0 107 [s.val,celV c] w λv K=>v=.bool (Zu s.sch c)/\K=H:=by
 refine Ya Tryz.func107 Tryz.ntmps107 rfl rfl hw ?_
 repeat'(first|((first|apply ZU OI|apply ZT OI);exact za;exact rfl;exactλ_ hw=>(Ybd s c hw);all_goals(intro hB;(try simp only[To,Rl]at hB);try exact zo))|((first|apply ZU Yk9|apply ZT Yk9);exact za;exact rfl;exactλ_ hw=>(Ya2 _ _ hw);all_goals(intro hB;(try simp only[To,Rl]at hB);try exact zo))|refine zgc ?_|(refine zgh ?_;intro _)|fail)
 all_goals(
  apply Yh H
  ·exact zk
  apply Ye;exact rfl;exact rfl
  exact⟨by simp[Zu, *],rfl⟩)
theorem Ydt(s:SchM)(hw:St B w0 H w):
 CX B w0 106 [s.val] w λv K=>v=.bool (ZP s.sch)/\K=H:=by
 refine Ya Tryz.func106 Tryz.ntmps106 rfl rfl hw ?_
 have e1:s.sch.len=s.len:=rfl
 have e2:s.sch.off=s.off:=rfl
 repeat'(first|refine zgc ?_|(refine zgf ?_ ?_<;>intro _<;>try exact zo)|(refine zgh ?_;intro _)|fail)
 all_goals(
  apply Yh H
  ·exact zk
  apply Ye;exact rfl;exact rfl
  first
   |exact⟨by rw[show ZP s.sch=true from Td (by omega)],rfl⟩
   |exact⟨by rw[show ZP s.sch=false from Tj (by omega)],rfl⟩)
end Go.Proofs.YtjlgijpmnfabcaaGreatDoor
namespace Go.Eng
open Go.RowKit
theorem YdQ{P:Program}(w:World)(t u ty e:TypeId)(i:TypeInfo)(ht:P.underlying t=some (.slice e))(hu:P.underlying u=some .string)(hi:P.info? e=some i)(hz:i.zero=some (.int .u8 0))
 (hsize:i.size=1) (hby:i.bytes=1) (v:Value) (n:Nat) (xs:List Value) (hown:w.ownsRow 0 e 1 v n xs) (s:ByteArray) (hb:n+s.size<=1000000000):
 ∃v' w',(Builtin.append_ #[t,u] ty #[v,.string s]).run P w=.ok v' w'/\w'.ownsRow 0 e 1 v' (n+s.size) (xs++Lib.strCells s)/\w.grownBy w' v.ownBlock/\∀b,v'.ownBlock=some b->v.ownBlock=some b\/w.heap.size<=b:=by
 have hm:n+s.size<=maxLen:=by grind [maxLen]
 obtain⟨v',w',h1,h2,h3,_⟩:=Lib.run_append_own_string (P:=P) w 0 t u ty e i ht hu hi hz hsize hby v n xs hown s hm (by omega) (Ti _)
 refine⟨v',w',h1,h2,h3,λb hbb=>?_⟩
 rcases hown.2 with⟨rfl,rfl⟩|⟨g,cap,cur,rfl,hbg,hg,hnc,hcm,hcs,htake⟩
 ·right
  obtain⟨v2,w2,k1,k2,_⟩:=Lib.run_append_own_string (P:=P) w w.heap.size t u ty e i ht hu hi hz hsize hby (.slice none 0 0) 0 xs ⟨hown.1,.inl ⟨rfl,rfl⟩⟩ s hm (by omega) (TI _)
  rw[h1]at k1
  obtain⟨rfl,rfl⟩:v'=v2/\w'=w2:=by simp_all
  rcases k2.2 with⟨e1,_⟩|⟨g',_,_,e1,e2,_⟩
  all_goals grind [Go.Value.ownBlock]
 ·have hcs':cur.size=cap:=by omega
  have hxl:xs.length=n:=by grind
  by_cases hroom:n+s.size<=cap
  ·have k1:=Lib.run_append_room_string (P:=P) w t u ty e i ht hu hi hsize g n cap cur hg s hroom (by omega)
   rw[h1]at k1
   obtain⟨rfl,_⟩:=(Result.ok.injEq _ _ _ _).mp k1
   exact .inl hbb
  ·have holds:∀j u,xs[j]? =some u->w.cell? ((⟨g,0,none⟩:Addr).add j)=some u:=hown.cells (g:=g) rfl
   have k1:=Lib.run_append_grow_string (P:=P) w t u ty e i (.int .u8 0) ht hu hi hz ⟨g,0,none⟩ n cap xs (by simp_all) holds s (by omega) (by omega) (by rw[hby];exact growslice_fits (by omega) (by omega))
   exact Yl0
section
variable {P:Program}{m:Mode}{n:Shp}{B d:Nat}{w0:World}{ops:Array Oper}{Q:Exit->Act->World->Prop}{rest:List Oper}{env:Env}{H:List HP}{ty:TypeId}{pos:String}{after:Array Edge}{x y:Operand}
def Ycb(P:Program)(e:TypeId):Bool:=match P.info? e with|some i=>(match i.zero with|some (.int .u8 0)=>true|_=>false)&&i.size==1&&i.bytes==1|none=>false
theorem YdR{e:TypeId}(h:Ycb P e=true):∃i,P.info? e=some i/\i.zero=some (.int .u8 0)/\i.size=1/\i.bytes=1:=by
 unfold Ycb at h
 grind
theorem Qk(T:Tab P){t tt k cap e bytes:Nat}{A:Option Addr}{s:ByteArray}{xs:List Value}{K:Option Addr->Nat->List HP}(hx:evo env x=some (.slice A k cap))(hy:evo env y=some (.string s))(ht:look T.sl t=some (e,1,bytes))(hbi:Ycb P e=true)(htt:look T.st tt=some ())
 (hn:Nat.ble (d+1) n.k=true) (hu:∀A' cap',Upd (sl e 1 A k cap xs) (sl e 1 A' (k+s.size) cap' (xs++Lib.strCells s)) H (K A' cap')) (hb:k+s.size<=1000000000)
 (h:∀A' cap',VL P none n B w0 ops Q rest ((d,.slice A' (k+s.size) cap')::env) (K A' cap')):
 VL P none n B w0 ops Q (⟨some d,.call ⟨.builtin .append,#[x,y],#[t,tt]⟩,ty,pos,after,none⟩::rest) env H:=by
 obtain⟨hut,_⟩:=Yx (T.slic ht)
 obtain⟨i,hi,hz,hs1,hb1⟩:=YdR hbi
 have hst:P.underlying tt=some .string:=T.strs htt
 refine Xj (λv K'=>∃A' cap',v=.slice A' (k+s.size) cap'/\K'=K A' cap') rfl rfl hn (λa w ha hw=>?_) YqE
 have hmem:sl e 1 A k cap xs∈H:=YqJ
 have hown:=hw.sl hmem
 obtain⟨v',w',hrun,hown',hgrow,hat⟩:=YdQ (P:=P) w t tt ty e i hut hst hi hz hs1 hb1 (.slice A k cap) k xs hown s hb
 have hshape:∃A' cap',v'=.slice A' (k+s.size) cap':=YtD
 obtain⟨A',cap',rfl⟩:=hshape
 refine⟨_,K A' cap',w',by exact zc96,?_,A',cap',rfl,rfl⟩
 refine hw.updN (hu A' cap') hgrow.os hgrow.tape hgrow.output hgrow.size λS1 ⟨_,hS⟩=>⟨⟨λb=>Value.ownBlock (.slice A' (k+s.size) cap')=some b,⟨hown',?_⟩,λb hb=>?_⟩,λb hb hlt=>hgrow.block b hlt (λe=>hb ?_)⟩
 ·rintro a rfl;rfl
 ·rcases hat b hb with e|e
  ·cases A with
   |none=>cases e
   |some a=>exact Yl0
  ·right
   refine⟨e,?_⟩
   rcases hown'.2 with⟨e1,_⟩|⟨g',_,_,e1,_,e3,_⟩
   all_goals grind [Go.Value.ownBlock]
 ·cases A with
  |none=>cases e
  |some a=>exact Yl0
end
end Go.Eng
