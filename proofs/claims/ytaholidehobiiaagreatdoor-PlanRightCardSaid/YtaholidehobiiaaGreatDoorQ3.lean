/- Lemmas for the claim, part 3. -/
import Derived.Lib.AppendStr
import Derived.Laws.Externs
import Derived.Laws.CopyRow
import Derived.Lib.AppendZerosOnto
import Derived.Lib.Overlaps
import Derived.Lib.Split
import Derived.Lib.ItoaNum
import Derived.Lib.AtoiAll
import Derived.Lib.AtoiTie
import Derived.Lib.AppendIntMem
import Derived.WideLaws
import Derived.Lib.SmallJoins
import Derived.Lib.Builder
import Derived.Lib.AtoiAllCases
import Derived.Deep.Slices
import Derived.OpenShut
import Derived.ProofKit
import Derived.Below
import Derived.ChangeSame
import Derived.Carry
import Derived.Test.YtaholidehobiiaaGreatDoorQ2
set_option maxRecDepth 100000
set_option maxHeartbeats 8000000
namespace Go.Eng
open Go.RowKit
theorem Yd0{P:Program}(w:World)(t u ty e:TypeId)(i:TypeInfo)(ht:P.underlying t=some (.slice e))(hu:P.underlying u=some .string)(hi:P.info? e=some i)(hz:i.zero=some (.int .u8 0))
 (hsize:i.size=1) (hby:i.bytes=1) (v:Value) (n:Nat) (xs:List Value) (hown:w.ownsRow 0 e 1 v n xs) (s:ByteArray) (hb:n+s.size<=1000000000):
 ∃v' w',(Builtin.append_ #[t,u] ty #[v,.string s]).run P w=.ok v' w'/\w'.ownsRow 0 e 1 v' (n+s.size) (xs++Lib.strCells s)/\w.grownBy w' v.ownBlock/\∀b,v'.ownBlock=some b->v.ownBlock=some b\/w.heap.size<=b:=by
 have hm:n+s.size<=maxLen:=by simp only[maxLen];omega
 obtain⟨v',w',h1,h2,h3,_⟩:=Lib.run_append_own_string (P:=P) w 0 t u ty e i ht hu hi hz hsize hby v n xs hown s hm (by omega) (Tu _)
 refine⟨v',w',h1,h2,h3,λb hbb=>?_⟩
 rcases hown.2 with⟨rfl,rfl⟩|⟨g,cap,cur,rfl,hbg,hg,hnc,hcm,hcs,htake⟩
 ·right
  obtain⟨v2,w2,k1,k2,_⟩:=Lib.run_append_own_string (P:=P) w w.heap.size t u ty e i ht hu hi hz hsize hby (.slice none 0 0) 0 xs ⟨hown.1,.inl ⟨rfl,rfl⟩⟩ s hm (by omega) (TL _)
  rw[h1]at k1
  obtain⟨rfl,rfl⟩:v'=v2/\w'=w2:=by simpa using k1
  rcases k2.2 with⟨e1,_⟩|⟨g',_,_,e1,e2,_⟩
  ·rw[e1]at hbb;cases hbb
  ·rw[e1]at hbb
   simp only[Value.ownBlock,Ru]at hbb
   omega
 ·have hcs':cur.size=cap:=by simpa using hcs
  have hxl:xs.length=n:=by simpa using hown.1
  by_cases hroom:n+s.size<=cap
  ·have k1:=Lib.run_append_room_string (P:=P) w t u ty e i ht hu hi hsize g n cap cur hg s hroom (by omega)
   rw[h1]at k1
   obtain⟨rfl,_⟩:=(Result.ok.injEq _ _ _ _).mp k1
   exact .inl hbb
  ·have holds:∀j u,xs[j]? =some u->w.cell? ((⟨g,0,none⟩:Addr).add j)=some u:=hown.cells (g:=g) rfl
   have k1:=Lib.run_append_grow_string (P:=P) w t u ty e i (.int .u8 0) ht hu hi hz ⟨g,0,none⟩ n cap xs (by rw[hsize];simpa using hxl) holds s (by omega) (by omega) (by rw[hby];exact growslice_fits (by omega) (by omega))
   rw[h1]at k1
   obtain⟨rfl,_⟩:=(Result.ok.injEq _ _ _ _).mp k1
   right
   simp only[Value.ownBlock,Ru]at hbb
   omega
section
variable {P:Program}{m:Mode}{n:Shp}{B d:Nat}{w0:World}{ops:Array Oper}{Q:Exit->Act->World->Prop}{rest:List Oper}{env:Env}{H:List HP}{ty:TypeId}{pos:String}{after:Array Edge}{x y:Operand}
def Yct(P:Program)(e:TypeId):Bool:=match P.info? e with|some i=>(match i.zero with|some (.int .u8 0)=>true|_=>false)&&i.size==1&&i.bytes==1|none=>false
theorem Yd1{e:TypeId}(h:Yct P e=true):∃i,P.info? e=some i/\i.zero=some (.int .u8 0)/\i.size=1/\i.bytes=1:=by
 unfold Yct at h
 split at h
 ·rename_i i hi
  simp only[To,Nc]at h
  refine⟨i,hi,?_,h.1.2,h.2⟩
  have h1:=h.1.1
  split at h1
  ·assumption
  ·cases h1
 ·cases h
theorem YfC(T:Tab P){t tt k cap e bytes:Nat}{A:Option Addr}{s:ByteArray}{xs:List Value}{K:Option Addr->Nat->List HP}(hx:evo env x=some (.slice A k cap))(hy:evo env y=some (.string s))(ht:look T.sl t=some (e,1,bytes))(hbi:Yct P e=true)(htt:look T.st tt=some ())
 (hn:Nat.ble (d+1) n.k=true) (hu:∀A' cap',Upd (sl e 1 A k cap xs) (sl e 1 A' (k+s.size) cap' (xs++Lib.strCells s)) H (K A' cap')) (hb:k+s.size<=1000000000)
 (h:∀A' cap',VL P none n B w0 ops Q rest ((d,.slice A' (k+s.size) cap')::env) (K A' cap')):
 VL P none n B w0 ops Q (⟨some d,.call ⟨.builtin .append,#[x,y],#[t,tt]⟩,ty,pos,after,none⟩::rest) env H:=by
 obtain⟨hut,_⟩:=YG (T.slic ht)
 obtain⟨i,hi,hz,hs1,hb1⟩:=Yd1 hbi
 have hst:P.underlying tt=some .string:=T.strs htt
 refine XH (λv K'=>∃A' cap',v=.slice A' (k+s.size) cap'/\K'=K A' cap') rfl rfl hn (λa w ha hw=>?_) (by rintro _ _ ⟨A',cap',rfl,rfl⟩;exact h A' cap')
 have hmem:sl e 1 A k cap xs∈H:=by
  obtain⟨L1,L2,rfl,_⟩:=hu none 0
  simp
 have hown:=hw.sl hmem
 obtain⟨v',w',hrun,hown',hgrow,hat⟩:=Yd0 (P:=P) w t tt ty e i hut hst hi hz hs1 hb1 (.slice A k cap) k xs hown s hb
 have hshape:∃A' cap',v'=.slice A' (k+s.size) cap':=by
  rcases hown'.2 with⟨e1,e2⟩|⟨g',c',_,e1,_⟩
  ·exact⟨none,0,by rw[e1,e2]⟩
  ·exact⟨_,_,e1⟩
 obtain⟨A',cap',rfl⟩:=hshape
 refine⟨_,K A' cap',w',by simp[execOp,resolve,invoke,builtin,ha.eval hx,ha.eval hy,hrun],?_,A',cap',rfl,rfl⟩
 refine hw.updN (hu A' cap') hgrow.os hgrow.tape hgrow.output hgrow.size λS1 ⟨_,hS⟩=>⟨⟨λb=>Value.ownBlock (.slice A' (k+s.size) cap')=some b,⟨hown',?_⟩,λb hb=>?_⟩,λb hb hlt=>hgrow.block b hlt (λe=>hb ?_)⟩
 ·rintro a rfl;rfl
 ·rcases hat b hb with e|e
  ·cases A with
   |none=>cases e
   |some a=>left;simp only[Value.ownBlock,Ru]at e;rw[<-e];exact hS a rfl
  ·right
   refine⟨e,?_⟩
   rcases hown'.2 with⟨e1,_⟩|⟨g',_,_,e1,_,e3,_⟩
   ·rw[e1]at hb;cases hb
   ·rw[e1]at hb
    simp only[Value.ownBlock,Ru]at hb
    subst hb
    exact(R9.1 e3).1
 ·cases A with
  |none=>cases e
  |some a=>simp only[Value.ownBlock,Ru]at e;rw[e];exact hS a rfl
end
section
variable {P:Program}{m:Mode}{n:Shp}{B d:Nat}{w0:World}{ops:Array Oper}{Q:Exit->Act->World->Prop}{rest:List Oper}{env:Env}{H:List HP}{ty:TypeId}{pos:String}{after:Array Edge}{x y hi:Operand}
theorem Yee(w:World)(dT sT ty elem:TypeId)(g o dLen dCap size:Nat)(a:Addr)(sLen sCap:Nat)(cur:Array Value)(t:TypeId)(cs:List Value)
 (hu:P.underlying dT=some (.slice elem)) (hs:(P.info? elem).map (·.size)=some size)
 (hg:w.heap[g]? =some (.cells cur t (0,0))) (hn:cs.length=Nat.min sLen dLen*size)
 (hsrc:∀j v,cs[j]? =some v->w.cell? (a.add j)=some v) (hfit:o+cs.length<=cur.size) (h1:∀v∈cs,v.oneCell'=true):
 (Builtin.copy_ #[dT,sT] ty #[.slice (some ⟨g,o,none⟩) dLen dCap,.slice (some a) sLen sCap]).run P w=
  .ok (goInt (Nat.min sLen dLen)) (w.setRow g (cur.toList.take o++cs++cur.toList.drop (o+cs.length)).toArray):=by
 have hl:=run_firstCells_some (P:=P) w size (Nat.min sLen dLen) a sLen sCap cs hn hsrc
 have hst:=run_storeCells_at P g o t cs 0 cur w hg (by simpa using hfit) h1
 cases hq:P.info? elem with
 |none=>simp[hq]at hs
 |some i=>
  have hi:i.size=size:=by simpa [hq]using hs
  simp[Builtin.copy_,run_underlying hu,Builtin.lenOf,sizeOf,typeInfo,hq,hi,hl,hst]
variable {α:Type}
theorem Yrt(l cs:List α)(o k k':Nat)(hk:k<=l.length)(ho:o<=k)(hfit:o+cs.length<=l.length)(hk':k'=max k (o+cs.length)):
 (l.take o++cs++l.drop (o+cs.length)).take k'=(l.take k).take o++cs++(l.take k).drop (o+cs.length):=by
 have hA:(l.take o++cs).length=o+cs.length:=by rw[Tj,TD];omega
 by_cases h:o+cs.length<=k
 ·rw[hk',Nat.max_eq_left h]
  exact YiO l cs o k h hk
 ·rw[hk',Nat.max_eq_right (by omega),Nx,hA,Nb,Nl,TM,TQ (by omega),Nk,SG (by omega),TZ (by rw[TD];omega),TM]
variable {t e size bytes o k cap kd cd mm c2:Nat}{A A2:Option Addr}{xs:List Value}{K:List HP}
theorem Yog(T:Tab P){k':Nat}{ys:List Value}(hx:evo env x=some (.slice (subA A o cap size) kd cd))(hy:evo env y=some (.slice A2 mm c2))(hr:Rd B w0 H A2 ys)
 (hu:Upd (sl e size A k cap xs) (sl e size A k' cap (xs.take (o*size)++ys.take (min mm kd*size)++xs.drop (o*size+min mm kd*size))) H K) (ht:look T.sl t=some (e,size,bytes)) (hn:Nat.ble (d+1) n.k=true) (h1:∀v∈ys,v.oneCell'=true)
 (hA:∃g,A=some ⟨g,0,none⟩) (hb:o+kd<=cap/\0<min mm kd/\o<=k/\k'=max k (o+min mm kd)) (hyl:min mm kd*size<=ys.length)
 (h:VL P none n B w0 ops Q rest ((d,.int .i64 (min mm kd:Nat))::env) K):
 VL P none n B w0 ops Q (⟨some d,.call ⟨.builtin .copy,#[x,y],#[t,t]⟩,ty,pos,after,none⟩::rest) env H:=by
 obtain⟨hut,inf,z,hi,hz,hzs,hsi,hbi,hs0,hb0⟩:=YG (T.slic ht)
 refine XH (λv K'=>v=.int .i64 (min mm kd:Nat)/\K'=K) rfl rfl hn (λa w ha hw=>?_) (by rintro _ _ ⟨rfl,rfl⟩;exact h)
 have hmem:sl e size A k cap xs∈H:=by
  obtain⟨L1,L2,rfl,_⟩:=hu
  simp
 obtain⟨hb1,hb2,hb3,hb5⟩:=hb
 rcases Ja (hw.sl hmem)with⟨rfl,_⟩|⟨g,cur,rfl,g1,g2,g3,g4,g5,g6⟩
 ·obtain⟨_,hA⟩:=hA;cases hA
 have hsub:subA (some ⟨g,0,none⟩) o cap size=some ⟨g,o*size,none⟩:=by
  unfold subA
  rw[Td (by omega),RH,Addr.add_lit,Ry]
 obtain⟨c,hc⟩:∃c,min mm kd=c:=⟨_,rfl⟩
 rw[hc]at hu hb2 hb5 hyl
 have hcs:(ys.take (c*size)).length=c*size:=by rw[TD];omega
 have hpos:0<c*size:=Nat.mul_pos hb2 hs0
 have hsome:∃a2,A2=some a2/\∀j v,(ys.take (c*size))[j]? =some v->w.cell? (a2.add j)=some v:=by
  have h0:ys[0]? =some (ys[0]'(by omega)):=Ta (by omega)
  obtain⟨g2',o2,rfl,_⟩:=hr w hw 0 _ h0
  refine⟨_,rfl,λj v hj=>?_⟩
  rw[SE]at hj
  by_cases hjm:j<c*size
  ·rw[Tm hjm]at hj
   obtain⟨g3',o3,e3,hc⟩:=hr w hw j v hj
   injection e3 with e3
   injection e3 with e3 e4
   subst e3 e4
   rw[Addr.add_lit];exact hc
  ·rw[Td hjm]at hj;cases hj
 obtain⟨a2,rfl,hsrc⟩:=hsome
 have hoc:o+c<=cap:=by
  have:c<=kd:=by rw[<-hc];exact Nat.min_le_right _ _
  omega
 have hfit:o*size+c*size<=cur.size:=by rw[g4,<-RX];exact Rq _ hoc
 have hrun:=Yee (P:=P) w t t ty e g (o*size) kd cd size a2 mm c2 cur e (ys.take (c*size)) hut (by rw[hi];simp[hsi]) g1 (by rw[hcs];show c*size=min mm kd*size;rw[hc]) hsrc (by rw[hcs];exact hfit) (λv hv=>h1 v (SU hv))
 have hkl:k*size<=cur.toList.length:=by rw[S5,g4];exact Rq _ g2
 have hok:o*size<=k*size:=Rq _ hb3
 have hmax:k'*size=max (k*size) (o*size+c*size):=by
  rw[hb5,<-RX]
  rcases Nat.le_total k (o+c)with h|h
  ·rw[Nat.max_eq_right h,Nat.max_eq_right (Rq _ h)]
  ·rw[Nat.max_eq_left h,Nat.max_eq_left (Rq _ h)]
 refine⟨_,K,_,?_,hw.storeRow (k':=k') (o:=o*size) (vs:=ys.take (c*size)) hu rfl g1 g4 (by rw[hb5];exact Nat.max_le.2 ⟨g2,hoc⟩) g3 (by rw[hcs];exact hfit) ?_ ?_,rfl,rfl⟩
 ·simp only[execOp,resolve,invoke,builtin]
  have hmap:#[x,y].map a.eval=#[.slice (some ⟨g,o*size,none⟩) kd cd,.slice (some a2) mm c2]:=by simp[ha.eval hx,ha.eval hy,hsub]
  simp only[hmap,Sem.run_bind,Sem.run_pure,Result.andThen_ok]
  rw[hrun]
  simp[goInt]
 ·have:=Yrt cur.toList (ys.take (c*size)) (o*size) (k*size) (k'*size) hkl hok (by rw[hcs,S5];exact hfit) (by rw[hcs];exact hmax)
  rw[hcs]at this⊢
  rw[this,g5]
 ·rw[Tj,Tj,hcs,TD,Rf,g6,hmax]
  omega
theorem J8(T:Tab P){f:α->List Value}(L M R:List α)(hx:evo env x=some (.slice (subA A o cap size) kd cd))(hy:evo env y=some (.slice A2 mm c2))(hr:Rd B w0 H A2 (M.flatMap f))(hq:∀a,(f a).length=size)(h1:∀a,Ju (f a)=true)
 (ht:look T.sl t=some (e,size,bytes)) (hn:Nat.ble (d+1) n.k=true) (hA:∃g,A=some ⟨g,0,none⟩) (hb:o+kd<=cap/\0<min mm kd/\o<=L.length/\min mm kd<=M.length) (hR:L.take o++M.take (min mm kd)++L.drop (o+min mm kd)=R)
 (hu:Upd (sl e size A L.length cap (L.flatMap f)) (sl e size A R.length cap (R.flatMap f)) H K)
 (h:VL P none n B w0 ops Q rest ((d,.int .i64 (min mm kd:Nat))::env) K):
 VL P none n B w0 ops Q (⟨some d,.call ⟨.builtin .copy,#[x,y],#[t,t]⟩,ty,pos,after,none⟩::rest) env H:=by
 have hlen:∀l:List α,(l.flatMap f).length=l.length*size:=λl=>by
  induction l with
  |nil=>simp
  |cons a l ih=>rw[TR,Tj,ih,hq,TS,Nat.succ_mul,Nat.add_comm]
 have hRl:R.length=max L.length (o+min mm kd):=by
  rw[<-hR]
  simp only[Tj,TD,Rf]
  omega
 have hRf:R.flatMap f=(L.flatMap f).take (o*size)++(M.flatMap f).take (min mm kd*size)++(L.flatMap f).drop (o*size+min mm kd*size):=by
  rw[<-hR,TV,TV,XG hq,XG hq,UX hq,RX]
 rw[hRf]at hu
 refine Yog T hx hy hr hu ht hn (λv hv=>?_) hA ⟨hb.1,hb.2.1,hb.2.2.1,hRl⟩ (by rw[hlen];exact Rq _ hb.2.2.2) h
 obtain⟨a,_,ha⟩:=RN.1 hv
 exact ZF (h1 a) v ha
theorem Ya2(T:Tab P){tn i j:Nat}(hx:evo env x=some (.slice A i cap))(hy:evo env y=some (.int .i64 (j:Int)))(hm:sl e size A k cap xs∈H)(ht:look T.sl t=some (e,size,bytes))(htn:YjR P tn=true)(hn:Nat.ble (d+1) n.k=true)(hb:Nat.ble bytes 1000=true)
 (hk:i<=k/\0<k/\0<j/\cap<i+j/\i+j<=1000000)
 (h:∀g c,i+j<=c->VL P none n B w0 ops Q rest ((d,.slice (some ⟨g,0,none⟩) (i+j) c)::env) (sl e size (some ⟨g,0,none⟩) i c (xs.take (i*size))::H)):VL P none n B w0 ops Q (⟨some d,.call ⟨.builtin .append,#[x,y],#[t,tn]⟩,ty,pos,after,none⟩::rest) env H:=by
 obtain⟨hu,inf,z,hi,hz,hzs,hsi,hbi,hs0,hb0⟩:=YG (T.slic ht)
 obtain⟨kn,hkn⟩:=Yh6 htn
 have hb':=T0 hb
 refine XH (λv K=>∃g c,v=.slice (some ⟨g,0,none⟩) (i+j) c/\K=sl e size (some ⟨g,0,none⟩) i c (xs.take (i*size))::H/\i+j<=c) rfl rfl hn (λa w ha hw=>?_) (by rintro _ _ ⟨g,c,rfl,rfl,hc⟩;exact h g c hc)
 obtain⟨hk1,hk2,hk3,hk4,hk5⟩:=hk
 have hown:=hw.sl hm
 rcases Ja hown with⟨_,e0,_⟩|⟨g,cur,rfl,g1,g2,g3,g4,g5,g6⟩
 ·omega
 have hik:i*size<=k*size:=Rq _ hk1
 have hxl:(xs.take (i*size)).length=i*size:=by rw[TD];omega
 have hbj:(i+j)*inf.bytes<=1000000*1000:=Nat.mul_le_mul hk5 (by omega)
 have hbj2:j*inf.bytes<=(i+j)*inf.bytes:=Rq _ (by omega)
 have hold:(Builtin.firstCells inf.size i (.slice (some ⟨g,0,none⟩) i cap)).run P w.drew=.ok (xs.take (i*size)).toArray w.drew:=by
  rw[hsi]
  refine run_firstCells_some (P:=P) w.drew size i ⟨g,0,none⟩ i cap _ hxl λq v hq=>?_
  rw[SE]at hq
  split at hq
  ·obtain⟨g',e5,hc,_⟩:=Yak hown hq
   injection e5 with e5
   injection e5 with e5
   subst e5
   rw[Addr.add_lit,Ry];exact hc
  ·cases hq
 have hrun:=Lib.run_append_grow_zeros (P:=P) w t tn ty e inf z .i64 kn hu hkn hi hz (some ⟨g,0,none⟩) i cap (xs.take (i*size)) hold j hk3 (by omega) hk4 (by omega) (by omega) (growslice_fits hk4 (by omega))
 have hge:=grownCap_ge w (i+j) cap e
 have hcm:grownCap w (i+j) cap e<=maxLen:=grownCap_le_maxLen w (i+j) cap e (by simp only[maxLen];omega)
 refine⟨_,_,_,by simp only[execOp,resolve,invoke,builtin,ha.eval hx,ha.eval hy,SY,Re,N5,Sem.run_bind,Sem.run_pure,hrun,Result.andThen_ok];rfl,?_,w.heap.size,grownCap w (i+j) cap e,rfl,rfl,hge⟩
 have h2:=hw.drew.alloc (.cells ((xs.take (i*size)).toArray++Builtin.zeroCells z.cells j++Builtin.zeroCells z.cells (grownCap w (i+j) cap e-(i+j))) e)
 refine h2.upd (Upd.here _) rfl rfl rfl (TL _) λS1 ⟨h3,h4⟩=>⟨⟨⟨hxl,.inr ⟨w.heap.size,grownCap w (i+j) cap e,_,rfl,Tu _,h4,by omega,hcm,?_,?_⟩⟩,λa ha=>by cases ha;exact h3⟩,λ_ _ _=>rfl⟩
 ·rw[Array.size_append,Array.size_append,size_zeroCells,size_zeroCells,hzs,List.size_toArray,hxl,<-RX,<-RX]
  congr 1
  omega
 ·rw[Array.toList_append,Array.toList_append,TX,Nx,TQ (by simp[hxl]),List.toList_toArray,hxl,Nb,Nl,TM]
theorem Vs(T:Tab P){n':Nat}{ki:IntKind}{z:Int}(hx:evo env x=some (.slice A k cap))(hl:evo env hi=some (.int ki z))(ht:look T.sl t=some (e,size,bytes))(hn:Nat.ble (d+1) n.k=true)(hb:0<=z/\z<=cap)(hn':z.toNat=n')(hA:∃g,A=some ⟨g,0,none⟩)
 (h:VL P m n B w0 ops Q rest ((d,.slice A n' cap)::env) H):VL P m n B w0 ops Q (⟨some d,.slice t x none (some hi) none,ty,pos,after,none⟩::rest) env H:=by
 subst hn'
 obtain⟨g,rfl⟩:=hA
 refine Yy rfl rfl hn rfl (λf w ha hw=>?_) h
 have hA:(if cap=0 then(some ⟨g,0,none⟩:Option Addr)else(some ⟨g,0,none⟩:Option Addr).map (·.add (0*size)))=some ⟨g,0,none⟩:=by
  simp[Addr.add_lit]
 have hb2:(Instr.sliceBounds true k cap none (some (.int ki z)) none).run P w=.ok (0,z.toNat,cap) w:=by
  simp[Instr.sliceBounds,Instr.sliceBound,asIntOf,hb.1,hb.2]
 have hr:=ZW T (A:=some ⟨g,0,none⟩) ht hb2
 rw[hA]at hr
 simp only[execOp,ha.eval hx,RH,ha.eval hl,Mc]
 simp[hr]
theorem Yes{w:World}{gv g:Nat}{o:Obj}{R:List HP}(h:St B w0 (Eng.blk gv o::sl e size (some ⟨g,0,none⟩) k cap xs::R) w):gv≠g:=by
 obtain⟨S1,S2,_,_,hd,h4,h5⟩:=h.sep
 obtain⟨S3,S4,h6,_,_,h9,_⟩:=h5
 rintro rfl
 exact hd gv h4.1 (h6 _ (h9.2 _ rfl))
end
inductive OV where
 |done
 |p1 (i:Nat) (t:OV)
 |d1 (i:Nat) (t:OV)
 |d2 (i:Nat) (t:OV) (j:Nat) (u:OV)
section
variable {P:Program}{n:Shp}{B:Nat}{w0:World}{Q:Exit->Act->World->Prop}{env:Env}{H:List HP}{ops:Array Oper}
def wpD(P:Program)(ops:Array Oper)(K:Act->World->Prop)(o:Oper)(a:Act)(w:World):Prop:=
 if Region.wanted o (yielded ops a.tmps)then o.wp P a w K (λ_ _ _=>False)else K (a.put o.dst undef) w
def Zp(P:Program)(ops:Array Oper)(l:List Oper)(Q:Exit->Act->World->Prop)(S:World->Prop):OV->Act->World->Prop
 |.done,a,w=>Q .normal a w
 |.p1 i t,a,w=>Ys P ops (λe a w=>match e with|.normal=>S w/\Zp P ops l Q S t a w|_=>False) S [nthO l i] a w
 |.d1 i t,a,w=>wpD P ops (λa w=>S w/\Zp P ops l Q S t a w) (nthO l i) a w
 |.d2 i t j u,a,w=>wpD P ops (λa w=>S w/\Zp P ops l Q S t a w) (nthO l i) a w/\wpD P ops (λa w=>S w/\Zp P ops l Q S u a w) (nthO l j) a w
def WE(ops:Array Oper)(last:List Nat):OV->Array Bool->Nat->Bool
 |.done,listed,0=>Vl ops last listed
 |.done,_,_+1=>false
 |.p1 i t,listed,k+1=>!last.contains i&&(match ops[i]? with
  |some o=>!eff o&&((Region.ready .any ops listed).contains i&&Region.free .any ops listed i)
  |none=>false)&&WE ops last t (listed.setIfInBounds i true) k
 |.d1 i t,listed,k+1=>!last.contains i&&(ops[i]?).isSome&&decide (Region.ready .any ops listed=[i])&&WE ops last t (listed.setIfInBounds i true) k
 |.d2 i t j u,listed,k+1=>!last.contains i&&!last.contains j&&(ops[i]?).isSome&&(ops[j]?).isSome&&((Region.ready .any ops listed).all λx=>x==i||x==j)&&!(Region.ready .any ops listed).isEmpty&&WE ops last t (listed.setIfInBounds i true) k&&WE ops last u (listed.setIfInBounds j true) k
 |.p1 _ _,_,0=>false
 |.d1 _ _,_,0=>false
 |.d2 _ _ _ _,_,0=>false
variable {i:Nat}{o:Oper}{a:Act}{w:World}
theorem YcC{S:World->Prop}{K:Act->World->Prop}{last:List Nat}{k:Nat}{listed:Array Bool}(ho:ops[i]? =some o)
 (h:wpD P ops K o a w) (hk:∀a w,K a w->S w/\Zf P ops Q S last k (listed.setIfInBounds i true) a w):
 wpOp P ops Q i (λa' w'=>(last.contains i=false->S w')/\Zf P ops Q S last k (listed.setIfInBounds i true) a' w') a w:=by
 unfold wpD at h
 unfold wpOp
 simp only[ho]
 by_cases hw:Region.wanted o (yielded ops a.tmps)=true
 ·rw[Tm hw]at h⊢
  exact .inl (Oper.wp_mono_noQ (λ_ _ _ h=>h) (by rintro⟨_,_,h⟩;exact h) (Oper.wp_mono (λa' w' h'=>⟨λ_=>(hk a' w' h').1,(hk a' w' h').2⟩) h))
 ·rw[Td hw]at h⊢
  exact⟨λ_=>(hk _ w h).1,(hk _ w h).2⟩
theorem Vg{S:World->Prop}{last:List Nat}(hs:Region.noSelect ops=true)(hQ:∀c (a:Act) (w:World),¬Q (.panic c) a w)(hlo:¬LetsOut Q)(l:List Oper)(hl:ops=l.toArray)(hlast:Yc9 ops last=true):
 ∀(t:OV) (k:Nat) (listed:Array Bool) (a:Act) (w:World),Closed ops listed->WE ops last t listed k=true->S w->Zp P ops l (Jd P ops Q (Yg l last)) S t a w->
  Zf P ops Q S last (k+last.length) listed a w
 |.done,0,listed,a,w,_,hB,_,h=>by
  have:=Jp (S:=S) l hl (JX hlast).1 hlo last listed a w (λj hj=>by simpa using hj) hB h
  rw[Ry]
  exact this
 |.done,_+1,_,_,_,_,hB,_,_=>by cases hB
 |.p1 _ _,0,_,_,_,_,hB,_,_=>by cases hB
 |.d1 _ _,0,_,_,_,_,hB,_,_=>by cases hB
 |.d2 _ _ _ _,0,_,_,_,_,hB,_,_=>by cases hB
 |.p1 i t,k+1,listed,a,w,hcl,hB,hS,h=>by
  simp only[WE,To]at hB
  obtain⟨⟨h0,h1⟩,h2⟩:=hB
  have hno:last.contains i=false:=by simpa using h0
  cases ho:ops[i]? with
  |none=>rw[ho]at h1;cases h1
  |some o=>
   rw[ho]at h1
   have hget:=Xh hl ho
   unfold Zp at h
   rw[hget]at h
   rw[Nh]
   simp only[To,Si]at h1
   obtain⟨he,h3,h4⟩:=h1
   unfold Ys at h
   rw[Td (by rw[he];simp)]at h
   obtain⟨v,hy,h5⟩:=h
   have hr:i∈Region.ready .any ops listed:=by simpa using h3
   exact JK ho (Region.noSelect_spec hs) hQ ((JX hlast).2 i o ho he hno) hno _ listed a w hcl (Region.free_spec ho h4) hr hy hS (Vg hs hQ hlo l hl hlast t k _ _ w (hcl.set hr) h2 hS h5.2)
 |.d1 i t,k+1,listed,a,w,hcl,hB,hS,h=>by
  simp only[WE,To,Tq]at hB
  obtain⟨⟨⟨h0,h1⟩,h3⟩,h2⟩:=hB
  obtain⟨o,ho⟩:=NK.1 h1
  unfold Zp at h
  rw[Xh hl ho]at h
  rw[Nh]
  refine⟨λh0=>(by rw[h3]at h0;cases h0),λj hj=>?_⟩
  have hj':=hj
  rw[h3]at hj
  obtain rfl:j=i:=by simpa using hj
  exact YcC ho h λa w ⟨hS',h'⟩=>⟨hS',Vg hs hQ hlo l hl hlast t k _ a w (hcl.set hj') h2 hS' h'⟩
 |.d2 i t j u,k+1,listed,a,w,hcl,hB,hS,h=>by
  simp only[WE,To]at hB
  obtain⟨⟨⟨⟨⟨⟨⟨b1,b2⟩,b3⟩,b4⟩,b5⟩,b6⟩,b7⟩,b8⟩:=hB
  obtain⟨o,ho⟩:=NK.1 b3
  obtain⟨o',ho'⟩:=NK.1 b4
  unfold Zp at h
  rw[Xh hl ho,Xh hl ho']at h
  rw[Nh]
  refine⟨λh0=>(by rw[h0]at b6;cases b6),λx hx=>?_⟩
  have h5:=TI.1 b5 x hx
  simp only[Sj,Nc]at h5
  rcases h5 with rfl|rfl
  ·exact YcC ho h.1 λa w ⟨hS',h'⟩=>⟨hS',Vg hs hQ hlo l hl hlast t k _ a w (hcl.set hx) b7 hS' h'⟩
  ·exact YcC ho' h.2 λa w ⟨hS',h'⟩=>⟨hS',Vg hs hQ hlo l hl hlast u k _ a w (hcl.set hx) b8 hS' h'⟩
structure VV(P:Program)(n:Shp)(B:Nat)(w0:World)(ops:Array Oper)(l:List Oper)(Q:Exit->Act->World->Prop)(t:OV)(env:Env)(H F:List HP):Prop where
 run:∀a,Fits n a env->∀w,St B w0 (H++F) w->Zp P ops l Q (St B w0 H) t a w
def Wb(P:Program)(B:Nat)(w0:World)(ops:Array Oper)(l:List Oper)(Q:Exit->Act->World->Prop)(Hc:List HP)(t:OV):Exit->Act->World->Prop
 |.normal,a,w=>St B w0 Hc w/\Zp P ops l Q (St B w0 Hc) t a w
 |_,_,_=>False
variable {l:List Oper}{t:OV}
theorem YnQ:Wb P B w0 ops l Q H t=λe a w=>match e with|.normal=>St B w0 H w/\Zp P ops l Q (St B w0 H) t a w|_=>False:=by
 funext e a w
 cases e<;>rfl
theorem YkF(h:wpList P ops (Wb P B w0 ops l Q H t) [o] a w):wpD P ops (λa w=>St B w0 H w/\Zp P ops l Q (St B w0 H) t a w) o a w:=by
 have hno:¬LetsOut (Wb P B w0 ops l Q H t):=by rintro⟨_,_,h⟩;exact h
 unfold wpList at h
 unfold wpD
 by_cases hw:Region.wanted o (yielded ops a.tmps)=true
 ·rw[Tm hw]at h⊢
  rcases h with h|⟨_,h⟩
  ·exact Oper.wp_mono_noQ (λ_ _ _ h=>h) hno (Oper.wp_mono (λa' w' h'=>h') h)
  ·exact(hno h).elim
 ·rw[Td hw]at h⊢
  exact h
variable {F HF Hc:List HP}
theorem YqG(happ:App H F HF)(h:VQ n B w0 Q .normal env HF):VV P n B w0 ops l Q .done env H F:=
 ⟨λa ha w hw=>by rw[<-Wg happ]at hw;exact h.run a w ha hw⟩
theorem YrJ(ho:nthO l i=o)(h:VL P (some (some F)) n B w0 ops (Wb P B w0 ops l Q H t) [o] env H):VV P n B w0 ops l Q (.p1 i t) env H F:=by
 refine⟨λa ha w hw=>?_⟩
 have h1:Ys P ops (Wb P B w0 ops l Q H t) (St B w0 H) [o] a w:=h.run a ha w hw
 unfold Zp
 rw[ho,<-YnQ]
 exact h1
theorem YrH(ho:nthO l i=o)(happ:App H F HF)(h:VL P none n B w0 ops (Wb P B w0 ops l Q H t) [o] env HF):VV P n B w0 ops l Q (.d1 i t) env H F:=by
 refine⟨λa ha w hw=>?_⟩
 unfold Zp
 rw[ho]
 rw[<-Wg happ]at hw
 exact YkF (h.run a ha w hw)
theorem YrI{j:Nat}{u:OV}{o':Oper}(ho:nthO l i=o)(ho':nthO l j=o')(happ:App H F HF)(h:VL P none n B w0 ops (Wb P B w0 ops l Q H t) [o] env HF)
 (h':VL P none n B w0 ops (Wb P B w0 ops l Q H u) [o'] env HF):VV P n B w0 ops l Q (.d2 i t j u) env H F:=by
 refine⟨λa ha w hw=>?_⟩
 unfold Zp
 rw[ho,ho']
 rw[<-Wg happ]at hw
 exact⟨YkF (h.run a ha w hw),YkF (h'.run a ha w hw)⟩
theorem Yhe{H':List HP}(hp:Pull Hc H' F)(h:VV P n B w0 ops l Q t env Hc F):VQ n B w0 (Wb P B w0 ops l Q Hc t) .normal env H':=
 ⟨λa w ha hw=>⟨(hw.perm hp).prefix_,h.run a ha w (hw.perm hp)⟩⟩
theorem YgV{id:Nat}(t:OV)(last:List Nat)(mask:List Bool)(hm:P.follows .mixedOrders=true)
 (hB:(Region.noSelect l.toArray&&decide (last.length<=l.toArray.size)&&Yc9 l.toArray last&&WE l.toArray last t (Array.replicate l.toArray.size false) (l.toArray.size-last.length))=true)
 (hsp:Split mask H Hc F) {l2:List Oper}(hl2:Yg l last=l2) (h:VV P n B w0 l.toArray l (Jd P l.toArray (Only Q) l2) t env Hc F):VC P n B w0 (.region id l.toArray true) Q env H:=by
 simp only[To,Tq]at hB
 obtain⟨⟨⟨h1,h2⟩,h3⟩,h5⟩:=hB
 refine⟨λa w ha hw=>ZQ (Q:=Only Q) ?_ λe a w h=>by cases e<;>first|exact h|cases h⟩
 have hst:St B w0 (Hc++F) w.drew:=(hw.perm (XK hsp)).drew
 have hr:=h.run a ha w.drew hst
 rw[<-hl2]at hr
 have:=Vg (S:=St B w0 Hc) h1 (λc a w h=>h) (by rintro⟨_,_,h⟩;exact h) l rfl h3 t _ _ a w.drew (XU _ _) h5 hst.prefix_ hr
 rw[Nat.sub_add_cancel h2]at this
 exact VE hm (ZP _ _ _ _ this)
end
section
variable {P:Program}{B:Nat}{w0:World}{Q:Exit->Act->World->Prop}{env:Env}{H:List HP}{k:Nat}
def YQr(P:Program)(r:Nat)(ops:Array Oper)(Q:Exit->Act->World->Prop)(l:List Oper):Exit->Act->World->Prop
 |.normal,a,w=>wpListIn (Fence.wide.inRound r) 0 P ops Q l a w
 |e,a,w=>Q e a w
theorem YaN{r:Nat}{ops:Array Oper}{l:List Oper}(hlo:¬LetsOut Q):∀(os:List Oper) (a:Act) (w:World),os.all J7=true->wpList P ops (YQr P r ops Q l) os a w->wpListIn (Fence.wide.inRound r) 0 P ops Q (os++l) a w
 |[],_,_,_,h=>h
 |o::os,a,w,hc,h=>by
  simp only[NV,To]at hc
  unfold wpList at h
  rw[TC]
  unfold wpListIn
  split
  ·rename_i hw
   rw[Tm hw]at h
   rcases h with h|⟨_,h⟩
   ·have h2:=Oper.wp_mono (λa w h=>YaN hlo os a w hc.2 h) h
    have hs:Oper.semAt (some r) a.eval o=execOp a.eval o:=Oper.semAt_some r _ o λc e=>by
     have hp:=hc.1
     unfold J7 at hp
     rw[e]at hp
     cases hp
    refine⟨λf _=>trivial,?_⟩
    rw[Fence.inRound_round,hs]
    unfold Oper.wp at h2
    generalize(execOp a.eval o).run P w=res at h2⊢
    cases res with
    |ok x w'=>
     cases x<;>simp only[Oper.upon,Oper.uponIn]at h2⊢<;>first
      |exact h2
      |(refine⟨λhd=>by simp[Fence.wide]at hd,?_⟩
        refine CallsIn.mono (CallsIn.inRound r (callsIn_wide.2 h2)) λe w'' he=>?_
        cases e<;>exact he)
      |exact⟨λhd=>by simp[Fence.wide]at hd,YbA h2⟩
      |exact h2.elim
    |halt x w'=>cases x<;>simp only[Oper.upon,Oper.uponIn]at h2⊢<;>first|exact h2|exact h2.elim
   ·exact(hlo h).elim
  ·rename_i hw
   rw[Td hw]at h
   exact⟨λf _=>trivial,YaN hlo os _ w hc.2 h⟩
variable {n r:Nat}{ds:List Deferred}
theorem YgT{id:Nat}{l:List Oper}(k:Nat){l1 l2:List Oper}(h1:l.take k=l1)(h2:l.drop k=l2)(h:VL P none ⟨n,ds,some r⟩ B w0 l.toArray (YQr P r l.toArray Q l2) l1 env H):
 VC P ⟨n,ds,some r⟩ B w0 (.region id l.toArray false) Q env H:=by
 refine⟨λa w ha hw=>?_⟩
 intro hlo hc
 refine wpIn_region_lit ?_
 have hc2:l.all J7=true:=by simpa [calm]using hc
 have:=YaN hlo _ _ _ (by rw[<-h1];exact TI.2 λx hx=>TI.1 hc2 x (SU hx)) (h.run a ha w hw)
 rw[<-h1,<-h2,SC]at this
 exact this
theorem Ymh{ops:Array Oper}{d l:Nat}{x:Operand}{args:List Operand}{tys:Array TypeId}{ty:TypeId}{pos:String}{after:Array Edge}{gd:Option (Nat×Bool)}{vs:List Value}{rest:List Oper}(Φt Φf:List HP->Prop)
 (hgd:∀a:Act,Fits ⟨n,ds,none⟩ a env->Region.wanted ⟨some d,.call ⟨.value x,args.toArray,tys⟩,ty,pos,after,gd⟩ (yielded ops a.tmps)=true)
 (hx:evo env x=some (.func (.yield l) #[] #[])) (hargs:Args env args vs) (hn:Nat.ble (d+1) n=true) (hlo:¬LetsOut Q) (hpl:rest.all J7=true) (hy:Ycl P l vs B w0 H Φt Φf)
 (ht:∀K,Φt K->VL P none ⟨n,ds,some r⟩ B w0 ops Q rest ((d,.bool true)::env) K)
 (hf:∀K,Φf K->VL P none ⟨n,ds,some r⟩ B w0 ops Q rest ((d,.bool false)::env) K):
 VQ ⟨n,ds,some r⟩ B w0 (YQr P r ops Q (⟨some d,.call ⟨.value x,args.toArray,tys⟩,ty,pos,after,gd⟩::rest)) .normal env H:=by
 refine⟨λa w ha hw=>?_⟩
 show wpListIn (Fence.wide.inRound r) 0 P ops Q _ a w
 unfold wpListIn
 rw[Tm (hgd a ⟨ha.defers,ha.size,ha.slot⟩)]
 refine⟨λf _=>trivial,?_⟩
 obtain⟨fn,tmps,assign,body,hrun,hround⟩:=hy w hw
 have hmap:args.toArray.map a.eval=vs.toArray:=by rw[SY,Uw ha _ _ hargs]
 have hs:Oper.semAt (some r) a.eval ⟨some d,.call ⟨.value x,args.toArray,tys⟩,ty,pos,after,gd⟩=execOp a.eval ⟨some d,.call ⟨.value x,args.toArray,tys⟩,ty,pos,after,gd⟩:=Oper.semAt_some r _ _ λc e=>by cases e
 rw[Fence.inRound_round,hs]
 have hex:(execOp a.eval ⟨some d,.call ⟨.value x,args.toArray,tys⟩,ty,pos,after,gd⟩).run P w=.ok (.round l fn tmps assign body) w:=by
  simp only[execOp,resolve,ha.eval hx,hmap,Deferred.ofValue,Sem.run_bind,Sem.run_pure,Result.andThen_ok,invoke]
  simpa using hrun
 rw[hex,Oper.uponIn_round]
 refine⟨λhd=>by simp[Fence.wide]at hd,?_⟩
 have hround2:RoundIn (Fence.wide.inRound r) 0 P l fn tmps assign body w _:=hround
 refine RoundIn.mono hround2 ?_
 rintro e w' (⟨rfl,K',hΦ,hst⟩|⟨rfl,K',hΦ,hst⟩)
 ·exact U0 hlo _ _ _ hpl ((ht K' hΦ).run _ (ha.put (T0 hn) _) _ hst)
 ·exact U0 hlo _ _ _ hpl ((hf K' hΦ).run _ (ha.put (T0 hn) _) _ hst)
end
variable {B:Nat}{w0:World}{H K:List HP}
theorem St.inM{w:World}(hw:St B w0 K w)(hm:Eng.many H∈K):St B w0 H w:=by
 obtain⟨S,h1,h2⟩:=hw.at_ hm
 exact⟨hw.below,hw.le,VK h2 h1⟩
variable {A:Option Addr}{xs:List Value}
theorem Rd.inM(h:Rd B w0 H A xs)(hm:Eng.many H∈K):Rd B w0 K A xs:=h.mono λ_ hw=>hw.inM hm
theorem Rd.many{L:List HP}{e size k cap:Nat}(hX:many L∈H)(hm:Eng.sl e size A k cap xs∈L):Rd B w0 H A xs:=λw hw j v hv=>by
 obtain⟨S,_,h2⟩:=hw.at_ hX
 obtain⟨S',_,h3,_⟩:=YgA hm h2
 obtain⟨g,e1,hc,_⟩:=Yak h3 hv
 exact⟨g,0,e1,by rw[Ry];exact hc⟩
def subL(i k:Nat)(l:List Value):List Value:=(l.drop i).take k
section
variable {P:Program}{B:Nat}{w0:World}{Q:Exit->Act->World->Prop}{env:Env}{H:List HP}{m:Mode}{n:Shp}{ops:Array Oper}{rest:List Oper}{d:Nat}{ty:TypeId}{pos:String}{after:Array Edge}
variable {t:Nat}
theorem Ye(T:Tab P){g i k:Nat}{cs:Array Value}{vs:List Value}{tt:TypeId}{fr:Nat×Nat}{x:Operand}(hx:evo env x=some (.pointer (some ⟨g,i,none⟩)))(hm:blk g (.cells cs tt fr)∈H)
 (ht:look T.ag t=some k) (hv:subL i k cs.toList=vs) (hk:Nat.beq vs.length k=true) (hn:Nat.ble (d+1) n.k=true) (h:VL P m n B w0 ops Q rest ((d,.agg vs.toArray)::env) H):
 VL P m n B w0 ops Q (⟨some d,.load t x,ty,pos,after,none⟩::rest) env H:=by
 refine Yg0 T hx hm ht (Nat.eq_of_beq_eq_true hk) (λj v hj=>?_) hn h
 rw[<-hv,subL,SE]at hj
 split at hj
 ·rw[RB]at hj
  simpa using hj
 ·cases hj
end
def Yht(l:List Oper)(k s:Nat):Bool:=match l[k]? with
 |some o=>match o.op with
  |.call c=>match c.callee with
   |.value (.tmp t)=>Nat.beq t s
   |_=>false
  |_=>false
 |none=>false
section
variable {P:Program}{B:Nat}{w0:World}{Q:Exit->Act->World->Prop}{env:Env}{H:List HP}
variable {n id r:Nat}{ds:List Deferred}{l l1 l2:List Oper}
theorem YgU(k s:Nat)(_ho:Yht l k s=true)(h1:l.take k=l1)(h2:l.drop k=l2)(hlo:¬LetsOut Q)(h:VL P none ⟨n,ds,none⟩ B w0 l.toArray (YQ P l.toArray Q l2) l1 env H):
 VC P ⟨n,ds,none⟩ B w0 (.region id l.toArray false) Q env H:=Ycb k h1 h2 hlo h
theorem YfA(k s:Nat)(_ho:Yht l k s=true)(h1:l.take k=l1)(h2:l.drop k=l2)(h:VL P none ⟨n,ds,some r⟩ B w0 l.toArray (YQr P r l.toArray Q l2) l1 env H):
 VC P ⟨n,ds,some r⟩ B w0 (.region id l.toArray false) Q env H:=YgT k h1 h2 h
end
section
variable {P:Program}{B:Nat}{w0:World}{env:Env}{H:List HP}
variable {n:Nat}{fn:Func}
theorem Yl2{gf:Nat}{c:Code}{lb:List Value}{xs:List (List Value)}{HI:List HP}(hf:P.funcs[gf]? =some fn)(hn:fn.ntmps=n)(hb:fn.body=some c)(hle:Nat.ble (lb.length+1) n=true)
 (h:∀(l:Nat) (S:Nat->List HP->Prop) (X:List HP->Prop),
  (∀(i:Nat) (args:List Value),xs[i]? =some args->∀(Y L:List HP),S i L->
   Ycl P l args B w0 (Y++many L::HI) (λK=>∃L',S (i+1) L'/\K=Y++many L'::HI) (λK=>∃L',X L'/\K=Y++many L'::HI))->
  ∀L0,S 0 L0->VC P ⟨n,[],none⟩ B w0 c (bodyPostM Fence.wide 0 P fn (Post B w0 λ_ K=>(∃L,S xs.length L/\K=many L::HI)\/∃L,X L/\K=many L::HI)) (WY 0 (.func (.yield l) #[] #[]::lb)) (many L0::HI)):Yb8 P gf lb xs B w0 HI:=by
 intro l S X hy L0 h0 w hw
 exact callsIn_wide.2 (Zi (args:=.func (.yield l) #[] #[]::lb) hf hn hb hle hw (h l S X hy L0 h0))
variable {ds:List Deferred}
theorem YqD{R:Ending->World->Prop}(h:VQ ⟨n,ds,none⟩ B w0 (bodyPostM Fence.wide 0 P fn R) .ret env H):VQ ⟨n,ds,none⟩ B w0 (bodyPostM Fence.wide 0 P fn R) .normal env H:=
 ⟨λa w ha hw=>h.run a w ha hw⟩
end
variable {H:List HP}{n t r:Nat}{fn:Func}
theorem QC{P:Program}{B:Nat}{w0:World}{env:Env}{Φ:Value->List HP->Prop}{u s:Nat}{v x y z:Value}(hr:fn.results=#[.tmp t,.tmp u,.tmp s,.tmp r])(hv:get env t=some v)(hx:get env u=some x)(hy:get env s=some y)(hz:get env r=some z)(h:Φ (.tuple #[v,x,y,z]) H):
 VQ ⟨n,[],none⟩ B w0 (bodyPost P fn (Post B w0 Φ)) .ret env H:=
 ⟨λa w ha hw=>bodyPost_ret (v:=.tuple #[v,x,y,z]) (by simp[results,hr,Array.getD_eq_getD_getElem?,ha.slot t v hv,ha.slot u x hx,ha.slot s y hy,ha.slot r z hz]) ha.defers ⟨_,H,rfl,hw,h⟩⟩
theorem YnJ{X:HP}(h:X∈H):∃R,Perm H [X,many R]/\Perm [X,many R] H:=by
 obtain⟨s,t,rfl⟩:=List.append_of_mem h
 exact⟨s++t,(Perm.closeT _).trans (Perm.pull X s t []),(Perm.push X s t []).trans (Perm.openT _)⟩
end Go.Eng
namespace Go.Proofs.YtaholidehobiiaaGreatDoor
theorem YqQ{u:Nat}(h:u<10000):(Lib.decDigits u).length<=4:=by
 rw[Lib.decDigits_length]
 by_cases h1:u<10
 ·rw[Lib.nDigits_small h1];omega
 ·rw[Lib.nDigits_big h1]
  by_cases h2:u/10<10
  ·rw[Lib.nDigits_small h2];omega
  ·all_goals grind [Go.Lib.nDigits_small,Go.Lib.nDigits_big]
open Go.RowKit Go.Eng Go.Nw
def wordS:List UInt8:=[115,99,104,101,100,117,108,101]
def wordC:List UInt8:=[99,101,108,108]
def X8(w:List UInt8)(l:List Int):List UInt8:=w++l.flatMap λn=>32::Lib.itoa n
def XM(w:List UInt8)(l:List Int):List UInt8:=X8 w l++[10]
def YdI(s:Sch):List UInt8:=XM wordS [s.len,s.off]++s.cells.flatMap λc=>XM wordC (nums c)
def XO(s:Sch):List UInt8×Int:=if Xz s=false then([],1)else(YdI s,0)
theorem Yh7{n:Int}(h:0<=n):Lib.itoa n=Lib.decDigits n.toNat:=by unfold Lib.itoa;rw[Td (by omega)]
theorem YaH{s:Sch}(h:Frm s):(∀n∈[s.len,s.off],0<=n/\n<10000)/\∀c∈s.cells,∀n∈nums c,0<=n/\n<10000:=by
 have h1:=h.sized
 unfold ZO at h1
 have h2:=Rm h1
 constructor
 ·intro n hn
  simp only[TN,R7,N2]at hn
  omega
 ·intro c hc n hn
  have h3:=h.formed c hc
  unfold ZT ZC insE at h3
  simp only[To,Tq]at h3
  unfold nums at hn
  simp only[TN,R7,N2]at hn
  omega
structure Tabs(w:World):Prop where
 pow:Lib.TabIs Tryz.prog w "internal/strconv.uint64pow10" .u64 Lib.pow10Tab
def TabsB(B:Nat)(w0:World):Prop:=∀w,Below B w0 w->Tabs w
variable {B:Nat}{w0 w:World}{H:List HP}
theorem TabsB.here(h:TabsB B w0)(hw:St B w0 H w):TabsB w.heap.size w:=λw1 h1=>h w1 (hw.below.trans (h1.mono hw.le))
abbrev strV(l:List UInt8):Value:=.string ⟨l.toArray⟩
theorem YaK(n:Int)(h0: -9223372036854775808<=n)(h1:n<=9223372036854775807)(ht:TabsB B w0)(hw:St B w0 H w):
 Calls Tryz.prog 211 [.int .i64 n].toArray w (Post B w0 λv K=>v=strV (Lib.itoa n)/\K=H):=
 Yjo hw ((Tryz.strconv_Itoa n h0 h1 w (ht w hw.below).pow).mono λe w' ⟨h1,k,os,h2⟩=>⟨h1,by rw[h2];exact Lib.below_grow _ w (TL _) k os⟩)
def cmpV(a b:List Int):Int:=if Xd a b=true then -1 else if Xd b a=true then 1 else 0
theorem Yd4(a b:List Int)(hla:a.length<=1000000000000)(hlb:b.length<=1000000000000){A1 A2:Option Addr}{c1 c2 B:Nat}{w0:World}{H:List HP}{w:World}(hr1:Rd B w0 H A1 (a.flatMap numF))(hr2:Rd B w0 H A2 (b.flatMap numF))(hw:St B w0 H w):
 Calls Tryz.prog 342 [.slice A1 a.length c1,.slice A2 b.length c2].toArray w (Post B w0 λv K=>v=.int .i64 (cmpV a b)/\K=H):=by
 refine Yc Tryz.func342 Tryz.ntmps342 rfl rfl hw ?_
 repeat'(first|refine zgb ?_|fail)
 refine Yi (λ(i:Nat)=>[(11,.int .i64 i),(10,.int .i64 a.length),(9,.slice A1 a.length c1),(0,.slice A1 a.length c1),(1,.slice A2 b.length c2)]) (λ_=>H) (λi=>i<=a.length/\i<=b.length/\Xd a b=Xd (a.drop i) (b.drop i)/\Xd b a=Xd (b.drop i) (a.drop i)) (λi=>a.length-i) 0 ⟨Tu _,Tu _,rfl,rfl⟩ ?_ (λw hw=>hw) ?_
 ·exact zu
 rintro i ⟨hi,hib,e1,e2⟩ K hK
 by_cases hlt:i<a.length
 ·obtain⟨x,hx⟩:∃x,a[i]? =some x:=⟨_,Ta hlt⟩
  by_cases hltb:i<b.length
  ·obtain⟨y,hy⟩:∃y,b[i]? =some y:=⟨_,Ta hltb⟩
   have d1:=Yid hx hy
   have d2:=Yid hy hx
   have hcm:=λ{w:World}(hw:St B w0 H w)=>Uj x y hw
   by_cases hxy:x=y
   ·rw[Td (λh=>h hxy)]at d1
    rw[Td (λh=>h hxy.symm)]at d2
    rw[show cmpI x y=0 by unfold cmpI;rw[Td (by omega),Td (by omega)]]at hcm
    repeat'(first|((first|apply Ya WJ|apply Yb WJ);exact za;exact rfl;exactλ_ hw=>(hcm hw))|refine zgd ?_|(refine zgf ?_ ?_<;>intro _<;>try exact zo)|fail)
    apply hK (i+1)
    ·exact⟨by omega,by omega,e1.trans d1,e2.trans d2⟩
    ·omega
    ·exact zu
    ·exactλw hw=>hw
   ·rw[Tm hxy]at d1
    rw[Tm (NZ hxy)]at d2
    clear hK
    rcases Int.lt_or_gt_of_ne hxy with h|h
    ·rw[show cmpI x y= -1 by unfold cmpI;rw[Tm h]]at hcm
     have hv:cmpV a b= -1:=by unfold cmpV;rw[e1,d1,Tm (Tc h)]
     rw[hv]
     repeat'(first|((first|apply Ya WJ|apply Yb WJ);exact za;exact rfl;exactλ_ hw=>(hcm hw))|refine zgd ?_|(refine zgf ?_ ?_<;>intro _<;>try exact zo)|fail)
     apply Yd;exact rfl;exact rfl;exact⟨rfl,rfl⟩
    ·rw[show cmpI x y=1 by unfold cmpI;rw[Td (by omega),Tm h]]at hcm
     have hv:cmpV a b=1:=by unfold cmpV;rw[e1,d1,Tn (by omega),Td (by decide),e2,d2,Tm (Tc h)]
     rw[hv]
     repeat'(first|((first|apply Ya WJ|apply Yb WJ);exact za;exact rfl;exactλ_ hw=>(hcm hw))|refine zgd ?_|(refine zgf ?_ ?_<;>intro _<;>try exact zo)|fail)
     apply Yd;exact rfl;exact rfl;exact⟨rfl,rfl⟩
  ·obtain rfl:i=b.length:=by omega
   clear hK
   have hv:cmpV a b=1:=by
    unfold cmpV
    rw[e1,e2,S0,Rx hlt]
    rfl
   rw[hv]
   repeat'(first|refine zgd ?_|(refine zgf ?_ ?_<;>intro _<;>try exact zo)|fail)
   apply Yd;exact rfl;exact rfl;exact⟨rfl,rfl⟩
 ·obtain rfl:i=a.length:=by omega
  clear hK
  rw[S0]at e1 e2
  by_cases hl:a.length<b.length
  ·have hv:cmpV a b= -1:=by
    unfold cmpV
    rw[e1,Rx hl]
    rfl
   rw[hv]
   repeat'(first|refine zgc ?_|(refine zge ?_ ?_<;>intro _<;>try exact zo)|fail)
   apply Yd;exact rfl;exact rfl;exact⟨rfl,rfl⟩
  ·have hv:cmpV a b=0:=by
    unfold cmpV
    rw[e1,e2,TZ (by omega)]
    rfl
   rw[hv]
   repeat'(first|refine zgc ?_|(refine zge ?_ ?_<;>intro _<;>try exact zo)|fail)
   apply Yd;exact rfl;exact rfl;exact⟨rfl,rfl⟩
def celF(c:Cel):List Value:=[.int .i64 c.1,.int .i64 c.2.1,.int .i64 c.2.2.1,.int .i64 c.2.2.2.1,.int .i64 c.2.2.2.2]
def celV(c:Cel):Value:=.agg #[.int .i64 c.1,.int .i64 c.2.1,.int .i64 c.2.2.1,.int .i64 c.2.2.2.1,.int .i64 c.2.2.2.2]
structure SchM where
 len:Int
 off:Int
 A:Option Addr
 cap:Nat
 cells:List Cel
def SchM.sch(s:SchM):Sch:=⟨s.len,s.off,s.cells⟩
def SchM.val(s:SchM):Value:=.agg #[.int .i64 s.len,.int .i64 s.off,.slice s.A s.cells.length s.cap]
theorem Yaz(a b:Cel):cmpV (nums a) (nums b)<0↔Y8 a b=true:=by
 unfold cmpV Y8
 by_cases h1:Xd (nums a) (nums b)=true
 ·rw[Tm h1];simp[h1]
 ·rw[Td h1]
  split<;>simp[h1]
theorem YoH(a b:Cel):cmpV (nums a) (nums b)=0↔a=b:=by
 unfold cmpV
 constructor
 ·intro h
  split at h
  ·cases h
  ·rename_i h1
   split at h
   ·cases h
   ·rename_i h2
    exact QI (by simpa [Y8]using h1) (by simpa [Y8]using h2)
 ·rintro rfl
  rw[Td (by rw[QW];decide),Td (by rw[QW];decide)]
variable {B:Nat}{w0 w:World}{H:List HP}
theorem Q9(c:Cel)(hw:St B w0 H w):
 Calls Tryz.prog 128 [celV c].toArray w (Post B w0 λv K=>v=celV c/\K=H):=by
 refine Yc Tryz.func128 Tryz.ntmps128 rfl rfl hw ?_
 repeat'(first|refine zgd ?_|(refine zgh ?_;intro _)|fail)
 (apply Yov T (H2:=H);exact rfl;exact rfl;exact zm;exact rfl;exact rfl;exact zk;exact⟨rfl,rfl⟩)
theorem Ykb(a b:Cel)(hw:St B w0 H w):
 Calls Tryz.prog 264 [celV a,celV b,.func (.func 128) #[] #[]].toArray w (Post B w0 λv K=>v=.int .i64 (cmpV (nums a) (nums b))/\K=H):=by
 refine Yc Tryz.func264 Tryz.ntmps264 rfl rfl hw ?_
 apply Xt
 iterate 5 (first|refine zga ?_|(refine zgh ?_;intro _)|fail)
 apply YfN
 apply Xt
 refine J4 (λ(z:Nat×Nat)=>[(7,.pointer (some ⟨z.1,0,none⟩)),(8,.pointer (some ⟨z.2,0,none⟩))]) (λz=>blk z.1 (.cells (celF a).toArray 173 (0,0))::blk z.2 (.cells (celF b).toArray 173 (0,0))::H) ?_ ?_
 ·intro K hK
  apply Qx (.n1 0 (.n1 1 (.n1 3 (.n1 4 (.n3 2 (.n3 5 (.n2 6 (.n1 7 .done) 7 (.n1 6 .done)) 6 (.n2 5 (.n1 7 .done) 7 (.n1 5 .done)) 7 (.n2 5 (.n1 6 .done) 6 (.n1 5 .done))) 6 (.n2 2 (.n2 5 (.n1 7 .done) 7 (.n1 5 .done)) 7 (.n1 2 (.n1 5 .done))) 7 (.n2 2 (.n2 5 (.n1 6 .done) 6 (.n1 5 .done)) 6 (.n1 2 (.n1 5 .done)))))))) [8,9] [true,true]
  kernel_rfl
  kernel_rfl
  exact zy
  (simp only[Yg,nthO];rfl)
  repeat'(first|((first|apply Yz (cs:=[])|apply Y4 (cs:=[]));exact rfl;exact YoS;exact za;exact rfl;exactλ_ hw=>(Q9 _ hw))|(apply YrG;(simp only[nthO];rfl);(simp only[nthO];rfl);(simp only[nthO];rfl))|(apply YkT;(simp only[nthO];rfl);(simp only[nthO];rfl))|(apply YkS;(simp only[nthO];rfl))|(apply QD;try exact zl)|(apply Yk;try exact zl)|refine zgd ?_|(refine zgh ?_;intro _)|fail)
  all_goals(
   rename_i ga gb
   first
    |(refine hK (ga,gb) _ _ zu ?_;dsimp only[celF];exact zk;done)
    |(refine hK (gb,ga) _ _ zu ?_;dsimp only[celF];exact zk;done))
 rintro⟨g1,g2⟩
 dsimp only
 have hA:Rd B w0 (blk g1 (.cells (celF a).toArray 173 (0,0))::blk g2 (.cells (celF b).toArray 173 (0,0))::H) (some ⟨g1,0,none⟩) ((nums a).flatMap numF):=Rd.blk (cs:=(celF a).toArray) (.head _)
 have hB:Rd B w0 (blk g1 (.cells (celF a).toArray 173 (0,0))::blk g2 (.cells (celF b).toArray 173 (0,0))::H) (some ⟨g2,0,none⟩) ((nums b).flatMap numF):=Rd.blk (cs:=(celF b).toArray) (.tail _ (.head _))
 repeat'(first|(apply QA T (e:=3);(iterate 3 exact rfl))|((first|apply Ya Yse|apply Yb Yse);exact za;exact rfl;exactλ_ hw=>(Yd4 (nums a) (nums b) (by simp[nums]) (by simp[nums]) hA hB hw))|(apply zg28;refine zs84 ?_)|refine zgd ?_|fail)
 apply Yj H
 ·exact zk
 apply Yd;exact rfl;exact rfl
 exact⟨rfl,rfl⟩
theorem OS(a b:Cel)(hw:St B w0 H w):
 Calls Tryz.prog 188 [celV a,celV b].toArray w (Post B w0 λv K=>v=.int .i64 (cmpV (nums a) (nums b))/\K=H):=by
 refine Yc Tryz.func188 Tryz.ntmps188 rfl rfl hw ?_
 repeat'(first|((first|apply Ya Yr2|apply Yb Yr2);exact za;exact rfl;exactλ_ hw=>(Ykb a b hw))|refine zgb ?_|(refine zgh ?_;intro _)|fail)
 apply Yj H
 ·exact zk
 apply Yd;exact rfl;exact rfl
 exact⟨rfl,rfl⟩
theorem Ybo(x n:Int)(hw:St B w0 H w):
 Calls Tryz.prog 262 [.int .i64 x,.int .i64 n].toArray w (Post B w0 λv K=>v=.bool (insE x n)/\K=H):=by
 refine Yc Tryz.func262 Tryz.ntmps262 rfl rfl hw ?_
 repeat'(first|refine zgc ?_|(refine zgf ?_ ?_<;>intro _<;>try exact zo)|fail)
 all_goals(
  apply Yd;exact rfl;exact rfl
  first
   |exact⟨by rw[show insE x n=true from Tc (by omega)],rfl⟩
   |exact⟨by rw[show insE x n=false from Tn (by omega)],rfl⟩)
theorem Ybx(s:SchM)(c:Cel)(hw:St B w0 H w):
 Calls Tryz.prog 186 [s.val,celV c].toArray w (Post B w0 λv K=>v=.bool (ZC s.sch c)/\K=H):=by
 refine Yc Tryz.func186 Tryz.ntmps186 rfl rfl hw ?_
 repeat'(first|((first|apply Jh Yln|apply Jg Yln);exact za;exact rfl;exactλ_ hw=>(Ybo _ _ hw);all_goals(intro hB;(try simp only[Tq,Rl]at hB);try exact zo))|refine zgc ?_|(refine zgh ?_;intro _)|fail)
 all_goals(
  apply Yj H
  ·exact zk
  apply Yd;exact rfl;exact rfl
  exact⟨by simp[ZC,SchM.sch, *],rfl⟩)
theorem Ybk(s:SchM)(c:Cel)(hw:St B w0 H w):
 Calls Tryz.prog 224 [s.val,celV c].toArray w (Post B w0 λv K=>v=.bool (ZT s.sch c)/\K=H):=by
 refine Yc Tryz.func224 Tryz.ntmps224 rfl rfl hw ?_
 repeat'(first|((first|apply Jh Uo|apply Jg Uo);exact za;exact rfl;exactλ_ hw=>(Ybx s c hw);all_goals(intro hB;(try simp only[Tq,Rl]at hB);try exact zo))|((first|apply Jh Yln|apply Jg Yln);exact za;exact rfl;exactλ_ hw=>(Ybo _ _ hw);all_goals(intro hB;(try simp only[Tq,Rl]at hB);try exact zo))|refine zgc ?_|(refine zgh ?_;intro _)|fail)
 all_goals(
  apply Yj H
  ·exact zk
  apply Yd;exact rfl;exact rfl
  exact⟨by simp[ZT, *],rfl⟩)
theorem YdB(s:SchM)(hw:St B w0 H w):
 Calls Tryz.prog 83 [s.val].toArray w (Post B w0 λv K=>v=.bool (ZO s.sch)/\K=H):=by
 refine Yc Tryz.func83 Tryz.ntmps83 rfl rfl hw ?_
 have e1:s.sch.len=s.len:=rfl
 have e2:s.sch.off=s.off:=rfl
 repeat'(first|refine zgc ?_|(refine zgf ?_ ?_<;>intro _<;>try exact zo)|(refine zgh ?_;intro _)|fail)
 all_goals(
  apply Yj H
  ·exact zk
  apply Yd;exact rfl;exact rfl
  first
   |exact⟨by rw[show ZO s.sch=true from Tc (by omega)],rfl⟩
   |exact⟨by rw[show ZO s.sch=false from Tn (by omega)],rfl⟩)
theorem YoE{s:Sch}{i:Nat}(hi:i<s.cells.length)(h:Vm s i=false):Xz s=false:=by
 unfold Xz
 rw[YfR hi h,Bool.and_false]
theorem YeY(s:SchM){B:Nat}{w0:World}{H:List HP}{w:World}(hr:Rd B w0 H s.A (s.cells.flatMap celF))(hl:s.cells.length<=1000000000000)(hw:St B w0 H w):
 Calls Tryz.prog 126 [s.val].toArray w (Post B w0 λv K=>v=.bool (Xz s.sch)/\K=H):=by
 refine Yc Tryz.func126 Tryz.ntmps126 rfl rfl hw ?_
 have e1:s.sch.cells=s.cells:=rfl
 repeat'(first|((first|apply Jh en83|apply Jg en83);exact za;exact rfl;exactλ_ hw=>(YdB s hw);all_goals(intro hB;(try simp only[Tq,Rl]at hB);try exact zo))|refine zgd ?_|(refine zgf ?_ ?_<;>intro _<;>try exact zo)|(refine zgh ?_;intro _)|fail)
 ·apply Yj H
  ·exact zk
  apply Yd;exact rfl;exact rfl
  exact⟨by rw[show Xz s.sch=false by unfold Xz;rw[e1,Tn (by omega),Bool.and_false,SI]],rfl⟩
 rotate_left
 ·apply Yj H
  ·exact zk
  apply Yd;exact rfl;exact rfl
  exact⟨by simp[Xz, *],rfl⟩
 rename_i g _
 refine Yi (λ(i:Nat)=>[(17,.int .i64 i),(16,.int .i64 s.cells.length),(15,.slice s.A s.cells.length s.cap),(1,.pointer (some ⟨g,0,none⟩))]) (λ_=>blk g (.cells #[.int .i64 s.len,.int .i64 s.off,.slice s.A s.cells.length s.cap] 37 (0,0))::H) (λi=>i<=s.cells.length/\(List.range i).all (Vm s.sch)=true) (λi=>s.cells.length-i) 0 ⟨Tu _,rfl⟩ ?_ (λw hw=>hw) ?_
 ·exact zu
 rintro i ⟨hi,hall⟩ K hK
 have hr:=hr.cons (X:=blk g (.cells #[.int .i64 s.len,.int .i64 s.off,.slice s.A s.cells.length s.cap] 37 (0,0)))
 by_cases hlt:i<s.cells.length
 ·have hget:s.cells[i]? =some (Yo s.sch i):=Y2 (s:=s.sch) hlt
  have hgo:Vm s.sch i=false->Xz s.sch=false:=YoE (s:=s.sch) hlt
  have hst:Vm s.sch i=true->(List.range (i+1)).all (Vm s.sch)=true:=λh=>by rw[Ycn,hall,h];rfl
  rcases NQ i with h0|h0
  ·subst h0
   repeat'(first|((first|apply Jh Ylj|apply Jg Ylj);exact za;exact rfl;exactλ_ hw=>(Ybk s _ hw);all_goals(intro hB;(try simp only[Tq,Rl]at hB);try exact zo))|(apply zg28;refine zs84 ?_)|refine zgd ?_|(refine zgf ?_ ?_<;>intro _<;>try exact zo)|(refine zgh ?_;intro _)|fail)
   ·apply hK (0+1)
    ·exact⟨by omega,hst (by simp[Vm, *])⟩
    ·omega
    ·exact zu
    ·exact zk
   ·apply Yj H
    ·exact zk
    apply Yd;exact rfl;exact rfl
    exact⟨by rw[hgo (by simp[Vm, *])],rfl⟩
  ·have hget2:s.cells[((i:Int)-1).toNat]? =some (Yo s.sch (i-1)):=by
    rw[show((i:Int)-1).toNat=i-1 by omega]
    exact Y2 (s:=s.sch) (show i-1<s.cells.length by omega)
   repeat'(first|((first|apply Jh Ylj|apply Jg Ylj);exact za;exact rfl;exactλ_ hw=>(Ybk s _ hw);all_goals(intro hB;(try simp only[Tq,Rl]at hB);try exact zo))|((first|apply Ya YeG|apply Yb YeG);exact za;exact rfl;exactλ_ hw=>(OS _ _ hw))|(apply zg28;refine zs84 ?_)|refine zgd ?_|(refine zgf ?_ ?_<;>intro _<;>try exact zo)|(refine zgh ?_;intro _)|fail)
   all_goals first
    |(apply hK (i+1)
      ·refine⟨by omega,hst ?_⟩
       have hc:cmpV (nums (Yo s.sch (i-1))) (nums (Yo s.sch i))<0:=by omega
       simp[Vm,(Yaz _ _).1 hc, *]
      ·omega
      ·exact zu
      ·exact zk
      done)
    |(apply Yj H
      ·exact zk
      apply Yd;exact rfl;exact rfl
      refine⟨?_,rfl⟩
      rw[hgo]
      first
       |(simp[Vm, *];done)
       |(have hc:¬cmpV (nums (Yo s.sch (i-1))) (nums (Yo s.sch i))<0:=by omega
         have hd:Y8 (Yo s.sch (i-1)) (Yo s.sch i)=false:=by
          rw[Yaz]at hc
          simpa using hc
         simp[Vm,hd]
         omega))
 ·repeat'(first|refine zgc ?_|(refine zge ?_ ?_<;>intro _<;>try exact zo)|fail)
  apply Yj H
  ·exact zk
  apply Yd;exact rfl;exact rfl
  refine⟨?_,rfl⟩
  rw[show i=s.cells.length by omega]at hall
  rw[show Xz s.sch=true by unfold Xz;rw[e1,hall,Tc (by omega)];simp[*]]
def inI(s:Sch)(slot:Int)(k:Nat):List Nat:=(List.range k).filter λi=>decide ((Yo s i).1=slot)
def inXs(s:Sch)(slot:Int):List (List Value):=(inI s slot s.cells.length).map λ(i:Nat)=>[Value.int .i64 (i:Int)]
variable {s:Sch}{slot:Int}{k B:Nat}
theorem YlE(h:(Yo s k).1=slot):inI s slot (k+1)=inI s slot k++[k]:=by
 unfold inI;rw[RA,Rj];simp[h]
theorem Ype(h:(Yo s k).1≠slot):inI s slot (k+1)=inI s slot k:=by
 unfold inI;rw[RA,Rj];simp[h]
theorem YqZ{n:Nat}(h:(Yo s k).1=slot)(hk:k<n):(inI s slot n)[(inI s slot k).length]? =some k:=by
 obtain⟨m,rfl⟩:∃m,n=k+(m+1):=⟨n-k-1,by omega⟩
 have e:inI s slot (k+(m+1))=inI s slot k++((List.range (m+1)).map (k+·)).filter λi=>decide ((Yo s i).1=slot):=by
  unfold inI;rw[List.range_add,Rj]
 rw[e,Ro (TL _),Nb,Nj]
 simp[h]
theorem OF{i:Nat}:i∈inI s slot k↔i<k/\(Yo s i).1=slot:=by
 unfold inI;simp
def schB(g:Nat)(s:SchM):HP:=blk g (.cells #[.int .i64 s.len,.int .i64 s.off,.slice s.A s.cells.length s.cap] 37 (0,0))
def intB(g:Nat)(x:Int):HP:=blk g (.cells #[.int .i64 x] 3 (0,0))
variable {w0:World}
theorem Yh2(s:SchM)(slot:Int)(gs gt:Nat){HI:List HP}(hr:Rd B w0 HI s.A (s.cells.flatMap celF))(hl:s.cells.length<=1000000000000)
 (hms:blk gs (.cells #[.int .i64 s.len,.int .i64 s.off,.slice s.A s.cells.length s.cap] 37 (0,0))∈HI) (hmt:blk gt (.cells #[.int .i64 slot] 3 (0,0))∈HI):
 Yb8 Tryz.prog 265 [.pointer (some ⟨gs,0,none⟩),.pointer (some ⟨gt,0,none⟩)] (inXs s.sch slot) B w0 HI:=by
 refine Yb9 Tryz.func265 Tryz.ntmps265 rfl rfl ?_
 intro l SS X hy L0 h0
 repeat'(first|refine zgb ?_|fail)
 refine Yi (λ(x:Nat×List HP)=>[(9,.int .i64 x.1),(8,.int .i64 s.cells.length),(7,.slice s.A s.cells.length s.cap),(0,.func (.yield l) #[] #[]),(1,.pointer (some ⟨gs,0,none⟩)),(2,.pointer (some ⟨gt,0,none⟩))]) (λx=>many x.2::HI) (λx=>x.1<=s.cells.length/\SS (inI s.sch slot x.1).length x.2) (λx=>s.cells.length-x.1) (0,L0) ⟨Tu _,h0⟩ ?_ (λw hw=>hw) ?_
 ·exact zu
 rintro⟨i,L⟩ ⟨hi,hS⟩ K hK
 dsimp only at hi hS⊢
 have hr:=hr.cons (X:=many L)
 by_cases hlt:i<s.cells.length
 ·have hget:s.cells[i]? =some (Yo s.sch i):=Y2 (s:=s.sch) hlt
  have hlt2:i<s.sch.cells.length:=hlt
  iterate 22 (first|refine zgd ?_|(refine zge ?_ ?_<;>intro _<;>try exact zo)|(refine zgh ?_;intro _)|fail)
  refine Ycb 7 rfl rfl (by rintro⟨_,_,_,_,h,_⟩;cases h) ?_
  repeat'(first|refine zgc ?_|(refine zge ?_ ?_<;>intro _<;>try exact zo)|fail)
  ·rename_i g5 hs
   have hx:(inXs s.sch slot)[(inI s.sch slot i).length]? =some [.int .i64 (i:Int)]:=by
    rw[inXs,TE,YqZ hs hlt2];rfl
   have hY:=hy _ _ hx [blk g5 (.cells (celF (Yo s.sch i)).toArray 64 (0,0))] L hS
   apply Yck _ _ (hy:=hY)
   ·exact YbK (j:=4) (s:=18) rfl rfl rfl
   ·exact rfl
   ·exact za
   ·exact rfl
   ·rintro⟨_,_,_,_,h,_⟩;cases h
   ·rintro _ ⟨L',hS',rfl⟩
    repeat'(first|refine zgd ?_|fail)
    apply hK (i+1,L')
    ·exact⟨by omega,by rw[YlE hs,Tj];exact hS'⟩
    ·dsimp only;omega
    ·exact zu
    ·exactλw hw=>hw.tail
   ·rintro _ ⟨L',hX',rfl⟩
    repeat'(first|refine zgd ?_|fail)
    apply Yj (many L'::HI)
    ·exactλw hw=>hw.tail
    apply We;exact rfl
    exact .inr ⟨L',hX',rfl⟩
  ·rename_i hs
   apply Yhf (by rintro⟨_,_,_,_,h,_⟩;cases h)
   repeat'(first|refine zgc ?_|fail)
   apply hK (i+1,L)
   ·exact⟨by omega,by rw[Ype hs];exact hS⟩
   ·dsimp only;omega
   ·exact zu
   ·exactλw hw=>hw.tail
 ·repeat'(first|refine zgc ?_|(refine zge ?_ ?_<;>intro _<;>try exact zo)|fail)
  apply Zz;exact rfl
  rw[show i=s.cells.length by omega]at hS
  exact .inl ⟨L,by rw[inXs,Tv];exact hS,rfl⟩
theorem Yh3(s:SchM)(slot:Int){H:List HP}{w:World}(hw:St B w0 H w):
 Calls Tryz.prog 189 [s.val,.int .i64 slot].toArray w (Post B w0 λv K=>∃gs gt,v=.func (.func 265) #[] #[.pointer (some ⟨gs,0,none⟩),.pointer (some ⟨gt,0,none⟩)]/\K=intB gt slot::schB gs s::H):=by
 refine Yc Tryz.func189 Tryz.ntmps189 rfl rfl hw ?_
 repeat'(first|(apply zg23;first|(refine zs52 ?_;intro _)|(refine zs53 ?_;intro _))|(apply zg29;(apply Ym;exact za;exact rfl))|refine zga ?_|fail)
 apply Yd;exact rfl;exact rfl
 exact⟨_,_,rfl,rfl⟩
end Go.Proofs.YtaholidehobiiaaGreatDoor
namespace Go.Eng
open Go.RowKit
variable {B cap:Nat}{w0:World}{H:List HP}{A:Option Addr}
theorem Qw{P:Program}{n:Shp}{Q:Exit->Act->World->Prop}{env:Env}{c:Code}{e size k:Nat}{xs:List Value}(hm:sl e size A k cap xs∈H)(h:k<=cap->VC P n B w0 c Q env H):VC P n B w0 c Q env H:=by
 refine⟨λa w ha hw=>?_⟩
 have hown:=hw.sl hm
 have hkc:k<=cap:=by
  rcases hown.2 with⟨e1,e2⟩|⟨g,c,cur,e1,_,_,e4,_⟩
  ·omega
  ·injection e1 with _ _ e3;omega
 exact(h hkc).run a w ha hw
end Go.Eng
namespace Go.Proofs.YtaholidehobiiaaGreatDoor
open Go.RowKit Go.Eng Go.Nw
theorem Qr(A:Option Addr)(cap size:Nat):subA A 0 cap size=A:=by
 unfold subA
 split
 ·rfl
 ·cases A with
  |none=>rfl
  |some a=>simp[Addr.add]
theorem Ybg{α:Type}{f:α->List Value}{q:Nat}(hq:∀a,(f a).length=q):∀(l:List α) (i:Nat),i<l.length->(l.flatMap f).take (i*q)++(l.flatMap f).drop ((i+1)*q)=(l.eraseIdx i).flatMap f
 |x::l,0,_=>by
  simp[List.flatMap_cons,<-hq x]
 |x::l,i+1,h=>by
  rw[TS]at h
  have ih:=Ybg hq l i (by omega)
  have hx:=hq x
  have e1:(i+1)*q=(f x).length+i*q:=by rw[hx,RX];omega
  have e2:(i+1+1)*q=(f x).length+(i+1)*q:=by rw[hx,RX (i+1)];omega
  rw[TR,List.eraseIdx_cons_succ,TR,e2,List.drop_length_add_append,<-ih,<-TX]
  congr 1
  rw[e1,List.take_length_add_append]
def cels(A:Option Addr)(cap:Nat)(l:List Cel):HP:=sl 64 5 A l.length cap (l.flatMap celF)
theorem Ymw(A:Option Addr)(cap:Nat)(l:List Cel)(c:Cel):sl 64 5 A (l.length+1) cap (l.flatMap celF++celF c)=cels A cap (l++[c]):=by
 unfold cels;simp
theorem Wi(A:Option Addr)(cap:Nat)(l:List Cel)(c:Cel):sl 64 5 A (l.length+1) cap (l.flatMap celF++#[Value.int .i64 c.1,.int .i64 c.2.1,.int .i64 c.2.2.1,.int .i64 c.2.2.2.1,.int .i64 c.2.2.2.2].toList)=cels A cap (l++[c]):=Ymw A cap l c
theorem Yic(l:List Cel)(c:Cel):l.length+1=(l++[c]).length:=by simp
variable {B cap:Nat}{w0:World}{H:List HP}{A:Option Addr}
theorem Rd.cels{l:List Cel}(h:cels A cap l∈H):Rd B w0 H A (l.flatMap celF):=.sl h
theorem Yhu{a b:Cel}(h:celF a=celF b):a=b:=by
 obtain⟨a1,a2,a3,a4,a5⟩:=a
 obtain⟨b1,b2,b3,b4,b5⟩:=b
 simp only[celF,List.cons.injEq,Value.int.injEq,true_and,and_true]at h
 obtain⟨rfl,rfl,rfl,rfl,rfl⟩:=h
 rfl
section
variable {m:Eng.Mode}{n:Shp}{B d:Nat}{w0:World}{ops:Array Oper}{Q:Exit->Act->World->Prop}{rest:List Oper}{env:Env}{H:List HP}{ty:TypeId}{pos:String}{after:Array Edge}
variable {x y:Operand}
theorem Yqp(a b:Cel)(hx:evo env x=some (.agg (celF a).toArray))(hy:evo env y=some (.agg (celF b).toArray))(hn:Nat.ble (d+1) n.k=true)
 (h1:a=b->VL Tryz.prog m n B w0 ops Q rest ((d,.bool true)::env) H) (h2:a≠b->VL Tryz.prog m n B w0 ops Q rest ((d,.bool false)::env) H):
 VL Tryz.prog m n B w0 ops Q (⟨some d,.binOp .eql 64 x y 64,ty,pos,after,none⟩::rest) env H:=
 Yqo (xs:=celF a) (ys:=celF b) hx hy hn (by kernel_rfl) (by kernel_rfl) (λe=>h1 (Yhu e)) (λe=>h2 λh=>e (by rw[h]))
theorem Yqq(a b:Cel)(hx:evo env x=some (.agg (celF a).toArray))(hy:evo env y=some (.agg (celF b).toArray))(hn:Nat.ble (d+1) n.k=true)
 (h1:a≠b->VL Tryz.prog m n B w0 ops Q rest ((d,.bool true)::env) H) (h2:a=b->VL Tryz.prog m n B w0 ops Q rest ((d,.bool false)::env) H):
 VL Tryz.prog m n B w0 ops Q (⟨some d,.binOp .neq 64 x y 64,ty,pos,after,none⟩::rest) env H:=
 YfB (xs:=celF a) (ys:=celF b) hx hy hn (by kernel_rfl) (by kernel_rfl) (λe=>h1 λh=>e (by rw[h])) (λe=>h2 (Yhu e))
end
theorem QU{s:Sch}{slot:Int}{k:Nat}{args:List Value}(h:(inXs s slot)[k]? =some args):∃i,(inI s slot s.cells.length)[k]? =some i/\i<s.cells.length/\args=[.int .i64 (i:Int)]:=by
 unfold inXs at h
 rw[TE]at h
 cases hi:(inI s slot s.cells.length)[k]? with
 |none=>rw[hi]at h;cases h
 |some i=>
  rw[hi]at h
  cases h
  exact⟨i,rfl,(OF.1 (Tf hi)).1,rfl⟩
section
variable {m:Eng.Mode}{n:Shp}{B d:Nat}{w0:World}{ops:Array Oper}{Q:Exit->Act->World->Prop}{rest:List Oper}{env:Env}{H:List HP}{ty:TypeId}{pos:String}{after:Array Edge}{x y:Operand}
theorem JN(a b:List UInt8)(hx:evo env x=some (strV a))(hy:evo env y=some (strV b))(hn:Nat.ble (d+1) n.k=true)(hb:a.length+b.length<=1000000)(h:VL Tryz.prog m n B w0 ops Q rest ((d,strV (a++b))::env) H):
 VL Tryz.prog m n B w0 ops Q (⟨some d,.binOp .add 9 x y 9,ty,pos,after,none⟩::rest) env H:=by
 have hs:∀l:List UInt8,(⟨l.toArray⟩:ByteArray).size=l.length:=λl=>by simp[ByteArray.size]
 refine YqA hx hy hn (by rw[hs,hs];omega) ?_
 have e:(⟨a.toArray⟩:ByteArray)++⟨b.toArray⟩=⟨(a++b).toArray⟩:=by
  apply ByteArray.ext
  simp
 rw[e]
 exact h
variable {g:Nat}{cs:Array Value}{fr:Nat×Nat}
theorem Yot(hx:evo env x=some (.pointer (some ⟨g,0,none⟩)))(hm:blk g (.cells cs 163 fr)∈H)(hc:cs.size=2)(hn:Nat.ble (d+1) n.k=true)
 (h:VL Tryz.prog none n B w0 ops Q rest ((d,.pointer (some ⟨g,0,none⟩))::env) H):VL Tryz.prog none n B w0 ops Q (⟨some d,.convert 160 302 x,ty,pos,after,none⟩::rest) env H:=by
 refine XH (λv K'=>v=.pointer (some ⟨g,0,none⟩)/\K'=H) rfl rfl hn (λa w ha hw=>?_) (by rintro _ _ ⟨rfl,rfl⟩;exact h)
 have hb:=(hw.blk hm).1
 obtain⟨j,hj,hjs⟩:=Option.map_eq_some_iff.1 (show(Tryz.prog.info? 163).map (·.size)=some 2 by kernel_rfl)
 have hr:=Lib.run_to_unsafe (P:=Tryz.prog) w ⟨g,0,none⟩ Tryz.underlying160 Tryz.underlying302 hj (by rw[hjs];decide) (show w.shape? g=some (163,2) by simp[World.shape?,hb,hc]) (Nat.zero_lt_succ 1)
 exact⟨_,H,w,by simp[execOp,ha.eval hx,hr],hw,rfl,rfl⟩
theorem Yom(hx:evo env x=some (.pointer (some ⟨g,0,none⟩)))(hm:blk g (.cells cs 163 fr)∈H)(hc:cs.size=2)(hn:Nat.ble (d+1) n.k=true)
 (h:VL Tryz.prog none n B w0 ops Q rest ((d,.pointer (some ⟨g,0,none⟩))::env) H):VL Tryz.prog none n B w0 ops Q (⟨some d,.convert 302 160 x,ty,pos,after,none⟩::rest) env H:=by
 refine XH (λv K'=>v=.pointer (some ⟨g,0,none⟩)/\K'=H) rfl rfl hn (λa w ha hw=>?_) (by rintro _ _ ⟨rfl,rfl⟩;exact h)
 have hb:=(hw.blk hm).1
 obtain⟨j,hj,hjs⟩:=Option.map_eq_some_iff.1 (show(Tryz.prog.info? 163).map (·.size)=some 2 by kernel_rfl)
 have hr:=Lib.run_from_unsafe (P:=Tryz.prog) w ⟨g,0,none⟩ Tryz.underlying302 Tryz.underlying160 hj (show w.shape? g=some (163,2) by simp[World.shape?,hb,hc]) (by kernel_rfl)
 exact⟨_,H,w,by simp[execOp,ha.eval hx,hr],hw,rfl,rfl⟩
theorem Yok{v:Value}{tys:Array TypeId}(hx:evo env x=some v)(hn:Nat.ble (d+1) n.k=true)(h:VL Tryz.prog none n B w0 ops Q rest ((d,v)::env) H):
 VL Tryz.prog none n B w0 ops Q (⟨some d,.call ⟨.value (.func 281),#[x],tys⟩,ty,pos,after,none⟩::rest) env H:=by
 refine XH (λu K'=>u=v/\K'=H) rfl rfl hn (λa w ha hw=>⟨v,H,w,?_,hw,rfl,rfl⟩) (by rintro _ _ ⟨rfl,rfl⟩;exact h)
 have hr:=run_callFunc_extern (P:=Tryz.prog) Tryz.func281 (by kernel_rfl) (by kernel_rfl) (by kernel_rfl) (e:=Extern.AbiNoEscape.same) (by kernel_rfl) #[v] w
 have he:a.eval (.func 281)=.func (.func 281) #[] #[]:=rfl
 simp[execOp,resolve,invoke,ha.eval hx,he,Deferred.ofValue,hr,Lib.run_noEscape,Result.andThen]
theorem Yg7{g:Addr}(hx:evo env x=some (.pointer (some g)))(hy:evo env y=some (.pointer (some g)))(hn:Nat.ble (d+1) n.k=true)(h:VL Tryz.prog m n B w0 ops Q rest ((d,.bool false)::env) H):
 VL Tryz.prog m n B w0 ops Q (⟨some d,.binOp .neq 160 x y 160,ty,pos,after,none⟩::rest) env H:=by
 obtain⟨j,hj,hjs⟩:=Option.map_eq_some_iff.1 (show(Tryz.prog.info? 163).map (·.size)=some 2 by kernel_rfl)
 exact Y7 hx hy hn (λ_=>rfl) (λw=>Lib.run_neq_ptr_same w g Tryz.underlying160 hj) h
end
variable {B b cap:Nat}{w0 w:World}{H:List HP}
theorem YcB(b:Nat)(p v:Value)(hp:p=.pointer none\/p=.pointer (some ⟨b,0,none⟩))(hw:St B w0 (blk b (.cells #[p,v] 163 (0,0))::H) w):
 Calls Tryz.prog 210 [.pointer (some ⟨b,0,none⟩)].toArray w (Post B w0 λu K=>u=.tuple #[]/\K=blk b (.cells #[.pointer (some ⟨b,0,none⟩),v] 163 (0,0))::H):=by
 refine Yc Tryz.func210 Tryz.ntmps210 rfl rfl hw ?_
 rcases hp with rfl|rfl
 ·skip
  repeat'(first|(apply Yg6;exact rfl;exact rfl;kernel_rfl)|(apply Yot;exact rfl;exact zm;exact rfl;exact rfl)|(apply Yom;exact rfl;exact zm;exact rfl;exact rfl)|(apply Yok;exact rfl;exact rfl)|(apply Yg7;(iterate 3 exact rfl))|refine zgd ?_|fail)
  apply Zz;exact rfl;exact⟨rfl,rfl⟩
 ·skip
  repeat'(first|(apply Yg6;exact rfl;exact rfl;kernel_rfl)|(apply Yg7;(iterate 3 exact rfl))|refine zgd ?_|fail)
  apply Zz;exact rfl;exact⟨rfl,rfl⟩
def bdP(b:Nat)(p:Value)(A:Option Addr)(cap:Nat)(l:List UInt8)(H:List HP):List HP:=blk b (.cells #[p,.slice A l.length cap] 163 (0,0))::sl 5 1 A l.length cap (Lib.byteCells l)::H
theorem J2(b:Nat)(p:Value)(hp:p=.pointer none\/p=.pointer (some ⟨b,0,none⟩))(A:Option Addr)(cap:Nat)(l s:List UInt8)(hl:l.length+s.length<=1000000)(hw:St B w0 (bdP b p A cap l H) w):
 Calls Tryz.prog 115 [.pointer (some ⟨b,0,none⟩),strV s].toArray w (Post B w0 λu K=>u=.tuple #[.int .i64 s.length,.nilIface]/\∃A' cap',K=bdP b (.pointer (some ⟨b,0,none⟩)) A' cap' (l++s) H):=by
 have hs:(⟨s.toArray⟩:ByteArray).size=s.length:=by simp[ByteArray.size]
 refine Yc Tryz.func115 Tryz.ntmps115 rfl rfl hw ?_
 unfold bdP
 repeat'(first|refine zga ?_|fail)
 apply Yh _ YtJ
 exact za
 exact rfl
 exactλ_ hw=>(YcB b p _ hp (hw))
 rintro _ _ ⟨rfl,rfl⟩
 repeat'(first|(apply YfC T (e:=5);(iterate 3 exact rfl);kernel_rfl;exact rfl;exact rfl;(intro _ _;exact zd);(rw[hs];omega);intro A' cap')|refine zgd ?_|fail)
 have e1:Lib.byteCells l++Lib.strCells ⟨s.toArray⟩=Lib.byteCells (l++s):=by
  unfold Lib.byteCells Lib.strCells
  rw[T8]
 have e2:l.length+(⟨s.toArray⟩:ByteArray).size=(l++s).length:=by rw[hs,Tj]
 apply Yp;(iterate 3 exact rfl)
 refine⟨by rw[hs],A',cap',?_⟩
 rw[e1,e2]
variable {p:Value}{A:Option Addr}{l:List UInt8}
theorem YsM(hp:p=.pointer none\/p=.pointer (some ⟨b,0,none⟩))(hw:St B w0 (bdP b p A cap l H) w):Lib.IsBuilder 163 5 B b (Lib.byteCells l) w:=by
 obtain⟨_,_,S1,S2,k1,k2,k3,⟨k4,k5⟩,S3,S4,j1,j2,j3,⟨⟨j4,j5⟩,j6⟩,j7⟩:=hw
 have hl:(Lib.byteCells l).length=l.length:=by unfold Lib.byteCells;rw[Tv]
 have hat:Lib.BuilderAt 163 5 B b p (Lib.byteCells l) w:=by
  refine⟨(k1 b k4).1,.slice A l.length cap,k5,⟨by rw[hl];omega,?_⟩,?_⟩
  ·rw[hl]
   rcases j5 with j5|⟨g,c,cur,e1,e2,e3⟩
   ·exact .inl j5
   ·refine .inr ⟨g,c,cur,e1,?_,e3⟩
    injection e1 with e1
    exact(k2 g (j1 g (j6 _ e1))).1
  ·intro e
   cases A with
   |none=>cases e
   |some a=>
    simp only[Value.ownBlock,Ru]at e
    have:=j6 a rfl
    rw[e]at this
    exact k3 b k4 (j1 b this)
 rcases hp with rfl|rfl
 ·exact .inl hat
 ·exact .inr hat
theorem Ov(hp:p=.pointer none\/p=.pointer (some ⟨b,0,none⟩))(hw:St B w0 (bdP b p A cap l H) w):
 Calls Tryz.prog 117 [.pointer (some ⟨b,0,none⟩)].toArray w (Post B w0 λv K=>v=strV l/\K=[]):=by
 refine(Tryz.Builder_String_any B b l w (YsM hp hw) hw.le).mono ?_
 rintro e w' ⟨rfl,hb⟩
 exact⟨_,[],rfl,⟨hw.below.trans hb,RE hw.le hb.size,trivial⟩,rfl,rfl⟩
theorem QV{n:Int}(h:0<=n/\n<10000):(Lib.itoa n).length<=4:=by
 rw[Yh7 h.1];exact YqQ (by omega)
theorem WZ{w:List UInt8}:∀{l:List Int},(∀n∈l,0<=n/\n<10000)->(X8 w l).length<=w.length+5*l.length
 |[],_=>by simp[X8]
 |n::l,h=>by
  have ih:=WZ (w:=w) (l:=l) λm hm=>h m (TB _ hm)
  have h1:=QV (h n TA)
  unfold X8 at ih⊢
  simp only[TR,Tj,TS]at ih⊢
  omega
theorem Yat(w:List UInt8)(l:List Int)(n:Int):X8 w (l++[n])=X8 w l++([32]++Lib.itoa n):=by
 unfold X8;simp
theorem Ye8(word:List UInt8)(l:List Int)(h:∀n∈l,0<=n/\n<10000)(h5:l.length<=100)(hwd:word.length<=100)(ht:TabsB B w0)(hr:Rd B w0 H A (l.flatMap numF))(hw:St B w0 H w):
 Calls Tryz.prog 127 [strV word,.slice A l.length cap].toArray w (Post B w0 λv K=>v=strV (XM word l)/\K=H):=by
 refine Yc Tryz.func127 Tryz.ntmps127 rfl rfl hw ?_
 repeat'(first|refine zgb ?_|fail)
 refine Yi (λ(i:Nat)=>[(9,.int .i64 i),(8,.int .i64 l.length),(7,.slice A l.length cap),(0,strV (X8 word (l.take i)))]) (λ_=>H) (λi=>i<=l.length) (λi=>l.length-i) 0 (Tu _) ?_ (λw hw=>hw) ?_
 ·have e0:X8 word (l.take 0)=word:=by simp[X8]
  rw[e0]
  exact zu
 intro i hi K hK
 have hbl:=WZ (w:=word) (l:=l.take i) λn hn=>h n (SU hn)
 have hlt0:(l.take i).length<=100:=by rw[TD];omega
 by_cases hlt:i<l.length
 ·obtain⟨n,hn⟩:∃n,l[i]? =some n:=⟨_,Ta hlt⟩
  have hnb:=h n (Tf hn)
  have hil:=QV hnb
  repeat'(first|((first|apply Ya YeJ|apply Yb YeJ);exact za;exact rfl;exactλ_ hw=>(YaK n (by omega) (by omega) ht hw))|(apply JN [32] (Lib.itoa n);(iterate 3 exact rfl);(show 1+_<=_;omega))|(apply JN (X8 word (l.take i)) ([32]++Lib.itoa n);(iterate 3 exact rfl);(rw[Tj];show _+(1+_)<=_;omega))|refine zgd ?_|(refine zge ?_ ?_<;>intro _<;>try exact zo)|fail)
  apply hK (i+1)
  ·show i+1<=l.length
   omega
  ·omega
  ·rw[TF,hn,RI,Yat]
   exact zu
  ·exactλw hw=>hw
 ·skip
  repeat'(first|(apply JN (X8 word (l.take i)) [10];(iterate 3 exact rfl);(show _+1<=_;omega))|refine zgc ?_|(refine zge ?_ ?_<;>intro _<;>try exact zo)|fail)
  apply Yd;exact rfl;exact rfl
  rw[show i=l.length by omega,TY]
  exact⟨rfl,rfl⟩
def Z6(s:Sch)(i:Nat):List UInt8:=XM wordS [s.len,s.off]++(s.cells.take i).flatMap λc=>XM wordC (nums c)
theorem YbG{s:Sch}{i:Nat}(h:i<s.cells.length):Z6 s (i+1)=Z6 s i++XM wordC (nums (Yo s i)):=by
 unfold Z6
 rw[TF,Y2 h,RI,TV,TX]
 simp
theorem Zq{w:List UInt8}{l:List Int}(h:∀n∈l,0<=n/\n<10000):(XM w l).length<=w.length+5*l.length+1:=by
 unfold XM
 have:=WZ (w:=w) h
 rw[Tj]
 show _+1<=_
 omega
theorem Qs{s:Sch}(h:Frm s):∀i,i<=s.cells.length->(Z6 s i).length<=100+40*i
 |0,_=>by
  have h1:=Zq (w:=wordS) (YaH h).1
  unfold Z6
  simp only[Nl,SZ,TM]
  have:wordS.length=8:=rfl
  simp only[TS,RD]at h1
  omega
 |i+1,hi=>by
  have ih:=Qs h i (by omega)
  have h1:=Zq (w:=wordC) ((YaH h).2 _ (JQ (s:=s) (i:=i) (by omega)))
  rw[YbG (by omega),Tj]
  have:wordC.length=4:=rfl
  have h2:(nums (Yo s i)).length=5:=rfl
  omega
theorem YpJ(s:SchM)(ht:TabsB B w0)(hr:Rd B w0 [] s.A (s.cells.flatMap celF))(hl:s.cells.length<=1000000000000)(hw:St B w0 [] w):
 Calls Tryz.prog 40 [s.val].toArray w (Post B w0 λv _=>v=.tuple #[strV (XO s.sch).1,.int .i64 (XO s.sch).2]):=by
 refine Yc Tryz.func40 Tryz.ntmps40 rfl rfl hw ?_
 have e1:s.sch.cells=s.cells:=rfl
 cases hf:Xz s.sch with
 |false=>
  repeat'(first|((first|apply Ya Yk9|apply Yb Yk9);exact za;exact rfl;exactλ_ hw=>(Yav (TU Value.bool hf) (λ_ hw=>YeY s hr.cons hl hw) hw))|refine zgd ?_|(refine zgh ?_;intro _)|fail)
  apply Yp;(iterate 3 exact rfl)
  rw[XO,Tm hf]
 |true=>
  have hfr:=ZJ.1 hf
  have hle:s.cells.length<=512:=hfr.few
  have hnm:=YaH hfr
  have hln1:=Zq (w:=wordS) hnm.1
  repeat'(first|((first|apply Ya Yk9|apply Yb Yk9);exact za;exact rfl;exactλ_ hw=>(Yav (TU Value.bool hf) (λ_ hw=>YeY s hr.cons hl hw) hw))|refine zgd ?_|(refine zgh ?_;intro _)|fail)
  rename_i gs gb gl
  have hrl:Rd B w0 [blk gl (.cells #[.int .i64 s.len,.int .i64 s.off] 3 (0,0)),blk gb (.cells (Value.agg #[.pointer none,.slice none 0 0]).cells 163 (0,0)),blk gs (.cells #[.int .i64 s.len,.int .i64 s.off,.slice s.A s.cells.length s.cap] 37 (0,0))] (some ⟨gl,0,none⟩) ([s.sch.len,s.sch.off].flatMap numF):=Rd.blk (cs:=#[.int .i64 s.len,.int .i64 s.off]) (.head _)
  first|apply Ya Yla|apply Yb Yla
  exact za
  exact rfl
  exactλ_ hw=>(Ye8 wordS [s.sch.len,s.sch.off] hnm.1 (by show 2<=100;decide) (by decide) ht hrl hw)
  apply XL (bdP gb (.pointer none) none 0 [] [blk gs (.cells #[.int .i64 s.len,.int .i64 s.off,.slice s.A s.cells.length s.cap] 37 (0,0))])
  ·unfold bdP
   intro w hw
   have h5:St B w0 [blk gb (.cells (Value.agg #[.pointer none,.slice none 0 0]).cells 163 (0,0)),blk gs (.cells #[.int .i64 s.len,.int .i64 s.off,.slice s.A s.cells.length s.cap] 37 (0,0))] w:=by
    revert w
    exact zk
   exact(h5.nilSlice _ _).perm (.swap _ _ _)
  apply Yh _ YeD
  exact za
  exact rfl
  exactλ_ hw=>(J2 gb _ (.inl rfl) none 0 [] (XM wordS [s.sch.len,s.sch.off]) (by simp only[RD];have:wordS.length=8:=rfl;simp only[TS,RD]at hln1;omega) (hw))
  rintro _ _ ⟨rfl,A1,cap1,rfl⟩
  unfold bdP
  repeat'(first|refine zgb ?_|fail)
  refine Yi (λ(z:Nat×Option Addr×Nat)=>[(21,.int .i64 z.1),(20,.int .i64 s.cells.length),(19,.slice s.A s.cells.length s.cap),(4,.pointer (some ⟨gb,0,none⟩))]) (λz=>bdP gb (.pointer (some ⟨gb,0,none⟩)) z.2.1 z.2.2 (Z6 s.sch z.1) [blk gs (.cells #[.int .i64 s.len,.int .i64 s.off,.slice s.A s.cells.length s.cap] 37 (0,0))]) (λz=>z.1<=s.cells.length) (λz=>s.cells.length-z.1) (0,A1,cap1) (Tu _) ?_ ?_ ?_
  ·exact zu
  ·have e0:Z6 s.sch 0=[]++XM wordS [s.sch.len,s.sch.off]:=by unfold Z6;simp
   rw[e0]
   unfold bdP
   exactλw hw=>hw
  rintro⟨i,A2,cap2⟩ hi K hK
  dsimp only at hi⊢
  have htl:=Qs hfr i hi
  by_cases hlt:i<s.cells.length
  ·have hget:s.cells[i]? =some (Yo s.sch i):=Y2 (s:=s.sch) hlt
   have hnc:=hnm.2 _ (JQ (s:=s.sch) hlt)
   have hln:=Zq (w:=wordC) hnc
   have hr':Rd B w0 (bdP gb (.pointer (some ⟨gb,0,none⟩)) A2 cap2 (Z6 s.sch i) [blk gs (.cells #[.int .i64 s.len,.int .i64 s.off,.slice s.A s.cells.length s.cap] 37 (0,0))]) s.A (s.cells.flatMap celF):=hr.cons.cons.cons
   repeat'(first|((first|apply Ya YoS|apply Yb YoS);exact za;exact rfl;exactλ_ hw=>(Q9 _ hw))|(apply QA T (e:=3);(iterate 3 exact rfl))|refine zgd ?_|(refine zge ?_ ?_<;>intro _<;>try exact zo)|(refine zgh ?_;intro _)|fail)
   rename_i gc ga
   have hra:∀X,Rd B w0 (blk ga (.cells (celF (Yo s.sch i)).toArray 173 (0,0))::X) (some ⟨ga,0,none⟩) ((nums (Yo s.sch i)).flatMap numF):=λX=>Rd.blk (cs:=(celF (Yo s.sch i)).toArray) (.head _)
   first|apply Ya Yla|apply Yb Yla
   exact za
   exact rfl
   exactλ_ hw=>(Ye8 wordC (nums (Yo s.sch i)) hnc (by show 5<=100;decide) (by decide) ht (hra _) hw)
   apply XL (bdP gb (.pointer (some ⟨gb,0,none⟩)) A2 cap2 (Z6 s.sch i) [blk gs (.cells #[.int .i64 s.len,.int .i64 s.off,.slice s.A s.cells.length s.cap] 37 (0,0))])
   ·exactλw hw=>hw.tail.tail
   have h5n:(nums (Yo s.sch i)).length=5:=rfl
   have h4w:wordC.length=4:=rfl
   apply Yh _ YeD
   exact za
   exact rfl
   exactλ_ hw=>(J2 gb _ (.inr rfl) A2 cap2 (Z6 s.sch i) (XM wordC (nums (Yo s.sch i))) (by omega) (hw))
   rintro _ _ ⟨rfl,A3,cap3,rfl⟩
   rw[<-YbG hlt]
   repeat'(first|refine zgc ?_|fail)
   apply hK (i+1,A3,cap3)
   ·show i+1<=s.cells.length
    omega
   ·dsimp only;omega
   ·exact zu
   ·exactλw hw=>hw
  ·repeat'(first|refine zgc ?_|(refine zge ?_ ?_<;>intro _<;>try exact zo)|fail)
   apply Yh _ YoR
   exact za
   exact rfl
   exactλ_ hw=>(Ov (l:=Z6 s.sch i) (.inr rfl) (hw))
   rintro _ _ ⟨rfl,rfl⟩
   repeat'(first|refine zga ?_|fail)
   apply Yp;(iterate 3 exact rfl)
   rw[XO,Td (by simp[hf])]
   rw[show i=s.sch.cells.length from(by have:s.sch.cells.length=s.cells.length:=rfl;omega),show Z6 s.sch s.sch.cells.length=YdI s.sch from(by unfold Z6 YdI;rw[TY])]
theorem Wx(s:SchM)(ht:TabsB B w0)(hr:Rd B w0 H s.A (s.cells.flatMap celF))(hl:s.cells.length<=1000000000000)(hw:St B w0 H w):
 Calls Tryz.prog 40 [s.val].toArray w (Post B w0 λv K=>v=.tuple #[strV (XO s.sch).1,.int .i64 (XO s.sch).2]/\K=H):=
 W3 hw (YpJ s (ht.here hw) (hr.here hw) hl (St.start w))
def OutS(H:List HP)(R:Sch×Int)(v:Value)(K:List HP):Prop:=∃A cap,v=.tuple #[.agg #[.int .i64 R.1.len,.int .i64 R.1.off,.slice A R.1.cells.length cap],.int .i64 R.2]/\K=cels A cap R.1.cells::H
variable {H:List HP}
theorem Ux{R:Sch×Int}{v:Value}(e:Int)(hR:R=(Zs,e))(hv:v=.tuple #[.agg #[.int .i64 0,.int .i64 0,.slice none 0 0],.int .i64 e]):OutS H R v (cels none 0 []::H):=⟨none,0,by rw[hR];exact hv,by rw[hR];rfl⟩
theorem Jl(l:List Cel)(hlen:l.length<=1000000){A:Option Addr}{cap B:Nat}{w0:World}{w:World}(hr:Rd B w0 H A (l.flatMap celF))(hw:St B w0 H w):
 Calls Tryz.prog 202 [.slice A l.length cap].toArray w (Post B w0 λv K=>∃A' cap',v=.slice A' l.length cap'/\K=cels A' cap' l::H):=by
 cases A with
 |none=>
  have hl:l=[]:=by
   cases l with
   |nil=>rfl
   |cons x l=>
    obtain⟨g,o,e,_⟩:=hr w hw 0 _ rfl
    cases e
  subst hl
  refine Yc Tryz.func202 Tryz.ntmps202 rfl rfl hw ?_
  repeat'(first|(apply YW;(iterate 3 exact rfl))|refine zgb ?_|fail)
  apply XT 64 5;apply Yd;exact rfl;exact rfl;exact⟨none,0,rfl,rfl⟩
 |some a=>
  refine Yc Tryz.func202 Tryz.ntmps202 rfl rfl hw ?_
  repeat'(first|(apply YW;(iterate 3 exact rfl))|(apply Xe T;exact rfl;exact rfl;intro g2)|refine zgb ?_|fail)
  apply XA T (f:=celF) (l2:=l) (e:=64) (size:=5) (xs:=[]);(iterate 3 exact rfl);exact hr.cons;exact(λ_=>rfl);exact(λ_=>rfl);exact rfl;(intro _ _;exact zd);omega;intro A' cap'
  repeat'(first|refine zga ?_|fail)
  rw[Ry,TK]
  apply Yd;exact rfl;exact rfl;exact⟨A',cap',rfl,rfl⟩
theorem Yc1{α:Type}(p:α->Bool):∀(l:List α) (k:Int),(l.filter (λa=>!p a)=l/\Yn p l k= -1)\/∃j,j<l.length/\Yn p l k=k+j/\(l.take j).filter (λa=>!p a)=l.take j/\∃a,l[j]? =some a/\p a=true
 |[],_=>.inl ⟨rfl,rfl⟩
 |a::l,k=>by
  unfold Yn
  cases h:p a with
  |true=>exact .inr ⟨0,by simp,by simp,rfl,a,rfl,h⟩
  |false=>
   rw[Td (by decide)]
   have hn:(!p a)=true:=by rw[h];rfl
   rcases Yc1 p l (k+1)with⟨h1,h2⟩|⟨j,h1,h2,h3,b,h4,h5⟩
   ·exact .inl ⟨by rw[Su,Tm hn,h1],h2⟩
   ·refine .inr ⟨j+1,by simp only[TS];omega,by rw[h2];omega,?_,b,h4,h5⟩
    rw[NL,Su,Tm hn,h3]
variable {A:Option Addr}{cap B:Nat}{w0 w:World}{H:List HP}
theorem Yc4(p:Cel->Bool)(l:List Cel)(f:Nat)(cs:List Value)(hen:∀xs w,(callFunc f xs).run Tryz.prog w=.ok (.enter f xs) w)(hlen:l.length<=1000)(hr:Rd B w0 H A (l.flatMap celF))
 (hp:∀a∈l,∀w,St B w0 H w->Calls Tryz.prog f ([celV a]++cs).toArray w (Post B w0 λv K=>v=.bool (p a)/\K=H)) (hw:St B w0 H w):
 Calls Tryz.prog 113 [.slice A l.length cap,.func (.func f) #[] cs.toArray].toArray w (Post B w0 λv K=>v=.int .i64 (Yn p l 0)/\K=H):=by
 refine Yc Tryz.func113 Tryz.ntmps113 rfl rfl hw ?_
 repeat'(first|refine zgb ?_|fail)
 refine Yi (λ(k:Nat)=>[(8,.int .i64 k),(7,.int .i64 l.length),(0,.slice A l.length cap),(1,.func (.func f) #[] cs.toArray)]) (λ_=>H) (λk=>k<=l.length/\Yn p l 0=Yn p (l.drop k) k) (λk=>l.length-k) 0 ⟨Tu _,by simp⟩ ?_ (λw hw=>hw) ?_
 ·exact zu
 rintro k ⟨hk,hi⟩ K hK
 by_cases hlt:k<l.length
 ·obtain⟨a,ha⟩:∃a,l[k]? =some a:=⟨_,Ta hlt⟩
  have hpa:=hp a (Tf ha)
  rw[JA p l ha]at hi
  repeat'(first|((first|apply Yz (cs:=cs));exact rfl;exact hen;exact za;exact rfl;exactλ_ hw=>hpa _ hw)|refine zgd ?_|(refine zge ?_ ?_<;>intro _<;>try exact zo)|fail)
  cases hpv:p a
  ·rw[hpv]at hi
   repeat'(first|refine zgc ?_|fail)
   apply hK (k+1)
   ·exact⟨by omega,hi⟩
   ·omega
   ·exact zu
   ·exactλw hw=>hw
  ·rw[hpv]at hi
   repeat'(first|refine zgd ?_|fail)
   apply Yd;exact rfl;exact rfl
   exact⟨by rw[hi];rfl,rfl⟩
 ·repeat'(first|refine zgc ?_|(refine zge ?_ ?_<;>intro _<;>try exact zo)|fail)
  apply Yd;exact rfl;exact rfl
  rw[hi,TZ (by omega)]
  exact⟨rfl,rfl⟩
structure Kc where
 i:Nat
 j:Nat
 M:List Cel
theorem Ul(p:Cel->Bool)(l:List Cel)(f:Nat)(cs:List Value)(hen:∀xs w,(callFunc f xs).run Tryz.prog w=.ok (.enter f xs) w)(hlen:l.length<=1000)
 (hp:∀a∈l,∀(X:List HP) w,St B w0 (X++H) w->Calls Tryz.prog f ([celV a]++cs).toArray w (Post B w0 λv K=>v=.bool (p a)/\K=X++H)) (hw:St B w0 (cels A cap l::H) w):
 Calls Tryz.prog 207 [.slice A l.length cap,.func (.func f) #[] cs.toArray].toArray w (Post B w0 λv K=>v=.slice A (l.filter λa=>!p a).length cap/\K=cels A cap (l.filter λa=>!p a)::H):=by
 refine Yc Tryz.func207 Tryz.ntmps207 rfl rfl hw ?_
 refine Qw (e:=64) (size:=5) (A:=A) (xs:=l.flatMap celF) (k:=l.length) (cap:=cap) TA λhcap=>?_
 have hif:=λ{w:World}(hw:St B w0 (cels A cap l::H) w)=>Yc4 p l f cs hen hlen (cap:=cap) (.sl TA) (λa ha w hw=>hp a ha [cels A cap l] w hw) hw
 rcases Yc1 p l 0 with⟨h1,h2⟩|⟨i0,h1,h2,h3,a0,h4,h5⟩
 ·rw[h2]at hif
  rw[h1]
  repeat'(first|((first|apply Ya YeC|apply Yb YeC);exact za;exact rfl;exactλ_ hw=>(hif hw))|refine zgb ?_|(refine zge ?_ ?_<;>intro _<;>try exact zo)|fail)
  apply Yd;exact rfl;exact rfl;exact⟨rfl,rfl⟩
 rw[h2,Int.zero_add]at hif
 repeat'(first|((first|apply Ya YeC|apply Yb YeC);exact za;exact rfl;exactλ_ hw=>(hif hw))|refine zgc ?_|(refine zge ?_ ?_<;>intro _<;>try exact zo)|fail)
 refine Yi (λ(z:Kc)=>[(6,.int .i64 z.j),(5,.int .i64 z.i),(0,.slice A z.M.length cap),(1,.func (.func f) #[] cs.toArray)]) (λz=>cels A cap z.M::H) (λz=>z.M.length=l.length/\z.i<z.j/\z.j<=l.length/\z.M.take z.i=(l.take z.j).filter (λa=>!p a)/\z.M.drop z.j=l.drop z.j) (λz=>l.length-z.j) ⟨i0,i0+1,l⟩ ⟨rfl,by simp only;omega,by simp only;omega,?_,rfl⟩ ?_ (λw hw=>hw) ?_
 ·simp only
  rw[TF,h4,Rj,h3]
  simp[h5]
 ·exact zu
 rintro⟨i,j,M⟩ ⟨hM,hij,hj,ht,hd⟩ K hK
 simp only at hM hij hj ht hd⊢
 unfold cels
 by_cases hlt:j<l.length
 ·obtain⟨a,ha⟩:∃a,l[j]? =some a:=⟨_,Ta hlt⟩
  have hMa:M[j]? =some a:=by
   have e1:(M.drop j)[0]? =(l.drop j)[0]? :=by rw[hd]
   rw[RB,RB,SQ,ha]at e1
   exact e1
  have hpa:=λ{X1 X2:HP}{w:World}(hw:St B w0 (X1::X2::H) w)=>hp a (Tf ha) [X1,X2] w hw
  have hft:(l.take (j+1)).filter (λa=>!p a)=M.take i++(if p a=true then []else [a]):=by
   rw[TF,ha,Rj,ht]
   cases hpv:p a<;>simp[hpv]
  obtain⟨b,hb⟩:∃b,p a=b:=⟨_,rfl⟩
  rw[hb]at hft hpa
  have hd1:∀x:Cel,(M.set i x).drop (j+1)=l.drop (j+1):=λx=>by
   rw[List.drop_set_of_lt (by omega),<-S9,<-S9,hd]
  cases b with
  |true=>
   rw[Tm rfl,TM]at hft
   repeat'(first|((first|apply Yz (cs:=cs));exact rfl;exact hen;exact za;exact rfl;exactλ_ hw=>hpa hw)|refine zgd ?_|(refine zge ?_ ?_<;>intro _<;>try exact zo)|(refine zgh ?_;intro _)|fail)
   apply hK ⟨i,j+1,M⟩
   ·exact⟨hM,by simp only;omega,by simp only;omega,hft.symm,by simp only;rw[<-S9,<-S9,hd]⟩
   ·simp only;omega
   ·exact zu
   ·exactλw hw=>hw.tail
  |false=>
   rw[Td (by decide)]at hft
   have hMl:(M.set i a).length=M.length:=Rh
   repeat'(first|((first|apply Yz (cs:=cs));exact rfl;exact hen;exact za;exact rfl;exactλ_ hw=>hpa hw)|(apply XV T (f:=celF) (l:=M) (i:=i) (a:=a);(iterate 3 exact rfl);exact zd;exactλ_=>rfl;(iterate 3 exact rfl);omega)|refine zgd ?_|(refine zge ?_ ?_<;>intro _<;>try exact zo)|(refine zgh ?_;intro _)|fail)
   apply hK ⟨i+1,j+1,M.set i a⟩
   ·refine⟨by simp only;omega,by simp only;omega,by simp only;omega,?_,hd1 a⟩
    simp only
    rw[hft,TF,Sr (by omega),N6 (TL _)]
    rfl
   ·simp only;omega
   ·dsimp only
    rw[hMl]
    exact zu
   ·unfold cels
    dsimp only
    rw[hMl]
    exactλw hw=>hw.tail
 ·obtain rfl:j=l.length:=by omega
  clear hK
  rw[TY]at ht
  have hil:(l.filter λa=>!p a).length=i:=by rw[<-ht,TD];omega
  have hfl:(M.flatMap celF).take (i*5)=(l.filter λa=>!p a).flatMap celF:=by rw[<-XG (q:=5) (λ_=>rfl),ht]
  repeat'(first|(apply XS T (n':=M.length-i);(iterate 4 exact rfl);omega;omega)|refine zgc ?_|(refine zge ?_ ?_<;>intro _<;>try exact zo)|fail)
  rw[RZ]
  apply XL (sl 64 5 A i cap ((l.filter λa=>!p a).flatMap celF)::H)
  ·intro w hw
   refine hw.shrink (e:=64) (size:=5) (cap:=cap) (A:=A) (xs:=M.flatMap celF) (k:=M.length) (k':=i) (by omega) ?_
   rw[hfl]
   exact Upd.here _
  apply Qy T T2 (e:=64) (size:=5) (k:=i) (xs:=(l.filter λa=>!p a).flatMap celF);exact rfl;exact TA;(iterate 3 exact rfl);omega
  repeat'(first|(apply X7 T (l:=M) (n':=i);(iterate 4 exact rfl);omega;omega;omega)|refine zga ?_|fail)
  rw[Qr]
  repeat'(first|fail)
  apply Yd;exact rfl;exact rfl
  exact⟨by rw[hil],by rw[hil]⟩
abbrev nrs(A:Option Addr)(cap:Nat)(l:List Int):HP:=sl 3 1 A l.length cap (l.flatMap numF)
theorem Q7(A:Option Addr)(cap:Nat)(l:List Int)(z:Int):sl 3 1 A (l.length+1) cap (l.flatMap numF++#[Value.int .i64 z].toList)=nrs A cap (l++[z]):=by simp[nrs,List.flatMap_append,numF]
end Go.Proofs.YtaholidehobiiaaGreatDoor
namespace Go.Eng
open Go.RowKit
end Go.Eng
namespace Go.Proofs.YtaholidehobiiaaGreatDoor
open Go.RowKit Go.Eng Go.Nw
theorem Zt{f:Nat->Int}:∀{r i0 i:Nat},(∀k,i0<=k->k<i->f k=0)->i0<=i->i<i0+r->f i≠0->YH f r i0=((i:Int),f i)
 |0,i0,i,_,h1,h2,_=>by omega
 |r+1,i0,i,h0,h1,h2,h3=>by
  unfold YH
  by_cases e:i0=i
  ·subst e;rw[Td h3]
  ·rw[Tm (h0 i0 (TL _) (by omega))]
   exact Zt (λk hk1 hk2=>h0 k (by omega) hk2) (by omega) (by omega) h3
theorem ZS{f:Nat->Int}{r i0:Nat}(h:∀k,i0<=k->k<i0+r->f k=0):YH f r i0=(-1,0):=by
 have h2:=YL.2 h
 exact Prod.ext (YcP h2) h2
end Go.Proofs.YtaholidehobiiaaGreatDoor
namespace Go.Eng
open Go.ChangeShapes Go.WideShapes Go.ChangeAt Go.RowKit Go.Deep
def Old(W:World)(A:Option Addr)(xs:List Value):Prop:=∀j v,xs[j]? =some v->∃g o,A=some ⟨g,o,none⟩/\g<W.heap.size/\W.cell? ⟨g,o+j,none⟩=some v
variable {W:World}{A:Option Addr}
theorem Old.rd{H:List HP}{xs:List Value}(h:Old W A xs):Rd W.heap.size W H A xs:=Rd.old h
theorem YqO{a:Addr}{v:Value}(h:W.cell? a=some v):a.block<W.heap.size:=by
 unfold World.cell? at h
 rcases SB a.block W.heap.size with h1|h1
 ·exact h1
 ·rw[RG h1]at h;cases h
section
variable {H:Type}{enc:TypeId×Value->H}{P:Program}{W:World}{held:Bool}
variable {A:Option Addr}
theorem Ynm{α:Type}{f:α->List Value}{good:α->Prop}{t e q:Nat}{fuel:Nat}{len cap:Nat}{x:DataW H×List MemPlace}{spare:Nat->Bool}(ht:P.underlying t=some (.slice e))(hc:P.cellsOf e=q)(h0:0<q)
 (hel:∀n cs y,cs.length=q->DataW.trod enc P W 0 spare held n e cs=some y->∃a,cs=f a/\good a) (h:DataW.trod enc P W 0 spare held fuel t [.slice A len cap]=some x):
 ∃l:List α,l.length=len/\Old W A (l.flatMap f)/\(∀a∈l,good a)/\len<=maxLen/\(∀a∈l,(f a).length=q):=by
 rcases open_slice ht h with⟨h1,_⟩|⟨a,len',cap',m,n,D,Pl,h1,_,hl,hm,hmm,hxx,hx⟩
 ·injection h1 with h1 _
  injection h1 with h1 h2 h3
  subst h1 h2 h3
  exact⟨[],rfl,(λj v hv=>by simp at hv),(λa ha=>by cases ha),Tu _,(λa ha=>by cases ha)⟩
 ·injection h1 with h1 _
  injection h1 with h1 h2 h3
  subst h1 h2 h3
  have hle:len<=m:=by rw[hmm];split<;>omega
  rw[hc]at hx
  have key:∀i,i<len->∃b:α,W.cells? 0 (a.add (i*q)) q=some (f b)/\good b:=λi hi=>by
   obtain⟨cs',h2,h3⟩:=hx i (by omega)
   obtain⟨_,h5,_⟩:=World.cells?_some h2
   obtain⟨b,rfl,hb⟩:=hel n cs' _ h5 h3
   exact⟨b,h2,hb⟩
  obtain⟨l,hlen,hl2⟩:∃l:List α,l.length=len/\∀i b,l[i]? =some b->W.cells? 0 (a.add (i*q)) q=some (f b)/\good b:=by
   clear hx hmm hle h hl hm hxx
   induction len with
   |zero=>exact⟨[],rfl,λi b hb=>by simp at hb⟩
   |succ k ih=>
    obtain⟨l,h2,h3⟩:=ih (λi hi=>key i (by omega))
    obtain⟨b,h4⟩:=key k (by omega)
    refine⟨l++[b],by simp[h2],λi c hc=>?_⟩
    by_cases hi:i<l.length
    ·rw[Sl hi]at hc;exact h3 i c hc
    ·rw[Ro (by omega)]at hc
     have hi2:i-l.length=0:=by
      have:=(Ti.1 hc).1
      simp at this;omega
     rw[hi2]at hc
     obtain rfl:b=c:=by simpa using hc
     obtain rfl:i=k:=by omega
     exact h4
  have hfq:∀b∈l,(f b).length=q:=λb hb=>by
   obtain⟨i,hi⟩:=List.getElem?_of_mem hb
   exact(World.cells?_some (hl2 i b hi).1).2.1
  refine⟨l,hlen,λj v hv=>?_,λb hb=>?_,by omega,hfq⟩
  ·have hspl:∃i b,l[i]? =some b/\∃r,j=i*q+r/\r<q/\(f b)[r]? =some v:=by
    clear hlen hl2 key
    induction l generalizing j with
    |nil=>simp at hv
    |cons b l ih=>
     rw[TR]at hv
     have hb:=hfq b (by simp)
     by_cases hj:j<q
     ·rw[Sl (by omega)]at hv
      exact⟨0,b,rfl,j,by omega,hj,hv⟩
     ·rw[Ro (by omega),hb]at hv
      obtain⟨i,b',h5,r,h6,h7,h8⟩:=ih (λc hc=>hfq c (by simp[hc])) (j-q) hv
      exact⟨i+1,b',by simpa using h5,r,by rw[RX];omega,h7,h8⟩
   obtain⟨i,b,h5,r,rfl,h7,h8⟩:=hspl
   have h9:=(World.cells?_some (hl2 i b h5).1).2.2 r h7
   rw[h8,add_add]at h9
   obtain⟨ab,ao,spot⟩:=a
   have hs0:spot=none:=by
    have h10:=World.cell?_spot h9
    unfold Addr.add at h10
    split at h10
    ·exact h10
    ·rename_i hne
     have hi0:i<len:=by have:=(Ti.1 h5).1;omega
     have h11:=(World.cells?_some (hl2 0 l[0] (Ta (by omega))).1).2.2 0 h0
     rw[add_add,N4,Ry]at h11
     have hf0:((f l[0])[0]?).isSome=true:=by
      rw[Ta (by rw[hfq _ (List.getElem_mem _)];exact h0)];rfl
     cases hf1:(f l[0])[0]? with
     |none=>rw[hf1]at hf0;cases hf0
     |some u=>
      rw[hf1]at h11
      exact World.cell?_spot h11
   subst hs0
   refine⟨ab,ao,rfl,?_,?_⟩
   ·have:=YqO h9
    rw[Addr.add_lit]at this
    exact this
   ·rw[Addr.add_lit]at h9
    exact h9
  ·obtain⟨i,hi⟩:=List.getElem?_of_mem hb
   exact(hl2 i b hi).2
end
structure SlM(α:Type) where
 A:Option Addr
 cap:Nat
 xs:List α
def SlM.val{α:Type}(s:SlM α):Value:=.slice s.A s.xs.length s.cap
section
variable {H:Type}{enc:TypeId×Value->H}{P:Program}{W:World}{spare:Nat->Bool}{held:Bool}
def Opn(enc:TypeId×Value->H)(P:Program)(W:World)(spare:Nat->Bool)(held:Bool)(t:TypeId){α:Type}(f:α->List Value)(good:α->Prop):Prop:=
 ∀fuel cs y,DataW.trod enc P W 0 spare held fuel t cs=some y->∃a,cs=f a/\good a
variable {t:TypeId}{α β:Type}
theorem Yka{f:α->List Value}{good:α->Prop}{f':β->List Value}{good':β->Prop}(h:Opn enc P W spare held t f good)(g:α->β)(hf:∀a,f a=f' (g a))(hg:∀a,good a->good' (g a)):Opn enc P W spare held t f' good':=by
 intro fuel cs y hy
 obtain⟨a,h1,h2⟩:=h fuel cs y hy
 exact⟨g a,h1.trans (hf a),hg a h2⟩
theorem Ys1{k:IntKind}(ht:P.underlying t=some (.int k)):Opn enc P W spare held t (λz:Int=>[Value.int k z]) (λz=>(Lit.int k z).wf=true):=by
 intro fuel cs y hy
 obtain⟨m,rfl,rfl,hw⟩:=DataW.trod_int ht hy
 exact⟨m,rfl,hw⟩
structure SlG{α:Type}(W:World)(f:α->List Value)(good:α->Prop)(s:SlM α):Prop where
 old:Old W s.A (s.xs.flatMap f)
 good:∀a∈s.xs,good a
 len:s.xs.length<=maxLen
 cap:s.xs.length<=s.cap
theorem Yaa{e q:TypeId}{f:α->List Value}{good:α->Prop}(ht:P.underlying t=some (.slice e))(hc:P.cellsOf e=q)(h0:0<q)(h:Opn enc P W spare held e f good):Opn enc P W spare held t (λs:SlM α=>[s.val]) (SlG W f good):=by
 intro fuel cs y hy
 rcases open_slice ht hy with⟨rfl,_⟩|⟨a,len,cap,m,n,D,Pl,rfl,_,hlc,_⟩
 ·exact⟨⟨none,0,[]⟩,rfl,⟨(λj v hv=>by simp at hv),(λa ha=>by cases ha),Tu _,Tu _⟩⟩
 ·obtain⟨l,h1,h2,h3,h4,_⟩:=Ynm ht hc h0 (λn cs y _ hy=>h n cs y hy) hy
  subst h1
  exact⟨⟨some a,cap,l⟩,rfl,h2,h3,h4,hlc⟩
def FOpn(enc:TypeId×Value->H)(P:Program)(W:World)(spare:Nat->Bool)(held:Bool)(ts:List TypeId){α:Type}(f:α->List Value)(good:α->Prop):Prop:=
 ∀(n:Nat) (cs:List Value),cs.length=(ts.map P.cellsOf).sum->(∀i t,ts[i]? =some t->∃y,DataW.trod enc P W 0 spare held n t ((cs.drop ((ts.take i).map P.cellsOf).sum).take (P.cellsOf t))=some y)->∃a,cs=f a/\good a
theorem Yf4:FOpn enc P W spare held [] (λ_:Unit=>[]) (λ_=>True):=λn cs h _=>⟨(),RJ (by simpa using h),trivial⟩
variable {ts:List TypeId}
theorem XJ{f:α->List Value}{good:α->Prop}{g:β->List Value}{good':β->Prop}(h:Opn enc P W spare held t f good)(hs:FOpn enc P W spare held ts g good'):
 FOpn enc P W spare held (t::ts) (λx:α×β=>f x.1++g x.2) (λx=>good x.1/\good' x.2):=by
 intro n cs hl hx
 simp only[Re,NJ]at hl
 obtain⟨y,hy⟩:=hx 0 t rfl
 simp only[Nl,N5,List.sum_nil,List.drop_zero]at hy
 obtain⟨a,h1,h2⟩:=h n _ y hy
 obtain⟨b,h3,h4⟩:=hs n (cs.drop (P.cellsOf t)) (by simp;omega) (λi u hu=>by
  obtain⟨y,hy⟩:=hx (i+1) u (by simpa using hu)
  refine⟨y,?_⟩
  rw[S9]
  simpa using hy)
 exact⟨(a,b),by show cs=f a++g b;rw[<-h1,<-h3,SC],h2,h4⟩
def offs(P:Program):List TypeId->Nat->List Nat
 |[],_=>[]
 |t::ts,o=>o::offs P ts (o+P.cellsOf t)
theorem Yir(P:Program):∀(ts:List TypeId) (o i:Nat),i<ts.length->(offs P ts o)[i]? =some (o+((ts.take i).map P.cellsOf).sum)
 |[],_,_,h=>by simp at h
 |t::ts,o,0,_=>by simp[offs]
 |t::ts,o,i+1,h=>by
  rw[offs,NA,Yir P ts _ i (by simpa using h)]
  simp[Nat.add_assoc]
def YlX(P:Program)(t:TypeId)(ts:List TypeId):Bool:=
 match P.underlying t with
 |some (.struct fs)=>(fs.toList.map (·.type)==ts)&&(fs.toList.map (·.offset)==offs P ts 0)&&(P.cellsOf t==(ts.map P.cellsOf).sum)
 |_=>false
theorem YaQ{f:α->List Value}{good:α->Prop}(hB:YlX P t ts=true)(h:FOpn enc P W spare held ts f good):Opn enc P W spare held t f good:=by
 intro fuel cs y hy
 unfold YlX at hB
 cases hu:P.underlying t with
 |none=>rw[hu]at hB;cases hB
 |some d=>
  rw[hu]at hB
  cases d with
  |struct fs=>
   simp only[To,Nc]at hB
   obtain⟨⟨h1,h2⟩,h3⟩:=hB
   obtain⟨xs,n,_,_,hl,hn,hx⟩:=DataW.trod_struct hu hy
   refine h n cs (hl.trans h3) λi u hi=>?_
   have hlt:i<ts.length:=(Ti.1 hi).1
   have hlf:i<fs.toList.length:=by rw[<-h1]at hlt;simpa using hlt
   have hf:fs[i]? =some (fs.toList[i]):=by rw[<-Nr,Ta hlf]
   have ht:(fs.toList[i]).type=u:=by
    rw[<-h1,TE,Ta hlf]at hi
    simpa using hi
   have ho:(fs.toList[i]).offset=((ts.take i).map P.cellsOf).sum:=by
    have h5:=Yir P ts 0 i hlt
    rw[<-h2,TE,Ta hlf]at h5
    simpa using h5
   have h6:=hx i _ hf
   rw[ht,ho]at h6
   have hlx:i<xs.length:=by rw[hn];simpa using hlf
   exact⟨xs[i],by rw[h6,Ta hlx]⟩
  |_=>cases hB
theorem wf_i64{z:Int}(h:(Lit.int .i64 z).wf=true): -9223372036854775808<=z/\z<=9223372036854775807:=by
 simp only[Lit.wf,To,Tq]at h
 have e1:IntKind.min .i64= -9223372036854775808:=by decide
 have e2:IntKind.max .i64=9223372036854775807:=by decide
 omega
end
end Go.Eng
namespace Go.Proofs.YtaholidehobiiaaGreatDoor
open Go.ChangeShapes Go.WideShapes Go.ChangeAt Go.RowKit Go.Eng Go.Nw
section
variable {H:Type}{enc:TypeId×Value->H}{W:World}{spare:Nat->Bool}{held:Bool}
abbrev I64(z:Int):Prop:=(Lit.int .i64 z).wf=true
theorem op_i:Opn enc Tryz.prog W spare held 3 numF I64:=Ys1 Tryz.underlying3
theorem YlK:Opn enc Tryz.prog W spare held 24 (λs:SlM Int=>[s.val]) (SlG W numF I64):=Yaa (q:=1) Tryz.underlying24 (by kernel_rfl) (by decide) op_i
theorem Yrk:Opn enc Tryz.prog W spare held 22 (λs:SlM (SlM Int)=>[s.val]) (SlG W (λs:SlM Int=>[s.val]) (SlG W numF I64)):=Yaa (q:=1) Tryz.underlying22 (by kernel_rfl) (by decide) YlK
theorem Yrj:Opn enc Tryz.prog W spare held 140 lkF (λl=>I64 l.1/\I64 l.2.1/\I64 l.2.2):=
 Yka (YaQ (ts:=[3,3,3]) (by kernel_rfl) (XJ op_i (XJ op_i (XJ op_i Yf4)))) (λx=>(x.1,x.2.1,x.2.2.1)) (λ_=>rfl) (λ_ h=>⟨h.1,h.2.1,h.2.2.1⟩)
theorem YpF:Opn enc Tryz.prog W spare held 23 (λs:SlM Lk=>[s.val]) (SlG W lkF λl=>I64 l.1/\I64 l.2.1/\I64 l.2.2):=Yaa (q:=3) Tryz.underlying23 (by kernel_rfl) (by decide) Yrj
structure NetG(W:World)(n:NetM):Prop where
 nodes:I64 n.nodes
 pw:Old W n.pA (n.rows.flatMap rowF)
 rw_:∀r∈n.rows,Old W r.A (r.xs.flatMap numF)
 noise:I64 n.noise
 thr:I64 n.thr
 lk:Old W n.lA (n.links.flatMap lkF)
 mg:Old W n.mA (n.margin.flatMap numF)
 s1:n.rows.length<=9223372036854775807
 s2:∀r∈n.rows,r.xs.length<=9223372036854775807
 s3:n.links.length<=9223372036854775807
 s4:n.margin.length<=9223372036854775807
 w1:∀r∈n.rows,∀z∈r.xs,I64 z
 w2:∀l∈n.links,I64 l.1/\I64 l.2.1/\I64 l.2.2
 w3:∀z∈n.margin,I64 z
 c3:n.links.length<=n.lcap
 c4:n.margin.length<=n.mcap
theorem NetG.In{n:NetM}{K:List HP}(h:NetG W n):n.In W.heap.size W K:=⟨h.pw.rd,λr hr=>(h.rw_ r hr).rd,h.lk.rd,h.mg.rd,h.s1,h.s2,h.s3,h.s4⟩
def netF(n:NetM):List Value:=[.int .i64 n.nodes,.slice n.pA n.rows.length n.pcap,.int .i64 n.noise,.int .i64 n.thr,.slice n.lA n.links.length n.lcap,.slice n.mA n.margin.length n.mcap]
def Ysr(s:SlM Int):RowM:=⟨s.A,s.cap,s.xs⟩
theorem YjK(l:List (SlM Int)):(l.map Ysr).flatMap rowF=l.flatMap λs=>[s.val]:=by rw[List.flatMap_map];rfl
theorem maxL:maxLen<=9223372036854775807:=by decide
theorem Ys2:Opn enc Tryz.prog W spare held 26 netF (NetG W):=
 Yka (YaQ (ts:=[3,22,3,3,23,24]) (by kernel_rfl) (XJ op_i (XJ Yrk (XJ op_i (XJ op_i (XJ YpF (XJ YlK Yf4)))))))
  (λx=>⟨x.1,x.2.1.A,x.2.1.cap,x.2.1.xs.map Ysr,x.2.2.1,x.2.2.2.1,x.2.2.2.2.1.A,x.2.2.2.2.1.cap,x.2.2.2.2.1.xs,x.2.2.2.2.2.1.A,x.2.2.2.2.2.1.cap,x.2.2.2.2.2.1.xs⟩)
  (λx=>by simp[netF,numF,SlM.val])
  (λx h=>by
   obtain⟨h1,h2,h3,h4,h5,h6,_⟩:=h
   have hm:=maxL
   refine⟨h1,?_,?_,h3,h4,h5.old,h6.old,?_,?_,RE h5.len hm,RE h6.len hm,?_,h5.good,h6.good,h5.cap,h6.cap⟩
   ·rw[YjK];exact h2.old
   ·intro r hr
    obtain⟨s,hs,rfl⟩:=TG.1 hr
    exact(h2.good s hs).old
   ·rw[Tv];exact RE h2.len hm
   ·intro r hr
    obtain⟨s,hs,rfl⟩:=TG.1 hr
    exact RE (h2.good s hs).len hm
   ·intro r hr
    obtain⟨s,hs,rfl⟩:=TG.1 hr
    exact(h2.good s hs).good)
theorem Yui{r:Reach}{b0:Nat}{v:Value}{d:DataW H}{p:List MemPlace}(hv:Value.okWide Tryz.prog W r b0 26 v)(h:DataW.Trod enc Tryz.prog W 0 spare held 26 v d p):∃n:NetM,v=n.val/\NetG W n:=by
 obtain⟨cs,rfl,_⟩:=okWide_struct Tryz.underlying26 hv
 obtain⟨fuel,hf⟩:=h
 obtain⟨n,h1,h2⟩:=Ys2 fuel _ _ hf
 refine⟨n,?_,h2⟩
 have:cs=(netF n).toArray:=by rw[<-h1];simp[Value.cells]
 rw[this];rfl
end
open Go.ChangeShapes Go.WideShapes Go.ChangeAt Go.RowKit
section
variable {H:Type}{enc:TypeId×Value->H}{P:Program}
theorem Yao(hl:laidOutB P=true){W W':World}{sp:Nat->Bool}:∀{ts:List TypeId}{vs:List Value}{ds:List (DataW H)}{ps:List MemPlace},(ts.all λt=>P.readableRec t&&decide (t<P.types.size))=true->
 DataW.TrodAll enc P W 0 (λ_=>true) true ts vs ds ps->(∀p∈ps,W.sameAt W' p)->(∀p∈ps,sp p.block=true)->DataW.TrodAll enc P W' 0 sp true ts vs ds ps
 |[],[],[],_,_,h,_,_=>h
 |[],[],_::_,_,_,h,_,_=>h.elim
 |[],_::_,_,_,_,h,_,_=>h.elim
 |_::_,[],_,_,_,h,_,_=>h.elim
 |_::_,_::_,[],_,_,h,_,_=>h.elim
 |t::ts,v::vs,d::ds,ps,hr,h,hs,hp=>by
  obtain⟨p,q,h1,h2,rfl⟩:=h
  simp only[NV,To,Tq]at hr
  exact⟨p,q,WideElems.Trod_stays hl hr.1.1 hr.1.2 h1 (λx hx=>hs x (by simp[hx])) (λx hx=>hp x (by simp[hx])),Yao hl hr.2 h2 (λx hx=>hs x (by simp[hx])) (λx hx=>hp x (by simp[hx])),rfl⟩
theorem Ytn{f:Func}{s:ChangeSpec}{apart fresh handsOn again:Bool}{W W':World}{args:Array Value}{ds gs:List (DataW H)}{before:List MemPlace}{tb:TypeId}(hl:laidOutB P=true)
 (hrd:(f.params.toList.all λt=>P.readableRec t&&decide (t<P.types.size))=true) (hv:s.vars=[]) (hrt:f.resultTypes=#[tb]) (htb:P.underlying tb=some .bool)
 (hW:DataW.Whole enc P f.params.toList s.vars apart W args.toList ds gs before) (hb:Below W.heap.size W W')
 (hres:(s.fn H (ds++gs)).results=[.lit (.bool true)]) (hargs:(s.fn H (ds++gs)).args=ds) (hvars:(s.fn H (ds++gs)).vars=[]):
 s.post enc P f apart fresh handsOn again W args (.bool true) W':=by
 have hlt:∀p∈before,p.block<W.heap.size:=λp hp=>hW.lt p hp
 have hW0:=hW
 obtain⟨p,q,hA,hV,rfl,hz,hn⟩:=hW
 rw[hv]at hV
 have hq:gs=[]/\q=[]:=by
  cases gs with
  |nil=>exact⟨rfl,hV⟩
  |cons _ _=>exact hV.elim
 obtain⟨rfl,rfl⟩:=hq
 have hkeep:∀sp:Nat->Bool,(∀x∈p++[],sp x.block=true)->DataW.TrodAll enc P W' 0 sp true f.params.toList args.toList ds p:=λsp hsp=>
  Yao hl hrd hA (λx hx=>hb.same (hlt x (by simpa using hx))) (λx hx=>hsp x (by simpa using hx))
 have hR:∀(b:Nat) (sp:Nat->Bool) (hd:Bool),DataW.TrodAll enc P W' b sp hd f.resultTypes.toList ((Value.bool true).resultList f.resultTypes.size) (s.fn H (ds++[])).results []:=by
  intro b sp hd
  rw[hres,hrt]
  exact trodAll_mk1 (shut_bool htb true)
 have hok:=ok_one (P:=P) (W':=W') (f:=f) (v:=.bool true) hrt rfl (okWide_bool_mk htb true)
 have hold:∀x∈p++[],(λb=>decide (b<W.heap.size)) x.block=true:=λx hx=>by simpa using hlt x hx
 refine⟨ds,[],p++[],[],p,[],hW0,hR _ _ _,by rw[hargs];exact hkeep _ hold,by rw[hvars,hv];rfl,World.keptBut_mono (λx hx=>⟨hx,Or.inr (by simpa using hx)⟩) (hb.frame (·∈p++[])),λ_=>?_⟩
 refine⟨hok,_,_,([]++p)++[],⟨[]++p,[],trodAll_append (hkeep _ (λ_ _=>rfl)) (hR _ _ _),(show DataW.TrodVars enc P W' (λ_=>true) s.vars [] [] by rw[hv];rfl),rfl,?_,?_⟩,?_⟩
 ·intro b off hp
  have hin:MemPlace.cell b off∈p++[]:=by simpa using hp
  rw[hb.frozen (hlt _ hin)]
  exact hz b off hin
 ·intro ha
  simpa using hn ha
 ·intro x hx _
  simpa using hx
end
open Go.ChangeMaps (open_string)
def flwF(f:Flw):List Value:=[.int .i64 f.1,.int .i64 f.2.1,.int .i64 f.2.2.1,.int .i64 f.2.2.2.1,.int .i64 f.2.2.2.2.1,.int .i64 f.2.2.2.2.2]
section
variable {H:Type}{enc:TypeId×Value->H}{W:World}{spare:Nat->Bool}{held:Bool}
abbrev FlwG(f:Flw):Prop:=I64 f.1/\I64 f.2.1/\I64 f.2.2.1/\I64 f.2.2.2.1/\I64 f.2.2.2.2.1/\I64 f.2.2.2.2.2
theorem Yri:Opn enc Tryz.prog W spare held 53 flwF FlwG:=
 Yka (YaQ (ts:=[3,3,3,3,3,3]) (by kernel_rfl) (XJ op_i (XJ op_i (XJ op_i (XJ op_i (XJ op_i (XJ op_i Yf4))))))) (λx=>(x.1,x.2.1,x.2.2.1,x.2.2.2.1,x.2.2.2.2.1,x.2.2.2.2.2.1)) (λ_=>rfl) (λ_ h=>⟨h.1,h.2.1,h.2.2.1,h.2.2.2.1,h.2.2.2.2.1,h.2.2.2.2.2.1⟩)
theorem YpE:Opn enc Tryz.prog W spare held 27 (λs:SlM Flw=>[s.val]) (SlG W flwF FlwG):=Yaa (q:=6) Tryz.underlying27 (by kernel_rfl) (by decide) Yri
theorem Ys3{r:Reach}{b0:Nat}{v:Value}{d:DataW H}{p:List MemPlace}(hv:Value.okWide Tryz.prog W r b0 27 v)(h:DataW.Trod enc Tryz.prog W 0 spare held 27 v d p):∃s:SlM Flw,v=s.val/\SlG W flwF FlwG s:=by
 obtain⟨a,len,cap,rfl⟩:=okWide_slice Tryz.underlying27 hv
 obtain⟨fuel,hf⟩:=h
 obtain⟨n,h1,h2⟩:=YpE fuel _ _ hf
 refine⟨n,?_,h2⟩
 injection h1
end
open Go.RowKit Go.Eng Go.Nw
def flwV(f:Flw):Value:=.agg #[.int .i64 f.1,.int .i64 f.2.1,.int .i64 f.2.2.1,.int .i64 f.2.2.2.1,.int .i64 f.2.2.2.2.1,.int .i64 f.2.2.2.2.2]
theorem YcT{l:List Flw}{i:Nat}(h:i<l.length):l[i]? =some (Y9 l i):=by
 unfold Y9;rw[Tt,Ta h];rfl
variable {B cap:Nat}{w0 w:World}{H:List HP}
theorem YjL(v nodes:Int)(gn:Nat)(hm:blk gn (.cells #[.int .i64 nodes] 3 (0,0))∈H)(hw:St B w0 H w):
 Calls Tryz.prog 238 [.int .i64 v,.pointer (some ⟨gn,0,none⟩)].toArray w (Post B w0 λu K=>u=.bool (insE v nodes)/\K=H):=by
 refine Yc Tryz.func238 Tryz.ntmps238 rfl rfl hw ?_
 repeat'(first|refine zgc ?_|(refine zgf ?_ ?_<;>intro _<;>try exact zo)|fail)
 all_goals(
  apply Yd;exact rfl;exact rfl
  first
   |exact⟨by rw[show insE v nodes=true from Tc (by omega)],rfl⟩
   |exact⟨by rw[show insE v nodes=false from Tn (by omega)],rfl⟩)
theorem Ybi(nodes:Int)(f:Flw)(hw:St B w0 H w):
 Calls Tryz.prog 147 [.int .i64 nodes,flwV f].toArray w (Post B w0 λv K=>v=.int .i64 (XD nodes f)/\K=H):=by
 refine Yc Tryz.func147 Tryz.ntmps147 rfl rfl hw ?_
 obtain⟨e,he⟩:∃e,XD nodes f=e:=⟨_,rfl⟩
 rw[he]
 by_cases hA:f.1<0\/255<f.1
 ·repeat'(first|(apply zg23;first|(refine zs52 ?_;intro _)|(refine zs53 ?_;intro _))|(apply zg29;(apply Ym;exact za;exact rfl))|refine zgd ?_|(refine zgf ?_ ?_<;>intro _<;>try exact zo)|fail)
  all_goals(
   apply Yj H
   ·exact zk
   apply Yd;exact rfl;exact rfl
   refine⟨?_,rfl⟩
   rw[<-he]
   unfold XD
   first
    |(rw[Tm (by first|exact .inl (by omega)|exact .inr (.inl (by omega))|exact .inr (.inr (.inl (by assumption)))|exact .inr (.inr (.inr (by assumption))))];done)
    |(rw[Td (by rintro(h|h|h|h)<;>first|omega|simp_all)]
      first
       |(rw[Tm (by omega)];done)
       |(rw[Td (by omega),Tm (by omega)];done)
       |(rw[Td (by omega),Td (by omega)];done)))
 ·repeat'(first|(apply zg23;first|(refine zs52 ?_;intro _)|(refine zs53 ?_;intro _))|(apply zg29;(apply Ym;exact za;exact rfl))|refine zgc ?_|(refine zgf ?_ ?_<;>intro _<;>try exact zo)|fail)
  rename_i gn gf _ _
  repeat'(first|((first|apply VR (cs:=[.pointer (some ⟨gn,0,none⟩)])|apply VP (cs:=[.pointer (some ⟨gn,0,none⟩)]));exact rfl;exact YtK;exact za;exact rfl;exactλ_ hw=>(YjL _ nodes gn zm hw);all_goals(intro hB;(try simp only[Tq,Rl]at hB);try exact zo))|refine zgd ?_|(refine zgf ?_ ?_<;>intro _<;>try exact zo)|fail)
  all_goals(
   apply Yj H
   ·exact zk
   apply Yd;exact rfl;exact rfl
   refine⟨?_,rfl⟩
   rw[<-he]
   unfold XD
   first
    |(rw[Tm (by first|exact .inl (by omega)|exact .inr (.inl (by omega))|exact .inr (.inr (.inl (by assumption)))|exact .inr (.inr (.inr (by assumption))))];done)
    |(rw[Td (by rintro(h|h|h|h)<;>first|omega|simp_all)]
      first
       |(rw[Tm (by omega)];done)
       |(rw[Td (by omega),Tm (by omega)];done)
       |(rw[Td (by omega),Td (by omega)];done)))
variable {A:Option Addr}
theorem Y5(nodes:Int)(l:List Flw)(hl:l.length<=9223372036854775807)(hr:Rd B w0 H A (l.flatMap flwF))(hw:St B w0 H w):
 Calls Tryz.prog 59 [.int .i64 nodes,.slice A l.length cap].toArray w (Post B w0 λv K=>v=.tuple #[.int .i64 (YE nodes l).1,.int .i64 (YE nodes l).2]/\K=H):=by
 refine Yc Tryz.func59 Tryz.ntmps59 rfl rfl hw ?_
 by_cases hn:nodes<2\/32<nodes
 ·have hE:YE nodes l=(-1,2):=by unfold YE;exact Tm hn
  rw[hE]
  repeat'(first|refine zgc ?_|(refine zgf ?_ ?_<;>intro _<;>try exact zo)|fail)
  all_goals(apply Yp;(iterate 3 exact rfl);exact⟨rfl,rfl⟩)
 by_cases h16:16<l.length
 ·have hE:YE nodes l=(-1,8):=by unfold YE;exact(Td hn).trans (Tm h16)
  rw[hE]
  repeat'(first|refine zgc ?_|(refine zgf ?_ ?_<;>intro _<;>try exact zo)|fail)
  apply Yp;(iterate 3 exact rfl);exact⟨rfl,rfl⟩
 have hE:YE nodes l=YH (Xo nodes l) l.length 0:=by unfold YE;exact(Td hn).trans (Td h16)
 rw[hE]
 repeat'(first|refine zgc ?_|(refine zgf ?_ ?_<;>intro _<;>try exact zo)|fail)
 refine Yi (λ(i:Nat)=>[(20,.int .i64 i),(19,.int .i64 l.length),(18,.slice A l.length cap),(0,.int .i64 nodes),(1,.slice A l.length cap)]) (λ_=>H) (λi=>i<=l.length/\∀k,k<i->Xo nodes l k=0) (λi=>l.length-i) 0 ⟨Tu _,λk hk=>absurd hk (Sv _)⟩ ?_ (λw hw=>hw) ?_
 ·exact zu
 rintro i ⟨hi,hall⟩ K hK
 by_cases hlt:i<l.length
 ·have hget:l[i]? =some (Y9 l i):=YcT hlt
  have hbad:Xo nodes l i≠0->YH (Xo nodes l) l.length 0=((i:Int),Xo nodes l i):=λh=>Zt (λk _ hk=>hall k hk) (Tu _) (by omega) h
  have hstep:Xo nodes l i=0->∀k,k<i+1->Xo nodes l k=0:=λh k hk=>by
   by_cases e:k=i
   ·rw[e];exact h
   ·exact hall k (by omega)
  by_cases he:XD nodes (Y9 l i)≠0
  ·have hf:Xo nodes l i=XD nodes (Y9 l i):=by unfold Xo;exact Tm he
   rw[hbad (by rw[hf];exact he),hf]
   repeat'(first|((first|apply Ya Yba|apply Yb Yba);exact za;exact rfl;exactλ_ hw=>(Ybi nodes (Y9 l i) hw))|refine zgd ?_|(refine zge ?_ ?_<;>intro _<;>try exact zo)|(refine zgh ?_;intro _)|fail)
   apply Yj H
   ·exact zk
   apply Yp;(iterate 3 exact rfl);exact⟨rfl,rfl⟩
  have he0:=RL.1 he
  have hck:=λ{H':List HP}{w:World}(hw:St B w0 H' w)=>Ybi nodes (Y9 l i) hw
  rw[he0]at hck
  rcases NQ i with h0|h0
  ·subst h0
   have hf:Xo nodes l 0=0:=by unfold Xo;rw[Td he,Td (by omega)]
   repeat'(first|((first|apply Ya Yba|apply Yb Yba);exact za;exact rfl;exactλ_ hw=>(hck hw))|refine zgd ?_|(refine zgf ?_ ?_<;>intro _<;>try exact zo)|(refine zgh ?_;intro _)|fail)
   apply hK (0+1)
   ·exact⟨by omega,hstep hf⟩
   ·omega
   ·exact zu
   ·exact zk
  have hget2:l[((i:Int)-1).toNat]? =some (Y9 l (i-1)):=by
   rw[show((i:Int)-1).toNat=i-1 by omega]
   exact YcT (by omega)
  by_cases hle:(Y9 l i).1<=(Y9 l (i-1)).1
  ·have hf:Xo nodes l i=5:=by unfold Xo;rw[Td he,Tm ⟨h0,hle⟩]
   rw[hbad (by rw[hf];decide),hf]
   repeat'(first|((first|apply Ya Yba|apply Yb Yba);exact za;exact rfl;exactλ_ hw=>(hck hw))|refine zgd ?_|(refine zgf ?_ ?_<;>intro _<;>try exact zo)|(refine zgh ?_;intro _)|fail)
   apply Yj H
   ·exact zk
   apply Yp;(iterate 3 exact rfl);exact⟨rfl,rfl⟩
  ·have hf:Xo nodes l i=0:=by unfold Xo;rw[Td he,Td (λh=>hle h.2)]
   repeat'(first|((first|apply Ya Yba|apply Yb Yba);exact za;exact rfl;exactλ_ hw=>(hck hw))|refine zgd ?_|(refine zgf ?_ ?_<;>intro _<;>try exact zo)|(refine zgh ?_;intro _)|fail)
   apply hK (i+1)
   ·exact⟨by omega,hstep hf⟩
   ·omega
   ·exact zu
   ·exact zk
 ·repeat'(first|refine zgc ?_|(refine zge ?_ ?_<;>intro _<;>try exact zo)|fail)
  rw[show i=l.length by omega]at hall
  rw[ZS λk _ hk=>hall k (by omega)]
  apply Yp;(iterate 3 exact rfl);exact⟨rfl,rfl⟩
theorem Yc5(p:Flw->Bool)(l:List Flw)(f:Nat)(cs:List Value)(hen:∀xs w,(callFunc f xs).run Tryz.prog w=.ok (.enter f xs) w)(hlen:l.length<=1000)(hr:Rd B w0 H A (l.flatMap flwF))
 (hp:∀a∈l,∀w,St B w0 H w->Calls Tryz.prog f ([flwV a]++cs).toArray w (Post B w0 λv K=>v=.bool (p a)/\K=H)) (hw:St B w0 H w):
 Calls Tryz.prog 111 [.slice A l.length cap,.func (.func f) #[] cs.toArray].toArray w (Post B w0 λv K=>v=.int .i64 (Yn p l 0)/\K=H):=by
 refine Yc Tryz.func111 Tryz.ntmps111 rfl rfl hw ?_
 repeat'(first|refine zgb ?_|fail)
 refine Yi (λ(k:Nat)=>[(8,.int .i64 k),(7,.int .i64 l.length),(0,.slice A l.length cap),(1,.func (.func f) #[] cs.toArray)]) (λ_=>H) (λk=>k<=l.length/\Yn p l 0=Yn p (l.drop k) k) (λk=>l.length-k) 0 ⟨Tu _,by simp⟩ ?_ (λw hw=>hw) ?_
 ·exact zu
 rintro k ⟨hk,hi⟩ K hK
 by_cases hlt:k<l.length
 ·obtain⟨a,ha⟩:∃a,l[k]? =some a:=⟨_,Ta hlt⟩
  have hpa:=hp a (Tf ha)
  rw[JA p l ha]at hi
  repeat'(first|((first|apply Yz (cs:=cs));exact rfl;exact hen;exact za;exact rfl;exactλ_ hw=>hpa _ hw)|refine zgd ?_|(refine zge ?_ ?_<;>intro _<;>try exact zo)|fail)
  cases hpv:p a
  ·rw[hpv]at hi
   repeat'(first|refine zgc ?_|fail)
   apply hK (k+1)
   ·exact⟨by omega,hi⟩
   ·omega
   ·exact zu
   ·exactλw hw=>hw
  ·rw[hpv]at hi
   repeat'(first|refine zgd ?_|fail)
   apply Yd;exact rfl;exact rfl
   exact⟨by rw[hi];rfl,rfl⟩
 ·repeat'(first|refine zgc ?_|(refine zge ?_ ?_<;>intro _<;>try exact zo)|fail)
  apply Yd;exact rfl;exact rfl
  rw[hi,TZ (by omega)]
  exact⟨rfl,rfl⟩
theorem YjJ(f:Flw)(id:Int)(gi:Nat)(hm:blk gi (.cells #[.int .i64 id] 3 (0,0))∈H)(hw:St B w0 H w):
 Calls Tryz.prog 112 [flwV f,.pointer (some ⟨gi,0,none⟩)].toArray w (Post B w0 λv K=>v=.bool (decide (f.1=id))/\K=H):=by
 refine Yc Tryz.func112 Tryz.ntmps112 rfl rfl hw ?_
 by_cases h:f.1=id
 ·rw[Tc h]
  repeat'(first|refine zgb ?_|(refine zge ?_ ?_<;>intro _<;>try exact zo)|(refine zgh ?_;intro _)|fail)
  all_goals(apply Yl;apply Yd;exact rfl;exact rfl;exact⟨rfl,rfl⟩)
 ·rw[Tn h]
  repeat'(first|refine zgb ?_|(refine zge ?_ ?_<;>intro _<;>try exact zo)|(refine zgh ?_;intro _)|fail)
  all_goals(apply Yl;apply Yd;exact rfl;exact rfl;exact⟨rfl,rfl⟩)
theorem YjI(l:List Flw)(id:Int)(hlen:l.length<=1000)(hr:Rd B w0 H A (l.flatMap flwF))(hw:St B w0 H w):
 Calls Tryz.prog 31 [.slice A l.length cap,.int .i64 id].toArray w (Post B w0 λv K=>v=.int .i64 (Z8 l id)/\K=H):=by
 refine Yc Tryz.func31 Tryz.ntmps31 rfl rfl hw ?_
 repeat'(first|(apply zg29;(apply Ym;exact za;exact rfl))|refine zga ?_|(refine zgh ?_;intro _)|fail)
 rename_i gi
 first|apply Ya Yk7|apply Yb Yk7
 exact za
 exact rfl
 exactλ_ hw=>(Yc5 (λf=>decide (f.1=id)) l 112 [.pointer (some ⟨gi,0,none⟩)] Ytv hlen hr.cons (λf _ w hw=>YjJ f id gi zm hw) hw)
 repeat'(first|refine zga ?_|fail)
 apply Yj H
 ·exact zk
 apply Yd;exact rfl;exact rfl
 exact⟨rfl,rfl⟩
theorem Ygm(s:SchM)(f:Flw)(gs:Nat)(hs:1<=s.len/\s.len<=512)(hf:1<=f.2.2.2.1/\f.2.2.2.1<=512)(hm:blk gs (.cells #[.int .i64 s.len,.int .i64 s.off,.slice s.A s.cells.length s.cap] 37 (0,0))∈H)(hw:St B w0 H w):
 Calls Tryz.prog 84 [flwV f,.pointer (some ⟨gs,0,none⟩)].toArray w (Post B w0 λv K=>v=.bool (decide (s.len.tmod f.2.2.2.1≠0))/\K=H):=by
 refine Yc Tryz.func84 Tryz.ntmps84 rfl rfl hw ?_
 by_cases h:s.len.tmod f.2.2.2.1≠0
 ·rw[Tc h]
  rw[RV (by omega)]at h
  repeat'(first|refine zgd ?_|(refine zge ?_ ?_<;>intro _<;>try exact zo)|(refine zgh ?_;intro _)|fail)
  all_goals(apply Yl;apply Yd;exact rfl;exact rfl;exact⟨rfl,rfl⟩)
 ·rw[Tn h]
  rw[RV (by omega)]at h
  repeat'(first|refine zgd ?_|(refine zge ?_ ?_<;>intro _<;>try exact zo)|(refine zgh ?_;intro _)|fail)
  all_goals(apply Yl;apply Yd;exact rfl;exact rfl;exact⟨rfl,rfl⟩)
theorem Yc3{α:Type}(p:α->Bool)(l:List α):decide (0<=Yn p l 0)=l.any p:=by
 have h:=Vz p l 0 (by omega)
 by_cases h0:0<=Yn p l 0
 ·rw[Tc h0,h.1 h0]
 ·rw[Tn h0]
  cases h1:l.any p with
  |false=>rfl
  |true=>exact absurd (h.2 h1) h0
theorem W6(p:Flw->Bool)(l:List Flw)(f:Nat)(cs:List Value)(hen:∀xs w,(callFunc f xs).run Tryz.prog w=.ok (.enter f xs) w)(hlen:l.length<=1000)(hr:Rd B w0 H A (l.flatMap flwF))
 (hp:∀a∈l,∀w,St B w0 H w->Calls Tryz.prog f ([flwV a]++cs).toArray w (Post B w0 λv K=>v=.bool (p a)/\K=H)) (hw:St B w0 H w):
 Calls Tryz.prog 66 [.slice A l.length cap,.func (.func f) #[] cs.toArray].toArray w (Post B w0 λv K=>v=.bool (l.any p)/\K=H):=by
 refine Yc Tryz.func66 Tryz.ntmps66 rfl rfl hw ?_
 rw[<-Yc3]
 repeat'(first|refine zga ?_|fail)
 first|apply Ya Yk7|apply Yb Yk7
 exact za
 exact rfl
 exactλ_ hw=>(Yc5 p l f cs hen hlen hr hp hw)
 by_cases h0:0<=Yn p l 0
 ·rw[Tc h0]
  repeat'(first|refine zga ?_|(refine zgf ?_ ?_<;>intro _<;>try exact zo)|fail)
  apply Yd;exact rfl;exact rfl
  exact⟨rfl,rfl⟩
 ·rw[Tn h0]
  repeat'(first|refine zga ?_|(refine zgf ?_ ?_<;>intro _<;>try exact zo)|fail)
  apply Yd;exact rfl;exact rfl
  exact⟨rfl,rfl⟩
open Go.RowKit Go.Eng Go.Nw Go.Rt
abbrev Jv(A:Option Addr)(cap:Nat)(l:List Lk):HP:=sl 298 3 A l.length cap (l.flatMap lkF)
theorem Ymr(A:Option Addr)(cap:Nat)(l:List Lk)(a:Lk):sl 298 3 A (l.length+1) cap (l.flatMap lkF++#[Value.int .i64 a.1,.int .i64 a.2.1,.int .i64 a.2.2].toList)=Jv A cap (l++[a]):=by simp[Jv,List.flatMap_append,lkF]
theorem Yeq(n:NetM){B:Nat}{w0:World}{H:List HP}{w:World}(hin:n.In B w0 H)(hck:Yq n.net=0)(hw:St B w0 H w):
 Calls Tryz.prog 274 [n.val].toArray w (Post B w0 λv K=>∃A cap,v=.slice A (YS n.net).length cap/\K=Jv A cap (YS n.net)::H):=by
 have hok:=YM hck
 obtain⟨hpw,hrw,hlk,hmg,hs1,hs2,hs3,hs4⟩:=id hin
 have hk0:n.links.length<=128:=hok.k0
 refine Yc Tryz.func274 Tryz.ntmps274 rfl rfl hw ?_
 (apply Xt;apply Y0;apply YR;exact rfl;exact rfl;intro g)
 repeat'(first|refine zgb ?_|fail)
 refine Yob (λ(k:Nat) (A:Option Addr) (cap:Nat)=>[(9,.int .i64 k),(8,.int .i64 n.links.length),(7,.slice n.lA n.links.length n.lcap),(3,.slice A (Zw n.net k).length cap),(1,.pointer (some ⟨g,0,none⟩))])
  (λk A cap=>Jv A cap (Zw n.net k)::netB g n::H) (λk _ _=>k<=n.links.length) (λk _ _=>n.links.length-k) 0 none 0 (Tu _) ?_ (λw hw=>hw.nilSlice _ _) ?_
 ·exact zu
 rintro k A cap hk K hK
 have hal:=Wh n.net k
 by_cases hlt:k<n.links.length
 ·have hlx:n.links[k]? =some (lnk n.net k):=QY n.net hlt
  have hus:J3 n.net (k:Int)=ZD n.net k:=by
   unfold J3
   have e7:n.net.links=n.links:=rfl
   rw[Tc hck,e7,Tc (by omega)]
   rfl
  have hl:=hok.lk k hlt
  have h5:=hl.l0
  have h6:=hl.l1
  have hU:=λ{H:List HP}{w:World}(hin:n.In B w0 H) (hw:St B w0 H w)=>Uf n (k:Int) hin hw
  rw[hus]at hU
  cases hu:ZD n.net k
  ·rw[hu]at hU
   have e2:=Yas hu
   repeat'(first|((first|apply Ya ZZ|apply Yb ZZ);exact za;exact rfl;exactλ_ hw=>(hU (((hin.cons).cons).cons) hw))|refine zgd ?_|(refine zge ?_ ?_<;>intro _<;>try exact zo)|(refine zgh ?_;intro _)|fail)
   apply hK (k+1) A cap
   ·omega
   ·omega
   ·rw[e2];exact zu
   ·rw[e2];exactλw hw=>hw.tail
  ·rw[hu]at hU
   have e2:=O8 hu
   repeat'(first|((first|apply Ya ZZ|apply Yb ZZ);exact za;exact rfl;exactλ_ hw=>(hU (((hin.cons).cons).cons) hw))|refine zgd ?_|(refine zge ?_ ?_<;>intro _<;>try exact zo)|(refine zgh ?_;intro _)|(refine zgi ?_;intro _ _)|fail)
   rename_i A3 cap3
   apply hK (k+1) A3 cap3
   ·omega
   ·omega
   ·rw[e2,Tj,TP];exact zu
   ·rw[e2,show Jv A3 cap3 (Zw n.net k++[WX n.net k])=sl 298 3 A3 ((Zw n.net k).length+1) cap3 ((Zw n.net k).flatMap lkF++#[Value.int .i64 (lnk n.net k).1,Value.int .i64 (lnk n.net k).2.1,Value.int .i64 ((lnk n.net k).2.2+1)].toList) from(Ymr A3 cap3 _ (WX n.net k)).symm]
    exact zk
 ·obtain rfl:k=n.links.length:=by omega
  clear hK
  repeat'(first|refine zgc ?_|(refine zge ?_ ?_<;>intro _<;>try exact zo)|fail)
  apply Yj (Jv A cap (YS n.net)::H)
  ·exactλw hw=>(hw.perm (.cons _ (.drop _ _)))
  apply Yd;exact rfl;exact rfl
  exact⟨A,cap,rfl,rfl⟩
variable {B:Nat}{w0 w:World}{H:List HP}
theorem VG(n:NetM)(s t:Int)(hin:n.In B w0 H)(hw:St B w0 H w):
 Calls Tryz.prog 239 [n.val,.int .i64 s,.int .i64 t].toArray w (Post B w0 λv K=>v=.int .i64 (Z1 n.net s t)/\K=H):=by
 refine Yc Tryz.func239 Tryz.ntmps239 rfl rfl hw ?_
 have e7:n.net.nodes=n.nodes:=rfl
 unfold Z1 offE
 rw[e7]
 by_cases h0:Yq n.net=0
 rotate_left
 ·rw[Tm h0]
  repeat'(first|((first|apply Ya en82|apply Yb en82);exact za;exact rfl;exactλ_ hw=>(YY n hin.cons hw))|refine zgb ?_|(refine zge ?_ ?_<;>intro _<;>try exact zo)|(refine zgh ?_;intro _)|fail)
  all_goals((repeat apply Yl);apply Yd;exact rfl;exact rfl;exact⟨rfl,rfl⟩)
 rw[Td (λh=>h h0)]
 have hck:=λ{H:List HP}{w:World}(hin:n.In B w0 H) (hw:St B w0 H w)=>YY n hin hw
 rw[h0]at hck
 simp only[Tq]
 by_cases h1:(s<0\/n.nodes<=s)\/(t<0\/n.nodes<=t)\/s=t
 ·rw[Tm h1]
  repeat'(first|((first|apply Ya en82|apply Yb en82);exact za;exact rfl;exactλ_ hw=>(hck hin.cons hw))|refine zgc ?_|(refine zgf ?_ ?_<;>intro _<;>try exact zo)|(refine zgh ?_;intro _)|fail)
  all_goals((repeat apply Yl);apply Yd;exact rfl;exact rfl;exact⟨rfl,rfl⟩)
 ·rw[Td h1]
  repeat'(first|((first|apply Ya en82|apply Yb en82);exact za;exact rfl;exactλ_ hw=>(hck hin.cons hw))|refine zgc ?_|(refine zgf ?_ ?_<;>intro _<;>try exact zo)|(refine zgh ?_;intro _)|fail)
  all_goals((repeat apply Yl);apply Yd;exact rfl;exact rfl;exact⟨rfl,rfl⟩)
theorem WA(k:Nat){A:Option Addr}{cap:Nat}(hk:k<=9223372036854775807)(hw:St B w0 H w):
 Calls Tryz.prog 241 [.slice A k cap].toArray w (Post B w0 λv K=>v=.int .i64 (if 9<k then 21 else 0)/\K=H):=by
 refine Yc Tryz.func241 Tryz.ntmps241 rfl rfl hw ?_
 by_cases h:9<k
 ·rw[Tm h]
  repeat'(first|refine zgb ?_|(refine zgf ?_ ?_<;>intro _<;>try exact zo)|fail)
  apply Yd;exact rfl;exact rfl
  exact⟨rfl,rfl⟩
 ·rw[Td h]
  repeat'(first|refine zgb ?_|(refine zgf ?_ ?_<;>intro _<;>try exact zo)|fail)
  apply Yd;exact rfl;exact rfl
  exact⟨rfl,rfl⟩
theorem YhM(n:NetM)(a:Int)(g:Nat)(hm:netB g n∈H)(hw:St B w0 H w):
 Calls Tryz.prog 311 [.int .i64 a,.pointer (some ⟨g,0,none⟩)].toArray w (Post B w0 λv K=>v=.bool (offE n.net a)/\K=H):=by
 refine Yc Tryz.func311 Tryz.ntmps311 rfl rfl hw ?_
 have e7:n.net.nodes=n.nodes:=rfl
 unfold offE
 rw[e7]
 by_cases h:a<0\/n.nodes<=a
 ·rw[Tc h]
  repeat'(first|refine zgc ?_|(refine zgf ?_ ?_<;>intro _<;>try exact zo)|fail)
  all_goals(apply Yd;exact rfl;exact rfl;exact⟨rfl,rfl⟩)
 ·rw[Tn h]
  repeat'(first|refine zgc ?_|(refine zgf ?_ ?_<;>intro _<;>try exact zo)|fail)
  all_goals(apply Yd;exact rfl;exact rfl;exact⟨rfl,rfl⟩)
variable {A:Option Addr}{cap B:Nat}{w0 w:World}{H:List HP}
theorem Yh4(l:List Int)(v:Int)(hlen:l.length<=9223372036854775807)(hr:Rd B w0 H A (l.flatMap numF))(hw:St B w0 H w):
 Calls Tryz.prog 54 [.slice A l.length cap,.int .i64 v].toArray w (Post B w0 λu K=>u=.int .i64 (Yn (λx=>decide (v=x)) l 0)/\K=H):=by
 refine Yc Tryz.func54 Tryz.ntmps54 rfl rfl hw ?_
 repeat'(first|refine zgb ?_|fail)
 refine Yi (λ(k:Nat)=>[(8,.int .i64 k),(7,.int .i64 l.length),(0,.slice A l.length cap),(1,.int .i64 v)]) (λ_=>H) (λk=>k<=l.length/\Yn (λx=>decide (v=x)) l 0=Yn (λx=>decide (v=x)) (l.drop k) k) (λk=>l.length-k) 0 ⟨Tu _,by simp⟩ ?_ (λw hw=>hw) ?_
 ·exact zu
 rintro k ⟨hk,hi⟩ K hK
 by_cases hlt:k<l.length
 ·obtain⟨a,ha⟩:∃a,l[k]? =some a:=⟨_,Ta hlt⟩
  rw[JA _ l ha]at hi
  repeat'(first|refine zgd ?_|(refine zge ?_ ?_<;>intro _<;>try exact zo)|fail)
  ·rename_i h
   rw[Tm (Tc h)]at hi
   ((repeat apply Yl);apply Yd;exact rfl;exact rfl;refine⟨TU _ ?_,rfl⟩)
   rw[hi]
  ·rename_i h
   rw[Td (by simp[h])]at hi
   repeat'(first|fail)
   apply hK (k+1)
   ·exact⟨by omega,hi⟩
   ·omega
   ·exact zu
   ·exactλw hw=>hw
 ·repeat'(first|refine zgc ?_|(refine zge ?_ ?_<;>intro _<;>try exact zo)|fail)
  ((repeat apply Yl);apply Yd;exact rfl;exact rfl;refine⟨TU _ ?_,rfl⟩)
  rw[hi,TZ (by omega)];rfl
theorem Jw(l:List Int)(v:Int)(hlen:l.length<=9223372036854775807)(hr:Rd B w0 H A (l.flatMap numF))(hw:St B w0 H w):
 Calls Tryz.prog 312 [.slice A l.length cap,.int .i64 v].toArray w (Post B w0 λu K=>u=.bool (decide (v∈l))/\K=H):=by
 refine Yc Tryz.func312 Tryz.ntmps312 rfl rfl hw ?_
 have hia:=Vz (λx=>decide (v=x)) l 0 (by omega)
 have hmm:l.any (λx=>decide (v=x))=true↔v∈l:=by simp[List.any_eq_true]
 repeat'(first|((first|apply Ya en54|apply Yb en54);exact za;exact rfl;exactλ_ hw=>(Yh4 l v hlen hr hw))|refine zga ?_|(refine zgf ?_ ?_<;>intro _<;>try exact zo)|fail)
 all_goals(apply Yd;exact rfl;exact rfl)
 ·rename_i h;exact⟨by rw[Tc (hmm.1 (hia.1 h))],rfl⟩
 ·rename_i h
  exact⟨by rw[Tn λe=>by have:=hia.2 (hmm.2 e);omega],rfl⟩
theorem Ybf(l m:List Int)(hlen:l.length<=9223372036854775807)(_hlen2:m.length<=9223372036854775807){A2:Option Addr}{cap2:Nat}(hr:Rd B w0 H A (l.flatMap numF))(hr2:Rd B w0 H A2 (m.flatMap numF))(hw:St B w0 H w):
 Calls Tryz.prog 179 [.slice A l.length cap,.slice A2 m.length cap2].toArray w (Post B w0 λu K=>u=.bool (decide (l=m))/\K=H):=by
 refine Yc Tryz.func179 Tryz.ntmps179 rfl rfl hw ?_
 by_cases hll:l.length=m.length
 rotate_left
 ·repeat'(first|refine zgb ?_|(refine zge ?_ ?_<;>intro _<;>try exact zo)|fail)
  apply Yd;exact rfl;exact rfl
  exact⟨by rw[Tn λe=>hll (by rw[e])],rfl⟩
 repeat'(first|refine zgb ?_|(refine zge ?_ ?_<;>intro _<;>try exact zo)|fail)
 refine Yi (λ(k:Nat)=>[(13,.int .i64 k),(12,.int .i64 l.length),(0,.slice A l.length cap),(1,.slice A2 m.length cap2)]) (λ_=>H) (λk=>k<=l.length/\l.take k=m.take k) (λk=>l.length-k) 0 ⟨Tu _,by simp⟩ ?_ (λw hw=>hw) ?_
 ·exact zu
 rintro k ⟨hk,hi⟩ K hK
 by_cases hlt:k<l.length
 ·obtain⟨a,ha⟩:∃a,l[k]? =some a:=⟨_,Ta hlt⟩
  obtain⟨b,hb⟩:∃b,m[k]? =some b:=⟨_,Ta (by omega)⟩
  repeat'(first|refine zgd ?_|(refine zge ?_ ?_<;>intro _<;>try exact zo)|fail)
  ·rename_i h
   apply Yd;exact rfl;exact rfl
   exact⟨by rw[Tn λe=>by rw[e,hb]at ha;exact h (Tz ha).symm],rfl⟩
  ·rename_i h
   apply hK (k+1)
   ·exact⟨by omega,by rw[ON ha,ON hb,hi,h]⟩
   ·omega
   ·exact zu
   ·exactλw hw=>hw
 ·repeat'(first|refine zgc ?_|(refine zge ?_ ?_<;>intro _<;>try exact zo)|fail)
  apply Yd;exact rfl;exact rfl
  rw[TQ (by omega),TQ (by omega)]at hi
  exact⟨by rw[Tc hi],rfl⟩
variable {l:List Int}{A:Option Addr}{cap B k:Nat}{w0:World}{H:List HP}
theorem Yuj(k:Nat)(hr:Rd B w0 H A (l.flatMap numF))(hc:l.length<=cap):Rd B w0 H (subA A 0 cap 1) ((l.take k).flatMap numF):=by
 have h:=Rd.sub (f:=numF) (q:=1) (o:=0) (k:=k) (λ_=>rfl) hr hc
 rwa [List.drop_zero]at h
theorem Ysq(o:Nat)(hr:Rd B w0 H A (l.flatMap numF))(hc:l.length<=cap):Rd B w0 H (subA A o cap 1) ((l.drop o).flatMap numF):=by
 have h:=Rd.sub (f:=numF) (q:=1) (o:=o) (k:=(l.drop o).length) (λ_=>rfl) hr hc
 rwa [TY]at h
variable {p:Nat->Bool}
theorem Yeo(h:(List.range k).any p=false)(h2:p k=false):(List.range (k+1)).any p=false:=by
 rw[Yco,h,h2];rfl
theorem Ycp{n:Nat}(hk:k<n)(h:p k=true):(List.range n).any p=true:=Rk.2 ⟨k,TO.2 hk,h⟩
theorem YcL(n:NetM)(s t:Int)(r:List Int){w:World}(hin:n.In B w0 H)(hck:Yq n.net=0)(hr:Rd B w0 H A (r.flatMap numF))(hlen:r.length<=9223372036854775807)(hcap:r.length<=cap)(hw:St B w0 H w):
 Calls Tryz.prog 236 [n.val,.int .i64 s,.int .i64 t,.slice A r.length cap].toArray w (Post B w0 λv K=>v=.int .i64 (VZ n.net s t r)/\K=H):=by
 refine Yc Tryz.func236 Tryz.ntmps236 rfl rfl hw ?_
 (apply Xt;apply Y0;apply YR;exact rfl;exact rfl;intro g)
 have hnm:netB g n∈netB g n::H:=TA
 unfold VZ
 by_cases h1:r.length<2
 ·rw[Tm h1]
  repeat'(first|refine zgd ?_|(refine zge ?_ ?_<;>intro _<;>try exact zo)|fail)
  (repeat apply Yl);apply Yd;exact rfl;exact rfl
  exact⟨rfl,rfl⟩
 rw[Td h1]
 by_cases h2:9<r.length
 ·rw[Tm h2]
  repeat'(first|refine zgd ?_|(refine zgf ?_ ?_<;>intro _<;>try exact zo)|fail)
  (repeat apply Yl);apply Yd;exact rfl;exact rfl
  exact⟨rfl,rfl⟩
 rw[Td h2]
 have hoff:=λ{w:World}(hw:St B w0 (netB g n::H) w)=>QL (λa:Int=>Value.int .i64 a) (offE n.net) r 311 [.pointer (some ⟨g,0,none⟩)] YtU hlen (cap:=cap) (hr.cons) (λa _ w hw=>YhM n a g hnm hw) hw
 obtain⟨b3,h3⟩:∃b,r.any (offE n.net)=b:=⟨_,rfl⟩
 rw[h3]at hoff⊢
 cases b3 with
 |true=>
  rw[Tm rfl]
  repeat'(first|((first|apply Ya YeM|apply Yb YeM);exact za;exact rfl;exactλ_ hw=>(hoff hw))|(apply zg29;(apply Ym;exact za;exact rfl))|refine zgd ?_|(refine zgf ?_ ?_<;>intro _<;>try exact zo)|fail)
  (repeat apply Yl);apply Yd;exact rfl;exact rfl
  exact⟨rfl,rfl⟩
 |false=>
  rw[Td (by decide)]
  have hg0:=Zc (l:=r) (i:=0) (by omega)
  have hg1:=Zc (l:=r) (i:=r.length-1) (by omega)
  have hgi:((r.length:Int)-1).toNat=r.length-1:=by omega
  rw[<-hgi]at hg1
  by_cases h4:r.getD 0 0≠s\/r.getD (r.length-1) 0≠t
  ·rw[Tm h4]
   rw[<-hgi]at h4
   repeat'(first|((first|apply Ya YeM|apply Yb YeM);exact za;exact rfl;exactλ_ hw=>(hoff hw))|(apply zg29;(apply Ym;exact za;exact rfl))|refine zgd ?_|(refine zgf ?_ ?_<;>intro _<;>try exact zo)|fail)
   all_goals first
    |((repeat apply Yl);apply Yd;exact rfl;exact rfl;exact⟨rfl,rfl⟩)
    |skip
   done
  rw[Td h4]
  rw[<-hgi]at h4
  repeat'(first|((first|apply Ya YeM|apply Yb YeM);exact za;exact rfl;exactλ_ hw=>(hoff hw))|(apply zg29;(apply Ym;exact za;exact rfl))|refine zgd ?_|(refine zgf ?_ ?_<;>intro _<;>try exact zo)|fail)
  refine Yi (λ(k:Nat)=>[(43,.int .i64 k),(42,.int .i64 r.length),(41,.slice A r.length cap),(3,.slice A r.length cap),(4,.pointer (some ⟨g,0,none⟩))]) (λ_=>netB g n::H) (λk=>k<=r.length/\((List.range k).any λi=>(r.take i).contains (r.getD i 0))=false) (λk=>r.length-k) 0 ⟨Tu _,rfl⟩ ?_ (λw hw=>hw) ?_
  ·exact zu
  rintro k ⟨hk,hi⟩ K hK
  by_cases hlt:k<r.length
  ·have hgk:=Zc (l:=r) (i:=k) hlt
   obtain⟨b,hb⟩:∃b,(r.take k).contains (r.getD k 0)=b:=⟨_,rfl⟩
   have hbm:decide (r.getD k 0∈r.take k)=b:=by rw[<-hb];simp
   have hcon:=λ{w:World}(hw:St B w0 (netB g n::H) w)=>Jw (r.take k) (r.getD k 0) (by rw[TD];omega) (cap:=cap) (Yuj k (hr.cons (X:=netB g n)) hcap) hw
   rw[hbm]at hcon
   cases b with
   |true=>
    repeat'(first|(apply X7 T (l:=r) (n':=(r.take k).length);(iterate 4 exact rfl);omega;exact hcap;(simp;omega))|((first|apply Ya Vn|apply Yb Vn);exact za;exact rfl;exactλ_ hw=>(hcon hw))|refine zgd ?_|(refine zge ?_ ?_<;>intro _<;>try exact zo)|fail)
    (repeat apply Yl);apply Yd;exact rfl;exact rfl
    have htw:Qt r=true:=Ycp hlt hb
    exact⟨by rw[Tm htw],rfl⟩
   |false=>
    repeat'(first|(apply X7 T (l:=r) (n':=(r.take k).length);(iterate 4 exact rfl);omega;exact hcap;(simp;omega))|((first|apply Ya Vn|apply Yb Vn);exact za;exact rfl;exactλ_ hw=>(hcon hw))|refine zgd ?_|(refine zge ?_ ?_<;>intro _<;>try exact zo)|fail)
    apply hK (k+1)
    ·exact⟨by omega,Yeo hi hb⟩
    ·omega
    ·exact zu
    ·exactλw hw=>hw
  obtain rfl:k=r.length:=by omega
  clear hK
  have htw:Qt r=false:=hi
  rw[Td (by rw[htw];decide)]
  have hdl:(r.drop 1).length=r.length-1:=Rf
  repeat'(first|(apply XS T (n':=(r.drop 1).length);(iterate 4 exact rfl);omega;(rw[hdl];rfl))|refine zgc ?_|(refine zge ?_ ?_<;>intro _<;>try exact zo)|fail)
  refine Yi (λ(k:Nat)=>[(57,.int .i64 k),(56,.int .i64 (r.drop 1).length),(55,.slice (subA A 1 cap 1) (r.drop 1).length (cap-1)),(3,.slice A r.length cap),(4,.pointer (some ⟨g,0,none⟩))]) (λ_=>netB g n::H) (λk=>k<=(r.drop 1).length/\((List.range k).any λi=>!YA n.net (r.getD i 0) (r.getD (i+1) 0))=false) (λk=>(r.drop 1).length-k) 0 ⟨Tu _,rfl⟩ ?_ (λw hw=>hw) ?_
  ·exact zu
  rintro k ⟨hk,hi⟩ K hK
  have hr1:Rd B w0 (netB g n::H) (subA A 1 cap 1) ((r.drop 1).flatMap numF):=Ysq 1 (hr.cons) hcap
  have hr0:Rd B w0 (netB g n::H) A (r.flatMap numF):=hr.cons
  by_cases hlt:k<(r.drop 1).length
  ·have hgk:=Zc (l:=r) (i:=k) (by omega)
   have hgk1:(r.drop 1)[k]? =some (r.getD (k+1) 0):=by
    rw[RB,Nat.add_comm];exact Zc (by omega)
   obtain⟨b,hb⟩:∃b,YA n.net (r.getD k 0) (r.getD (k+1) 0)=b:=⟨_,rfl⟩
   have hus:=λ{w:World}(hw:St B w0 (netB g n::H) w)=>Uf n (Zd n.net (r.getD k 0) (r.getD (k+1) 0)) (hin.cons (X:=netB g n)) hw
   rw[YgJ hck,hb]at hus
   cases b with
   |true=>
    repeat'(first|((first|apply Ya Xc|apply Yb Xc);exact za;exact rfl;exactλ_ hw=>(XZ n _ _ (hin.cons) hw))|((first|apply Ya ZZ|apply Yb ZZ);exact za;exact rfl;exactλ_ hw=>(hus hw))|(apply zg28;refine zs84 ?_)|refine zgd ?_|(refine zge ?_ ?_<;>intro _<;>try exact zo)|fail)
    apply hK (k+1)
    ·exact⟨by omega,Yeo hi (by rw[hb];rfl)⟩
    ·omega
    ·exact zu
    ·exactλw hw=>hw
   |false=>
    repeat'(first|((first|apply Ya Xc|apply Yb Xc);exact za;exact rfl;exactλ_ hw=>(XZ n _ _ (hin.cons) hw))|((first|apply Ya ZZ|apply Yb ZZ);exact za;exact rfl;exactλ_ hw=>(hus hw))|(apply zg28;refine zs84 ?_)|refine zgd ?_|(refine zge ?_ ?_<;>intro _<;>try exact zo)|fail)
    (repeat apply Yl);apply Yd;exact rfl;exact rfl
    have hbr:Vt n.net r=true:=Ycp (k:=k) (by omega) (by rw[hb];rfl)
    exact⟨by rw[Tm hbr],rfl⟩
  ·obtain rfl:k=(r.drop 1).length:=by omega
   clear hK
   repeat'(first|refine zgc ?_|(refine zge ?_ ?_<;>intro _<;>try exact zo)|fail)
   (repeat apply Yl);apply Yd;exact rfl;exact rfl
   have hbr:Vt n.net r=false:=by rw[hdl]at hi;exact hi
   exact⟨by rw[Td (by rw[hbr];decide)],rfl⟩
variable {n:Net}
theorem UZ{a b:Int}(h:YA n a b=true):0<=Yw n a b:=by
 unfold YA at h
 simp only[To,Tq]at h
 exact h.1
variable {r:List Int}
theorem QP{s t:Int}(h:VZ n s t r=0):(2<=r.length/\r.length<=9)/\r.any (offE n)=false/\(r.getD 0 0=s/\r.getD (r.length-1) 0=t)/\Qt r=false/\Vt n r=false:=by
 unfold VZ at h
 by_cases h1:r.length<2
 ·rw[Tm h1]at h;cases h
 rw[Td h1]at h
 by_cases h2:9<r.length
 ·rw[Tm h2]at h;cases h
 rw[Td h2]at h
 cases h3:r.any (offE n)with
 |true=>rw[h3,Tm rfl]at h;cases h
 |false=>
  rw[h3,Td (by decide)]at h
  by_cases h4:r.getD 0 0≠s\/r.getD (r.length-1) 0≠t
  ·rw[Tm h4]at h;cases h
  rw[Td h4]at h
  cases h5:Qt r with
  |true=>rw[h5,Tm rfl]at h;cases h
  |false=>
   rw[h5,Td (by decide)]at h
   cases h6:Vt n r with
   |true=>rw[h6,Tm rfl]at h;cases h
   |false=>exact⟨by omega,rfl,by omega,rfl,rfl⟩
theorem Yhs(h:Vt n r=false){i:Nat}(hi:i+1<r.length):YA n (r.getD i 0) (r.getD (i+1) 0)=true:=by
 cases hg:YA n (r.getD i 0) (r.getD (i+1) 0)with
 |true=>rfl
 |false=>
  have:Vt n r=true:=Ycp (k:=i) (by omega) (by rw[hg];rfl)
  rw[this]at h;cases h
variable {A:Option Addr}{cap B:Nat}{w0 w:World}{H:List HP}
theorem YmA(n:NetM)(r:List Int)(hin:n.In B w0 H)(hck:Yq n.net=0)(hbr:Vt n.net r=false)(hr:Rd B w0 H A (r.flatMap numF))(hlen:1<=r.length/\r.length<=1000)(hw:St B w0 H w):
 Calls Tryz.prog 237 [n.val,.slice A r.length cap].toArray w (Post B w0 λv K=>v=.int .i64 (YoI n.net r)/\K=H):=by
 have hok:=YM hck
 obtain⟨hpw,hrw,hlk,hmg,hs1,hs2,hs3,hs4⟩:=id hin
 refine Yc Tryz.func237 Tryz.ntmps237 rfl rfl hw ?_
 (apply Xt;apply Y0;apply YR;exact rfl;exact rfl;intro g)
 repeat'(first|refine zgb ?_|fail)
 refine Yi (λ(k:Nat)=>[(6,.int .i64 ((k:Int)+1)),(5,.int .i64 (Wk n.net r k)),(1,.slice A r.length cap),(2,.pointer (some ⟨g,0,none⟩))]) (λ_=>netB g n::H) (λk=>k+1<=r.length) (λk=>r.length-k) 0 hlen.1 ?_ (λw hw=>hw) ?_
 ·exact zu
 intro k hk K hK
 have hbd:=Yez hok r k
 by_cases hlt:k+1<r.length
 ·have hgk:=Zc (l:=r) (i:=k) (by omega)
  have hgk1:=Zc (l:=r) (i:=k+1) (by omega)
  have ei:((k:Int)+1-1).toNat=k:=by omega
  have ei1:((k:Int)+1).toNat=k+1:=by omega
  rw[<-ei]at hgk
  rw[<-ei1]at hgk1
  have hgood:=Yhs hbr hlt
  have hf:=UZ hgood
  have hfl:=ZA hf
  have e7:n.net.links=n.links:=rfl
  rw[e7]at hfl
  have hlx:n.links[(Yw n.net (r.getD k 0) (r.getD (k+1) 0)).toNat]? =some (lnk n.net (Yw n.net (r.getD k 0) (r.getD (k+1) 0)).toNat):=QY n.net hfl
  have hlo:=Q0 hok (r.getD k 0) (r.getD (k+1) 0)
  have hidx:=λ{w:World}(hw:St B w0 (netB g n::H) w)=>XZ n (r.getD k 0) (r.getD (k+1) 0) (hin.cons (X:=netB g n)) hw
  unfold Zd at hidx
  rw[Td (by simp[hck])]at hidx
  obtain⟨fi,hfi⟩:∃fi,Yw n.net (r.getD k 0) (r.getD (k+1) 0)=fi:=⟨_,rfl⟩
  obtain⟨lo,hlo2⟩:∃lo,QZ n.net (r.getD k 0) (r.getD (k+1) 0)=lo:=⟨_,rfl⟩
  have hst:Wk n.net r (k+1)=Wk n.net r k+(lo+1):=by rw[<-hlo2];rfl
  have hlo3:(lnk n.net fi.toNat).2.2=lo:=by rw[<-hfi];exact hlo2
  rw[hfi]at hidx hf hfl hlx
  rw[hlo2]at hlo
  rw[ei]at hgk
  rw[ei1]at hgk1
  obtain⟨lk,hlkk⟩:∃lk,lnk n.net fi.toNat=lk:=⟨_,rfl⟩
  rw[hlkk]at hlx hlo3
  rw[<-hlo3]at hlo
  have hgk':r[((k:Int)+1-1).toNat]? =some (r.getD k 0):=by rw[ei];exact hgk
  have hgk1':r[((k:Int)+1).toNat]? =some (r.getD (k+1) 0):=by rw[ei1];exact hgk1
  repeat'(first|((first|apply Ya Xc|apply Yb Xc);exact za;exact rfl;exactλ_ hw=>(hidx hw))|(apply zg28;refine zs84 ?_)|refine zgd ?_|(refine zge ?_ ?_<;>intro _<;>try exact zo)|fail)
  apply hK (k+1)
  ·omega
  ·omega
  ·rw[hst,<-hlo3];exact zu
  ·exactλw hw=>hw
 ·repeat'(first|refine zgc ?_|(refine zge ?_ ?_<;>intro _<;>try exact zo)|fail)
  (repeat apply Yl);apply Yd;exact rfl;exact rfl
  have ek:r.length-1=k:=by omega
  exact⟨by unfold YoI;rw[ek],rfl⟩
theorem Yl0(n:NetM)(r:List Int)(hin:n.In B w0 H)(hr:Rd B w0 H A (r.flatMap numF))(hlen:r.length<=9223372036854775807)(hcap:r.length<=cap)(hw:St B w0 H w):
 Calls Tryz.prog 146 [n.val,.slice A r.length cap].toArray w (Post B w0 λv K=>v=.tuple #[.int .i64 (YgN n.net r).1,.int .i64 (YgN n.net r).2]/\K=H):=by
 refine Yc Tryz.func146 Tryz.ntmps146 rfl rfl hw ?_
 unfold YgN
 by_cases h0:Yq n.net=0
 rotate_left
 ·rw[Tm h0]
  repeat'(first|((first|apply Ya en82|apply Yb en82);exact za;exact rfl;exactλ_ hw=>(YY n hin.cons hw))|refine zgb ?_|(refine zge ?_ ?_<;>intro _<;>try exact zo)|(refine zgh ?_;intro _)|fail)
  (repeat apply Yl);apply Yp;(iterate 3 exact rfl);exact⟨rfl,rfl⟩
 rw[Td (λh=>h h0)]
 have hck:=λ{H:List HP}{w:World}(hin:n.In B w0 H) (hw:St B w0 H w)=>YY n hin hw
 rw[h0]at hck
 dsimp only
 have hf:=λ{H:List HP}{w:World}(s t:Int) (hin:n.In B w0 H) (hr:Rd B w0 H A (r.flatMap numF)) (hw:St B w0 H w)=>YcL n s t r (cap:=cap) hin h0 hr hlen hcap hw
 by_cases hz:r.length=0
 ·have hf0:VZ n.net (r.getD 0 0) (r.getD (r.length-1) 0) r=9:=by unfold VZ;rw[Tm (by omega)]
  have hf1:VZ n.net 0 0 r=9:=by unfold VZ;rw[Tm (by omega)]
  have hff:=λ{H:List HP}{w:World}(hin:n.In B w0 H) (hr:Rd B w0 H A (r.flatMap numF)) (hw:St B w0 H w)=>hf 0 0 hin hr hw
  rw[hf1]at hff
  rw[hf0,Tm (by decide)]
  repeat'(first|((first|apply Ya en82|apply Yb en82);exact za;exact rfl;exactλ_ hw=>(hck hin.cons hw))|((first|apply Ya Ybd|apply Yb Ybd);exact za;exact rfl;exactλ_ hw=>(hff hin.cons hr.cons hw))|refine zgb ?_|(refine zgf ?_ ?_<;>intro _<;>try exact zo)|(refine zgh ?_;intro _)|fail)
  (repeat apply Yl);apply Yp;(iterate 3 exact rfl);exact⟨rfl,rfl⟩
 ·have hg0:=Zc (l:=r) (i:=0) (by omega)
  have hg1:=Zc (l:=r) (i:=r.length-1) (by omega)
  have hgi:((r.length:Int)-1).toNat=r.length-1:=by omega
  rw[<-hgi]at hg1
  have hff:=λ{H:List HP}{w:World}(hin:n.In B w0 H) (hr:Rd B w0 H A (r.flatMap numF)) (hw:St B w0 H w)=>hf (r.getD 0 0) (r.getD (r.length-1) 0) hin hr hw
  obtain⟨e,he⟩:∃e,VZ n.net (r.getD 0 0) (r.getD (r.length-1) 0) r=e:=⟨_,rfl⟩
  rw[he]at hff
  rw[he]
  rw[<-hgi]at hff
  by_cases hez:e=0
  ·subst hez
   obtain⟨⟨f1,f2⟩,_,_,_,f3⟩:=QP he
   rw[Td (by simp)]
   repeat'(first|((first|apply Ya en82|apply Yb en82);exact za;exact rfl;exactλ_ hw=>(hck hin.cons hw))|((first|apply Ya Ybd|apply Yb Ybd);exact za;exact rfl;exactλ_ hw=>(hff hin.cons hr.cons hw))|((first|apply Ya YrW|apply Yb YrW);exact za;exact rfl;exactλ_ hw=>(YmA n r hin.cons h0 f3 hr.cons (by omega) hw))|refine zgd ?_|(refine zgf ?_ ?_<;>intro _<;>try exact zo)|(refine zgh ?_;intro _)|fail)
   (repeat apply Yl);apply Yp;(iterate 3 exact rfl);exact⟨rfl,rfl⟩
  ·rw[Tm hez]
   repeat'(first|((first|apply Ya en82|apply Yb en82);exact za;exact rfl;exactλ_ hw=>(hck hin.cons hw))|((first|apply Ya Ybd|apply Yb Ybd);exact za;exact rfl;exactλ_ hw=>(hff hin.cons hr.cons hw))|refine zgd ?_|(refine zgf ?_ ?_<;>intro _<;>try exact zo)|(refine zgh ?_;intro _)|fail)
   (repeat apply Yl);apply Yp;(iterate 3 exact rfl);exact⟨rfl,rfl⟩
theorem Yb6(n:NetM)(s t:Int)(r:List Int)(hin:n.In B w0 H)(hr:Rd B w0 H A (r.flatMap numF))(hlen:r.length<=9223372036854775807)(hcap:r.length<=cap)(hw:St B w0 H w):
 Calls Tryz.prog 339 [n.val,.int .i64 s,.int .i64 t,.slice A r.length cap].toArray w (Post B w0 λv K=>v=.int .i64 (Zv n.net s t r)/\K=H):=by
 refine Yc Tryz.func339 Tryz.ntmps339 rfl rfl hw ?_
 unfold Zv
 by_cases h0:Z1 n.net s t=0
 ·have hck:Yq n.net=0:=by
   unfold Z1 at h0
   by_cases h:Yq n.net=0
   ·exact h
   ·rw[Tm h]at h0;cases h0
  have hen:=λ{H:List HP}{w:World}(hin:n.In B w0 H) (hw:St B w0 H w)=>VG n s t hin hw
  rw[h0]at hen
  rw[Td (λh=>h h0)]
  repeat'(first|((first|apply Ya Up|apply Yb Up);exact za;exact rfl;exactλ_ hw=>(hen hin.cons hw))|((first|apply Ya Ybd|apply Yb Ybd);exact za;exact rfl;exactλ_ hw=>(YcL n s t r hin.cons hck hr.cons hlen hcap hw))|refine zgb ?_|(refine zge ?_ ?_<;>intro _<;>try exact zo)|(refine zgh ?_;intro _)|fail)
  (repeat apply Yl);apply Yd;exact rfl;exact rfl;exact⟨rfl,rfl⟩
 ·rw[Tm h0]
  repeat'(first|((first|apply Ya Up|apply Yb Up);exact za;exact rfl;exactλ_ hw=>(VG n s t hin.cons hw))|refine zgb ?_|(refine zge ?_ ?_<;>intro _<;>try exact zo)|(refine zgh ?_;intro _)|fail)
  (repeat apply Yl);apply Yd;exact rfl;exact rfl;exact⟨rfl,rfl⟩
structure WayM where
 n:NetM
 s:SchM
 f:Flw
 A:Option Addr
 cap:Nat
 r:List Int
def WayM.val(x:WayM):Value:=.agg #[.int .i64 x.n.nodes,.slice x.n.pA x.n.rows.length x.n.pcap,.int .i64 x.n.noise,.int .i64 x.n.thr,.slice x.n.lA x.n.links.length x.n.lcap,.slice x.n.mA x.n.margin.length x.n.mcap,.int .i64 x.s.len,.int .i64 x.s.off,.slice x.s.A x.s.cells.length x.s.cap,.int .i64 x.f.1,.int .i64 x.f.2.1,.int .i64 x.f.2.2.1,.int .i64 x.f.2.2.2.1,.int .i64 x.f.2.2.2.2.1,.int .i64 x.f.2.2.2.2.2,.slice x.A x.r.length x.cap,.int .i64 0]
abbrev wayB(g:Nat)(x:WayM):HP:=blk g (.cells #[.int .i64 x.n.nodes,.slice x.n.pA x.n.rows.length x.n.pcap,.int .i64 x.n.noise,.int .i64 x.n.thr,.slice x.n.lA x.n.links.length x.n.lcap,.slice x.n.mA x.n.margin.length x.n.mcap,.int .i64 x.s.len,.int .i64 x.s.off,.slice x.s.A x.s.cells.length x.s.cap,.int .i64 x.f.1,.int .i64 x.f.2.1,.int .i64 x.f.2.2.1,.int .i64 x.f.2.2.2.1,.int .i64 x.f.2.2.2.2.1,.int .i64 x.f.2.2.2.2.2,.slice x.A x.r.length x.cap,.int .i64 0] 276 (0,0))
structure WayM.In(B:Nat)(w0:World)(H:List HP)(x:WayM):Prop where
 n:x.n.In B w0 H
 s:Rd B w0 H x.s.A (x.s.cells.flatMap celF)
 r:Rd B w0 H x.A (x.r.flatMap numF)
 sl:x.s.cells.length<=1000000000000
 rl:x.r.length<=1000000000000
 rc:x.r.length<=x.cap
variable {B:Nat}{w0:World}{H:List HP}{x:WayM}
theorem WayM.In.cons{X:HP}(h:x.In B w0 H):x.In B w0 (X::H):=⟨h.n.cons,h.s.cons,h.r.cons,h.sl,h.rl,h.rc⟩
theorem WayM.In.mono{H':List HP}(h:x.In B w0 H)(hH:∀w,St B w0 H' w->St B w0 H w):x.In B w0 H':=⟨h.n.mono hH,h.s.mono hH,h.r.mono hH,h.sl,h.rl,h.rc⟩
theorem YmV{nodes:Int}{f:Flw}(h:2<=nodes/\nodes<=32):((YE nodes [f]).2=0↔XD nodes f=0):=by
 unfold YE
 rw[Td (by omega),Td (by simp)]
 have e:Xo nodes [f] 0=XD nodes f:=by
  unfold Xo
  show(if XD nodes f≠0 then XD nodes f else if 0<0/\_ then 5 else 0)=_
  by_cases h:XD nodes f=0
  ·rw[Td (λe=>e h),Td (by omega),h]
  ·rw[Tm h]
 show(YH _ 1 0).2=0↔_
 unfold YH YH
 rw[e]
 split
 ·rename_i h;exact⟨λ_=>h,λ_=>rfl⟩
 ·rename_i h;exact⟨λh2=>absurd h2 h,λh2=>absurd h2 h⟩
theorem Yi5(x:WayM){w:World}(ht:TabsB B w0)(hi:x.In B w0 H)(hw:St B w0 H w):
 Calls Tryz.prog 323 [x.val].toArray w (Post B w0 λv K=>v=.int .i64 (wayE x.n.net x.s.sch x.f x.r)/\K=H):=by
 refine Yc Tryz.func323 Tryz.ntmps323 rfl rfl hw ?_
 have p1:=λ{H':List HP}{w:World}(hin:x.n.In B w0 H') (hw:St B w0 H' w)=>YY x.n hin hw
 have p2:=λ{H':List HP}{w:World}(hr:Rd B w0 H' x.s.A (x.s.cells.flatMap celF)) (hw:St B w0 H' w)=>Wx x.s ht hr hi.sl hw
 have p3:=λ{g cap:Nat}{H':List HP}{w:World}(hm:blk g (.cells #[.int .i64 x.f.1,.int .i64 x.f.2.1,.int .i64 x.f.2.2.1,.int .i64 x.f.2.2.2.1,.int .i64 x.f.2.2.2.2.1,.int .i64 x.f.2.2.2.2.2] 53 (0,0))∈H') (hw:St B w0 H' w)=>Y5 x.n.nodes [x.f] (T0 rfl) (A:=some ⟨g,0,none⟩) (cap:=cap) (show Rd B w0 H' _ ([x.f].flatMap flwF) from Rd.blk hm) hw
 have p4:=λ{H':List HP}{w:World}(hin:x.n.In B w0 H') (hr:Rd B w0 H' x.A (x.r.flatMap numF)) (hw:St B w0 H' w)=>Yb6 x.n x.f.2.1 x.f.2.2.1 x.r (cap:=x.cap) hin hr (RE hi.rl (by decide)) hi.rc hw
 have hn:=hi.n
 have hs:=hi.s
 have hr:=hi.r
 have hfo:=@YmV x.n.net.nodes x.f
 have hok:=λh:Yq x.n.net=0=>(YM h).n0
 have hok1:=λh:Yq x.n.net=0=>(YM h).n1
 have hpe:(XO x.s.sch).2=0↔Xz x.s.sch=true:=by
  unfold XO
  cases hf:Xz x.s.sch with
  |true=>rw[Td (by decide)];simp
  |false=>rw[Tm rfl];simp
 unfold wayE
 rw[show x.n.net.nodes=x.n.nodes from rfl]at*
 rw[show x.s.sch.len=x.s.len from rfl]at*
 obtain⟨c,hc⟩:∃c,Yq x.n.net=c:=⟨_,rfl⟩
 obtain⟨⟨t,e⟩,he⟩:∃e,XO x.s.sch=e:=⟨_,rfl⟩
 obtain⟨⟨i,a⟩,ha⟩:∃a,YE x.n.nodes [x.f]=a:=⟨_,rfl⟩
 obtain⟨k,hk⟩:∃k,Zv x.n.net x.f.2.1 x.f.2.2.1 x.r=k:=⟨_,rfl⟩
 rw[hc]at p1 hok hok1⊢
 rw[he]at p2 hpe
 rw[ha]at p3 hfo
 rw[hk]at p4⊢
 dsimp only at p2 p3 hpe hfo
 unfold WayM.val
 by_cases h1:c=0
 rotate_left
 ·rw[Tm (.inl h1)]
  repeat'(first|((first|apply Ya en82|apply Yb en82);exact za;exact rfl;exactλ_ hw=>(p1 hn.cons hw))|(apply Ye T;exact rfl;exact zm;exact rfl;exact zv;exact rfl;exact rfl)|refine zgb ?_|(refine zge ?_ ?_<;>intro _<;>try exact zo)|(refine zgh ?_;intro _)|fail)
  apply Yj H
  ·exact zk
  apply Yd;exact rfl;exact rfl;exact⟨rfl,rfl⟩
 subst h1
 have hfo:=hfo ⟨hok rfl,hok1 rfl⟩
 by_cases h2:e=0
 rotate_left
 ·rw[Tm (.inr (.inl (by cases hf:Xz x.s.sch with|false=>rfl|true=>exact absurd (hpe.2 hf) h2)))]
  repeat'(first|((first|apply Ya en82|apply Yb en82);exact za;exact rfl;exactλ_ hw=>(p1 hn.cons hw))|((first|apply Ya en40|apply Yb en40);exact za;exact rfl;exactλ_ hw=>(p2 hs.cons hw))|(apply Ye T;exact rfl;exact zm;exact rfl;exact zv;exact rfl;exact rfl)|refine zgc ?_|(refine zge ?_ ?_<;>intro _<;>try exact zo)|(refine zgh ?_;intro _)|fail)
  apply Yj H
  ·exact zk
  apply Yd;exact rfl;exact rfl;exact⟨rfl,rfl⟩
 subst h2
 have hfe:=hpe.1 rfl
 by_cases h3:a=0
 rotate_left
 ·rw[Tm (.inr (.inr (λh=>h3 (hfo.2 h))))]
  repeat'(first|((first|apply Ya en82|apply Yb en82);exact za;exact rfl;exactλ_ hw=>(p1 hn.cons hw))|((first|apply Ya en40|apply Yb en40);exact za;exact rfl;exactλ_ hw=>(p2 hs.cons hw))|((first|apply Ya en59|apply Yb en59);exact za;exact rfl;exactλ_ hw=>(p3 zm hw))|(apply Ye T;exact rfl;exact zm;exact rfl;exact zv;exact rfl;exact rfl)|refine zgc ?_|(refine zge ?_ ?_<;>intro _<;>try exact zo)|(refine zgh ?_;intro _)|fail)
  apply Yj H
  ·exact zk
  apply Yd;exact rfl;exact rfl;exact⟨rfl,rfl⟩
 subst h3
 have hfz:=hfo.1 rfl
 rw[Td (by rintro(h|h|h);exact h rfl;rw[hfe]at h;cases h;exact h hfz)]
 have hp1:1<=x.f.2.2.2.1:=by
  unfold XD at hfz
  split at hfz
  ·cases hfz
  split at hfz
  ·cases hfz
  omega
 have hsz:1<=x.s.len/\x.s.len<=512:=by
  have:=Rm (ZJ.1 hfe).sized
  exact⟨this.1,this.2.1⟩
 rw[RV (show 0<=x.s.len by omega)]
 by_cases h4:x.s.len%x.f.2.2.2.1=0
 rotate_left
 ·rw[Tm h4]
  repeat'(first|((first|apply Ya en82|apply Yb en82);exact za;exact rfl;exactλ_ hw=>(p1 hn.cons hw))|((first|apply Ya en40|apply Yb en40);exact za;exact rfl;exactλ_ hw=>(p2 hs.cons hw))|((first|apply Ya en59|apply Yb en59);exact za;exact rfl;exactλ_ hw=>(p3 zm hw))|(apply Ye T;exact rfl;exact zm;exact rfl;exact zv;exact rfl;exact rfl)|refine zgd ?_|(refine zge ?_ ?_<;>intro _<;>try exact zo)|(refine zgh ?_;intro _)|fail)
  apply Yj H
  ·exact zk
  apply Yd;exact rfl;exact rfl;exact⟨rfl,rfl⟩
 rw[Td (λh=>h h4)]
 repeat'(first|((first|apply Ya en82|apply Yb en82);exact za;exact rfl;exactλ_ hw=>(p1 hn.cons hw))|((first|apply Ya en40|apply Yb en40);exact za;exact rfl;exactλ_ hw=>(p2 hs.cons hw))|((first|apply Ya en59|apply Yb en59);exact za;exact rfl;exactλ_ hw=>(p3 zm hw))|((first|apply Ya YeQ|apply Yb YeQ);exact za;exact rfl;exactλ_ hw=>(p4 hn.cons.cons hr.cons.cons hw))|(apply Ye T;exact rfl;exact zm;exact rfl;exact zv;exact rfl;exact rfl)|refine zgd ?_|(refine zge ?_ ?_<;>intro _<;>try exact zo)|(refine zgh ?_;intro _)|fail)
 apply Yj H
 ·exact zk
 apply Yd;exact rfl;exact rfl;exact⟨rfl,rfl⟩
structure UK(x:WayM):Prop where
 ck:Yq x.n.net=0
 len:2<=x.r.length/\x.r.length<=9
 good:∀i,i+1<x.r.length->YA x.n.net (x.r.getD i 0) (x.r.getD (i+1) 0)=true
 per:1<=x.f.2.2.2.1/\x.f.2.2.2.1<=512
 ph:0<=x.f.2.2.2.2.1/\x.f.2.2.2.2.1<x.f.2.2.2.1
 slen:1<=x.s.len/\x.s.len<=512
 few:x.s.cells.length<=512
variable {n:Net}{r:List Int}
theorem JU{s t:Int}(h:Zv n s t r=0):Yq n=0/\(2<=r.length/\r.length<=9)/\∀i,i+1<r.length->YA n (r.getD i 0) (r.getD (i+1) 0)=true:=by
 unfold Zv at h
 by_cases h0:Z1 n s t=0
 rotate_left
 ·rw[Tm h0]at h;exact absurd h h0
 rw[Td (λe=>e h0)]at h
 have hck:Yq n=0:=by
  unfold Z1 at h0
  by_cases h1:Yq n=0
  ·exact h1
  ·rw[Tm h1]at h0;cases h0
 obtain⟨h1,_,_,_,h2⟩:=QP h
 refine⟨hck,h1,λi hi=>?_⟩
 unfold Vt at h2
 rw[RY]at h2
 have:=h2 i (TO.2 (by omega))
 simpa using this
theorem Yb5{x:WayM}(h:wayE x.n.net x.s.sch x.f x.r=0):UK x:=by
 obtain⟨_,h2,h3,_,h5⟩:=YgL h
 obtain⟨k1,k2,k3⟩:=JU h5
 have hfr:=ZJ.1 h2
 have hsz:=Rm hfr.sized
 unfold XD at h3
 split at h3
 ·cases h3
 split at h3
 ·cases h3
 exact⟨k1,k2,k3,by omega,by omega,⟨hsz.1,hsz.2.1⟩,hfr.few⟩
def JY(x:WayM):List (List Value):=(Yr x.n.net x.r).map λl=>[lkV l]
theorem Qh{i:Nat}(h:i+1<r.length):(Yr n r)[i]? =some (ZK n r i):=by
 unfold Yr
 rw[TE,SN (by omega)];rfl
theorem Wr:(Yr n r).length=r.length-1:=by unfold Yr;simp
variable {B:Nat}{w0:World}
theorem Ybs(x:WayM)(g:Nat)(hok:UK x){HI:List HP}(hi:x.In B w0 HI)(hm:wayB g x∈HI):
 Yb8 Tryz.prog 386 [.pointer (some ⟨g,0,none⟩)] (JY x) B w0 HI:=by
 refine Yb9 Tryz.func386 Tryz.ntmps386 rfl rfl ?_
 intro l SS X hy L0 h0
 have hck:=hok.ck
 have hlen:=hok.len
 have p1:=λ{H':List HP}{w:World}(a b:Int) (hin:x.n.In B w0 H') (hw:St B w0 H' w)=>XZ x.n a b hin hw
 have hix:∀a b:Int,Zd x.n.net a b=Yw x.n.net a b:=λa b=>by unfold Zd;rw[Td (λe=>e hck)]
 unfold wayB at hm
 repeat'(first|refine zgb ?_|fail)
 refine Yi (λ(y:Nat×List HP)=>[(3,.int .i64 (y.1+1:Nat)),(0,.func (.yield l) #[] #[]),(1,.pointer (some ⟨g,0,none⟩))]) (λy=>many y.2::HI) (λy=>y.1+1<=x.r.length/\SS y.1 y.2) (λy=>x.r.length-1-y.1) (0,L0) ⟨by show 0+1<=_;omega,h0⟩ ?_ (λw hw=>hw) ?_
 ·exact zu
 rintro⟨i,L⟩ ⟨hile,hS⟩ K hK
 dsimp only at hile hS⊢
 by_cases hlt:i+1<x.r.length
 ·have hg:=hok.good i hlt
  have hf:=UZ hg
  have hfl:=ZA hf
  have hlx:x.n.links[(Yw x.n.net (x.r.getD i 0) (x.r.getD (i+1) 0)).toNat]? =some (lnk x.n.net (Yw x.n.net (x.r.getD i 0) (x.r.getD (i+1) 0)).toNat):=QY x.n.net hfl
  have hla:ZK x.n.net x.r i=lnk x.n.net (Yw x.n.net (x.r.getD i 0) (x.r.getD (i+1) 0)).toNat:=rfl
  have hg0:=Zc (l:=x.r) (i:=i) (by omega)
  have hg1:=Zc (l:=x.r) (i:=i+1) (by omega)
  have hgi:((((i+1:Nat):Int)-1).toNat)=i:=by omega
  have hgi1:(((i+1:Nat):Int).toNat)=i+1:=by omega
  have hll:(Yw x.n.net (x.r.getD i 0) (x.r.getD (i+1) 0)).toNat<x.n.links.length:=hfl
  have p2:=λ{H':List HP}{w:World}(hin:x.n.In B w0 H') (hw:St B w0 H' w)=>p1 (x.r.getD i 0) (x.r.getD (i+1) 0) hin hw
  rw[hix]at p2
  have hx:(JY x)[i]? =some [lkV (ZK x.n.net x.r i)]:=by
   unfold JY;rw[TE,Qh hlt];rfl
  rw[hla]at hx
  obtain⟨a,ha⟩:∃a,x.r.getD i 0=a:=⟨_,rfl⟩
  obtain⟨b,hb⟩:∃b,x.r.getD (i+1) 0=b:=⟨_,rfl⟩
  rw[ha]at hg0 p2 hlx hll hf hx
  rw[hb]at hg1 p2 hlx hll hf hx
  obtain⟨z,hz⟩:∃z,Yw x.n.net a b=z:=⟨_,rfl⟩
  rw[hz]at p2 hlx hll hf hx
  obtain⟨lk,hlk⟩:∃k,lnk x.n.net z.toNat=k:=⟨_,rfl⟩
  rw[hlk]at hlx hx
  obtain⟨R,hR1,hR2⟩:=YnJ hm
  have hg0i:x.r[(((i+1:Nat):Int)-1).toNat]? =some a:=by rw[hgi];exact hg0
  have hg1i:x.r[((i+1:Nat):Int).toNat]? =some b:=by rw[hgi1];exact hg1
  have hwb:∀w,St B w0 (many L::(blk g (.cells #[.int .i64 x.n.nodes,.slice x.n.pA x.n.rows.length x.n.pcap,.int .i64 x.n.noise,.int .i64 x.n.thr,.slice x.n.lA x.n.links.length x.n.lcap,.slice x.n.mA x.n.margin.length x.n.mcap,.int .i64 x.s.len,.int .i64 x.s.off,.slice x.s.A x.s.cells.length x.s.cap,.int .i64 x.f.1,.int .i64 x.f.2.1,.int .i64 x.f.2.2.1,.int .i64 x.f.2.2.2.1,.int .i64 x.f.2.2.2.2.1,.int .i64 x.f.2.2.2.2.2,.slice x.A x.r.length x.cap,.int .i64 0] 276 (0,0)))::[many R]) w->St B w0 (many L::HI) w:=λw hw=>hw.perm (Perm.cons _ hR2)
  have hl0:0<=lk.2.2/\lk.2.2<=7:=by
   have h1:=(YM hck).lk z.toNat hll
   rw[<-hlk];exact⟨h1.l0,h1.l1⟩
  have hiK:x.In B w0 [wayB g x,many R]:=hi.mono λw hw=>hw.perm hR2
  have hrr:=hiK.r
  have hlr:=hiK.n.lk
  unfold wayB at hiK hrr hlr
  refine Jf (blk g (.cells #[.int .i64 x.n.nodes,.slice x.n.pA x.n.rows.length x.n.pcap,.int .i64 x.n.noise,.int .i64 x.n.thr,.slice x.n.lA x.n.links.length x.n.lcap,.slice x.n.mA x.n.margin.length x.n.mcap,.int .i64 x.s.len,.int .i64 x.s.off,.slice x.s.A x.s.cells.length x.s.cap,.int .i64 x.f.1,.int .i64 x.f.2.1,.int .i64 x.f.2.2.1,.int .i64 x.f.2.2.2.1,.int .i64 x.f.2.2.2.2.1,.int .i64 x.f.2.2.2.2.2,.slice x.A x.r.length x.cap,.int .i64 0] 276 (0,0))::many L::[many R]) (λw hw=>hw.perm ((Perm.cons _ hR1).trans (Perm.swap _ _ _))) ?_
  repeat'(first|refine zgb ?_|(refine zge ?_ ?_<;>intro _<;>try exact zo)|fail)
  apply Vr (.n1 0 (.n1 1 (.n1 2 (.n1 3 (.n1 4 (.n1 5 (.n1 6 (.n1 7 (.n1 8 (.n1 9 (.n1 10 (.n1 11 (.n1 12 (.n1 13 (.n1 14 (.n1 15 (.n2 16 (.n1 17 (.n1 18 (.n1 19 .done))) 19 (.n1 16 (.n1 17 (.n1 18 .done)))))))))))))))))))) [20] [true,false,true]
  kernel_rfl
  kernel_rfl
  exact zy
  (simp only[Yg,nthO];rfl)
  repeat'(first|(apply Ye T;exact rfl;exact zm;exact rfl;exact zv;exact rfl;exact rfl)|(apply Yk;try exact zl)|apply(zs91 ?_ ?_)|(apply Xp;try exact zl)|refine zgd ?_|(refine zgh ?_;intro _)|fail)
  all_goals(
   first|apply Ya Xc|apply Yb Xc
   exact za
   exact rfl
   exactλ_ hw=>(p2 (hiK.mono zk).n hw)
   repeat'(first|(refine YgU 2 37 rfl rfl rfl (by rintro⟨_,_,_,_,h,_⟩;cases h) ?_)|(apply Yk;try exact zl)|(apply Xp;try exact zl)|refine zgd ?_|(refine zgh ?_;intro _)|fail)
   rename_i g5
   rw[show lk.2.2+0=lk.2.2 from ME _]
   apply Yj (blk g5 (.cells #[.int .i64 lk.1,.int .i64 lk.2.1,.int .i64 lk.2.2] 140 (0,0))::many L::HI)
   ·intro w hw
    have h5:St B w0 (blk g5 (.cells #[.int .i64 lk.1,.int .i64 lk.2.1,.int .i64 lk.2.2] 140 (0,0))::many L::blk g (.cells #[.int .i64 x.n.nodes,.slice x.n.pA x.n.rows.length x.n.pcap,.int .i64 x.n.noise,.int .i64 x.n.thr,.slice x.n.lA x.n.links.length x.n.lcap,.slice x.n.mA x.n.margin.length x.n.mcap,.int .i64 x.s.len,.int .i64 x.s.off,.slice x.s.A x.s.cells.length x.s.cap,.int .i64 x.f.1,.int .i64 x.f.2.1,.int .i64 x.f.2.2.1,.int .i64 x.f.2.2.2.1,.int .i64 x.f.2.2.2.2.1,.int .i64 x.f.2.2.2.2.2,.slice x.A x.r.length x.cap,.int .i64 0] 276 (0,0))::[many R]) w:=by
     revert w
     exact zk
    exact h5.perm (Perm.cons _ (Perm.cons _ hR2))
   have hY:=hy _ _ hx [blk g5 (.cells #[.int .i64 lk.1,.int .i64 lk.2.1,.int .i64 lk.2.2] 140 (0,0))] L hS
   apply Yck _ _ (hy:=hY)
   ·exact YbJ
   ·exact rfl
   ·exact za
   ·exact rfl
   ·rintro⟨_,_,_,_,h,_⟩;cases h
   ·rintro _ ⟨L',hS',rfl⟩
    repeat'(first|refine zgd ?_|fail)
    apply hK (i+1,L')
    ·exact⟨by show i+1+1<=_;omega,hS'⟩
    ·dsimp only;omega
    ·exact zu
    ·exactλw hw=>hw.tail
   ·rintro _ ⟨L',hX',rfl⟩
    repeat'(first|refine zgd ?_|fail)
    apply Yj (many L'::HI)
    ·exactλw hw=>hw.tail
    apply We;exact rfl
    exact .inr ⟨L',hX',rfl⟩)
 ·repeat'(first|refine zgc ?_|(refine zge ?_ ?_<;>intro _<;>try exact zo)|fail)
  apply Zz;exact rfl
  have hl0:i=(JY x).length:=by unfold JY;rw[Tv,Wr];omega
  rw[hl0]at hS
  exact .inl ⟨L,hS,rfl⟩
def YrD(g:Nat):Value:=.func (.func 386) #[] #[.pointer (some ⟨g,0,none⟩)]
theorem Ydc(x:WayM){H:List HP}{w:World}(hw:St B w0 H w):
 Calls Tryz.prog 326 [x.val].toArray w (Post B w0 λv K=>∃g,v=YrD g/\K=wayB g x::H):=by
 refine Yc Tryz.func326 Tryz.ntmps326 rfl rfl hw ?_
 unfold WayM.val
 repeat'(first|(apply zg29;(apply Ym;exact za;exact rfl))|refine zga ?_|(refine zgh ?_;intro _)|fail)
 apply Yd;exact rfl;exact rfl
 exact⟨_,rfl,rfl⟩
variable {B i:Nat}{w0 w:World}{H:List HP}
theorem Yhv(x:WayM)(l:Lk)(g gl:Nat)(c:Cel)(hm:wayB g x∈H)(hml:blk gl (.cells #[.int .i64 l.1,.int .i64 l.2.1,.int .i64 l.2.2] 140 (0,0))∈H)(hw:St B w0 H w):
 Calls Tryz.prog 387 [celV c,.pointer (some ⟨g,0,none⟩),.pointer (some ⟨gl,0,none⟩)].toArray w (Post B w0 λv K=>v=.bool (!(onP x.f.1 l.1 l.2.1 c))/\K=H):=by
 refine Yc Tryz.func387 Tryz.ntmps387 rfl rfl hw ?_
 unfold wayB at hm
 have hb:onP x.f.1 l.1 l.2.1 c=true↔c.2.2.2.2=x.f.1/\c.2.2.1=l.1/\c.2.2.2.1=l.2.1:=by unfold onP Xy Yx toC;rw[Tq]
 obtain⟨b,hbe⟩:∃b,onP x.f.1 l.1 l.2.1 c=b:=⟨_,rfl⟩
 rw[hbe]at hb⊢
 repeat'(first|refine zgc ?_|(refine zge ?_ ?_<;>intro _<;>try exact zo)|(refine zgh ?_;intro _)|fail)
 all_goals(
  apply Yj H
  ·exact zk
  apply Yd;exact rfl;exact rfl
  cases b<;>simp at hb<;>first|exact⟨rfl,rfl⟩|(exfalso;omega))
theorem Yjr(x:WayM)(l:Lk)(hfew:x.s.cells.length<=1000)(hr:Rd B w0 H x.s.A (x.s.cells.flatMap celF))(hw:St B w0 H w):
 Calls Tryz.prog 327 [x.val,lkV l].toArray w (Post B w0 λv K=>∃A cap,v=.slice A (XN x.s.sch x.f.1 l).length cap/\K=cels A cap (XN x.s.sch x.f.1 l)::H):=by
 refine Yc Tryz.func327 Tryz.ntmps327 rfl rfl hw ?_
 unfold WayM.val lkV
 repeat'(first|refine zgb ?_|(refine zgh ?_;intro _)|fail)
 rename_i gw gl
 apply Yh _ YeI
 exact za
 exact rfl
 exactλ_ hw=>(Jl x.s.cells (by omega) hr.cons.cons (hw))
 rintro _ _ ⟨A',cap',rfl,rfl⟩
 repeat'(first|(apply zg29;(apply Ym;exact za;exact rfl))|fail)
 apply Yh _ Yli
 exact za
 exact rfl
 exactλ_ hw=>(Ul (λc=>!(onP x.f.1 l.1 l.2.1 c)) x.s.cells 387 [.pointer (some ⟨gw,0,none⟩),.pointer (some ⟨gl,0,none⟩)] Yt2 hfew (λc _ X w hw=>Yhv x l gw gl c (Rb _ (by unfold wayB;exact zm)) (Rb _ zm) hw) (hw))
 rintro _ _ ⟨rfl,rfl⟩
 have e:x.s.cells.filter (λc=>!!(onP x.f.1 l.1 l.2.1 c))=XN x.s.sch x.f.1 l:=Ni λc _=>MF _
 rw[e]
 repeat'(first|refine zga ?_|fail)
 apply Yj (cels A' cap' (XN x.s.sch x.f.1 l)::H)
 ·exact zk
 apply Yd;exact rfl;exact rfl
 exact⟨A',cap',rfl,rfl⟩
variable {x:WayM}{l:Lk}
theorem QX(hok:UK x)(h:(Yr x.n.net x.r)[i]? =some l):i+1<x.r.length/\0<=l.2.2/\l.2.2<=7:=by
 have hi:=(Ti.1 h).1
 rw[Wr]at hi
 have hi:i+1<x.r.length:=by omega
 rw[Qh hi]at h
 have hg:=hok.good i hi
 have h1:=(YM hok.ck).lk _ (ZA (UZ hg))
 have e:=Tz h
 unfold ZK at e
 have h2:=h1.l0;have h3:=h1.l1
 rw[e]at h2 h3
 exact⟨hi,h2,h3⟩
theorem Ye9{ls:List Lk}(h:ls[i]? =some l):X0 (ls.take (i+1))=X0 (ls.take i)+Xg l:=by
 unfold X0
 rw[TF,h,T8,List.sum_append]
 simp
theorem Wq{args:List Value}(h:(JY x)[i]? =some args):∃l,(Yr x.n.net x.r)[i]? =some l/\args=[lkV l]:=by
 unfold JY at h
 rw[TE]at h
 cases hl:(Yr x.n.net x.r)[i]? with
 |none=>rw[hl]at h;cases h
 |some l=>rw[hl]at h;exact⟨l,rfl,(Tz h).symm⟩
theorem YbZ{x:WayM}(hok:UK x):∀i,X0 ((Yr x.n.net x.r).take i)<=8*i
 |0=>TL _
 |i+1=>by
  have ih:=YbZ hok i
  cases h:(Yr x.n.net x.r)[i]? with
  |none=>
   have:=List.getElem?_eq_none_iff.1 h
   rw[TQ (by omega)]at ih⊢
   omega
  |some l=>
   rw[Ye9 h]
   have:=QX hok h
   unfold Xg
   omega
theorem Yin(x:WayM)(hok:UK x)(hi:x.In B w0 H)(hw:St B w0 H w):
 Calls Tryz.prog 416 [x.val].toArray w (Post B w0 λv K=>v=.int .i64 (X0 (Yr x.n.net x.r))/\K=H):=by
 refine Zi Tryz.func416 Tryz.ntmps416 rfl rfl hw ?_
 unfold WayM.val
 repeat'(first|refine zgd ?_|(refine zgh ?_;intro _)|fail)
 rename_i g gN
 apply Yh _ Ysb
 exact za
 exact rfl
 exactλ_ hw=>(Ydc x (hw))
 rintro _ _ ⟨g2,rfl,rfl⟩
 repeat'(first|refine zgb ?_|fail)
 have hl9:=hok.len
 have hiK:x.In B w0 (wayB g2 x::wayB g x::H):=hi.cons.cons
 refine Zj (gf:=386) (lb:=[.pointer (some ⟨g2,0,none⟩)]) (xs:=JY x) (wayB g2 x::wayB g x::H) (λz:Int=>[blk gN (.cells #[.int .i64 z] 3 (0,0))]) (λi z=>z=(X0 ((Yr x.n.net x.r).take i):Int)) (λ_ _=>False) 0 rfl Ysj (Ybs x g2 hok hiK (.head _)) rfl ?_ (by kernel_rfl) (by kernel_rfl) ?_ rfl ?_ ?_ (λ_ _ _ h=>h.elim)
 ·intro args h
  obtain⟨k,hk⟩:=T9.1 h
  obtain⟨l,_,rfl⟩:=Wq hk
  rfl
 ·unfold wayB
  simp only[TC,TK]
  exact zk
 ·rintro l k args R z hk hI
  obtain⟨lk,hlk,rfl⟩:=Wq hk
  have hbd:=QX hok hlk
  have hne:=YbZ hok k
  have hst:=Ye9 hlk
  try dsimp only at hI
  dsimp only[UG,List.cons_append,List.nil_append]
  unfold lkV
  repeat'(first|refine zgc ?_|(refine zgh ?_;intro _)|fail)
  apply JO (YD Yt)
  intro R'
  unfold wayB
  repeat'(first|refine zgd ?_|fail)
  apply Ug (z+(lk.2.2+1))
  ·show z+(lk.2.2+1)=_
   rw[hI,hst]
   unfold Xg
   omega
  ·dsimp only[List.cons_append,List.nil_append]
   exact zk
 ·rintro D z hI
  try dsimp only at hI
  have hle:(JY x).length=(Yr x.n.net x.r).length:=by unfold JY;rw[Tv]
  rw[hle,TY]at hI
  dsimp only[List.cons_append,List.nil_append]
  unfold wayB
  repeat'(first|refine zgc ?_|fail)
  apply ZR Yt
  apply VQ_m
  apply Yj H
  ·exact zk
  apply Yd;exact rfl;exact rfl
  exact⟨by rw[hI],rfl⟩
def rowQ(r:RowM):HP:=ints r.A r.cap r.xs
structure RqM where
 f:Flw
 A:Option Addr
 cap:Nat
 rows:List RowM
def rqF(x:RqM):List Value:=[.int .i64 x.f.1,.int .i64 x.f.2.1,.int .i64 x.f.2.2.1,.int .i64 x.f.2.2.2.1,.int .i64 x.f.2.2.2.2.1,.int .i64 x.f.2.2.2.2.2,.slice x.A x.rows.length x.cap]
def rqV(x:RqM):Value:=.agg #[.int .i64 x.f.1,.int .i64 x.f.2.1,.int .i64 x.f.2.2.1,.int .i64 x.f.2.2.2.1,.int .i64 x.f.2.2.2.2.1,.int .i64 x.f.2.2.2.2.2,.slice x.A x.rows.length x.cap]
def RqM.rq(x:RqM):Rqs:=(x.f,x.rows.map (·.xs))
abbrev netA(g:Nat)(n:NetM):HP:=blk g (.cells #[.int .i64 n.nodes,.slice n.pA n.rows.length n.pcap,.int .i64 n.noise,.int .i64 n.thr,.slice n.lA n.links.length n.lcap,.slice n.mA n.margin.length n.mcap] 26 (0,0))
abbrev schA(g:Nat)(s:SchM):HP:=blk g (.cells #[.int .i64 s.len,.int .i64 s.off,.slice s.A s.cells.length s.cap] 37 (0,0))
abbrev rqA(g:Nat)(x:RqM):HP:=blk g (.cells #[.int .i64 x.f.1,.int .i64 x.f.2.1,.int .i64 x.f.2.2.1,.int .i64 x.f.2.2.2.1,.int .i64 x.f.2.2.2.2.1,.int .i64 x.f.2.2.2.2.2,.slice x.A x.rows.length x.cap] 86 (0,0))
structure RqM.In(B:Nat)(w0:World)(H:List HP)(x:RqM):Prop where
 rt:Rd B w0 H x.A (x.rows.flatMap rowF)
 rw_:∀r∈x.rows,Rd B w0 H r.A (r.xs.flatMap numF)
 ln:x.rows.length<=1000000000000
 rl:∀r∈x.rows,r.xs.length<=1000000000000/\r.xs.length<=r.cap
variable {B:Nat}{w0:World}{H H':List HP}{x:RqM}
theorem RqM.In.mono(h:x.In B w0 H)(hH:∀w,St B w0 H' w->St B w0 H w):x.In B w0 H':=⟨h.rt.mono hH,λr hr=>(h.rw_ r hr).mono hH,h.ln,h.rl⟩
variable {X:HP}
theorem RqM.In.cons(h:x.In B w0 H):x.In B w0 (X::H):=h.mono λ_ hw=>hw.tail
structure QIn(B:Nat)(w0:World)(H:List HP)(A:Option Addr)(q:List RqM):Prop where
 rd:Rd B w0 H A (q.flatMap rqF)
 x:∀x∈q,x.In B w0 H
 ln:q.length<=1000000000000
variable {A:Option Addr}{q:List RqM}
theorem QIn.mono(h:QIn B w0 H A q)(hH:∀w,St B w0 H' w->St B w0 H w):QIn B w0 H' A q:=⟨h.rd.mono hH,λx hx=>(h.x x hx).mono hH,h.ln⟩
theorem QIn.cons(h:QIn B w0 H A q):QIn B w0 (X::H) A q:=h.mono λ_ hw=>hw.tail
structure ClM where
 flow:Int
 rA:Option Addr
 rcap:Nat
 rs:List RowM
 bA:Option Addr
 bcap:Nat
 bs:List Int
 wA:Option Addr
 wcap:Nat
 ws:List Int
 sA:Option Addr
 scap:Nat
 ss:List RowM
def clF(c:ClM):List Value:=[.int .i64 c.flow,.slice c.rA c.rs.length c.rcap,.slice c.bA c.bs.length c.bcap,.slice c.wA c.ws.length c.wcap,.slice c.sA c.ss.length c.scap]
def clV(c:ClM):Value:=.agg #[.int .i64 c.flow,.slice c.rA c.rs.length c.rcap,.slice c.bA c.bs.length c.bcap,.slice c.wA c.ws.length c.wcap,.slice c.sA c.ss.length c.scap]
def ClM.clm(c:ClM):Clm:=⟨c.flow,c.rs.map (·.xs),c.bs,c.ws,c.ss.map (·.xs)⟩
structure ClM.In(B:Nat)(w0:World)(H:List HP)(c:ClM):Prop where
 rt:Rd B w0 H c.rA (c.rs.flatMap rowF)
 rw_:∀r∈c.rs,Rd B w0 H r.A (r.xs.flatMap numF)
 bd:Rd B w0 H c.bA (c.bs.flatMap numF)
 ws:Rd B w0 H c.wA (c.ws.flatMap numF)
 st:Rd B w0 H c.sA (c.ss.flatMap rowF)
 sw:∀r∈c.ss,Rd B w0 H r.A (r.xs.flatMap numF)
 ln:c.rs.length<=1000000000000/\c.bs.length<=1000000000000/\c.ws.length<=1000000000000/\c.ss.length<=1000000000000
 rl:∀r∈c.rs,r.xs.length<=1000000000000
 sl:∀r∈c.ss,r.xs.length<=1000000000000
variable {c:ClM}
theorem ClM.In.mono(h:c.In B w0 H)(hH:∀w,St B w0 H' w->St B w0 H w):c.In B w0 H':=
 ⟨h.rt.mono hH,λr hr=>(h.rw_ r hr).mono hH,h.bd.mono hH,h.ws.mono hH,h.st.mono hH,λr hr=>(h.sw r hr).mono hH,h.ln,h.rl,h.sl⟩
theorem ClM.In.cons(h:c.In B w0 H):c.In B w0 (X::H):=h.mono λ_ hw=>hw.tail
structure CIn(B:Nat)(w0:World)(H:List HP)(A:Option Addr)(c:List ClM):Prop where
 rd:Rd B w0 H A (c.flatMap clF)
 x:∀x∈c,x.In B w0 H
 ln:c.length<=1000000000000
theorem CIn.mono{c:List ClM}(h:CIn B w0 H A c)(hH:∀w,St B w0 H' w->St B w0 H w):CIn B w0 H' A c:=⟨h.rd.mono hH,λx hx=>(h.x x hx).mono hH,h.ln⟩
theorem CIn.cons{c:List ClM}(h:CIn B w0 H A c):CIn B w0 (X::H) A c:=h.mono λ_ hw=>hw.tail
def clP(c:ClM):List HP:=[sl 93 1 c.rA c.rs.length c.rcap (c.rs.flatMap rowF),many (c.rs.map rowQ),nrs c.bA c.bcap c.bs,nrs c.wA c.wcap c.ws,sl 24 1 c.sA c.ss.length c.scap (c.ss.flatMap rowF),many (c.ss.map rowQ)]
def clQ(c:ClM):HP:=many (clP c)
def nilC(f:Int):ClM:=⟨f,none,0,[],none,0,[],none,0,[],none,0,[]⟩
theorem YsO(hm:clQ c∈H)(hl:(c.rs.length<=1000000000000/\c.bs.length<=1000000000000/\c.ws.length<=1000000000000/\c.ss.length<=1000000000000)/\(∀r∈c.rs,r.xs.length<=1000000000000)/\∀r∈c.ss,r.xs.length<=1000000000000):c.In B w0 H:=by
 have hb:∀w,St B w0 H w->St B w0 (clP c) w:=λw hw=>hw.inM hm
 refine ClM.In.mono (H:=clP c) ?_ hb
 unfold clP
 refine⟨.sl (.head _),λr hr=>?_,.sl (.tail _ (.tail _ (.head _))),.sl (.tail _ (.tail _ (.tail _ (.head _)))),.sl (.tail _ (.tail _ (.tail _ (.tail _ (.head _))))),λr hr=>?_,hl.1,hl.2.1,hl.2.2⟩
 ·exact Rd.many (L:=c.rs.map rowQ) (.tail _ (.head _)) (SO hr)
 ·exact Rd.many (L:=c.ss.map rowQ) (.tail _ (.tail _ (.tail _ (.tail _ (.tail _ (.head _)))))) (SO hr)
theorem Yio{w:World}(f:Int)(h:St B w0 H w):St B w0 (clQ (nilC f)::H) w:=by
 unfold clQ clP nilC
 dsimp only[List.flatMap_nil,List.map_nil,List.length_nil]
 have h1:=(h.perm (.noMany H)).nilSlice 24 1
 have h2:=(((h1.nilSlice 3 1).nilSlice 3 1).perm (.noMany _)).nilSlice 93 1
 exact h2.perm (.close [_,_,_,_,_,_] H)
abbrev flws(A:Option Addr)(cap:Nat)(l:List Flw):HP:=sl 53 6 A l.length cap (l.flatMap flwF)
theorem YeX(A:Option Addr)(cap:Nat)(l:List Flw)(f:Flw):sl 53 6 A (l.length+1) cap (l.flatMap flwF++#[.int .i64 f.1,.int .i64 f.2.1,.int .i64 f.2.2.1,.int .i64 f.2.2.2.1,.int .i64 f.2.2.2.2.1,.int .i64 f.2.2.2.2.2].toList)=flws A cap (l++[f]):=by simp[flws,List.flatMap_append,flwF]
structure FlM where
 i:Nat
 A:Option Addr
 cap:Nat
def RqM.fl(q:List RqM):List Flw:=q.map (·.f)
variable {A:Option Addr}{cap B:Nat}{w0 w:World}{H:List HP}
theorem Ya7(q:List RqM)(hl:q.length<=1000000000000)(hr:Rd B w0 H A (q.flatMap rqF))(hw:St B w0 H w):
 Calls Tryz.prog 176 [.slice A q.length cap].toArray w (Post B w0 λv K=>∃A2 cap2,v=.slice A2 (RqM.fl q).length cap2/\K=flws A2 cap2 (RqM.fl q)::H):=by
 refine Yc Tryz.func176 Tryz.ntmps176 rfl rfl hw ?_
 repeat'(first|refine zgb ?_|fail)
 refine Je 53 6 ?_
 refine Yi (λz:FlM=>[(8,.int .i64 (z.i:Nat)),(7,.int .i64 q.length),(6,.slice A q.length cap),(3,.slice z.A (RqM.fl (q.take z.i)).length z.cap)]) (λz=>flws z.A z.cap (RqM.fl (q.take z.i))::H) (λz=>z.i<=q.length) (λz=>q.length-z.i) ⟨0,none,0⟩ (Tu _) ?_ (λw hw=>hw) ?_
 ·exact zu
 rintro⟨i,A2,cap2⟩ hi K hK
 dsimp only at hi⊢
 have hlen:(RqM.fl (q.take i)).length=i:=by unfold RqM.fl;rw[Tv,TD];omega
 have hr':=hr.cons (X:=flws A2 cap2 (RqM.fl (q.take i)))
 by_cases hlt:i<q.length
 ·obtain⟨x,hx⟩:∃x,q[i]? =some x:=⟨_,Ta hlt⟩
  have hst:RqM.fl (q.take (i+1))=RqM.fl (q.take i)++[x.f]:=by unfold RqM.fl;rw[TF,hx,RI,T8];rfl
  repeat'(first|(apply Ye T;exact rfl;exact zm;exact rfl;exact zv;exact rfl;exact rfl)|refine zgd ?_|(refine zge ?_ ?_<;>intro _<;>try exact zo)|(refine zgh ?_;intro _)|(refine zgi ?_;intro _ _)|fail)
  rename_i A' cap'
  rw[YeX,<-hst,show(RqM.fl (q.take i)).length+1=(RqM.fl (q.take (i+1))).length from by rw[hst];simp]
  apply hK ⟨i+1,A',cap'⟩
  ·show i+1<=_
   omega
  ·dsimp only;omega
  ·exact zu
  ·exact zk
 ·obtain rfl:i=q.length:=by omega
  rw[TY]
  repeat'(first|refine zgc ?_|(refine zge ?_ ?_<;>intro _<;>try exact zo)|fail)
  apply Yd;exact rfl;exact rfl
  exact⟨A2,cap2,rfl,rfl⟩
variable {x:RqM}
theorem Ydv{k:Nat}{r:RowM}(h:x.rows[k]? =some r):rtAt x.rq.2 k=r.xs:=by
 have h2:x.rq.2[k]? =some r.xs:=by
  show(x.rows.map (·.xs))[k]? =_
  rw[TE,h];rfl
 exact Tz ((YaU (Ti.1 h2).1).symm.trans h2)
theorem Yay(n:NetM)(x:RqM)(hin:n.In B w0 H)(hx:x.In B w0 H)(hw:St B w0 H w):
 Calls Tryz.prog 254 [n.val,rqV x].toArray w (Post B w0 λv K=>v=.int .i64 (rtsE n.net x.rq)/\K=H):=by
 refine Yc Tryz.func254 Tryz.ntmps254 rfl rfl hw ?_
 have hln:x.rq.2.length=x.rows.length:=by unfold RqM.rq;rw[Tv]
 have hlx:=hx.ln
 have e1:x.rq.1=x.f:=rfl
 unfold rtsE
 rw[hln,e1]
 have p1:=λ{H':List HP}{w:World}(r:RowM) (hr:r∈x.rows) (hin:n.In B w0 H') (hx:x.In B w0 H') (hw:St B w0 H' w)=>Yb6 n x.f.2.1 x.f.2.2.1 r.xs (cap:=r.cap) hin (hx.rw_ r hr) (RE (hx.rl r hr).1 (by decide)) (hx.rl r hr).2 hw
 unfold NetM.val rqV
 by_cases h0:x.rows.length=0
 ·rw[Tm h0]
  repeat'(first|refine zgb ?_|(refine zge ?_ ?_<;>intro _<;>try exact zo)|(refine zgh ?_;intro _)|fail)
  apply Yj H
  ·exact zk
  apply Yd;exact rfl;exact rfl;exact⟨rfl,rfl⟩
 rw[Td h0]
 by_cases h2:2<x.rows.length
 ·rw[Tm h2]
  repeat'(first|refine zgb ?_|(refine zgf ?_ ?_<;>intro _<;>try exact zo)|(refine zgh ?_;intro _)|fail)
  apply Yj H
  ·exact zk
  apply Yd;exact rfl;exact rfl;exact⟨rfl,rfl⟩
 rw[Td h2]
 obtain⟨F,hF⟩:∃F,(λk=>Zv n.net x.f.2.1 x.f.2.2.1 (rtAt x.rq.2 k))=F:=⟨_,rfl⟩
 rw[hF]
 have hFv:∀{k:Nat}{r:RowM},x.rows[k]? =some r->F k=Zv n.net x.f.2.1 x.f.2.2.1 r.xs:=λh=>by rw[<-hF];show Zv _ _ _ _=_;rw[Ydv h]
 repeat'(first|refine zgb ?_|(refine zgf ?_ ?_<;>intro _<;>try exact zo)|(refine zgh ?_;intro _)|fail)
 rename_i gn gx _ _
 refine Yi (λk:Nat=>[(19,.int .i64 (k:Nat)),(18,.int .i64 x.rows.length),(17,.slice x.A x.rows.length x.cap),(3,.pointer (some ⟨gx,0,none⟩)),(2,.pointer (some ⟨gn,0,none⟩))]) (λ_=>rqA gx x::netA gn n::H) (λk=>k<=x.rows.length/\∀j,0<=j->j<k->F j=0) (λk=>x.rows.length-k) 0 ⟨Tu _,λj _ h=>absurd h (Sv _)⟩ ?_ (λw hw=>hw) ?_
 ·exact zu
 rintro k ⟨hk,hz⟩ K hK
 have hrt:Rd B w0 (rqA gx x::netA gn n::H) x.A (x.rows.flatMap rowF):=hx.rt.cons.cons
 by_cases hlt:k<x.rows.length
 ·obtain⟨r,hr⟩:∃r,x.rows[k]? =some r:=⟨_,Ta hlt⟩
  have hFk:=hFv hr
  have p2:=λ{H':List HP}{w:World}(hin:n.In B w0 H') (hx:x.In B w0 H') (hw:St B w0 H' w)=>p1 r (Tf hr) hin hx hw
  rw[<-hFk]at p2
  by_cases hFz:F k=0
  ·rw[hFz]at p2
   repeat'(first|((first|apply Ya YeQ|apply Yb YeQ);exact za;exact rfl;exactλ_ hw=>(p2 (hin.mono zk) (hx.mono zk) hw))|refine zgd ?_|(refine zge ?_ ?_<;>intro _<;>try exact zo)|fail)
   apply hK (k+1)
   ·exact⟨by omega,λj h1 h2=>by
     rcases RU.1 h2 with h|rfl
     ·exact hz j h1 h
     ·exact hFz⟩
   ·omega
   ·exact zu
   ·exact zk
  ·have hfe:=Zt (f:=F) (r:=x.rows.length) (i0:=0) (i:=k) (λj h1 h2=>hz j h1 h2) (Tu _) (by omega) hFz
   rw[hfe,Tm hFz]
   clear hK
   repeat'(first|((first|apply Ya YeQ|apply Yb YeQ);exact za;exact rfl;exactλ_ hw=>(p2 (hin.mono zk) (hx.mono zk) hw))|refine zgd ?_|(refine zge ?_ ?_<;>intro _<;>try exact zo)|fail)
   apply Yj H
   ·exact zk
   apply Yd;exact rfl;exact rfl;exact⟨rfl,rfl⟩
 ·obtain rfl:k=x.rows.length:=by omega
  have hfe:=ZS (f:=F) (r:=x.rows.length) (i0:=0) λj h1 h2=>hz j h1 (by omega)
  rw[hfe,Td (λe=>e rfl)]
  clear hK
  by_cases h3:x.rows.length=2
  rotate_left
  ·rw[Td (λe=>h3 e.1)]
   repeat'(first|(apply zg28;refine zs84 ?_)|refine zgd ?_|(refine zge ?_ ?_<;>intro _<;>try exact zo)|fail)
   apply Yj H
   ·exact zk
   apply Yd;exact rfl;exact rfl;exact⟨rfl,rfl⟩
  obtain⟨r0,hr0⟩:∃r,x.rows[0]? =some r:=⟨_,Ta (by omega)⟩
  obtain⟨r1,hr1⟩:∃r,x.rows[1]? =some r:=⟨_,Ta (by omega)⟩
  rw[Ydv hr0,Ydv hr1]
  have p3:=λ{H':List HP}{w:World}(hx:x.In B w0 H') (hw:St B w0 H' w)=>Ybf r0.xs r1.xs (cap:=r0.cap) (cap2:=r1.cap) (RE (hx.rl r0 (Tf hr0)).1 (by decide)) (RE (hx.rl r1 (Tf hr1)).1 (by decide)) (hx.rw_ r0 (Tf hr0)) (hx.rw_ r1 (Tf hr1)) hw
  by_cases heq:r0.xs=r1.xs
  ·rw[Tm ⟨h3,heq⟩]
   rw[Tc heq]at p3
   repeat'(first|refine zgc ?_|(refine zge ?_ ?_<;>intro _<;>try exact zo)|fail)
   apply Xv [0,1,2,3,4,5,6,7,8,9,10,11,12,13,14] []
   kernel_rfl
   kernel_rfl
   (simp only[Yg,nthO];rfl)
   exact rfl
   repeat'(first|refine zgd ?_|(refine zge ?_ ?_<;>intro _<;>try exact zo)|fail)
   first|apply Ya YeF|apply Yb YeF
   exact za
   exact rfl
   exactλ_ hw=>(p3 (hx.mono zk) hw)
   repeat'(first|(apply Yk;(repeat(first|with_reducible exact Y6|(with_reducible apply YX;(repeat(first|with_reducible exact Yt|with_reducible apply YD))))))|refine zgd ?_|fail)
   ·show Perm H (H++[])
    rw[TM];exact Perm.refl _
   repeat'(first|fail)
   apply Yj H
   ·exact zk
   apply Yd;exact rfl;exact rfl;exact⟨rfl,rfl⟩
  ·rw[Td (λe=>heq e.2)]
   rw[Tn heq]at p3
   repeat'(first|refine zgc ?_|(refine zge ?_ ?_<;>intro _<;>try exact zo)|fail)
   apply Xv [0,1,2,3,4,5,6,7,8,9,10,11,12,13,14] []
   kernel_rfl
   kernel_rfl
   (simp only[Yg,nthO];rfl)
   exact rfl
   repeat'(first|refine zgd ?_|(refine zge ?_ ?_<;>intro _<;>try exact zo)|fail)
   first|apply Ya YeF|apply Yb YeF
   exact za
   exact rfl
   exactλ_ hw=>(p3 (hx.mono zk) hw)
   repeat'(first|(apply Yk;(repeat(first|with_reducible exact Y6|(with_reducible apply YX;(repeat(first|with_reducible exact Yt|with_reducible apply YD))))))|refine zgd ?_|fail)
   ·show Perm H (H++[])
    rw[TM];exact Perm.refl _
   repeat'(first|fail)
   apply Yj H
   ·exact zk
   apply Yd;exact rfl;exact rfl;exact⟨rfl,rfl⟩
theorem Ypa(q:List RqM):RqM.fl q=YB (q.map RqM.rq):=by unfold RqM.fl YB;rw[NS];rfl
theorem Ydu{q:List RqM}{i:Nat}(h:q[i]? =some x):rqAt (q.map RqM.rq) i=x.rq:=by
 have h2:(q.map RqM.rq)[i]? =some x.rq:=by rw[TE,h];rfl
 exact Tz ((ZV (Ti.1 h2).1).symm.trans h2)
theorem Yec(n:NetM)(q:List RqM)(hin:n.In B w0 H)(hq:QIn B w0 H A q)(hw:St B w0 H w):
 Calls Tryz.prog 175 [n.val,.slice A q.length cap].toArray w (Post B w0 λv K=>v=.tuple #[.int .i64 (rqsE n.net (q.map RqM.rq)).1,.int .i64 (rqsE n.net (q.map RqM.rq)).2]/\K=H):=by
 refine Yc Tryz.func175 Tryz.ntmps175 rfl rfl hw ?_
 have hql:=hq.ln
 have hqr:=hq.rd
 have p1:=λ{H':List HP}{w:World}(hin:n.In B w0 H') (hw:St B w0 H' w)=>YY n hin hw
 have p2:=λ{H':List HP}{w:World}(hq:QIn B w0 H' A q) (hw:St B w0 H' w)=>Ya7 q (cap:=cap) hql hq.rd hw
 have p3:=λ{A2:Option Addr}{cap2:Nat}{H':List HP}{w:World}(hr:Rd B w0 H' A2 ((RqM.fl q).flatMap flwF)) (hw:St B w0 H' w)=>Y5 n.nodes (RqM.fl q) (by unfold RqM.fl;rw[Tv];omega) (cap:=cap2) hr hw
 unfold rqsE
 rw[<-Ypa,Tv]
 rw[show n.net.nodes=n.nodes from rfl]
 obtain⟨c,hc⟩:∃c,Yq n.net=c:=⟨_,rfl⟩
 obtain⟨⟨fi,fe⟩,hf⟩:∃f,YE n.nodes (RqM.fl q)=f:=⟨_,rfl⟩
 obtain⟨F,hF⟩:∃F,(λi=>rtsE n.net (rqAt (q.map RqM.rq) i))=F:=⟨_,rfl⟩
 rw[hc]at p1⊢
 rw[hf]at p3⊢
 rw[hF]
 dsimp only at p3⊢
 have hFv:∀{k:Nat}{x:RqM},q[k]? =some x->F k=rtsE n.net x.rq:=λh=>by rw[<-hF];show rtsE _ _=_;rw[Ydu h]
 unfold NetM.val
 by_cases h0:c=0
 rotate_left
 ·rw[Tm h0]
  repeat'(first|((first|apply Ya en82|apply Yb en82);exact za;exact rfl;exactλ_ hw=>(p1 hin.cons hw))|refine zgb ?_|(refine zge ?_ ?_<;>intro _<;>try exact zo)|(refine zgh ?_;intro _)|fail)
  apply Yj H
  ·exact zk
  apply Yp;(iterate 3 exact rfl);exact⟨rfl,rfl⟩
 subst h0
 rw[Td (λe=>e rfl)]
 by_cases h1:fe=0
 rotate_left
 ·rw[Tm h1]
  repeat'(first|((first|apply Ya en82|apply Yb en82);exact za;exact rfl;exactλ_ hw=>(p1 hin.cons hw))|refine zgb ?_|(refine zge ?_ ?_<;>intro _<;>try exact zo)|(refine zgh ?_;intro _)|fail)
  apply YU [0,1,2,3,4,5,6,7,8,9] [] [true]
  kernel_rfl
  kernel_rfl
  exact zy
  (simp only[Yg,nthO];rfl)
  exact rfl
  repeat'(first|refine zgd ?_|fail)
  apply Yh _ Ylg
  exact za
  exact rfl
  exactλ_ hw=>(p2 (hq.mono zk) (hw))
  rintro _ _ ⟨A2,cap2,rfl,rfl⟩
  repeat'(first|(apply Yk;(repeat(first|with_reducible exact Y6|(with_reducible apply YX;(repeat(first|with_reducible exact Yt|with_reducible apply YD))))))|refine zgd ?_|fail)
  first|apply Ya en59|apply Yb en59
  exact za
  exact rfl
  exactλ_ hw=>(p3 (Rd.sl zm) hw)
  repeat'(first|(apply Yk;(repeat(first|with_reducible exact Y6|(with_reducible apply YX;(repeat(first|with_reducible exact Yt|with_reducible apply YD))))))|refine zgd ?_|(refine zge ?_ ?_<;>intro _<;>try exact zo)|fail)
  apply Yj H
  ·exact zk
  apply Yp;(iterate 3 exact rfl);exact⟨rfl,rfl⟩
 subst h1
 rw[Td (λe=>e rfl)]
 repeat'(first|((first|apply Ya en82|apply Yb en82);exact za;exact rfl;exactλ_ hw=>(p1 hin.cons hw))|refine zgb ?_|(refine zge ?_ ?_<;>intro _<;>try exact zo)|(refine zgh ?_;intro _)|fail)
 first|(rename_i gn;guard_hyp gn:Nat)|(rename_i gn _;guard_hyp gn:Nat)|(rename_i gn _ _;guard_hyp gn:Nat)
 apply YU [0,1,2,3,4,5,6,7,8,9] [] [true]
 kernel_rfl
 kernel_rfl
 exact zy
 (simp only[Yg,nthO];rfl)
 exact rfl
 repeat'(first|refine zgd ?_|fail)
 apply Yh _ Ylg
 exact za
 exact rfl
 exactλ_ hw=>(p2 (hq.mono zk) (hw))
 rintro _ _ ⟨A2,cap2,rfl,rfl⟩
 repeat'(first|(apply Yk;(repeat(first|with_reducible exact Y6|(with_reducible apply YX;(repeat(first|with_reducible exact Yt|with_reducible apply YD))))))|refine zgd ?_|fail)
 first|apply Ya en59|apply Yb en59
 exact za
 exact rfl
 exactλ_ hw=>(p3 (Rd.sl zm) hw)
 repeat'(first|(apply Yk;(repeat(first|with_reducible exact Y6|(with_reducible apply YX;(repeat(first|with_reducible exact Yt|with_reducible apply YD))))))|refine zgd ?_|(refine zge ?_ ?_<;>intro _<;>try exact zo)|fail)
 refine Yi (λk:Nat=>[(28,.int .i64 (k:Nat)),(27,.int .i64 q.length),(26,.slice A q.length cap),(2,.pointer (some ⟨gn,0,none⟩))]) (λ_=>netA gn n::H) (λk=>k<=q.length/\∀j,0<=j->j<k->F j=0) (λk=>q.length-k) 0 ⟨Tu _,λj _ h=>absurd h (Sv _)⟩ ?_ ?_ ?_
 ·exact zu
 ·exact zk
 rintro k ⟨hk,hz⟩ K hK
 have hqr':Rd B w0 (netA gn n::H) A (q.flatMap rqF):=hqr.cons
 by_cases hlt:k<q.length
 ·obtain⟨x,hx⟩:∃x,q[k]? =some x:=⟨_,Ta hlt⟩
  have hFk:=hFv hx
  have hxi:=hq.x x (Tf hx)
  have p4:=λ{H':List HP}{w:World}(hin:n.In B w0 H') (hx:x.In B w0 H') (hw:St B w0 H' w)=>Yay n x hin hx hw
  rw[<-hFk]at p4
  by_cases hFz:F k=0
  ·rw[hFz]at p4
   repeat'(first|((first|apply Ya Ylk|apply Yb Ylk);exact za;exact rfl;exactλ_ hw=>(p4 (hin.mono zk) (hxi.mono zk) hw))|refine zgd ?_|(refine zge ?_ ?_<;>intro _<;>try exact zo)|(refine zgh ?_;intro _)|fail)
   apply hK (k+1)
   ·exact⟨by omega,λj h1 h2=>by
     rcases RU.1 h2 with h|rfl
     ·exact hz j h1 h
     ·exact hFz⟩
   ·omega
   ·exact zu
   ·exact zk
  ·have hfe:=Zt (f:=F) (r:=q.length) (i0:=0) (i:=k) (λj h1 h2=>hz j h1 h2) (Tu _) (by omega) hFz
   rw[hfe]
   clear hK
   repeat'(first|((first|apply Ya Ylk|apply Yb Ylk);exact za;exact rfl;exactλ_ hw=>(p4 (hin.mono zk) (hxi.mono zk) hw))|refine zgd ?_|(refine zge ?_ ?_<;>intro _<;>try exact zo)|(refine zgh ?_;intro _)|fail)
   apply Yj H
   ·exact zk
   apply Yp;(iterate 3 exact rfl);exact⟨rfl,rfl⟩
 ·obtain rfl:k=q.length:=by omega
  have hfe:=ZS (f:=F) (r:=q.length) (i0:=0) λj h1 h2=>hz j h1 (by omega)
  rw[hfe]
  clear hK
  repeat'(first|refine zgc ?_|(refine zge ?_ ?_<;>intro _<;>try exact zo)|fail)
  apply Yj H
  ·exact zk
  apply Yp;(iterate 3 exact rfl);exact⟨rfl,rfl⟩
def runW(x:WayM)(a:Int):List (Cel×Int):=runP x.s.len (XN x.s.sch x.f.1) (a+x.f.2.2.2.1) (Yr x.n.net x.r) a
def cntV(z:Cel×Int):List Value:=[celV z.1,.int .i64 z.2]
def YhC(x:WayM)(a:Int):List (List Value):=(runW x a).map cntV
structure CtM where
 c:Nat
 a:Int
 L:List HP
structure CuM where
 k:Nat
 slot:Int
 a:Int
 c:Nat
 L:List HP
structure CvM where
 j:Nat
 k:Nat
 a:Int
 c:Nat
 L:List HP
variable {α:Type}{c:Nat}
theorem Yp8{W r:List α}{z:α}(hc:c<=W.length)(h:W=W.take c++z::r):W[c]? =some z/\c+1<=W.length/\W=W.take (c+1)++r:=by
 have hl:(W.take c).length=c:=by rw[TD];omega
 have hg:W[c]? =some z:=by
  rw[h,Ro (by omega),hl,Nb];rfl
 refine⟨hg,(Ti.1 hg).1,?_⟩
 rw[TF,hg]
 conv=>lhs;rw[h]
 simp
theorem YiW{W:List α}(hc:c<=W.length)(h:W=W.take c++[]):c=W.length:=by
 rw[TM]at h
 have:=TU List.length h
 rw[TD]at this
 omega
theorem QM(x:WayM)(at0:Int)(hok:UK x)(hat:0<=at0/\at0<=1000000)(ga gw:Nat){B:Nat}{w0:World}{H:List HP}(hi:x.In B w0 H):
 Yb8 Tryz.prog 325 [.pointer (some ⟨ga,0,none⟩),.pointer (some ⟨gw,0,none⟩)] (YhC x at0) B w0 (intB ga at0::wayB gw x::H):=by
 refine Yl2 Tryz.func325 Tryz.ntmps325 rfl rfl ?_
 intro l SS XX hy L0 h0
 have hper:=hok.per
 have hslen:=hok.slen
 obtain⟨W,hW⟩:∃W,runW x at0=W:=⟨_,rfl⟩
 have hxs:YhC x at0=W.map cntV:=by unfold YhC;rw[hW]
 rw[hxs]at hy⊢
 rw[Tv]
 obtain⟨endd,hend⟩:∃e,at0+x.f.2.2.2.1=e:=⟨_,rfl⟩
 unfold runW at hW
 rw[hend]at hW
 unfold intB at hy⊢
 iterate 3 (first|refine zga ?_|(refine zgh ?_;intro _)|fail)
 rename_i gy
 apply Yoj
 apply YfN
 apply Xt
 refine J4 (λz:Nat×Nat=>[(5,.pointer (some ⟨z.2,0,none⟩)),(4,.pointer (some ⟨z.1,0,none⟩)),(3,.pointer (some ⟨gy,0,none⟩)),(1,.pointer (some ⟨ga,0,none⟩)),(2,.pointer (some ⟨gw,0,none⟩))])
  (λz=>intB z.1 at0::many L0::intB z.2 endd::blk gy (.cells #[.func (.yield l) #[] #[]] 345 (0,0))::intB ga at0::wayB gw x::H) ?_ ?_
 ·intro K hK
  repeat'(first|fail)
  apply Vr (.n1 0 (.n1 1 (.n1 2 (.n1 3 (.n1 4 (.n1 5 (.n2 6 (.n1 7 (.n1 8 .done)) 7 (.n1 6 (.n1 8 .done))))))))) [9] [false,false,true,true]
  kernel_rfl
  kernel_rfl
  exact zy
  (simp only[Yg,nthO];rfl)
  repeat'(first|(apply Yk;try exact zl)|apply(zs91 ?_ ?_)|(apply Xp;try exact zl)|refine zgd ?_|(refine zgh ?_;intro _)|fail)
  ·rename_i a b
   rw[hend]
   apply hK (a,b)
   ·exact zu
   ·unfold intB
    dsimp only
    exact zk
  ·rename_i a b
   rw[hend]
   apply hK (b,a)
   ·exact zu
   ·unfold intB
    dsimp only
    exact zk
 rintro⟨g4,g5⟩
 unfold intB
 dsimp only
 repeat'(first|refine zgb ?_|fail)
 apply Yh _ Ysb
 exact za
 exact rfl
 exactλ_ hw=>(Ydc x (hw))
 rintro _ _ ⟨g2,rfl,rfl⟩
 repeat'(first|refine zgb ?_|fail)
 have hiK:x.In B w0 (wayB g2 x::blk g5 (.cells #[.int .i64 endd] 3 (0,0))::blk gy (.cells #[.func (.yield l) #[] #[]] 345 (0,0))::blk ga (.cells #[.int .i64 at0] 3 (0,0))::wayB gw x::H):=hi.cons.cons.cons.cons.cons
 refine Zj (gf:=386) (lb:=[.pointer (some ⟨g2,0,none⟩)]) (xs:=JY x) (wayB g2 x::blk g5 (.cells #[.int .i64 endd] 3 (0,0))::blk gy (.cells #[.func (.yield l) #[] #[]] 345 (0,0))::blk ga (.cells #[.int .i64 at0] 3 (0,0))::wayB gw x::H) (λy:CtM=>[blk g4 (.cells #[.int .i64 y.a] 3 (0,0)),many y.L])
  (λk y=>y.c<=W.length/\W=W.take y.c++runP x.s.len (XN x.s.sch x.f.1) endd ((Yr x.n.net x.r).drop k) y.a/\SS y.c y.L/\at0<=y.a/\y.a<=endd)
  (λe K=>e=.ret/\∃a L,(SS W.length L\/XX L)/\K=[blk g4 (.cells #[.int .i64 a] 3 (0,0)),many L]) ⟨0,at0,L0⟩ rfl Ysj (Ybs x g2 hok hiK (.head _)) rfl ?_ (by kernel_rfl) (by kernel_rfl) ?_ ⟨Tu _,by simpa using hW.symm,h0,SD _,by show at0<=endd;omega⟩ ?_ ?_ ?_
 ·intro args h
  obtain⟨k,hk⟩:=T9.1 h
  obtain⟨l,_,rfl⟩:=Wq hk
  rfl
 ·simp only[TC,TK]
  exact zk
 ·rintro l2 k args R ⟨c,a,L⟩ hk ⟨hc,hWk,hS,ha0,ha1⟩
  obtain⟨lk,hlk,rfl⟩:=Wq hk
  have hbd:=QX hok hlk
  dsimp only at hc hWk hS ha0 ha1
  dsimp only[UG,List.cons_append,List.nil_append]
  unfold lkV
  repeat'(first|refine zgc ?_|(refine zgh ?_;intro _)|fail)
  rename_i gl
  apply JO (YD Yt)
  intro R'
  repeat'(first|refine zgc ?_|fail)
  have hfew:=hok.few
  apply Yh _ YtW
  exact za
  exact rfl
  exactλ_ hw=>(Yjr x lk (by omega) (hi.mono zk).s (hw))
  rintro _ _ ⟨A,cap,rfl,rfl⟩
  have hcsl:(XN x.s.sch x.f.1 lk).length<=512:=RE (Rn _ _) hfew
  have hdk:(Yr x.n.net x.r).drop k=lk::(Yr x.n.net x.r).drop (k+1):=by
   obtain⟨h1,h2⟩:=Ti.1 hlk
   rw[<-h2];exact Rx h1
  rw[hdk,YpY]at hWk
  obtain⟨cs,hcs⟩:∃cs,XN x.s.sch x.f.1 lk=cs:=⟨_,rfl⟩
  obtain⟨ls,hls⟩:∃ls,(Yr x.n.net x.r).drop (k+1)=ls:=⟨_,rfl⟩
  obtain⟨C,hC⟩:∃C,XN x.s.sch x.f.1=C:=⟨_,rfl⟩
  rw[hcs,hls,hC]at hWk
  rw[hcs]at hcsl⊢
  rw[hC,hls]
  unfold cels
  repeat'(first|refine zgb ?_|fail)
  rw[show lk.2.2+1=((Xg lk:Nat):Int) from by unfold Xg;omega]
  have hnl8:Xg lk<=8:=by unfold Xg;omega
  refine Yi (λz:CuM=>[(9,.int .i64 z.slot),(7,.int .i64 (z.k:Nat)),(8,.slice A cs.length cap),(6,.pointer (some ⟨gl,0,none⟩)),(5,.pointer (some ⟨g5,0,none⟩)),(4,.pointer (some ⟨g4,0,none⟩)),(3,.pointer (some ⟨gy,0,none⟩)),(1,.pointer (some ⟨ga,0,none⟩)),(2,.pointer (some ⟨gw,0,none⟩))])
   (λz=>R'::blk g4 (.cells #[.int .i64 z.a] 3 (0,0))::many z.L::sl 64 5 A cs.length cap (cs.flatMap celF)::blk gl (.cells #[.int .i64 lk.1,.int .i64 lk.2.1,.int .i64 lk.2.2] 140 (0,0))::wayB g2 x::blk g5 (.cells #[.int .i64 endd] 3 (0,0))::blk gy (.cells #[.func (.yield l) #[] #[]] 345 (0,0))::blk ga (.cells #[.int .i64 at0] 3 (0,0))::wayB gw x::H)
   (λz=>z.c<=W.length/\W=W.take z.c++WS x.s.len C endd cs ls (endd-z.slot).toNat z.k z.slot z.a/\SS z.c z.L/\(at0<=z.a/\z.a<=endd)/\(at0<=z.slot/\z.slot<=endd)/\z.k<=8) (λz=>(endd-z.slot).toNat) ⟨Xg lk,a,a,c,L⟩ ⟨hc,hWk,hS,⟨ha0,ha1⟩,⟨ha0,ha1⟩,hnl8⟩ ?_ ?_ ?_
  ·exact zu
  ·exact zk
  rintro⟨kk,slot,a,c,L⟩ ⟨hc,hWk,hS,⟨ha0,ha1⟩,⟨hs0,hs1⟩,hk8⟩ K hK
  dsimp only at hc hWk hS ha0 ha1 hs0 hs1 hk8⊢
  by_cases hk0:kk=0
  ·subst hk0
   rw[YnN]at hWk
   clear hK
   repeat'(first|refine zgc ?_|(refine zgf ?_ ?_<;>intro _<;>try exact zo)|fail)
   apply Ug (CtM.mk c a L)
   ·exact⟨hc,hWk,hS,ha0,ha1⟩
   ·dsimp only[List.cons_append,List.nil_append]
    exact zk
  by_cases hse:endd<=slot
  ·rw[show(endd-slot).toNat=0 by omega,Yp7 hk0]at hWk
   have hce:=YiW hc hWk
   rw[hce]at hS
   clear hK
   repeat'(first|refine zgd ?_|(refine zgf ?_ ?_<;>intro _<;>try exact zo)|fail)
   apply QB [blk g4 (.cells #[.int .i64 a] 3 (0,0)),many L]
   ·exact⟨rfl,a,L,.inl hS,rfl⟩
   ·dsimp only[List.cons_append,List.nil_append]
    exact zk
  obtain⟨f,hf⟩:∃f,(endd-(slot+1)).toNat=f:=⟨_,rfl⟩
  have hf1:(endd-slot).toNat=f+1:=by omega
  have hmt:slot.tmod x.s.len=slot%x.s.len:=RV (by omega)
  rw[hf1,<-YpQ]at hWk
  repeat'(first|refine zgb ?_|(refine zgf ?_ ?_<;>intro _<;>try exact zo)|fail)
  refine Yi (λy:CvM=>[(37,.int .i64 (y.j:Nat)),(36,.int .i64 cs.length),(35,.slice A cs.length cap),(9,.int .i64 slot),(7,.int .i64 (y.k:Nat)),(8,.slice A cs.length cap),(6,.pointer (some ⟨gl,0,none⟩)),(5,.pointer (some ⟨g5,0,none⟩)),(4,.pointer (some ⟨g4,0,none⟩)),(3,.pointer (some ⟨gy,0,none⟩)),(1,.pointer (some ⟨ga,0,none⟩)),(2,.pointer (some ⟨gw,0,none⟩))])
   (λy=>R'::blk g4 (.cells #[.int .i64 y.a] 3 (0,0))::many y.L::sl 64 5 A cs.length cap (cs.flatMap celF)::blk gl (.cells #[.int .i64 lk.1,.int .i64 lk.2.1,.int .i64 lk.2.2] 140 (0,0))::wayB g2 x::blk g5 (.cells #[.int .i64 endd] 3 (0,0))::blk gy (.cells #[.func (.yield l) #[] #[]] 345 (0,0))::blk ga (.cells #[.int .i64 at0] 3 (0,0))::wayB gw x::H)
   (λy=>y.j<=cs.length/\y.c<=W.length/\W=W.take y.c++O1 x.s.len C endd cs (cs.drop y.j) ls f y.k slot y.a/\SS y.c y.L/\(at0<=y.a/\y.a<=endd)/\y.k<=8) (λy=>cs.length-y.j) ⟨0,kk,a,c,L⟩ ⟨Tu _,hc,hWk,hS,⟨ha0,ha1⟩,hk8⟩ ?_ ?_ ?_
  ·exact zu
  ·exact zk
  clear hWk hS hc hk0 hk8 ha0 ha1
  rintro⟨j,kk,a,c,L⟩ ⟨hj,hc,hWk,hS,⟨ha0,ha1⟩,hk8⟩ K2 hK2
  dsimp only at hj hc hWk hS ha0 ha1 hk8⊢
  by_cases hjl:j<cs.length
  rotate_left
  ·obtain rfl:j=cs.length:=by omega
   rw[S0,YpT]at hWk
   clear hK2
   repeat'(first|refine zgc ?_|(refine zge ?_ ?_<;>intro _<;>try exact zo)|fail)
   apply hK ⟨kk,slot+1,a,c,L⟩
   ·exact⟨hc,by rw[hf];exact hWk,hS,⟨ha0,ha1⟩,⟨by show at0<=slot+1;omega,by show slot+1<=endd;omega⟩,hk8⟩
   ·dsimp only;omega
   ·exact zu
   ·exactλw hw=>hw
  obtain⟨d,hd⟩:∃d,cs[j]? =some d:=⟨_,Ta hjl⟩
  have hdj:cs.drop j=d::cs.drop (j+1):=by
   obtain⟨h1,h2⟩:=Ti.1 hd
   rw[<-h2];exact Rx h1
  rw[hdj]at hWk
  by_cases hcd:d.1=slot%x.s.len/\kk≠0
  ·obtain⟨hcd1,hcd2⟩:=hcd
   obtain⟨k3,rfl⟩:∃k3,kk=k3+1:=⟨kk-1,by omega⟩
   rw[YpU (by rw[hmt];exact hcd1) hcd2,SR]at hWk
   obtain⟨hx,hc1,hW1⟩:=Yp8 hc hWk
   have hx:(W.map cntV)[c]? =some [celV d,.int .i64 slot]:=by rw[TE,hx];rfl
   repeat'(first|(refine YfA 3 57 rfl rfl rfl ?_)|refine zgd ?_|(refine zge ?_ ?_<;>intro _<;>try exact zo)|(refine zgh ?_;intro _)|fail)
   first|(rename_i gc _ _;guard_hyp gc:Nat)|(rename_i gc _;guard_hyp gc:Nat)|(rename_i gc _ _ _;guard_hyp gc:Nat)
   rw[show((k3+1:Nat):Int)-1=(k3:Int) by omega]
   apply Yj (R'::blk gc (.cells #[.int .i64 d.1,.int .i64 d.2.1,.int .i64 d.2.2.1,.int .i64 d.2.2.2.1,.int .i64 d.2.2.2.2] 64 (0,0))::sl 64 5 A cs.length cap (cs.flatMap celF)::blk gl (.cells #[.int .i64 lk.1,.int .i64 lk.2.1,.int .i64 lk.2.2] 140 (0,0))::blk g4 (.cells #[.int .i64 (slot+1)] 3 (0,0))::wayB g2 x::blk g5 (.cells #[.int .i64 endd] 3 (0,0))::blk gy (.cells #[.func (.yield l) #[] #[]] 345 (0,0))::many L::blk ga (.cells #[.int .i64 at0] 3 (0,0))::wayB gw x::H)
   ·exact zk
   have hY:=hy c _ hx [R',blk gc (.cells #[.int .i64 d.1,.int .i64 d.2.1,.int .i64 d.2.2.1,.int .i64 d.2.2.2.1,.int .i64 d.2.2.2.2] 64 (0,0)),sl 64 5 A cs.length cap (cs.flatMap celF),blk gl (.cells #[.int .i64 lk.1,.int .i64 lk.2.1,.int .i64 lk.2.2] 140 (0,0)),blk g4 (.cells #[.int .i64 (slot+1)] 3 (0,0)),wayB g2 x,blk g5 (.cells #[.int .i64 endd] 3 (0,0)),blk gy (.cells #[.func (.yield l) #[] #[]] 345 (0,0))] L hS
   apply Ymh _ _ (hy:=hY)
   ·exact YbJ
   ·exact rfl
   ·exact za
   ·exact rfl
   ·rintro⟨_,_,h⟩;exact h
   ·exact rfl
   ·rintro _ ⟨L',hS',rfl⟩
    dsimp only[List.cons_append,List.nil_append]
    repeat'(first|refine zgd ?_|fail)
    apply hK2 ⟨j+1,k3,slot+1,c+1,L'⟩
    ·exact⟨by show j+1<=_;omega,hc1,hW1,hS',⟨by show at0<=slot+1;omega,by show slot+1<=endd;omega⟩,by show k3<=8;omega⟩
    ·dsimp only;omega
    ·exact zu
    ·exact zk
   ·rintro _ ⟨L',hX',rfl⟩
    dsimp only[List.cons_append,List.nil_append]
    repeat'(first|refine zgd ?_|fail)
    apply QB [blk g4 (.cells #[.int .i64 (slot+1)] 3 (0,0)),many L']
    ·exact⟨rfl,slot+1,L',.inr hX',rfl⟩
    ·dsimp only[List.cons_append,List.nil_append]
     exact zk
  ·rw[Yrr (by rw[hmt];exact hcd)]at hWk
   repeat'(first|refine zgd ?_|(refine zge ?_ ?_<;>intro _<;>try exact zo)|(refine zgh ?_;intro _)|fail)
   all_goals(
    apply hK2 ⟨j+1,kk,a,c,L⟩
    ·exact⟨by show j+1<=_;omega,hc,hWk,hS,⟨ha0,ha1⟩,hk8⟩
    ·dsimp only;omega
    ·exact zu
    ·exact zk)
 ·rintro D ⟨c,a,L⟩ ⟨hc,hWk,hS,ha0,ha1⟩
  dsimp only at hc hWk hS ha0 ha1
  have hle:(JY x).length=(Yr x.n.net x.r).length:=by unfold JY;rw[Tv]
  rw[hle,S0]at hWk
  have hce:=YiW hc hWk
  rw[hce]at hS
  dsimp only[List.cons_append,List.nil_append]
  repeat'(first|refine zgc ?_|fail)
  apply YqD
  apply ZR Yt
  apply VQ_m
  apply Yj (many L::blk ga (.cells #[.int .i64 at0] 3 (0,0))::wayB gw x::H)
  ·exact zk
  apply We;exact rfl
  exact .inl ⟨L,hS,rfl⟩
 ·rintro D _ _ ⟨rfl,a,L,hSL,rfl⟩ _
  dsimp only[List.cons_append,List.nil_append]
  repeat'(first|refine zgd ?_|fail)
  apply ZR Yt
  apply VQ_m
  apply Yj (many L::blk ga (.cells #[.int .i64 at0] 3 (0,0))::wayB gw x::H)
  ·exact zk
  apply We;exact rfl
  rcases hSL with h|h
  ·exact .inl ⟨L,h,rfl⟩
  ·exact .inr ⟨L,h,rfl⟩
def relE(x:WayM)(a:Int):Int×List Int×Bool:=match Ua x.n.net x.s.sch x.f x.r a with
 |none=>(0,[],false)
 |some l=>(JB l-a+1,l.map (λz=>z-a),true)
theorem YaX(x:WayM)(a:Int):Ua x.n.net x.s.sch x.f x.r a=if(runW x a).length<X0 (Yr x.n.net x.r)then none else some ((runW x a).map Prod.snd):=Ygw _ _ _ _ _
variable {B:Nat}{w0 w:World}{H:List HP}
theorem Ya8(x:WayM)(a:Int)(hw:St B w0 H w):
 Calls Tryz.prog 249 [x.val,.int .i64 a].toArray w (Post B w0 λv K=>∃ga gw,v=.func (.func 325) #[] #[.pointer (some ⟨ga,0,none⟩),.pointer (some ⟨gw,0,none⟩)]/\K=intB ga a::wayB gw x::H):=by
 refine Yc Tryz.func249 Tryz.ntmps249 rfl rfl hw ?_
 unfold WayM.val intB
 repeat'(first|(apply zg23;first|(refine zs52 ?_;intro _)|(refine zs53 ?_;intro _))|(apply zg29;(apply Ym;exact za;exact rfl))|refine zga ?_|fail)
 apply Yd;exact rfl;exact rfl
 exact⟨_,_,rfl,rfl⟩
structure NlM where
 A:Option Addr
 cap:Nat
 l:List Int
variable {x:WayM}
theorem Yim(hok:UK x):1<=X0 (Yr x.n.net x.r):=by
 have hl:=hok.len
 have h0:=Qh (n:=x.n.net) (r:=x.r) (i:=0) (by omega)
 have hbd:=QX hok h0
 have hne:(Yr x.n.net x.r)=ZK x.n.net x.r 0::(Yr x.n.net x.r).tail:=by
  cases h:Yr x.n.net x.r with
  |nil=>rw[h]at h0;cases h0
  |cons a t=>rw[h]at h0;cases h0;rfl
 rw[hne]
 unfold X0 Xg
 rw[Re,NJ]
 omega
theorem Ygq(x:WayM)(at0:Int)(hok:UK x)(hat:0<=at0/\at0<=1000000)(hi:x.In B w0 H)(hw:St B w0 H w):
 Calls Tryz.prog 385 [x.val,.int .i64 at0].toArray w (Post B w0 λv K=>∃A cap,v=.tuple #[.int .i64 (relE x at0).1,.slice A (relE x at0).2.1.length cap,.bool (relE x at0).2.2]/\K=nrs A cap (relE x at0).2.1::H):=by
 refine Zi Tryz.func385 Tryz.ntmps385 rfl rfl hw ?_
 have hper:=hok.per
 have hl9:=hok.len
 have hnp:=Yim hok
 have hnl:X0 (Yr x.n.net x.r)<=72:=by
  have h1:=YbZ hok (Yr x.n.net x.r).length
  rw[TY,Wr]at h1
  omega
 have hRE:relE x at0=if(runW x at0).length<X0 (Yr x.n.net x.r)then(0,[],false)else(JB ((runW x at0).map Prod.snd)-at0+1,((runW x at0).map Prod.snd).map (λz=>z-at0),true):=by
  unfold relE
  rw[YaX]
  by_cases h:(runW x at0).length<X0 (Yr x.n.net x.r)
  ·rw[Tm h,Tm h]
  ·rw[Td h,Td h]
 have hWl:(runW x at0).length<=X0 (Yr x.n.net x.r):=Ygv _ _ _ _ _
 have hWs:∀z∈runW x at0,at0<=z.2/\z.2<at0+x.f.2.2.2.1:=λz hz=>Ygx (by omega) hz
 have hiter:=λ{ga gw:Nat}{H':List HP}(hi:x.In B w0 H')=>QM x at0 hok hat ga gw hi
 have hxs:YhC x at0=(runW x at0).map cntV:=rfl
 rw[hxs]at hiter
 obtain⟨W,hW⟩:∃W,runW x at0=W:=⟨_,rfl⟩
 obtain⟨nd,hnd⟩:∃nd,X0 (Yr x.n.net x.r)=nd:=⟨_,rfl⟩
 have hned:=λ{H':List HP}{w:World}(hi:x.In B w0 H') (hw:St B w0 H' w)=>Yin x hok hi hw
 rw[hW,hnd]at hRE hWl
 rw[hW]at hWs hiter
 rw[hnd]at hnp hnl hned
 rw[hRE]
 unfold WayM.val
 unfold intB at hiter
 repeat'(first|(apply zg23;first|(refine zs52 ?_;intro _)|(refine zs53 ?_;intro _))|refine zgb ?_|(refine zgh ?_;intro _)|fail)
 rename_i g2 g3 gO
 apply Yh _ Yr0
 exact za
 exact rfl
 exactλ_ hw=>(Ya8 x at0 (hw))
 rintro _ _ ⟨ga,gw,rfl,rfl⟩
 unfold intB
 repeat'(first|refine zgb ?_|fail)
 refine Je 3 1 ?_
 refine Zj (gf:=325) (lb:=[.pointer (some ⟨ga,0,none⟩),.pointer (some ⟨gw,0,none⟩)]) (xs:=W.map cntV) (blk ga (.cells #[.int .i64 at0] 3 (0,0))::wayB gw x::blk g3 (.cells #[.int .i64 at0] 3 (0,0))::wayB g2 x::H) (λy:NlM=>[blk gO (.cells #[.slice y.A y.l.length y.cap] 24 (0,0)),nrs y.A y.cap y.l]) (λi y=>y.l=(W.take i).map (λz=>z.2-at0)) (λ_ _=>False) ⟨none,0,[]⟩ rfl Ysa (hiter hi.cons.cons) rfl ?_ (by kernel_rfl) (by kernel_rfl) ?_ rfl ?_ ?_ (λ_ _ _ h=>h.elim)
 ·intro args h
  obtain⟨z,_,rfl⟩:=TG.1 h
  rfl
 ·simp only[TC,TK,RD]
  intro w hw
  have h1:St B w0 (nrs none 0 []::blk ga (.cells #[.int .i64 at0] 3 (0,0))::wayB gw x::blk gO (.cells #[.slice none 0 0] 24 (0,0))::blk g3 (.cells #[.int .i64 at0] 3 (0,0))::wayB g2 x::H) w:=hw
  clear hw
  revert w
  exact zk
 ·rintro l k args R ⟨A,cap,xs⟩ hk hI
  rw[TE]at hk
  obtain⟨⟨d,sl⟩,hz,rfl⟩:∃z,W[k]? =some z/\args=cntV z:=by
   cases h:W[k]? with
   |none=>rw[h]at hk;cases hk
   |some z=>rw[h]at hk;exact⟨z,rfl,(Tz hk).symm⟩
  have hzb:=hWs _ (Tf hz)
  have hI:xs=(W.take k).map (λz=>z.2-at0):=hI
  have hxl:xs.length<=72:=by
   rw[hI,Tv,TD];omega
  dsimp only at hzb
  dsimp only[UG,cntV,List.cons_append,List.nil_append]
  repeat'(first|refine zga ?_|fail)
  apply JO Yt
  intro R'
  repeat'(first|refine zgd ?_|(refine zgh ?_;intro _)|(refine zgi ?_;intro _ _)|fail)
  rename_i A' cap'
  apply Ug (NlM.mk A' cap' (xs++[sl-at0]))
  ·show xs++[sl-at0]=_
   rw[TF,hz,RI,T8,hI];rfl
  ·dsimp only[List.cons_append,List.nil_append]
   rw[Q7,show xs.length+1=(xs++[sl-at0]).length by simp]
   exact zk
 ·rintro D ⟨A,cap,xs⟩ hI
  have hI:xs=(W.take (W.map cntV).length).map (λz=>z.2-at0):=hI
  rw[Tv,TY]at hI
  have hxl:xs.length=W.length:=by rw[hI,Tv]
  dsimp only[List.cons_append,List.nil_append]
  have hll:((W.map Prod.snd).map (λz=>z-at0))=xs:=by rw[hI,NS];rfl
  by_cases hlt:W.length<nd
  ·rw[Tm hlt]
   repeat'(first|refine zgc ?_|fail)
   apply Xv [0,1,2,3,4] []
   kernel_rfl
   kernel_rfl
   (simp only[Yg,nthO];rfl)
   exact rfl
   repeat'(first|refine zgd ?_|fail)
   first|apply Ya Yls|apply Yb Yls
   exact za
   exact rfl
   exactλ_ hw=>(hned (hi.mono zk) hw)
   repeat'(first|(apply Yk;(repeat(first|with_reducible exact Y6|(with_reducible apply YX;(repeat(first|with_reducible exact Yt|with_reducible apply YD))))))|refine zga ?_|fail)
   ·show Perm H (H++[])
    rw[TM];exact Perm.refl _
   repeat'(first|refine zgd ?_|(refine zge ?_ ?_<;>intro _<;>try exact zo)|fail)
   apply ZR Yt
   apply VQ_m
   apply Yj (nrs none 0 []::H)
   ·intro w hw
    have h5:St B w0 H w:=by
     revert w
     exact zk
    exact h5.nilSlice _ _
   apply Jr;(iterate 4 exact rfl)
   exact⟨none,0,rfl,rfl⟩
  ·rw[Td hlt,hll]
   obtain⟨z,hz⟩:∃z,W[W.length-1]? =some z:=⟨_,Ta (by omega)⟩
   have hzb:=hWs _ (Tf hz)
   have hx1:xs[((xs.length:Int)-1).toNat]? =some (z.2-at0):=by
    rw[show((xs.length:Int)-1).toNat=W.length-1 by omega,hI,TE,hz];rfl
   have hla:JB (W.map Prod.snd)=z.2:=by
    unfold JB
    rw[Tv,Tt,TE,hz];rfl
   rw[hla]
   repeat'(first|refine zgc ?_|fail)
   apply Xv [0,1,2,3,4] []
   kernel_rfl
   kernel_rfl
   (simp only[Yg,nthO];rfl)
   exact rfl
   repeat'(first|refine zgd ?_|fail)
   first|apply Ya Yls|apply Yb Yls
   exact za
   exact rfl
   exactλ_ hw=>(hned (hi.mono zk) hw)
   repeat'(first|(apply Yk;(repeat(first|with_reducible exact Y6|(with_reducible apply YX;(repeat(first|with_reducible exact Yt|with_reducible apply YD))))))|refine zga ?_|fail)
   ·show Perm H (H++[])
    rw[TM];exact Perm.refl _
   repeat'(first|refine zgd ?_|(refine zge ?_ ?_<;>intro _<;>try exact zo)|fail)
   apply ZR Yt
   apply VQ_m
   apply Yj (nrs A cap xs::H)
   ·exact zk
   apply Jr;(iterate 4 exact rfl)
   exact⟨A,cap,rfl,rfl⟩
def YbV(R:Option (Int×Int×List Int)):Int×Int×List Int×Bool:=match R with
 |none=>(0,0,[],false)
 |some b=>(b.1,b.2.1,b.2.2,true)
def W0(x:WayM):Int×Int×List Int×Bool:=YbV (ZG x.n.net x.s.sch x.f x.r)
theorem YiS(hok:UK x){a:Int}{l:List Int}(h:Ua x.n.net x.s.sch x.f x.r a=some l):1<=l.length/\a<=JB l/\JB l<a+x.f.2.2.2.1:=by
 have hper:=hok.per
 have hnp:=Yim hok
 rw[YaX]at h
 split at h
 ·cases h
 rename_i hge
 obtain rfl:=Tz h
 rw[Tv]
 obtain⟨z,hz⟩:∃z,(runW x a)[(runW x a).length-1]? =some z:=⟨_,Ta (by omega)⟩
 have hzb:=Ygx (by omega) (Tf hz)
 have hla:JB ((runW x a).map Prod.snd)=z.2:=by
  unfold JB
  rw[Tv,Tt,TE,hz];rfl
 rw[hla]
 exact⟨by omega,hzb⟩
structure BdM where
 k:Nat
 rel:Int
 b:Int×Int×List Int
 A:Option Addr
 cap:Nat
theorem Yjl(x:WayM)(hok:UK x)(hi:x.In B w0 H)(hw:St B w0 H w):
 Calls Tryz.prog 324 [x.val].toArray w (Post B w0 λv K=>∃A cap,v=.tuple #[.int .i64 (W0 x).1,.int .i64 (W0 x).2.1,.slice A (W0 x).2.2.1.length cap,.bool (W0 x).2.2.2]/\K=nrs A cap (W0 x).2.2.1::H):=by
 refine Yc Tryz.func324 Tryz.ntmps324 rfl rfl hw ?_
 have hper:=hok.per
 have hph:=hok.ph
 have hsl:=hok.slen
 obtain⟨R,hR⟩:∃R,ZG x.n.net x.s.sch x.f x.r=R:=⟨_,rfl⟩
 have hO:W0 x=YbV R:=by unfold W0;rw[hR]
 rw[hO]
 unfold ZG at hR
 rw[show x.s.sch.len=x.s.len from rfl]at hR
 obtain⟨S,hS⟩:∃S,Ua x.n.net x.s.sch x.f x.r=S:=⟨_,rfl⟩
 rw[hS]at hR
 have hrl:=λ{H':List HP}{w:World}(a:Int) (ha:0<=a/\a<=1000000) (hi:x.In B w0 H') (hw:St B w0 H' w)=>Ygq x a hok ha hi hw
 unfold WayM.val
 repeat'(first|refine zgb ?_|(refine zgh ?_;intro _)|fail)
 rename_i g
 refine Je 3 1 ?_
 refine Yi (λz:BdM=>[(9,.int .i64 z.rel),(8,.slice z.A z.b.2.2.length z.cap),(7,.int .i64 z.b.2.1),(6,.int .i64 z.b.1),(1,.pointer (some ⟨g,0,none⟩))]) (λz=>nrs z.A z.cap z.b.2.2::wayB g x::H)
  (λz=>UN S x.s.len x.f.2.2.2.1 z.k z.rel z.b=R/\x.s.len-z.rel<=z.k/\0<=z.rel/\z.rel<=2000/\0<=z.b.1/\z.b.1<=2000) (λz=>z.k) ⟨x.s.len.toNat,x.f.2.2.2.2.1,(0,0,[]),none,0⟩ ⟨hR,by show x.s.len-x.f.2.2.2.2.1<=((x.s.len.toNat:Nat):Int);omega,hph.1,by show x.f.2.2.2.2.1<=2000;omega,SD _,by show(0:Int)<=2000;decide⟩ ?_ (λw hw=>hw) ?_
 ·exact zu
 rintro⟨k,rel,⟨b1,b2,bl⟩,A,cap⟩ ⟨hb,hk,h0,h1,hb0,hb1⟩ K hK
 dsimp only at hb hk h0 h1 hb0 hb1⊢
 by_cases hge:x.s.len<=rel
 ·have hRe:R=some (b1,b2,bl):=by
   rw[<-hb]
   cases k with
   |zero=>rfl
   |succ k=>unfold UN;rw[Tm hge]
  rw[hRe]
  clear hK
  repeat'(first|refine zgc ?_|(refine zge ?_ ?_<;>intro _<;>try exact zo)|fail)
  apply Yj (nrs A cap bl::H)
  ·exact zk
  apply QC;(iterate 5 exact rfl)
  exact⟨A,cap,rfl,rfl⟩
 obtain⟨k,rfl⟩:∃k',k=k'+1:=⟨k-1,by omega⟩
 unfold UN at hb
 rw[Td hge]at hb
 have hrr:=λ{H':List HP}{w:World}(hi:x.In B w0 H') (hw:St B w0 H' w)=>hrl rel (by omega) hi hw
 unfold relE at hrr
 rw[hS]at hrr
 cases hSr:S rel with
 |none=>
  rw[hSr]at hb hrr
  dsimp only at hb hrr
  rw[<-hb]
  clear hK
  repeat'(first|refine zgb ?_|(refine zge ?_ ?_<;>intro _<;>try exact zo)|fail)
  apply Yh _ Ysi
  exact za
  exact rfl
  exactλ_ hw=>(hrr (hi.mono zk) (hw))
  rintro _ _ ⟨A2,cap2,rfl,rfl⟩
  repeat'(first|refine zgd ?_|fail)
  apply Yj (nrs none 0 []::H)
  ·intro w hw
   have h5:St B w0 H w:=by
    revert w
    exact zk
   exact h5.nilSlice _ _
  apply QC;(iterate 5 exact rfl)
  exact⟨none,0,rfl,rfl⟩
 |some l=>
  rw[hSr]at hb hrr
  dsimp only at hb hrr
  have hlb:0<=JB l-rel+1/\JB l-rel+1<=513:=by
   have:=YiS hok (a:=rel) (l:=l) (by rw[hS];exact hSr)
   omega
  obtain⟨m,hm⟩:∃m,JB l-rel+1=m:=⟨_,rfl⟩
  rw[hm]at hb hrr hlb
  repeat'(first|refine zgb ?_|(refine zge ?_ ?_<;>intro _<;>try exact zo)|fail)
  apply Yh _ Ysi
  exact za
  exact rfl
  exactλ_ hw=>(hrr (hi.mono zk) (hw))
  rintro _ _ ⟨A2,cap2,rfl,rfl⟩
  by_cases hgt:b1<m
  ·rw[Tm hgt]at hb
   repeat'(first|refine zgd ?_|(refine zgf ?_ ?_<;>intro _<;>try exact zo)|fail)
   apply hK ⟨k,rel+x.f.2.2.2.1,(m,rel,l.map λz=>z-rel),A2,cap2⟩
   ·exact⟨hb,by show x.s.len-(rel+x.f.2.2.2.1)<=((k:Nat):Int);omega,by show 0<=rel+x.f.2.2.2.1;omega,by show rel+x.f.2.2.2.1<=2000;omega,hlb.1,by show m<=2000;omega⟩
   ·dsimp only;omega
   ·exact zu
   ·exact zk
  ·rw[Td hgt]at hb
   repeat'(first|refine zgd ?_|(refine zgf ?_ ?_<;>intro _<;>try exact zo)|fail)
   apply hK ⟨k,rel+x.f.2.2.2.1,(b1,b2,bl),A,cap⟩
   ·exact⟨hb,by show x.s.len-(rel+x.f.2.2.2.1)<=((k:Nat):Int);omega,by show 0<=rel+x.f.2.2.2.1;omega,by show rel+x.f.2.2.2.1<=2000;omega,hb0,hb1⟩
   ·dsimp only;omega
   ·exact zu
   ·exact zk
theorem Ydt(x:WayM){B:Nat}{w0:World}{H:List HP}{w:World}(ht:TabsB B w0)(hi:x.In B w0 H)(hw:St B w0 H w):
 Calls Tryz.prog 248 [x.n.val,x.s.val,flwV x.f,.slice x.A x.r.length x.cap].toArray w (Post B w0 λv K=>∃A cap,v=.tuple #[.int .i64 (YV x.n.net x.s.sch x.f x.r).1.1,.int .i64 (YV x.n.net x.s.sch x.f x.r).1.2.1,.slice A (YV x.n.net x.s.sch x.f x.r).1.2.2.length cap,.int .i64 (YV x.n.net x.s.sch x.f x.r).2]/\K=nrs A cap (YV x.n.net x.s.sch x.f x.r).1.2.2::H):=by
 refine Yc Tryz.func248 Tryz.ntmps248 rfl rfl hw ?_
 have p1:=λ{H':List HP}{w:World}(hi:x.In B w0 H') (hw:St B w0 H' w)=>Yi5 x ht hi hw
 obtain⟨R,hR⟩:∃R,YV x.n.net x.s.sch x.f x.r=R:=⟨_,rfl⟩
 rw[hR]
 unfold YV at hR
 obtain⟨e,he⟩:∃e,wayE x.n.net x.s.sch x.f x.r=e:=⟨_,rfl⟩
 rw[he]at p1 hR
 unfold NetM.val SchM.val flwV
 by_cases h0:e=0
 rotate_left
 ·rw[Tm h0]at hR
  subst hR
  repeat'(first|((first|apply Ya YeP|apply Yb YeP);exact za;exact rfl;exactλ_ hw=>(p1 (hi.mono zk) hw))|refine zgd ?_|(refine zge ?_ ?_<;>intro _<;>try exact zo)|(refine zgh ?_;intro _)|fail)
  apply Yj (nrs none 0 []::H)
  ·intro w hw
   have h5:St B w0 H w:=by
    revert w
    exact zk
   exact h5.nilSlice _ _
  apply QC;(iterate 5 exact rfl)
  exact⟨none,0,rfl,rfl⟩
 subst h0
 rw[Td (λh=>h rfl)]at hR
 have hok:=Yb5 he
 have p2:=λ{H':List HP}{w:World}(hi:x.In B w0 H') (hw:St B w0 H' w)=>Yjl x hok hi hw
 unfold W0 at p2
 cases hb:ZG x.n.net x.s.sch x.f x.r with
 |none=>
  rw[hb]at hR p2
  dsimp only[YbV]at hR p2
  subst hR
  repeat'(first|((first|apply Ya YeP|apply Yb YeP);exact za;exact rfl;exactλ_ hw=>(p1 (hi.mono zk) hw))|refine zgd ?_|(refine zge ?_ ?_<;>intro _<;>try exact zo)|(refine zgh ?_;intro _)|fail)
  apply Yh _ Yr9
  exact za
  exact rfl
  exactλ_ hw=>(p2 (hi.mono zk) (hw))
  rintro _ _ ⟨A2,cap2,rfl,rfl⟩
  repeat'(first|refine zgd ?_|fail)
  apply Yj (nrs none 0 []::H)
  ·intro w hw
   have h5:St B w0 H w:=by
    revert w
    exact zk
   exact h5.nilSlice _ _
  apply QC;(iterate 5 exact rfl)
  exact⟨none,0,rfl,rfl⟩
 |some b=>
  rw[hb]at hR p2
  dsimp only[YbV]at hR p2
  subst hR
  repeat'(first|((first|apply Ya YeP|apply Yb YeP);exact za;exact rfl;exactλ_ hw=>(p1 (hi.mono zk) hw))|refine zgd ?_|(refine zge ?_ ?_<;>intro _<;>try exact zo)|(refine zgh ?_;intro _)|fail)
  apply Yh _ Yr9
  exact za
  exact rfl
  exactλ_ hw=>(p2 (hi.mono zk) (hw))
  rintro _ _ ⟨A2,cap2,rfl,rfl⟩
  repeat'(first|refine zgd ?_|fail)
  apply Yj (nrs A2 cap2 b.2.2::H)
  ·exact zk
  apply QC;(iterate 5 exact rfl)
  exact⟨A2,cap2,rfl,rfl⟩
end Go.Proofs.YtaholidehobiiaaGreatDoor
