/- Lemmas. -/
import Derived.Lib.AppendStr
import Derived.Laws.Externs
import Derived.Laws.CopyRow
import Derived.Lib.AppendZerosOnto
import Derived.Lib.Overlaps
import Derived.Sort.OwnSortedInts
import Derived.Lib.AppendIntMem
import Derived.WideLaws
import Derived.Lib.SmallJoins
import Derived.Lib.Builder
import Derived.Test.YtambgjgljcadlaaGreatDoorQ7
set_option maxRecDepth 100000
set_option maxHeartbeats 8000000
set_option linter.all false
namespace Go.Eng
open Go.RowKit
theorem YeA{P:Program}(w:World)(t u ty e:TypeId)(i:TypeInfo)(ht:P.underlying t=some (.slice e))(hu:P.underlying u=some .string)(hi:P.info? e=some i)(hz:i.zero=some (.int .u8 0))
 (hsize:i.size=1) (hby:i.bytes=1) (v:Value) (n:Nat) (xs:List Value) (hown:w.ownsRow 0 e 1 v n xs) (s:ByteArray) (hb:n+s.size<=1000000000):
 ∃v' w',(Builtin.append_ #[t,u] ty #[v,.string s]).run P w=.ok v' w'/\w'.ownsRow 0 e 1 v' (n+s.size) (xs++Lib.strCells s)/\w.grownBy w' v.ownBlock/\∀b,v'.ownBlock=some b->v.ownBlock=some b\/w.heap.size<=b:=by
 have hm:n+s.size<=maxLen:=by simp only[maxLen];omega
 obtain⟨v',w',h1,h2,h3,_⟩:=Lib.run_append_own_string (P:=P) w 0 t u ty e i ht hu hi hz hsize hby v n xs hown s hm (by omega) (Tj _)
 refine⟨v',w',h1,h2,h3,λb hbb=>?_⟩
 rcases hown.2 with⟨rfl,rfl⟩|⟨g,cap,cur,rfl,hbg,hg,hnc,hcm,hcs,htake⟩
 ·right
  obtain⟨v2,w2,k1,k2,_⟩:=Lib.run_append_own_string (P:=P) w w.heap.size t u ty e i ht hu hi hz hsize hby (.slice none 0 0) 0 xs ⟨hown.1,.inl ⟨rfl,rfl⟩⟩ s hm (by omega) (TK _)
  rw[h1]at k1
  obtain⟨rfl,rfl⟩:v'=v2/\w'=w2:=by simpa using k1
  rcases k2.2 with⟨e1,_⟩|⟨g',_,_,e1,e2,_⟩
  ·rw[e1]at hbb;cases hbb
  ·rw[e1]at hbb
   simp only[Value.ownBlock,RE]at hbb
   omega
 ·have hcs':cur.size=cap:=by simpa using hcs
  have hxl:xs.length=n:=by simpa using hown.1
  by_cases hroom:n+s.size<=cap
  ·have k1:=Lib.run_append_room_string (P:=P) w t u ty e i ht hu hi hsize g n cap cur hg s hroom (by omega)
   rw[h1]at k1
   obtain⟨rfl,_⟩:=(Result.ok.injEq _ _ _ _).mp k1
   exact .inl hbb
  ·have holds:∀j u,xs[j]? =some u->w.cell? ((⟨g,0,none⟩:Addr).add j)=some u:=hown.cells (g:=g) rfl
   have k1:=Lib.run_append_grow_string (P:=P) w t u ty e i (.int .u8 0) ht hu hi hz ⟨g,0,none⟩ n cap xs (by rw[hsize];simpa using hxl) holds s (by omega) (by omega) (by rw[hby];exact growslice_fits (by omega) (by omega))
   rw[h1]at k1
   obtain⟨rfl,_⟩:=(Result.ok.injEq _ _ _ _).mp k1
   right
   simp only[Value.ownBlock,RE]at hbb
   omega
section
variable {P:Program}{m:Mode}{n:Shp}{B d:Nat}{w0:World}{ops:Array Oper}{Q:Exit->Act->World->Prop}{rest:List Oper}{env:Env}{H:List HP}{ty:TypeId}{pos:String}{after:Array Edge}{x y:Operand}
def YcI(P:Program)(e:TypeId):Bool:=match P.info? e with|some i=>(match i.zero with|some (.int .u8 0)=>true|_=>false)&&i.size==1&&i.bytes==1|none=>false
theorem YeB{e:TypeId}(h:YcI P e=true):∃i,P.info? e=some i/\i.zero=some (.int .u8 0)/\i.size=1/\i.bytes=1:=by
 unfold YcI at h
 split at h
 ·rename_i i hi
  simp only[To,NG]at h
  refine⟨i,hi,?_,h.1.2,h.2⟩
  have h1:=h.1.1
  split at h1
  ·assumption
  ·cases h1
 ·cases h
theorem Yf0(T:Tab P){t tt k cap e bytes:Nat}{A:Option Addr}{s:ByteArray}{xs:List Value}{K:Option Addr->Nat->List HP}(hx:evo env x=some (.slice A k cap))(hy:evo env y=some (.string s))(ht:look T.sl t=some (e,1,bytes))(hbi:YcI P e=true)(htt:look T.st tt=some ())
 (hn:Nat.ble (d+1) n.k=true) (hu:∀A' cap',Upd (sl e 1 A k cap xs) (sl e 1 A' (k+s.size) cap' (xs++Lib.strCells s)) H (K A' cap')) (hb:k+s.size<=1000000000)
 (h:∀A' cap',VL P none n B w0 ops Q rest ((d,.slice A' (k+s.size) cap')::env) (K A' cap')):
 VL P none n B w0 ops Q (⟨some d,.call ⟨.builtin .append,#[x,y],#[t,tt]⟩,ty,pos,after,none⟩::rest) env H:=by
 obtain⟨hut,_⟩:=YE (T.slic ht)
 obtain⟨i,hi,hz,hs1,hb1⟩:=YeB hbi
 have hst:P.underlying tt=some .string:=T.strs htt
 refine XA (λv K'=>∃A' cap',v=.slice A' (k+s.size) cap'/\K'=K A' cap') rfl rfl hn (λa w ha hw=>?_) (by rintro _ _ ⟨A',cap',rfl,rfl⟩;exact h A' cap')
 have hmem:sl e 1 A k cap xs∈H:=by
  obtain⟨L1,L2,rfl,_⟩:=hu none 0
  simp
 have hown:=hw.sl hmem
 obtain⟨v',w',hrun,hown',hgrow,hat⟩:=YeA (P:=P) w t tt ty e i hut hst hi hz hs1 hb1 (.slice A k cap) k xs hown s hb
 have hshape:∃A' cap',v'=.slice A' (k+s.size) cap':=by
  rcases hown'.2 with⟨e1,e2⟩|⟨g',c',_,e1,_⟩
  ·exact⟨none,0,by rw[e1,e2]⟩
  ·exact⟨_,_,e1⟩
 obtain⟨A',cap',rfl⟩:=hshape
 refine⟨_,K A' cap',w',by simp[execOp,resolve,invoke,builtin,ha.eval hx,ha.eval hy,hrun],?_,A',cap',rfl,rfl⟩
 refine hw.updN (hu A' cap') hgrow.os hgrow.tape hgrow.output hgrow.size λS1 ⟨_,hS⟩=>⟨⟨λb=>Value.ownBlock (.slice A' (k+s.size) cap')=some b,⟨hown',?_⟩,λb hb=>?_⟩,λb hb hlt=>hgrow.block b hlt (λe=>hb ?_)⟩
 ·rintro a rfl;rfl
 ·rcases hat b hb with e|e
  ·cases A with
   |none=>cases e
   |some a=>left;simp only[Value.ownBlock,RE]at e;rw[<-e];exact hS a rfl
  ·right
   refine⟨e,?_⟩
   rcases hown'.2 with⟨e1,_⟩|⟨g',_,_,e1,_,e3,_⟩
   ·rw[e1]at hb;cases hb
   ·rw[e1]at hb
    simp only[Value.ownBlock,RE]at hb
    subst hb
    exact(Np.1 e3).1
 ·cases A with
  |none=>cases e
  |some a=>simp only[Value.ownBlock,RE]at e;rw[e];exact hS a rfl
end
section
variable {P:Program}{m:Mode}{n:Shp}{B d:Nat}{w0:World}{ops:Array Oper}{Q:Exit->Act->World->Prop}{rest:List Oper}{env:Env}{H:List HP}{ty:TypeId}{pos:String}{after:Array Edge}{x y hi:Operand}
theorem YeN(w:World)(dT sT ty elem:TypeId)(g o dLen dCap size:Nat)(a:Addr)(sLen sCap:Nat)(cur:Array Value)(t:TypeId)(cs:List Value)
 (hu:P.underlying dT=some (.slice elem)) (hs:(P.info? elem).map (·.size)=some size)
 (hg:w.heap[g]? =some (.cells cur t (0,0))) (hn:cs.length=Nat.min sLen dLen*size)
 (hsrc:∀j v,cs[j]? =some v->w.cell? (a.add j)=some v) (hfit:o+cs.length<=cur.size) (h1:∀v∈cs,v.oneCell'=true):
 (Builtin.copy_ #[dT,sT] ty #[.slice (some ⟨g,o,none⟩) dLen dCap,.slice (some a) sLen sCap]).run P w=
  .ok (goInt (Nat.min sLen dLen)) (w.setRow g (cur.toList.take o++cs++cur.toList.drop (o+cs.length)).toArray):=by
 have hl:=run_firstCells_some (P:=P) w size (Nat.min sLen dLen) a sLen sCap cs hn hsrc
 have hst:=run_storeCells_at P g o t cs 0 cur w hg (by omega) h1
 cases hq:P.info? elem with
 |none=>simp_all
 |some i=>
  simp_all [Go.Builtin.copy_,Go.Builtin.lenOf,sizeOf,typeInfo,run_underlying]
variable {α:Type}
theorem YsV(l cs:List α)(o k k':Nat)(hk:k<=l.length)(ho:o<=k)(hfit:o+cs.length<=l.length)(hk':k'=max k (o+cs.length)):
 (l.take o++cs++l.drop (o+cs.length)).take k'=(l.take k).take o++cs++(l.take k).drop (o+cs.length):=by
 have hA:(l.take o++cs).length=o+cs.length:=by grind
 by_cases h:o+cs.length<=k
 ·grind [Nat.max_eq_left,Yji]
 ·rw[hk',Nat.max_eq_right (by omega),S8,hA,Ni,ND,Rx,TL (by omega),List.take_take,RU (by omega),RI (by grind),Rx]
variable {t e size bytes o k cap kd cd mm c2:Nat}{A A2:Option Addr}{xs:List Value}{K:List HP}
theorem YoU(T:Tab P){k':Nat}{ys:List Value}(hx:evo env x=some (.slice (subA A o cap size) kd cd))(hy:evo env y=some (.slice A2 mm c2))(hr:Rd B w0 H A2 ys)
 (hu:Upd (sl e size A k cap xs) (sl e size A k' cap (xs.take (o*size)++ys.take (min mm kd*size)++xs.drop (o*size+min mm kd*size))) H K) (ht:look T.sl t=some (e,size,bytes)) (hn:Nat.ble (d+1) n.k=true) (h1:∀v∈ys,v.oneCell'=true)
 (hA:∃g,A=some ⟨g,0,none⟩) (hb:o+kd<=cap/\0<min mm kd/\o<=k/\k'=max k (o+min mm kd)) (hyl:min mm kd*size<=ys.length)
 (h:VL P none n B w0 ops Q rest ((d,.int .i64 (min mm kd:Nat))::env) K):
 VL P none n B w0 ops Q (⟨some d,.call ⟨.builtin .copy,#[x,y],#[t,t]⟩,ty,pos,after,none⟩::rest) env H:=by
 obtain⟨hut,inf,z,hi,hz,hzs,hsi,hbi,hs0,hb0⟩:=YE (T.slic ht)
 refine XA (λv K'=>v=.int .i64 (min mm kd:Nat)/\K'=K) rfl rfl hn (λa w ha hw=>?_) zc57
 have hmem:sl e size A k cap xs∈H:=Yru
 obtain⟨hb1,hb2,hb3,hb5⟩:=hb
 rcases Z5 (hw.sl hmem)with⟨rfl,_⟩|⟨g,cur,rfl,g1,g2,g3,g4,g5,g6⟩
 ·obtain⟨_,hA⟩:=hA;cases hA
 have hsub:subA (some ⟨g,0,none⟩) o cap size=some ⟨g,o*size,none⟩:=YuA
 obtain⟨c,hc⟩:∃c,min mm kd=c:=⟨_,rfl⟩
 rw[hc]at hu hb2 hb5 hyl
 have hcs:(ys.take (c*size)).length=c*size:=zc92
 have hpos:0<c*size:=Nat.mul_pos hb2 hs0
 have hsome:∃a2,A2=some a2/\∀j v,(ys.take (c*size))[j]? =some v->w.cell? (a2.add j)=some v:=by
  have h0:ys[0]? =some (ys[0]'(by omega)):=Ta (by omega)
  obtain⟨g2',o2,rfl,_⟩:=hr w hw 0 _ h0
  refine⟨_,rfl,λj v hj=>?_⟩
  rw[Sl]at hj
  by_cases hjm:j<c*size
  ·rw[Tm hjm]at hj
   obtain⟨g3',o3,e3,hc⟩:=hr w hw j v hj
   injection e3 with e3
   injection e3 with e3 e4
   subst e3 e4
   rw[Addr.add_lit];exact hc
  ·rw[Td hjm]at hj;cases hj
 obtain⟨a2,rfl,hsrc⟩:=hsome
 have hoc:o+c<=cap:=by
  have:c<=kd:=by rw[<-hc];exact Nat.min_le_right _ _
  omega
 have hfit:o*size+c*size<=cur.size:=by rw[g4,<-SH];exact Rr _ hoc
 have hrun:=YeN (P:=P) w t t ty e g (o*size) kd cd size a2 mm c2 cur e (ys.take (c*size)) hut (by rw[hi];simp[hsi]) g1 (by rw[hcs];show c*size=min mm kd*size;rw[hc]) hsrc (by rw[hcs];exact hfit) (λv hv=>h1 v (SU hv))
 have hkl:k*size<=cur.toList.length:=by rw[NU,g4];exact Rr _ g2
 have hok:o*size<=k*size:=Rr _ hb3
 have hmax:k'*size=max (k*size) (o*size+c*size):=by
  rw[hb5,<-SH]
  rcases Nat.le_total k (o+c)with h|h
  ·rw[Nat.max_eq_right h,Nat.max_eq_right (Rr _ h)]
  ·rw[Nat.max_eq_left h,Nat.max_eq_left (Rr _ h)]
 refine⟨_,K,_,?_,hw.storeRow (k':=k') (o:=o*size) (vs:=ys.take (c*size)) hu rfl g1 g4 (by rw[hb5];exact Nat.max_le.2 ⟨g2,hoc⟩) g3 (by rw[hcs];exact hfit) ?_ ?_,rfl,rfl⟩
 ·simp only[execOp,resolve,invoke,builtin]
  have hmap:#[x,y].map a.eval=#[.slice (some ⟨g,o*size,none⟩) kd cd,.slice (some a2) mm c2]:=by simp[ha.eval hx,ha.eval hy,hsub]
  simp only[hmap,Sem.run_bind,Sem.run_pure,Result.andThen_ok]
  rw[hrun]
  simp[goInt]
 ·have:=YsV cur.toList (ys.take (c*size)) (o*size) (k*size) (k'*size) hkl hok (by rw[hcs,NU];exact hfit) (by rw[hcs];exact hmax)
  rw[hcs]at this⊢
  rw[this,g5]
 ·rw[Tq,Tq,hcs,TA,TZ,g6,hmax]
  omega
theorem Zo(T:Tab P){f:α->List Value}(L M R:List α)(hx:evo env x=some (.slice (subA A o cap size) kd cd))(hy:evo env y=some (.slice A2 mm c2))(hr:Rd B w0 H A2 (M.flatMap f))(hq:∀a,(f a).length=size)(h1:∀a,Ji (f a)=true)
 (ht:look T.sl t=some (e,size,bytes)) (hn:Nat.ble (d+1) n.k=true) (hA:∃g,A=some ⟨g,0,none⟩) (hb:o+kd<=cap/\0<min mm kd/\o<=L.length/\min mm kd<=M.length) (hR:L.take o++M.take (min mm kd)++L.drop (o+min mm kd)=R)
 (hu:Upd (sl e size A L.length cap (L.flatMap f)) (sl e size A R.length cap (R.flatMap f)) H K)
 (h:VL P none n B w0 ops Q rest ((d,.int .i64 (min mm kd:Nat))::env) K):
 VL P none n B w0 ops Q (⟨some d,.call ⟨.builtin .copy,#[x,y],#[t,t]⟩,ty,pos,after,none⟩::rest) env H:=by
 have hlen:∀l:List α,(l.flatMap f).length=l.length*size:=λl=>by
  induction l with
  |nil=>simp
  |cons a l ih=>grind
 have hRl:R.length=max L.length (o+min mm kd):=by
  grind
 have hRf:R.flatMap f=(L.flatMap f).take (o*size)++(M.flatMap f).take (min mm kd*size)++(L.flatMap f).drop (o*size+min mm kd*size):=by
  rw[<-hR,Rw,Rw,XQ hq,XQ hq,O0 hq,SH]
 rw[hRf]at hu
 refine YoU T hx hy hr hu ht hn (λv hv=>?_) hA ⟨hb.1,hb.2.1,hb.2.2.1,hRl⟩ (by grind [Rr]) h
 grind [ZK]
theorem W9(T:Tab P){tn i j:Nat}(hx:evo env x=some (.slice A i cap))(hy:evo env y=some (.int .i64 (j:Int)))(hm:sl e size A k cap xs∈H)(ht:look T.sl t=some (e,size,bytes))(htn:YgC P tn=true)(hn:Nat.ble (d+1) n.k=true)(hb:Nat.ble bytes 1000=true)
 (hk:i<=k/\0<k/\0<j/\cap<i+j/\i+j<=1000000)
 (h:∀g c,i+j<=c->VL P none n B w0 ops Q rest ((d,.slice (some ⟨g,0,none⟩) (i+j) c)::env) (sl e size (some ⟨g,0,none⟩) i c (xs.take (i*size))::H)):VL P none n B w0 ops Q (⟨some d,.call ⟨.builtin .append,#[x,y],#[t,tn]⟩,ty,pos,after,none⟩::rest) env H:=by
 obtain⟨hu,inf,z,hi,hz,hzs,hsi,hbi,hs0,hb0⟩:=YE (T.slic ht)
 obtain⟨kn,hkn⟩:=YbC htn
 have hb':=Ri hb
 refine XA (λv K=>∃g c,v=.slice (some ⟨g,0,none⟩) (i+j) c/\K=sl e size (some ⟨g,0,none⟩) i c (xs.take (i*size))::H/\i+j<=c) rfl rfl hn (λa w ha hw=>?_) (by rintro _ _ ⟨g,c,rfl,rfl,hc⟩;exact h g c hc)
 obtain⟨hk1,hk2,hk3,hk4,hk5⟩:=hk
 have hown:=hw.sl hm
 rcases Z5 hown with⟨_,e0,_⟩|⟨g,cur,rfl,g1,g2,g3,g4,g5,g6⟩
 ·omega
 have hik:i*size<=k*size:=Rr _ hk1
 have hxl:(xs.take (i*size)).length=i*size:=zc92
 have hbj:(i+j)*inf.bytes<=1000000*1000:=Nat.mul_le_mul hk5 (by omega)
 have hbj2:j*inf.bytes<=(i+j)*inf.bytes:=Rr _ (by omega)
 have hold:(Builtin.firstCells inf.size i (.slice (some ⟨g,0,none⟩) i cap)).run P w.drew=.ok (xs.take (i*size)).toArray w.drew:=by
  rw[hsi]
  refine run_firstCells_some (P:=P) w.drew size i ⟨g,0,none⟩ i cap _ hxl λq v hq=>?_
  rw[Sl]at hq
  split at hq
  ·obtain⟨g',e5,hc,_⟩:=YaC hown hq
   injection e5 with e5
   injection e5 with e5
   subst e5
   rw[Addr.add_lit,RH];exact hc
  ·cases hq
 have hrun:=Lib.run_append_grow_zeros (P:=P) w t tn ty e inf z .i64 kn hu hkn hi hz (some ⟨g,0,none⟩) i cap (xs.take (i*size)) hold j hk3 (by omega) hk4 (by omega) (by omega) (growslice_fits hk4 (by omega))
 have hge:=grownCap_ge w (i+j) cap e
 have hcm:grownCap w (i+j) cap e<=maxLen:=grownCap_le_maxLen w (i+j) cap e (by simp only[maxLen];omega)
 refine⟨_,_,_,by simp only[execOp,resolve,invoke,builtin,ha.eval hx,ha.eval hy,NQ,Ru,Nj,Sem.run_bind,Sem.run_pure,hrun,Result.andThen_ok];rfl,?_,w.heap.size,grownCap w (i+j) cap e,rfl,rfl,hge⟩
 have h2:=hw.drew.alloc (.cells ((xs.take (i*size)).toArray++Builtin.zeroCells z.cells j++Builtin.zeroCells z.cells (grownCap w (i+j) cap e-(i+j))) e)
 refine h2.upd (Upd.here _) rfl rfl rfl (TK _) λS1 ⟨h3,h4⟩=>⟨⟨⟨hxl,.inr ⟨w.heap.size,grownCap w (i+j) cap e,_,rfl,Tj _,h4,by omega,hcm,?_,?_⟩⟩,λa ha=>by cases ha;exact h3⟩,λ_ _ _=>rfl⟩
 ·rw[Array.size_append,Array.size_append,size_zeroCells,size_zeroCells,hzs,List.size_toArray,hxl,<-SH,<-SH]
  congr 1
  omega
 ·rw[Array.toList_append,Array.toList_append,T0,S8,TL (by simp[hxl]),List.toList_toArray,hxl,Ni,ND,Rx]
theorem ZZ(T:Tab P){n':Nat}{ki:IntKind}{z:Int}(hx:evo env x=some (.slice A k cap))(hl:evo env hi=some (.int ki z))(ht:look T.sl t=some (e,size,bytes))(hn:Nat.ble (d+1) n.k=true)(hb:0<=z/\z<=cap)(hn':z.toNat=n')(hA:∃g,A=some ⟨g,0,none⟩)
 (h:VL P m n B w0 ops Q rest ((d,.slice A n' cap)::env) H):VL P m n B w0 ops Q (⟨some d,.slice t x none (some hi) none,ty,pos,after,none⟩::rest) env H:=by
 subst hn'
 obtain⟨g,rfl⟩:=hA
 refine YF rfl rfl hn rfl (λf w ha hw=>?_) h
 have hA:(if cap=0 then(some ⟨g,0,none⟩:Option Addr)else(some ⟨g,0,none⟩:Option Addr).map (·.add (0*size)))=some ⟨g,0,none⟩:=by
  simp[Addr.add_lit]
 have hb2:(Instr.sliceBounds true k cap none (some (.int ki z)) none).run P w=.ok (0,z.toNat,cap) w:=zc43
 have hr:=JL T (A:=some ⟨g,0,none⟩) ht hb2
 exact Yup
theorem YaL{w:World}{gv g:Nat}{o:Obj}{R:List HP}(h:St B w0 (Eng.blk gv o::sl e size (some ⟨g,0,none⟩) k cap xs::R) w):gv≠g:=by
 obtain⟨S1,S2,_,_,hd,h4,h5⟩:=h.sep
 obtain⟨S3,S4,h6,_,_,h9,_⟩:=h5
 rintro rfl
 exact hd gv h4.1 (h6 _ (h9.2 _ rfl))
end
end Go.Eng
namespace Go.Proofs.YtambgjgljcadlaaGreatDoor
open Go.RowKit Go.Eng Go.Nw
theorem Ypl{s:Sch}{i:Nat}(hi:i<s.cells.length)(h:VA s i=false):Xm s=false:=by
 unfold Xm
 grind
theorem YnC(s:SchM){B:Nat}{w0:World}{H:List HP}{w:World}(hr:Rd B w0 H s.A (s.cells.flatMap celF))(hl:s.cells.length<=1000000000000)(hw:St B w0 H w):
 CX B w0 156 [s.val] w λv K=>v=.bool (Xm s.sch)/\K=H:=by
 refine Yc Tryz.func156 Tryz.ntmps156 rfl rfl hw ?_
 have e1:s.sch.cells=s.cells:=rfl
 repeat'(first|((first|apply ZY Ql|apply ZX Ql);exact za;exact rfl;exactλ_ hw=>(Yd8 s hw);all_goals(intro hB;(try simp only[Tt,T9]at hB);try exact zo))|refine zgd ?_|(refine zgf ?_ ?_<;>intro _<;>try exact zo)|(refine zgh ?_;intro _)|fail)
 ·apply Yi H
  ·exact zc0
  apply Yd;exact rfl;exact rfl
  exact⟨by rw[show Xm s.sch=false by unfold Xm;grind],rfl⟩
 rotate_left
 ·apply Yi H
  ·exact zc0
  apply Yd;exact rfl;exact rfl
  exact⟨by simp[Xm, *],rfl⟩
 rename_i g _
 refine Yj (λ(i:Nat)=>[(17,.int .i64 i),(16,.int .i64 s.cells.length),(15,.slice s.A s.cells.length s.cap),(1,.pointer (some ⟨g,0,none⟩))]) (λ_=>blk g (.cells #[.int .i64 s.len,.int .i64 s.off,.slice s.A s.cells.length s.cap] 30 (0,0))::H) (λi=>i<=s.cells.length/\(List.range i).all (VA s.sch)=true) (λi=>s.cells.length-i) 0 ⟨Tj _,rfl⟩ ?_ (λw hw=>hw) ?_
 ·exact zc1
 rintro i ⟨hi,hall⟩ K hK
 have hr:=hr.cons (X:=blk g (.cells #[.int .i64 s.len,.int .i64 s.off,.slice s.A s.cells.length s.cap] 30 (0,0)))
 by_cases hlt:i<s.cells.length
 ·have hget:s.cells[i]? =some (Yn s.sch i):=Xc (s:=s.sch) hlt
  have hgo:VA s.sch i=false->Xm s.sch=false:=Ypl (s:=s.sch) hlt
  have hst:VA s.sch i=true->(List.range (i+1)).all (VA s.sch)=true:=λh=>by rw[YcD,hall,h];rfl
  rcases S5 i with h0|h0
  ·subst h0
   repeat'(first|((first|apply ZY YlU|apply ZX YlU);exact za;exact rfl;exactλ_ hw=>(Ybx s _ hw);all_goals(intro hB;(try simp only[Tt,T9]at hB);try exact zo))|(apply zg28;refine zs84 ?_)|refine zgd ?_|(refine zgf ?_ ?_<;>intro _<;>try exact zo)|(refine zgh ?_;intro _)|fail)
   ·apply hK (0+1)
    ·exact⟨by omega,hst (by simp[VA, *])⟩
    ·omega
    ·exact zc1
    ·exact zc0
   ·apply Yi H
    ·exact zc0
    apply Yd;exact rfl;exact rfl
    exact⟨by rw[hgo (by simp[VA, *])],rfl⟩
  ·have hget2:s.cells[((i:Int)-1).toNat]? =some (Yn s.sch (i-1)):=zc94
   repeat'(first|((first|apply ZY YlU|apply ZX YlU);exact za;exact rfl;exactλ_ hw=>(Ybx s _ hw);all_goals(intro hB;(try simp only[Tt,T9]at hB);try exact zo))|((first|apply Ya YlV|apply Yb YlV);exact za;exact rfl;exactλ_ hw=>(Qh _ _ hw))|(apply zg28;refine zs84 ?_)|refine zgd ?_|(refine zgf ?_ ?_<;>intro _<;>try exact zo)|(refine zgh ?_;intro _)|fail)
   all_goals first
    |(apply hK (i+1)
      ·refine⟨by omega,hst ?_⟩
       have hc:cmpV (nums (Yn s.sch (i-1))) (nums (Yn s.sch i))<0:=by omega
       simp[VA,(YcT _ _).1 hc, *]
      ·omega
      ·exact zu
      ·exact zk
      done)
    |(apply Yi H
      ·exact zk
      apply Yd;exact rfl;exact rfl
      refine⟨?_,rfl⟩
      rw[hgo]
      first
       |(simp[VA, *];done)
       |(have hc:¬cmpV (nums (Yn s.sch (i-1))) (nums (Yn s.sch i))<0:=by omega
         have hd:Xq (Yn s.sch (i-1)) (Yn s.sch i)=false:=by
          rw[YcT]at hc
          simpa using hc
         simp[VA,hd]
         omega))
 ·refine zX1 ?_<;>intros
  apply Yi H
  ·exact zc0
  apply Yd;exact rfl;exact rfl
  refine⟨?_,rfl⟩
  rw[show i=s.cells.length by omega]at hall
  rw[show Xm s.sch=true by unfold Xm;rw[e1,hall,Ti (by omega)];simp[*]]
def inI(s:Sch)(slot:Int)(k:Nat):List Nat:=(List.range k).filter λi=>decide ((Yn s i).1=slot)
def inXs(s:Sch)(slot:Int):List (List Value):=(inI s slot s.cells.length).map λ(i:Nat)=>[Value.int .i64 (i:Int)]
variable {s:Sch}{slot:Int}{k B:Nat}
theorem Ymd(h:(Yn s k).1=slot):inI s slot (k+1)=inI s slot k++[k]:=by
 grind [inI,RV]
theorem YpZ(h:(Yn s k).1≠slot):inI s slot (k+1)=inI s slot k:=by
 grind [inI,RV]
theorem Ysh{n:Nat}(h:(Yn s k).1=slot)(hk:k<n):(inI s slot n)[(inI s slot k).length]? =some k:=by
 obtain⟨m,rfl⟩:∃m,n=k+(m+1):=⟨n-k-1,by omega⟩
 have e:inI s slot (k+(m+1))=inI s slot k++((List.range (m+1)).map (k+·)).filter λi=>decide ((Yn s i).1=slot):=by
  grind [inI,List.range_add]
 simp_all [List.range_succ_eq_map]
theorem O4{i:Nat}:i∈inI s slot k↔i<k/\(Yn s i).1=slot:=by
 grind [inI]
def schB(g:Nat)(s:SchM):HP:=blk g (.cells #[.int .i64 s.len,.int .i64 s.off,.slice s.A s.cells.length s.cap] 30 (0,0))
def intB(g:Nat)(x:Int):HP:=blk g (.cells #[.int .i64 x] 3 (0,0))
variable {w0:World}
theorem Yix(s:SchM)(slot:Int)(gs gt:Nat){HI:List HP}(hr:Rd B w0 HI s.A (s.cells.flatMap celF))(hl:s.cells.length<=1000000000000)
 (hms:blk gs (.cells #[.int .i64 s.len,.int .i64 s.off,.slice s.A s.cells.length s.cap] 30 (0,0))∈HI) (hmt:blk gt (.cells #[.int .i64 slot] 3 (0,0))∈HI):
 Yco Tryz.prog 246 [.pointer (some ⟨gs,0,none⟩),.pointer (some ⟨gt,0,none⟩)] (inXs s.sch slot) B w0 HI:=by
 refine Ycp Tryz.func246 Tryz.ntmps246 rfl rfl ?_
 intro l SS X hy L0 h0
 refine zX7 ?_
 refine Yj (λ(x:Nat×List HP)=>[(9,.int .i64 x.1),(8,.int .i64 s.cells.length),(7,.slice s.A s.cells.length s.cap),(0,.func (.yield l) #[] #[]),(1,.pointer (some ⟨gs,0,none⟩)),(2,.pointer (some ⟨gt,0,none⟩))]) (λx=>many x.2::HI) (λx=>x.1<=s.cells.length/\SS (inI s.sch slot x.1).length x.2) (λx=>s.cells.length-x.1) (0,L0) ⟨Tj _,h0⟩ ?_ (λw hw=>hw) ?_
 ·exact zc1
 rintro⟨i,L⟩ ⟨hi,hS⟩ K hK
 dsimp only at hi hS⊢
 have hr:=hr.cons (X:=many L)
 by_cases hlt:i<s.cells.length
 ·have hget:s.cells[i]? =some (Yn s.sch i):=Xc (s:=s.sch) hlt
  have hlt2:i<s.sch.cells.length:=hlt
  iterate 22 (first|refine zgd ?_|(refine zge ?_ ?_<;>intro _<;>try exact zo)|(refine zgh ?_;intro _)|fail)
  refine Ycr 7 rfl rfl zc90 ?_
  repeat'(first|refine zgc ?_|(refine zge ?_ ?_<;>intro _<;>try exact zo)|fail)
  ·rename_i g5 hs
   have hx:(inXs s.sch slot)[(inI s.sch slot i).length]? =some [.int .i64 (i:Int)]:=by
    rw[inXs,TX,Ysh hs hlt2];rfl
   have hY:=hy _ _ hx [blk g5 (.cells (celF (Yn s.sch i)).toArray 117 (0,0))] L hS
   apply YcA _ _ (hy:=hY)
   ·exact YbY (j:=4) (s:=18) rfl rfl rfl
   ·exact rfl
   ·exact zc93
   ·exact rfl
   ·exact zc90
   ·rintro _ ⟨L',hS',rfl⟩
    refine zX2 ?_
    apply hK (i+1,L')
    ·exact⟨by omega,by rw[Ymd hs,Tq];exact hS'⟩
    ·exact zc64
    ·exact zc1
    ·exact zc49
   ·rintro _ ⟨L',hX',rfl⟩
    refine zX2 ?_
    apply Yi (many L'::HI)
    ·exact zc49
    apply OW;exact rfl
    exact .inr ⟨L',hX',rfl⟩
  ·rename_i hs
   apply YhH zc90
   refine zX9 ?_
   apply hK (i+1,L)
   ·exact⟨by omega,by rw[YpZ hs];exact hS⟩
   ·exact zc64
   ·exact zc1
   ·exact zc49
 ·refine zX1 ?_<;>intros
  apply VG;exact rfl
  rw[show i=s.cells.length by omega]at hS
  exact .inl ⟨L,by rw[inXs,TC];exact hS,rfl⟩
theorem Yiy(s:SchM)(slot:Int){H:List HP}{w:World}(hw:St B w0 H w):
 CX B w0 182 [s.val,.int .i64 slot] w λv K=>∃gs gt,v=.func (.func 246) #[] #[.pointer (some ⟨gs,0,none⟩),.pointer (some ⟨gt,0,none⟩)]/\K=intB gt slot::schB gs s::H:=by
 refine Yc Tryz.func182 Tryz.ntmps182 rfl rfl hw ?_
 refine zX25 ?_<;>intros
 apply Yd;exact rfl;exact rfl
 exact⟨_,_,rfl,rfl⟩
end Go.Proofs.YtambgjgljcadlaaGreatDoor
namespace Go.Eng
open Go.RowKit
variable {B cap:Nat}{w0:World}{H:List HP}{A:Option Addr}
theorem Wj{P:Program}{n:Shp}{Q:Exit->Act->World->Prop}{env:Env}{c:Code}{e size k:Nat}{xs:List Value}(hm:sl e size A k cap xs∈H)(h:k<=cap->VC P n B w0 c Q env H):VC P n B w0 c Q env H:=by
 refine⟨λa w ha hw=>?_⟩
 have hown:=hw.sl hm
 have hkc:k<=cap:=zc39
 exact(h hkc).run a w ha hw
end Go.Eng
namespace Go.Proofs.YtambgjgljcadlaaGreatDoor
open Go.RowKit Go.Eng Go.Nw
theorem XY(A:Option Addr)(cap size:Nat):subA A 0 cap size=A:=by
 simp_all [subA,Go.Addr.add]
theorem Ybs{α:Type}{f:α->List Value}{q:Nat}(hq:∀a,(f a).length=q):∀(l:List α) (i:Nat),i<l.length->(l.flatMap f).take (i*q)++(l.flatMap f).drop ((i+1)*q)=(l.eraseIdx i).flatMap f
 |x::l,0,_=>by
  simp_all
 |x::l,i+1,h=>by
  rw[TG]at h
  have ih:=Ybs hq l i (by omega)
  have e1:(i+1)*q=(f x).length+i*q:=by grind
  have e2:(i+1+1)*q=(f x).length+(i+1)*q:=by grind
  rw[TT,List.eraseIdx_cons_succ,TT,e2,List.drop_length_add_append,<-ih,<-T0]
  grind
def cels(A:Option Addr)(cap:Nat)(l:List Cel):HP:=sl 117 5 A l.length cap (l.flatMap celF)
theorem Ynd(A:Option Addr)(cap:Nat)(l:List Cel)(c:Cel):sl 117 5 A (l.length+1) cap (l.flatMap celF++celF c)=cels A cap (l++[c]):=by
 grind [cels]
theorem Wr(A:Option Addr)(cap:Nat)(l:List Cel)(c:Cel):sl 117 5 A (l.length+1) cap (l.flatMap celF++#[Value.int .i64 c.1,.int .i64 c.2.1,.int .i64 c.2.2.1,.int .i64 c.2.2.2.1,.int .i64 c.2.2.2.2].toList)=cels A cap (l++[c]):=Ynd A cap l c
theorem YiF(l:List Cel)(c:Cel):l.length+1=(l++[c]).length:=by simp
variable {B cap:Nat}{w0:World}{H:List HP}{A:Option Addr}
theorem Rd.cels{l:List Cel}(h:cels A cap l∈H):Rd B w0 H A (l.flatMap celF):=.sl h
abbrev ints(A:Option Addr)(cap:Nat)(l:List Int):HP:=sl 3 1 A l.length cap (l.flatMap numF)
theorem YnJ(A:Option Addr)(cap:Nat)(l:List Int)(z:Int):sl 3 1 A (l.length+1) cap (l.flatMap numF++#[Value.int .i64 z].toList)=ints A cap (l++[z]):=by simp_all [ints,numF]
theorem Yov{l:List Int}{k:Nat}{a:Int}(h:l[k]? =some a):l.take (k+1)=l.take k++[a]:=zc95
def wordS:List UInt8:=[115,99,104,101,100,117,108,101]
def wordC:List UInt8:=[99,101,108,108]
def WP(w:List UInt8)(l:List Int):List UInt8:=w++l.flatMap λn=>32::Lib.itoa n
def Oy(w:List UInt8)(l:List Int):List UInt8:=WP w l++[10]
def Yq4(s:Sch):List UInt8:=Oy wordS [s.len,s.off]++s.cells.flatMap λc=>Oy wordC (nums c)
def ZR(s:Sch):List UInt8×Int:=if Xm s=false then([],1)else(Yq4 s,0)
theorem Yp4{n:Int}(h:0<=n):Lib.itoa n=Lib.decDigits n.toNat:=by unfold Lib.itoa;rw[Td (by omega)]
theorem YaZ{s:Sch}(h:Frm s):(∀n∈[s.len,s.off],0<=n/\n<10000)/\∀c∈s.cells,∀n∈nums c,0<=n/\n<10000:=by
 have h1:=h.sized
 unfold ZD at h1
 have h2:=TY h1
 constructor
 ·intro n hn
  simp only[TI,RG,NB]at hn
  omega
 ·intro c hc n hn
  have h3:=h.formed c hc
  unfold Z1 ZI insE at h3
  simp only[To,Tt]at h3
  unfold nums at hn
  simp only[TI,RG,NB]at hn
  omega
variable {B:Nat}{w0:World}{H:List HP}
theorem NetM.In.mono{K:List HP}{n:NetM}(h:n.In B w0 H)(hH:∀w,St B w0 K w->St B w0 H w):n.In B w0 K:=
 ⟨h.pw.mono hH,λr hr=>(h.rw_ r hr).mono hH,h.lk.mono hH,h.mg.mono hH,h.s1,h.s2,h.s3,h.s4⟩
def fewE(n:Net):Bool:=decide ((∀r∈n.power,r.length<=40)/\n.power.length<=8/\n.links.length<=60/\n.margin.length<=60)
theorem Yig(n:NetM){w:World}(hin:n.In B w0 H)(hw:St B w0 H w):
 CX B w0 94 [n.val] w λv K=>v=.bool (fewE n.net)/\K=H:=by
 refine Yc Tryz.func94 Tryz.ntmps94 rfl rfl hw ?_
 obtain⟨hpw,hrw,hlk,hmg,hs1,hs2,hs3,hs4⟩:=id hin
 have e1:(∀r∈n.net.power,r.length<=40)↔∀r∈n.rows,r.xs.length<=40:=by simp[NetM.net]
 have e2:n.net.power.length=n.rows.length:=by simp[NetM.net]
 have e3:n.net.links=n.links:=rfl
 have e4:n.net.margin=n.margin:=rfl
 unfold fewE
 rw[e2,e3,e4]
 (apply Xi;apply YU;apply YB;exact rfl;exact rfl;intro g)
 refine zX7 ?_
 refine Yj (λ(a:Nat)=>[(3,.int .i64 a),(1,.pointer (some ⟨g,0,none⟩))]) (λ_=>netB g n::H) (λa=>a<=n.rows.length/\∀j r,j<a->n.rows[j]? =some r->r.xs.length<=40) (λa=>n.rows.length-a) 0 ⟨Tj _,by intro j r hj;omega⟩ ?_ (λw hw=>hw) ?_
 ·exact zc1
 rintro a ⟨ha,hai⟩ K hK
 by_cases hlt:a<n.rows.length
 ·obtain⟨r,hr⟩:∃r,n.rows[a]? =some r:=⟨_,Ta hlt⟩
  have hs2r:=hs2 r (Tf hr)
  repeat'(first|refine zgd ?_|(refine zgf ?_ ?_<;>intro _<;>try exact zo)|fail)
  ·rename_i h
   apply Yl;apply Yd;exact rfl;exact rfl
   exact⟨by rw[Tn λhc=>by have:=e1.1 hc.1 r (Tf hr);omega],rfl⟩
  ·rename_i h
   apply hK (a+1)
   ·refine⟨by omega,λj q hj hq=>?_⟩
    by_cases e:j=a
    ·subst e;rw[hr]at hq;rw[<-Tv hq];omega
    ·exact hai j q (by omega) hq
   ·omega
   ·exact zc1
   exact zc19
 obtain rfl:a=n.rows.length:=by omega
 have hall:∀r∈n.rows,r.xs.length<=40:=λr hr=>by
  obtain⟨j,hj⟩:=List.getElem?_of_mem hr
  exact hai j r (Tc.1 hj).1 hj
 repeat'(first|refine zgc ?_|(refine zgf ?_ ?_<;>intro _<;>try exact zo)|fail)
 ·apply Yl;apply Yd;exact rfl;exact rfl
  exact⟨by rw[Ti ⟨e1.2 hall,by omega,by omega,by omega⟩],rfl⟩
 all_goals(apply Yl;apply Yd;exact rfl;exact rfl;exact⟨by rw[Tn λhc=>by omega],rfl⟩)
variable {l:List Flw}
theorem YpR{id:Int}(h:0<=Jd l id):∃f∈l,f.1=id:=by
 unfold Jd at h
 have:=(VO (λf:Flw=>decide (f.1=id)) l 0 (Ry _)).1 h
 obtain⟨f,hf,hp⟩:=TR.1 this
 exact⟨f,hf,TY hp⟩
theorem Yfl{nodes:Int}(h:(Yy nodes l).2=0):∀f∈l,0<=f.1/\f.1<=255/\1<=f.2.2.2.1/\f.2.2.2.1<=512:=by
 intro f hf
 obtain⟨i,hi⟩:=TO.1 hf
 have hl:=(Tc.1 hi).1
 unfold Yy at h
 split at h
 ·cases h
 split at h
 ·cases h
 have:=YI.1 h i (Tj _) (by omega)
 unfold Xt at this
 have e:Xg l i=f:=by unfold Xg;rw[Tu,hi];rfl
 rw[e]at this
 split at this
 ·rename_i h1;exact absurd this h1
 ·rename_i h1
  have h2:XD nodes f=0:=TN.1 h1
  unfold XD at h2
  split at h2
  ·cases h2
  split at h2
  ·cases h2
  omega
structure Val(n:Net)(l:List Flw)(s:Sch):Prop where
 whole:Zg n l s=0
 cells:(J2 n l s).2=0
 twice:(Ul s).2=0
 dist:(Ye7 n s).2=0
variable {n:Net}{s:Sch}
theorem X5:(schE n l s).2=0↔Val n l s:=by
 unfold schE
 by_cases h1:Zg n l s≠0
 ·rw[Tm h1]
  exact⟨λh=>absurd h h1,λh=>absurd h.whole h1⟩
 rw[Td h1]
 by_cases h2:(J2 n l s).2≠0
 ·rw[Tm h2]
  exact⟨λh=>absurd h h2,λh=>absurd h.cells h2⟩
 rw[Td h2]
 by_cases h3:(Ul s).2≠0
 ·rw[Tm h3]
  exact⟨λh=>absurd h h3,λh=>absurd h.twice h3⟩
 rw[Td h3]
 exact⟨λh=>⟨TN.1 h1,TN.1 h2,TN.1 h3,h⟩,λh=>h.dist⟩
theorem Vt(h:Zg n l s=0):Yo n=0/\(Yy n.nodes l).2=0/\ZD s=true/\(∀f∈l,s.len.tmod f.2.2.2.1=0)/\s.cells.length<=512:=by
 unfold Zg at h
 by_cases h1:Yo n=0
 rotate_left
 ·rw[Tm h1]at h;cases h
 rw[Td (λe=>e h1)]at h
 by_cases h2:(Yy n.nodes l).2=0
 rotate_left
 ·rw[Tm h2]at h;cases h
 rw[Td (λe=>e h2)]at h
 cases h3:ZD s with
 |false=>rw[h3,Tm rfl]at h;cases h
 |true=>
  rw[h3,Td (by decide)]at h
  split at h
  ·cases h
  rename_i h4
  split at h
  ·cases h
  refine⟨h1,h2,rfl,λf hf=>?_,by omega⟩
  have:=RN.1 (SD.2 h4) f hf
  simpa using this
theorem Val.frm(h:Val n l s):Frm s:=by
 obtain⟨h1,h2,h3,h4,h5⟩:=Vt h.whole
 have hok:=YN h1
 have k1:=YI.1 h.cells
 have hids:=Yfl h2
 have hn:=hok.n1
 have hcell:∀i,i<s.cells.length->ZI s (Yn s i)=true/\YG n (YC (Yn s i)) (toC (Yn s i))=true/\0<=Jd l (Xr (Yn s i))/\(0<i->Xq (Yn s (i-1)) (Yn s i)=true):=λi hi=>by
  have:=k1 i (Tj _) (by omega)
  unfold Ua at this
  cases hp:ZI s (Yn s i)with
  |false=>rw[hp,Tm rfl]at this;cases this
  |true=>
   rw[hp,Td (by decide)]at this
   split at this
   ·cases this
   rename_i h6
   split at this
   ·cases this
   rename_i h7
   refine⟨rfl,?_,?_,λh0=>?_⟩
   ·cases hg:YG n (YC (Yn s i)) (toC (Yn s i))with
    |true=>rfl
    |false=>exact absurd (.inl hg) h6
   ·exact Int.not_lt.1 λhlt=>h6 (.inr hlt)
   ·cases hc:Xq (Yn s (i-1)) (Yn s i)with
    |true=>rfl
    |false=>exact absurd ⟨h0,hc⟩ h7
 refine⟨h3,h5,λc hc=>?_,?_⟩
 ·obtain⟨i,hi⟩:=TO.1 hc
  obtain⟨a1,a2,a3,_⟩:=hcell i (Tc.1 hi).1
  rw[XG hi]at a1 a2 a3
  have hg:=Xy hok a2
  obtain⟨f,hf,hfe⟩:=YpR a3
  have hid:=hids f hf
  unfold YC toC Xr at*
  unfold Z1 insE
  rw[a1,Ti (by omega),Ti (by omega),Ti (by omega)]
  rfl
 ·refine Yat (lt:=Xq) (λh1 h2=>UW h1 h2) λi a b ha hb=>?_
  have:=(hcell (i+1) (Tc.1 hb).1).2.2.2 (by omega)
  rw[Nl,XG ha,XG hb]at this
  exact this
structure Tabs(w:World):Prop where
 pow:Lib.TabIs Tryz.prog w "internal/strconv.uint64pow10" .u64 Lib.pow10Tab
def TabsB(B:Nat)(w0:World):Prop:=∀w,Below B w0 w->Tabs w
variable {B:Nat}{w0 w:World}{H:List HP}
theorem TabsB.here(h:TabsB B w0)(hw:St B w0 H w):TabsB w.heap.size w:=λw1 h1=>h w1 (hw.below.trans (h1.mono hw.le))
abbrev strV(l:List UInt8):Value:=.string ⟨l.toArray⟩
theorem YnM(n:Int)(h0: -9223372036854775808<=n)(h1:n<=9223372036854775807)(ht:TabsB B w0)(hw:St B w0 H w):
 CX B w0 155 [.int .i64 n] w λv K=>v=strV (Lib.itoa n)/\K=H:=
 YjV hw ((Tryz.strconv_Itoa n h0 h1 w (ht w hw.below).pow).mono λe w' ⟨h1,k,os,h2⟩=>⟨h1,by rw[h2];exact Lib.below_grow _ w (TK _) k os⟩)
theorem Yag{s:Sch}{slot:Int}{k:Nat}{args:List Value}(h:(inXs s slot)[k]? =some args):∃i,(inI s slot s.cells.length)[k]? =some i/\i<s.cells.length/\args=[.int .i64 (i:Int)]:=by
 unfold inXs at h
 rw[TX]at h
 cases hi:(inI s slot s.cells.length)[k]? with
 |none=>simp_all
 |some i=>
  rw[hi]at h
  cases h
  exact⟨i,rfl,(O4.1 (Tf hi)).1,rfl⟩
section
variable {m:Eng.Mode}{n:Shp}{B d:Nat}{w0:World}{ops:Array Oper}{Q:Exit->Act->World->Prop}{rest:List Oper}{env:Env}{H:List HP}{ty:TypeId}{pos:String}{after:Array Edge}{x y:Operand}
theorem YjJ(a b:List UInt8)(hx:evo env x=some (strV a))(hy:evo env y=some (strV b))(hn:Nat.ble (d+1) n.k=true)(hb:a.length+b.length<=1000000)(h:VL Tryz.prog m n B w0 ops Q rest ((d,strV (a++b))::env) H):
 VL Tryz.prog m n B w0 ops Q (⟨some d,.binOp .add 9 x y 9,ty,pos,after,none⟩::rest) env H:=by
 have hs:∀l:List UInt8,(⟨l.toArray⟩:ByteArray).size=l.length:=by grind [ByteArray.size]
 refine YrO hx hy hn (by grind) ?_
 have e:(⟨a.toArray⟩:ByteArray)++⟨b.toArray⟩=⟨(a++b).toArray⟩:=by
  apply ByteArray.ext
  simp
 simp_all
variable {g:Nat}{cs:Array Value}{fr:Nat×Nat}
theorem Yo7(hx:evo env x=some (.pointer (some ⟨g,0,none⟩)))(hm:blk g (.cells cs 175 fr)∈H)(hc:cs.size=2)(hn:Nat.ble (d+1) n.k=true)
 (h:VL Tryz.prog none n B w0 ops Q rest ((d,.pointer (some ⟨g,0,none⟩))::env) H):VL Tryz.prog none n B w0 ops Q (⟨some d,.convert 172 319 x,ty,pos,after,none⟩::rest) env H:=by
 refine XA (λv K'=>v=.pointer (some ⟨g,0,none⟩)/\K'=H) rfl rfl hn (λa w ha hw=>?_) (by rintro _ _ ⟨rfl,rfl⟩;exact h)
 have hb:=(hw.blk hm).1
 obtain⟨j,hj,hjs⟩:=Option.map_eq_some_iff.1 (show(Tryz.prog.info? 175).map (·.size)=some 2 by kernel_rfl)
 have hr:=Lib.run_to_unsafe (P:=Tryz.prog) w ⟨g,0,none⟩ Tryz.underlying172 Tryz.underlying319 hj (by rw[hjs];decide) (show w.shape? g=some (175,2) by simp[World.shape?,hb,hc]) (Nat.zero_lt_succ 1)
 exact⟨_,H,w,by simp[execOp,ha.eval hx,hr],hw,rfl,rfl⟩
theorem Yo0(hx:evo env x=some (.pointer (some ⟨g,0,none⟩)))(hm:blk g (.cells cs 175 fr)∈H)(hc:cs.size=2)(hn:Nat.ble (d+1) n.k=true)
 (h:VL Tryz.prog none n B w0 ops Q rest ((d,.pointer (some ⟨g,0,none⟩))::env) H):VL Tryz.prog none n B w0 ops Q (⟨some d,.convert 319 172 x,ty,pos,after,none⟩::rest) env H:=by
 refine XA (λv K'=>v=.pointer (some ⟨g,0,none⟩)/\K'=H) rfl rfl hn (λa w ha hw=>?_) zc57
 have hb:=(hw.blk hm).1
 obtain⟨j,hj,hjs⟩:=Option.map_eq_some_iff.1 (show(Tryz.prog.info? 175).map (·.size)=some 2 by kernel_rfl)
 have hr:=Lib.run_from_unsafe (P:=Tryz.prog) w ⟨g,0,none⟩ Tryz.underlying319 Tryz.underlying172 hj (show w.shape? g=some (175,2) by simp[World.shape?,hb,hc]) (by kernel_rfl)
 exact⟨_,H,w,by simp[execOp,ha.eval hx,hr],hw,rfl,rfl⟩
theorem YoY{v:Value}{tys:Array TypeId}(hx:evo env x=some v)(hn:Nat.ble (d+1) n.k=true)(h:VL Tryz.prog none n B w0 ops Q rest ((d,v)::env) H):
 VL Tryz.prog none n B w0 ops Q (⟨some d,.call ⟨.value (.func 228),#[x],tys⟩,ty,pos,after,none⟩::rest) env H:=by
 refine XA (λu K'=>u=v/\K'=H) rfl rfl hn (λa w ha hw=>⟨v,H,w,?_,hw,rfl,rfl⟩) zc57
 have hr:=run_callFunc_extern (P:=Tryz.prog) Tryz.func228 (by kernel_rfl) (by kernel_rfl) (by kernel_rfl) (e:=Extern.AbiNoEscape.same) (by kernel_rfl) #[v] w
 have he:a.eval (.func 228)=.func (.func 228) #[] #[]:=rfl
 simp[execOp,resolve,invoke,ha.eval hx,he,Deferred.ofValue,hr,Lib.run_noEscape,Result.andThen]
theorem YhB{g:Addr}(hx:evo env x=some (.pointer (some g)))(hy:evo env y=some (.pointer (some g)))(hn:Nat.ble (d+1) n.k=true)(h:VL Tryz.prog m n B w0 ops Q rest ((d,.bool false)::env) H):
 VL Tryz.prog m n B w0 ops Q (⟨some d,.binOp .neq 172 x y 172,ty,pos,after,none⟩::rest) env H:=by
 obtain⟨j,hj,hjs⟩:=Option.map_eq_some_iff.1 (show(Tryz.prog.info? 175).map (·.size)=some 2 by kernel_rfl)
 exact Xe hx hy hn (λ_=>rfl) (λw=>Lib.run_neq_ptr_same w g Tryz.underlying172 hj) h
end
variable {B b cap:Nat}{w0 w:World}{H:List HP}
theorem YcU(b:Nat)(p v:Value)(hp:p=.pointer none\/p=.pointer (some ⟨b,0,none⟩))(hw:St B w0 (blk b (.cells #[p,v] 175 (0,0))::H) w):
 CX B w0 154 [.pointer (some ⟨b,0,none⟩)] w λu K=>u=.tuple #[]/\K=blk b (.cells #[.pointer (some ⟨b,0,none⟩),v] 175 (0,0))::H:=by
 refine Yc Tryz.func154 Tryz.ntmps154 rfl rfl hw ?_
 rcases hp with rfl|rfl
 ·skip
  repeat'(first|(apply YhA;exact rfl;exact rfl;kernel_rfl)|(apply Yo7;exact rfl;exact zm;exact rfl;exact rfl)|(apply Yo0;exact rfl;exact zm;exact rfl;exact rfl)|(apply YoY;exact rfl;exact rfl)|(apply YhB;(iterate 3 exact rfl))|refine zgd ?_|fail)
  exact zc99
 ·skip
  repeat'(first|(apply YhA;exact rfl;exact rfl;kernel_rfl)|(apply YhB;(iterate 3 exact rfl))|refine zgd ?_|fail)
  exact zc99
def bdP(b:Nat)(p:Value)(A:Option Addr)(cap:Nat)(l:List UInt8)(H:List HP):List HP:=blk b (.cells #[p,.slice A l.length cap] 175 (0,0))::sl 5 1 A l.length cap (Lib.byteCells l)::H
theorem Yer(b:Nat)(p:Value)(hp:p=.pointer none\/p=.pointer (some ⟨b,0,none⟩))(A:Option Addr)(cap:Nat)(l s:List UInt8)(hl:l.length+s.length<=1000000)(hw:St B w0 (bdP b p A cap l H) w):
 CX B w0 83 [.pointer (some ⟨b,0,none⟩),strV s] w λu K=>u=.tuple #[.int .i64 s.length,.nilIface]/\∃A' cap',K=bdP b (.pointer (some ⟨b,0,none⟩)) A' cap' (l++s) H:=by
 have hs:(⟨s.toArray⟩:ByteArray).size=s.length:=by simp[ByteArray.size]
 refine Yc Tryz.func83 Tryz.ntmps83 rfl rfl hw ?_
 unfold bdP
 refine zX4 ?_
 apply Yf _ YvY
 exact za
 exact rfl
 exactλ_ hw=>(YcU b p _ hp (hw))
 rintro _ _ ⟨rfl,rfl⟩
 repeat'(first|(apply Yf0 T (e:=5);(iterate 3 exact rfl);kernel_rfl;exact rfl;exact rfl;(intro _ _;exact zd);(rw[hs];omega);intro A' cap')|refine zgd ?_|fail)
 have e1:Lib.byteCells l++Lib.strCells ⟨s.toArray⟩=Lib.byteCells (l++s):=by
  grind [Go.Lib.byteCells,Go.Lib.strCells]
 have e2:l.length+(⟨s.toArray⟩:ByteArray).size=(l++s).length:=by simp_all
 apply Yx;(iterate 3 exact rfl)
 refine⟨by rw[hs],A',cap',?_⟩
 simp_all
variable {p:Value}{A:Option Addr}{l:List UInt8}
theorem Yve(hp:p=.pointer none\/p=.pointer (some ⟨b,0,none⟩))(hw:St B w0 (bdP b p A cap l H) w):Lib.IsBuilder 175 5 B b (Lib.byteCells l) w:=by
 obtain⟨_,_,S1,S2,k1,k2,k3,⟨k4,k5⟩,S3,S4,j1,j2,j3,⟨⟨j4,j5⟩,j6⟩,j7⟩:=hw
 have hl:(Lib.byteCells l).length=l.length:=by omega
 have hat:Lib.BuilderAt 175 5 B b p (Lib.byteCells l) w:=by
  refine⟨(k1 b k4).1,.slice A l.length cap,k5,⟨by omega,?_⟩,?_⟩
  ·rw[hl]
   rcases j5 with j5|⟨g,c,cur,e1,e2,e3⟩
   ·simp_all
   ·refine .inr ⟨g,c,cur,e1,?_,e3⟩
    simp_all
  grind [Go.Value.ownBlock]
 rcases hp with rfl|rfl
 ·exact .inl hat
 ·exact .inr hat
theorem Yjo(hp:p=.pointer none\/p=.pointer (some ⟨b,0,none⟩))(hw:St B w0 (bdP b p A cap l H) w):
 CX B w0 87 [.pointer (some ⟨b,0,none⟩)] w λv K=>v=strV l/\K=[]:=by
 refine(Tryz.Builder_String_any B b l w (Yve hp hw) hw.le).mono ?_
 rintro e w' ⟨rfl,hb⟩
 exact⟨_,[],rfl,⟨hw.below.trans hb,Rh hw.le hb.size,trivial⟩,rfl,rfl⟩
theorem YiB{n:Int}(h:0<=n/\n<10000):(Lib.itoa n).length<=4:=by
 grind [Yp4,Yr4]
theorem YcH{w:List UInt8}:∀{l:List Int},(∀n∈l,0<=n/\n<10000)->(WP w l).length<=w.length+5*l.length
 |[],_=>by simp[WP]
 |n::l,h=>by
  have ih:=YcH (w:=w) (l:=l) λm hm=>h m (Tz _ hm)
  grind [YiB,WP]
theorem Ym8(w:List UInt8)(l:List Int)(n:Int):WP w (l++[n])=WP w l++([32]++Lib.itoa n):=by
 grind [WP]
theorem Yfu(word:List UInt8)(l:List Int)(h:∀n∈l,0<=n/\n<10000)(h5:l.length<=100)(hwd:word.length<=100)(ht:TabsB B w0)(hr:Rd B w0 H A (l.flatMap numF))(hw:St B w0 H w):
 CX B w0 157 [strV word,.slice A l.length cap] w λv K=>v=strV (Oy word l)/\K=H:=by
 refine Yc Tryz.func157 Tryz.ntmps157 rfl rfl hw ?_
 refine zX7 ?_
 refine Yj (λ(i:Nat)=>[(9,.int .i64 i),(8,.int .i64 l.length),(7,.slice A l.length cap),(0,strV (WP word (l.take i)))]) (λ_=>H) (λi=>i<=l.length) (λi=>l.length-i) 0 (Tj _) ?_ (λw hw=>hw) ?_
 ·have e0:WP word (l.take 0)=word:=by simp[WP]
  rw[e0]
  exact zc1
 intro i hi K hK
 have hbl:=YcH (w:=word) (l:=l.take i) λn hn=>h n (SU hn)
 have hlt0:(l.take i).length<=100:=by grind
 by_cases hlt:i<l.length
 ·obtain⟨n,hn⟩:∃n,l[i]? =some n:=⟨_,Ta hlt⟩
  have hnb:=h n (Tf hn)
  have hil:=YiB hnb
  repeat'(first|((first|apply Ya YtF|apply Yb YtF);exact za;exact rfl;exactλ_ hw=>(YnM n (by omega) (by omega) ht hw))|(apply YjJ [32] (Lib.itoa n);(iterate 3 exact rfl);(show 1+_<=_;omega))|(apply YjJ (WP word (l.take i)) ([32]++Lib.itoa n);(iterate 3 exact rfl);(rw[Tq];show _+(1+_)<=_;omega))|refine zgd ?_|(refine zge ?_ ?_<;>intro _<;>try exact zo)|fail)
  apply hK (i+1)
  ·show i+1<=l.length
   omega
  ·omega
  ·rw[TM,hn,RY,Ym8]
   exact zc1
  exact zc19
 ·skip
  repeat'(first|(apply YjJ (WP word (l.take i)) [10];(iterate 3 exact rfl);(show _+1<=_;omega))|refine zgc ?_|(refine zge ?_ ?_<;>intro _<;>try exact zo)|fail)
  apply Yd;exact rfl;exact rfl
  rw[show i=l.length by omega,TQ]
  exact YaI
def JP(s:Sch)(i:Nat):List UInt8:=Oy wordS [s.len,s.off]++(s.cells.take i).flatMap λc=>Oy wordC (nums c)
theorem YbU{s:Sch}{i:Nat}(h:i<s.cells.length):JP s (i+1)=JP s i++Oy wordC (nums (Yn s i)):=by
 grind [JP,TM,Xc]
theorem Yaj{w:List UInt8}{l:List Int}(h:∀n∈l,0<=n/\n<10000):(Oy w l).length<=w.length+5*l.length+1:=by
 grind [Oy,YcH]
theorem Yei{s:Sch}(h:Frm s):∀i,i<=s.cells.length->(JP s i).length<=100+40*i
 |0,_=>by
  have h1:=Yaj (w:=wordS) (YaZ h).1
  grind [JP,wordS,TG]
 |i+1,hi=>by
  have ih:=Yei h i (by omega)
  have h1:=Yaj (w:=wordC) ((YaZ h).2 _ (J0 (s:=s) (i:=i) (by omega)))
  rw[YbU (by omega),Tq]
  have:wordC.length=4:=rfl
  have h2:(nums (Yn s i)).length=5:=rfl
  omega
theorem YqD(s:SchM)(ht:TabsB B w0)(hr:Rd B w0 [] s.A (s.cells.flatMap celF))(hl:s.cells.length<=1000000000000)(hw:St B w0 [] w):
 CX B w0 85 [s.val] w λv _=>v=.tuple #[strV (ZR s.sch).1,.int .i64 (ZR s.sch).2]:=by
 refine Yc Tryz.func85 Tryz.ntmps85 rfl rfl hw ?_
 have e1:s.sch.cells=s.cells:=rfl
 cases hf:Xm s.sch with
 |false=>
  refine zX30 ?_<;>intros
  apply Yx;(iterate 3 exact rfl)
  simp_all [ZR]
 |true=>
  have hfr:=XV.1 hf
  have hle:s.cells.length<=512:=hfr.few
  have hnm:=YaZ hfr
  have hln1:=Yaj (w:=wordS) hnm.1
  refine zX30 ?_<;>intros
  rename_i gs gb gl
  have hrl:Rd B w0 [blk gl (.cells #[.int .i64 s.len,.int .i64 s.off] 3 (0,0)),blk gb (.cells (Value.agg #[.pointer none,.slice none 0 0]).cells 175 (0,0)),blk gs (.cells #[.int .i64 s.len,.int .i64 s.off,.slice s.A s.cells.length s.cap] 30 (0,0))] (some ⟨gl,0,none⟩) ([s.sch.len,s.sch.off].flatMap numF):=Rd.blk (cs:=#[.int .i64 s.len,.int .i64 s.off]) (.head _)
  first|apply Ya YlM|apply Yb YlM
  exact za
  exact rfl
  exactλ_ hw=>(Yfu wordS [s.sch.len,s.sch.off] hnm.1 (by show 2<=100;decide) (by decide) ht hrl hw)
  apply ZE (bdP gb (.pointer none) none 0 [] [blk gs (.cells #[.int .i64 s.len,.int .i64 s.off,.slice s.A s.cells.length s.cap] 30 (0,0))])
  ·unfold bdP
   intro w hw
   have h5:St B w0 [blk gb (.cells (Value.agg #[.pointer none,.slice none 0 0]).cells 175 (0,0)),blk gs (.cells #[.int .i64 s.len,.int .i64 s.off,.slice s.A s.cells.length s.cap] 30 (0,0))] w:=by
    revert w
    exact zc0
   exact(h5.nilSlice _ _).perm (.swap _ _ _)
  apply Yf _ en83
  exact za
  exact rfl
  exactλ_ hw=>(Yer gb _ (.inl rfl) none 0 [] (Oy wordS [s.sch.len,s.sch.off]) (by simp only[Rq];have:wordS.length=8:=rfl;simp only[TG,Rq]at hln1;omega) (hw))
  rintro _ _ ⟨rfl,A1,cap1,rfl⟩
  unfold bdP
  refine zX7 ?_
  refine Yj (λ(z:Nat×Option Addr×Nat)=>[(21,.int .i64 z.1),(20,.int .i64 s.cells.length),(19,.slice s.A s.cells.length s.cap),(4,.pointer (some ⟨gb,0,none⟩))]) (λz=>bdP gb (.pointer (some ⟨gb,0,none⟩)) z.2.1 z.2.2 (JP s.sch z.1) [blk gs (.cells #[.int .i64 s.len,.int .i64 s.off,.slice s.A s.cells.length s.cap] 30 (0,0))]) (λz=>z.1<=s.cells.length) (λz=>s.cells.length-z.1) (0,A1,cap1) (Tj _) ?_ ?_ ?_
  ·exact zc1
  ·have e0:JP s.sch 0=[]++Oy wordS [s.sch.len,s.sch.off]:=by unfold JP;simp
   rw[e0]
   unfold bdP
   exactλw hw=>hw
  rintro⟨i,A2,cap2⟩ hi K hK
  dsimp only at hi⊢
  have htl:=Yei hfr i hi
  by_cases hlt:i<s.cells.length
  ·have hget:s.cells[i]? =some (Yn s.sch i):=Xc (s:=s.sch) hlt
   have hnc:=hnm.2 _ (J0 (s:=s.sch) hlt)
   have hln:=Yaj (w:=wordC) hnc
   have hr':Rd B w0 (bdP gb (.pointer (some ⟨gb,0,none⟩)) A2 cap2 (JP s.sch i) [blk gs (.cells #[.int .i64 s.len,.int .i64 s.off,.slice s.A s.cells.length s.cap] 30 (0,0))]) s.A (s.cells.flatMap celF):=hr.cons.cons.cons
   repeat'(first|((first|apply Ya YpD|apply Yb YpD);exact za;exact rfl;exactλ_ hw=>(Yas _ hw))|(apply QW T (e:=3);(iterate 3 exact rfl))|refine zgd ?_|(refine zge ?_ ?_<;>intro _<;>try exact zo)|(refine zgh ?_;intro _)|fail)
   rename_i gc ga
   have hra:∀X,Rd B w0 (blk ga (.cells (celF (Yn s.sch i)).toArray 254 (0,0))::X) (some ⟨ga,0,none⟩) ((nums (Yn s.sch i)).flatMap numF):=λX=>Rd.blk (cs:=(celF (Yn s.sch i)).toArray) (.head _)
   first|apply Ya YlM|apply Yb YlM
   exact za
   exact rfl
   exactλ_ hw=>(Yfu wordC (nums (Yn s.sch i)) hnc (by show 5<=100;decide) (by decide) ht (hra _) hw)
   apply ZE (bdP gb (.pointer (some ⟨gb,0,none⟩)) A2 cap2 (JP s.sch i) [blk gs (.cells #[.int .i64 s.len,.int .i64 s.off,.slice s.A s.cells.length s.cap] 30 (0,0))])
   ·exactλw hw=>hw.tail.tail
   have h5n:(nums (Yn s.sch i)).length=5:=rfl
   have h4w:wordC.length=4:=rfl
   apply Yf _ en83
   exact za
   exact rfl
   exactλ_ hw=>(Yer gb _ (.inr rfl) A2 cap2 (JP s.sch i) (Oy wordC (nums (Yn s.sch i))) (by omega) (hw))
   rintro _ _ ⟨rfl,A3,cap3,rfl⟩
   rw[<-YbU hlt]
   refine zX9 ?_
   apply hK (i+1,A3,cap3)
   ·show i+1<=s.cells.length
    omega
   ·exact zc64
   ·exact zc1
   exact zc19
  ·refine zX1 ?_<;>intros
   apply Yf _ en87
   exact za
   exact rfl
   exactλ_ hw=>(Yjo (l:=JP s.sch i) (.inr rfl) (hw))
   rintro _ _ ⟨rfl,rfl⟩
   refine zX4 ?_
   apply Yx;(iterate 3 exact rfl)
   rw[ZR,Td (by simp[hf])]
   rw[show i=s.sch.cells.length from(by have:s.sch.cells.length=s.cells.length:=rfl;omega),show JP s.sch s.sch.cells.length=Yq4 s.sch from(by unfold JP Yq4;rw[TQ])]
theorem QO(s:SchM)(ht:TabsB B w0)(hr:Rd B w0 H s.A (s.cells.flatMap celF))(hl:s.cells.length<=1000000000000)(hw:St B w0 H w):
 CX B w0 85 [s.val] w λv K=>v=.tuple #[strV (ZR s.sch).1,.int .i64 (ZR s.sch).2]/\K=H:=
 YhZ hw (YqD s (ht.here hw) (hr.here hw) hl (St.start w))
open Go.RowKit Go.Eng Go.Nw Go.Rt
variable {n:Net}
theorem Yhf(h:Yo n=0)(a b:Int):Ve n (Zd n a b)=YG n a b:=by
 have hok:=YN h
 unfold Ve Zd
 rw[Td (by simp[h]),Ti h,Sj]
 by_cases h1:0<=YA n a b
 ·have h2:=ZG h1
  rw[Ti ⟨h1,by omega⟩,Sj,UI hok h2]
  obtain⟨e1,e2⟩:=U4 h1
  rw[e1,e2]
 ·rw[Tn (λh=>h1 h.1),Nn]
  unfold YG
  rw[Tn h1,Nn]
def Oe(n:Net)(i:Nat):Lk:=((lnk n i).1,(lnk n i).2.1,(lnk n i).2.2+1)
def Zz(n:Net)(k:Nat):List Lk:=(List.range k).flatMap λi=>if ZJ n i=true then [Oe n i]else []
def YY(n:Net):List Lk:=Zz n n.links.length
variable {k:Nat}
theorem QA(h:ZJ n k=true):Zz n (k+1)=Zz n k++[Oe n k]:=by
 simp[Zz,List.range_succ,List.flatMap_append,h]
theorem YaK(h:ZJ n k=false):Zz n (k+1)=Zz n k:=by
 simp[Zz,List.range_succ,List.flatMap_append,h]
theorem Wq(n:Net):∀k,(Zz n k).length<=k
 |0=>by simp[Zz]
 |k+1=>by
  have:=Wq n k
  cases h:ZJ n k
  ·rw[YaK h];omega
  ·rw[QA h,Tq,TV];omega
theorem OG{a:Lk}:a∈Zz n k↔∃i,i<k/\ZJ n i=true/\Oe n i=a:=by
 unfold Zz
 rw[RP]
 constructor
 ·rintro⟨i,hi,h⟩
  cases hu:ZJ n i
  ·rw[hu]at h;simp at h
  ·rw[hu]at h
   rw[Tm rfl,TU]at h
   exact⟨i,Rf.1 hi,hu,h.symm⟩
 ·rintro⟨i,hi,hu,rfl⟩
  exact⟨i,Rf.2 hi,by simp[hu]⟩
theorem Ylx(h:Ok n){nodes:Nat}(hn:n.nodes=nodes):ArcsOk nodes (YY n):=by
 intro a ha
 obtain⟨i,hi,_,rfl⟩:=OG.1 ha
 have hl:=h.lk i hi
 have h1:=hl.f0;have h2:=hl.f1;have h3:=hl.t0;have h4:=hl.t1;have h5:=hl.l0;have h6:=hl.l1
 unfold Oe
 simp only
 omega
def offE(n:Net)(a:Int):Bool:=decide (a<0\/n.nodes<=a)
def Jo(n:Net)(s t:Int):Int:=if Yo n≠0 then 1 else if offE n s=true\/offE n t=true\/s=t then 2 else 0
def Ybd(r:List Int):Bool:=(List.range r.length).any λi=>(r.take i).contains (r.getD i 0)
def Ut(n:Net)(r:List Int):Bool:=(List.range (r.length-1)).any λi=>!YG n (r.getD i 0) (r.getD (i+1) 0)
def Ue(n:Net)(s t:Int)(r:List Int):Int:=
 if r.length<2 then 9 else if 9<r.length then 8 else if r.any (offE n)=true then 2 else if r.getD 0 0≠s\/r.getD (r.length-1) 0≠t then 11
 else if Ybd r=true then 6 else if Ut n r=true then 17 else 0
def Yam(n:Net)(a b:Int):Int:=(lnk n (YA n a b).toNat).2.2
def Ws(n:Net)(r:List Int):Nat->Int
 |0=>0
 |k+1=>Ws n r k+(Yam n (r.getD k 0) (r.getD (k+1) 0)+1)
def Yps(n:Net)(r:List Int):Int:=Ws n r (r.length-1)
def Yhj(n:Net)(r:List Int):Int×Int:=
 if Yo n≠0 then(0,1)else
  let e:=Ue n (r.getD 0 0) (r.getD (r.length-1) 0) r
  if e≠0 then(0,e)else(Yps n r,0)
def Zy(n:Net)(s t:Int)(r:List Int):Int:=if Jo n s t≠0 then Jo n s t else Ue n s t r
theorem Zc{l:List Int}{i:Nat}(h:i<l.length):l[i]? =some (l.getD i 0):=by
 rw[Tu,Ta h];rfl
theorem Yan(h:Ok n)(a b:Int):0<=Yam n a b/\Yam n a b<=7:=by
 unfold Yam
 by_cases hi:(YA n a b).toNat<n.links.length
 ·have:=h.lk _ hi
  exact⟨this.l0,this.l1⟩
 ·rw[show lnk n (YA n a b).toNat=(0,0,0) by simp[lnk,List.getD,List.getElem?_eq_none (Nat.le_of_not_lt hi)]]
  decide
theorem Ye6{n:Net}(h:Ok n)(r:List Int):∀k,0<=Ws n r k/\Ws n r k<=8*k
 |0=>by simp[Ws]
 |k+1=>by
  have h1:=Ye6 h r k
  have h2:=Yan h (r.getD k 0) (r.getD (k+1) 0)
  unfold Ws
  omega
end Go.Proofs.YtambgjgljcadlaaGreatDoor
namespace Go.Eng
open Go.RowKit
inductive OV where
 |done
 |p1 (i:Nat) (t:OV)
 |d1 (i:Nat) (t:OV)
 |d2 (i:Nat) (t:OV) (j:Nat) (u:OV)
section
variable {P:Program}{n:Shp}{B:Nat}{w0:World}{Q:Exit->Act->World->Prop}{env:Env}{H:List HP}{ops:Array Oper}
def wpD(P:Program)(ops:Array Oper)(K:Act->World->Prop)(o:Oper)(a:Act)(w:World):Prop:=
 if Region.wanted o (yielded ops a.tmps)then o.wp P a w K (λ_ _ _=>False)else K (a.put o.dst undef) w
def Zn(P:Program)(ops:Array Oper)(l:List Oper)(Q:Exit->Act->World->Prop)(S:World->Prop):OV->Act->World->Prop
 |.done,a,w=>Q .normal a w
 |.p1 i t,a,w=>Yv P ops (λe a w=>match e with|.normal=>S w/\Zn P ops l Q S t a w|_=>False) S [nthO l i] a w
 |.d1 i t,a,w=>wpD P ops (λa w=>S w/\Zn P ops l Q S t a w) (nthO l i) a w
 |.d2 i t j u,a,w=>wpD P ops (λa w=>S w/\Zn P ops l Q S t a w) (nthO l i) a w/\wpD P ops (λa w=>S w/\Zn P ops l Q S u a w) (nthO l j) a w
def WM(ops:Array Oper)(last:List Nat):OV->Array Bool->Nat->Bool
 |.done,listed,0=>Vx ops last listed
 |.done,_,_+1=>false
 |.p1 i t,listed,k+1=>!last.contains i&&(match ops[i]? with
  |some o=>!eff o&&((Region.ready .any ops listed).contains i&&Region.free .any ops listed i)
  |none=>false)&&WM ops last t (listed.setIfInBounds i true) k
 |.d1 i t,listed,k+1=>!last.contains i&&(ops[i]?).isSome&&decide (Region.ready .any ops listed=[i])&&WM ops last t (listed.setIfInBounds i true) k
 |.d2 i t j u,listed,k+1=>!last.contains i&&!last.contains j&&(ops[i]?).isSome&&(ops[j]?).isSome&&((Region.ready .any ops listed).all λx=>x==i||x==j)&&!(Region.ready .any ops listed).isEmpty&&WM ops last t (listed.setIfInBounds i true) k&&WM ops last u (listed.setIfInBounds j true) k
 |.p1 _ _,_,0=>false
 |.d1 _ _,_,0=>false
 |.d2 _ _ _ _,_,0=>false
variable {i:Nat}{o:Oper}{a:Act}{w:World}
theorem YcV{S:World->Prop}{K:Act->World->Prop}{last:List Nat}{k:Nat}{listed:Array Bool}(ho:ops[i]? =some o)
 (h:wpD P ops K o a w) (hk:∀a w,K a w->S w/\Zh P ops Q S last k (listed.setIfInBounds i true) a w):
 wpOp P ops Q i (λa' w'=>(last.contains i=false->S w')/\Zh P ops Q S last k (listed.setIfInBounds i true) a' w') a w:=by
 unfold wpD at h
 unfold wpOp
 simp only[ho]
 by_cases hw:Region.wanted o (yielded ops a.tmps)=true
 ·rw[Tm hw]at h⊢
  exact .inl (Oper.wp_mono_noQ (λ_ _ _ h=>h) (by rintro⟨_,_,h⟩;exact h) (Oper.wp_mono (λa' w' h'=>⟨λ_=>(hk a' w' h').1,(hk a' w' h').2⟩) h))
 ·rw[Td hw]at h⊢
  exact⟨λ_=>(hk _ w h).1,(hk _ w h).2⟩
theorem Vr{S:World->Prop}{last:List Nat}(hs:Region.noSelect ops=true)(hQ:∀c (a:Act) (w:World),¬Q (.panic c) a w)(hlo:¬LetsOut Q)(l:List Oper)(hl:ops=l.toArray)(hlast:Ydw ops last=true):
 ∀(t:OV) (k:Nat) (listed:Array Bool) (a:Act) (w:World),Closed ops listed->WM ops last t listed k=true->S w->Zn P ops l (Jk P ops Q (Yg l last)) S t a w->
  Zh P ops Q S last (k+last.length) listed a w
 |.done,0,listed,a,w,_,hB,_,h=>by
  have:=Ju (S:=S) l hl (J7 hlast).1 hlo last listed a w (λj hj=>by simpa using hj) hB h
  rw[RH]
  exact this
 |.done,_+1,_,_,_,_,hB,_,_=>by cases hB
 |.p1 _ _,0,_,_,_,_,hB,_,_=>by cases hB
 |.d1 _ _,0,_,_,_,_,hB,_,_=>by cases hB
 |.d2 _ _ _ _,0,_,_,_,_,hB,_,_=>by cases hB
 |.p1 i t,k+1,listed,a,w,hcl,hB,hS,h=>by
  simp only[WM,To]at hB
  obtain⟨⟨h0,h1⟩,h2⟩:=hB
  have hno:last.contains i=false:=by simpa using h0
  cases ho:ops[i]? with
  |none=>rw[ho]at h1;cases h1
  |some o=>
   rw[ho]at h1
   have hget:=Xw hl ho
   unfold Zn at h
   rw[hget]at h
   rw[SQ]
   simp only[To,RO]at h1
   obtain⟨he,h3,h4⟩:=h1
   unfold Yv at h
   rw[Td (by rw[he];simp)]at h
   obtain⟨v,hy,h5⟩:=h
   have hr:i∈Region.ready .any ops listed:=by simpa using h3
   exact JS ho (Region.noSelect_spec hs) hQ ((J7 hlast).2 i o ho he hno) hno _ listed a w hcl (Region.free_spec ho h4) hr hy hS (Vr hs hQ hlo l hl hlast t k _ _ w (hcl.set hr) h2 hS h5.2)
 |.d1 i t,k+1,listed,a,w,hcl,hB,hS,h=>by
  simp only[WM,To,Tt]at hB
  obtain⟨⟨⟨h0,h1⟩,h3⟩,h2⟩:=hB
  obtain⟨o,ho⟩:=Ny.1 h1
  unfold Zn at h
  rw[Xw hl ho]at h
  rw[SQ]
  refine⟨λh0=>(by rw[h3]at h0;cases h0),λj hj=>?_⟩
  have hj':=hj
  rw[h3]at hj
  obtain rfl:j=i:=by simpa using hj
  exact YcV ho h λa w ⟨hS',h'⟩=>⟨hS',Vr hs hQ hlo l hl hlast t k _ a w (hcl.set hj') h2 hS' h'⟩
 |.d2 i t j u,k+1,listed,a,w,hcl,hB,hS,h=>by
  simp only[WM,To]at hB
  obtain⟨⟨⟨⟨⟨⟨⟨b1,b2⟩,b3⟩,b4⟩,b5⟩,b6⟩,b7⟩,b8⟩:=hB
  obtain⟨o,ho⟩:=Ny.1 b3
  obtain⟨o',ho'⟩:=Ny.1 b4
  unfold Zn at h
  rw[Xw hl ho,Xw hl ho']at h
  rw[SQ]
  refine⟨λh0=>(by rw[h0]at b6;cases b6),λx hx=>?_⟩
  have h5:=T8.1 b5 x hx
  simp only[Su,NG]at h5
  rcases h5 with rfl|rfl
  ·exact YcV ho h.1 λa w ⟨hS',h'⟩=>⟨hS',Vr hs hQ hlo l hl hlast t k _ a w (hcl.set hx) b7 hS' h'⟩
  ·exact YcV ho' h.2 λa w ⟨hS',h'⟩=>⟨hS',Vr hs hQ hlo l hl hlast u k _ a w (hcl.set hx) b8 hS' h'⟩
structure VV(P:Program)(n:Shp)(B:Nat)(w0:World)(ops:Array Oper)(l:List Oper)(Q:Exit->Act->World->Prop)(t:OV)(env:Env)(H F:List HP):Prop where
 run:∀a,Fits n a env->∀w,St B w0 (H++F) w->Zn P ops l Q (St B w0 H) t a w
def Wi(P:Program)(B:Nat)(w0:World)(ops:Array Oper)(l:List Oper)(Q:Exit->Act->World->Prop)(Hc:List HP)(t:OV):Exit->Act->World->Prop
 |.normal,a,w=>St B w0 Hc w/\Zn P ops l Q (St B w0 Hc) t a w
 |_,_,_=>False
variable {l:List Oper}{t:OV}
theorem Yox:Wi P B w0 ops l Q H t=λe a w=>match e with|.normal=>St B w0 H w/\Zn P ops l Q (St B w0 H) t a w|_=>False:=by
 funext e a w
 cases e<;>rfl
theorem Ylh(h:wpList P ops (Wi P B w0 ops l Q H t) [o] a w):wpD P ops (λa w=>St B w0 H w/\Zn P ops l Q (St B w0 H) t a w) o a w:=by
 have hno:¬LetsOut (Wi P B w0 ops l Q H t):=by rintro⟨_,_,h⟩;exact h
 unfold wpList at h
 unfold wpD
 by_cases hw:Region.wanted o (yielded ops a.tmps)=true
 ·rw[Tm hw]at h⊢
  rcases h with h|⟨_,h⟩
  ·exact Oper.wp_mono_noQ (λ_ _ _ h=>h) hno (Oper.wp_mono (λa' w' h'=>h') h)
  ·exact(hno h).elim
 ·rw[Td hw]at h⊢
  exact h
variable {F HF Hc:List HP}
theorem YrU(happ:App H F HF)(h:VQ n B w0 Q .normal env HF):VV P n B w0 ops l Q .done env H F:=
 ⟨λa ha w hw=>by rw[<-Wp happ]at hw;exact h.run a w ha hw⟩
theorem Ytb(ho:nthO l i=o)(h:VL P (some (some F)) n B w0 ops (Wi P B w0 ops l Q H t) [o] env H):VV P n B w0 ops l Q (.p1 i t) env H F:=by
 refine⟨λa ha w hw=>?_⟩
 have h1:Yv P ops (Wi P B w0 ops l Q H t) (St B w0 H) [o] a w:=h.run a ha w hw
 unfold Zn
 rw[ho,<-Yox]
 exact h1
theorem Ys9(ho:nthO l i=o)(happ:App H F HF)(h:VL P none n B w0 ops (Wi P B w0 ops l Q H t) [o] env HF):VV P n B w0 ops l Q (.d1 i t) env H F:=by
 refine⟨λa ha w hw=>?_⟩
 unfold Zn
 rw[ho]
 rw[<-Wp happ]at hw
 exact Ylh (h.run a ha w hw)
theorem Yta{j:Nat}{u:OV}{o':Oper}(ho:nthO l i=o)(ho':nthO l j=o')(happ:App H F HF)(h:VL P none n B w0 ops (Wi P B w0 ops l Q H t) [o] env HF)
 (h':VL P none n B w0 ops (Wi P B w0 ops l Q H u) [o'] env HF):VV P n B w0 ops l Q (.d2 i t j u) env H F:=by
 refine⟨λa ha w hw=>?_⟩
 unfold Zn
 rw[ho,ho']
 rw[<-Wp happ]at hw
 exact⟨Ylh (h.run a ha w hw),Ylh (h'.run a ha w hw)⟩
theorem YhG{H':List HP}(hp:Pull Hc H' F)(h:VV P n B w0 ops l Q t env Hc F):VQ n B w0 (Wi P B w0 ops l Q Hc t) .normal env H':=
 ⟨λa w ha hw=>⟨(hw.perm hp).prefix_,h.run a ha w (hw.perm hp)⟩⟩
theorem Yho{id:Nat}(t:OV)(last:List Nat)(mask:List Bool)(hm:P.follows .mixedOrders=true)
 (hB:(Region.noSelect l.toArray&&decide (last.length<=l.toArray.size)&&Ydw l.toArray last&&WM l.toArray last t (Array.replicate l.toArray.size false) (l.toArray.size-last.length))=true)
 (hsp:Split mask H Hc F) {l2:List Oper}(hl2:Yg l last=l2) (h:VV P n B w0 l.toArray l (Jk P l.toArray (Only Q) l2) t env Hc F):VC P n B w0 (.region id l.toArray true) Q env H:=by
 simp only[To,Tt]at hB
 obtain⟨⟨⟨h1,h2⟩,h3⟩,h5⟩:=hB
 refine⟨λa w ha hw=>Jf (Q:=Only Q) ?_ λe a w h=>by cases e<;>first|exact h|cases h⟩
 have hst:St B w0 (Hc++F) w.drew:=(hw.perm (XN hsp)).drew
 have hr:=h.run a ha w.drew hst
 rw[<-hl2]at hr
 have:=Vr (S:=St B w0 Hc) h1 (λc a w h=>h) (by rintro⟨_,_,h⟩;exact h) l rfl h3 t _ _ a w.drew (XU _ _) h5 hst.prefix_ hr
 rw[Nat.sub_add_cancel h2]at this
 exact VR hm (ZT _ _ _ _ this)
end
end Go.Eng
namespace Go.Proofs.YtambgjgljcadlaaGreatDoor
open Go.RowKit Go.Eng Go.Nw
def cpN(n:Net)(node:Int)(d:Cel):Int:=powN n (YC d) node+powN n (toC d) node
def sumC(n:Net)(node:Int)(l:List Cel):Int:=(l.map (cpN n node)).sum
theorem Yjq(n:Net)(node:Int):sumC n node []=0:=rfl
theorem XS(n:Net)(node:Int)(d:Cel)(l:List Cel):sumC n node (d::l)=cpN n node d+sumC n node l:=by unfold sumC;rw[Ru,Nx]
theorem YbT(n:Net)(node:Int):∀l m:List Cel,sumC n node (l++m)=sumC n node l+sumC n node m
 |[],m=>by rw[TP,Yjq];omega
 |d::l,m=>by rw[TF,XS,XS,YbT n node l m];omega
variable {n:Net}
theorem YqY(h:Ok n)(node:Int){l m:List Cel}(hs:l.Sublist m):sumC n node l<=sumC n node m:=by
 induction hs with
 |slnil=>exact Ry _
 |@cons l m d _ ih=>
  rw[XS]
  have h1:=WE h (YC d) node
  have h2:=WE h (toC d) node
  unfold cpN
  omega
 |cons_cons d _ ih=>rw[XS,XS];omega
theorem Yc0{n:Net}{l:List Cel}(hnd:l.Nodup){j:Nat}{c:Cel}(hj:l[j]? =some c)(node:Int):∀k,k<=l.length->Yz n l j node k=sumC n node ((l.take k).filter λd=>decide (d≠c))
 |0,_=>rfl
 |k+1,hk=>by
  obtain⟨d,hd⟩:∃d,l[k]? =some d:=⟨_,Ta hk⟩
  have hc:celL l k=d:=by unfold celL;rw[Tu,hd];rfl
  unfold Yz
  rw[Yc0 hnd hj node k (by omega),TM,hd,SN,YbT,hc]
  congr 1
  by_cases e:k=j
  ·subst e
   rw[hj]at hd
   obtain rfl:=Tv hd
   rw[Tm rfl]
   simp[sumC]
  ·have hne:d≠c:=λh=>by
    subst h
    obtain⟨h1,h2⟩:=Tc.1 hd
    obtain⟨h3,h4⟩:=Tc.1 hj
    have hp:=Re.1 hnd
    rcases NH e with h|h
    ·exact hp k j h1 h3 h (by rw[h2,h4])
    ·exact hp j k h3 h1 h (by rw[h2,h4])
   rw[Td e]
   simp only[RY,SA,Ti hne,NF,List.filter_nil]
   rw[XS,Yjq]
   unfold cpN
   omega
def Uw(n:Net)(l:List Cel)(c:Cel)(node:Int):Int:=sumC n node (l.filter λd=>XM c d&&decide (d≠c))
def Vu(n:Net)(l:List Cel)(c:Cel):Bool:=Z9 n (mar n (YA n (YC c) (toC c)).toNat) (Uw n l c (toC c))&&Z9 n (mar n (YA n (toC c) (YC c)).toNat) (Uw n l c (YC c))
variable {s:Sch}
theorem YcY(hck:Yo n=0)(hf:Fine n s)(ho:Ord s.cells){i:Nat}(hi:i<s.cells.length):Jc n s i=!(Vu n s.cells (Yn s i)):=by
 have hok:=YN hck
 rw[Yh7 hck hf hi]
 have hnd:=Ya5 ho
 have hat:=Yd7 hi
 have hsub:(YL s i).Sublist s.cells:=SG
 have hnds:=hnd.sublist hsub
 have hc:celL (YL s i) (YO s i)=Yn s i:=by unfold celL;rw[Tu,hat];rfl
 have hd:∀node,Yz n (YL s i) (YO s i) node (YL s i).length=Uw n s.cells (Yn s i) node:=λnode=>by
  rw[Yc0 hnds hat node _ (TK _),TQ]
  unfold Uw YL
  rw[Ss]
  congr 1
  refine SJ λx _=>?_
  exact N5 _ _
 have hg:=hf.good _ (J0 hi)
 have hr:=Yh7 hck hf hi
 have hto:((List.range (YL s i).length).any λk=>decide (k≠YO s i)&&YH (celL (YL s i) (YO s i)) (celL (YL s i) k))=false:=by
  have hpw:(YL s i).Pairwise λa b=>YH a b=false:=by
   refine(hf.once.sublist hsub).imp_of_mem λ{a b} ha hb hab=>hab ?_
   have h1:=(Ro.1 ha).2
   have h2:=(Ro.1 hb).2
   unfold XM at h1 h2
   simp only[Tt]at h1 h2
   rw[h1.1,h2.1]
  have hlt:=(Tc.1 hat).1
  rw[RN]
  intro k hk
  have hk:=Rf.1 hk
  by_cases e:k=YO s i
  ·rw[Tn (λh=>h e)];simp
  ·have hpk:=Re.1 hpw
   have e1:celL (YL s i) k=(YL s i)[k]:=by unfold celL;rw[Tu,Ta hk];rfl
   have e2:celL (YL s i) (YO s i)=(YL s i)[YO s i]:=by unfold celL;rw[Tu,Ta hlt];rfl
   rw[Ti e,Sj,e1,e2]
   rcases NH e with h|h
   ·rw[Vd,hpk k _ hk hlt h];simp
   ·rw[hpk _ k hlt hk h];simp
 unfold YgX
 rw[hto,hc,hg,hd,hd]
 unfold Vu
 simp
structure Sem(n:Net)(l:List Flw)(s:Sch):Prop where
 ck:Yo n=0
 fl:(Yy n.nodes l).2=0
 per:∀f∈l,s.len.tmod f.2.2.2.1=0
 frm:Frm s
 good:∀c∈s.cells,YG n (YC c) (toC c)=true/\0<=Jd l (Xr c)
 once:s.cells.Pairwise λa b=>a.1=b.1->YH a b=false
 clear:∀c∈s.cells,Vu n s.cells c=true
variable {l:List Flw}
theorem Ylg(h1:Yo n=0)(h2:(Yy n.nodes l).2=0)(h3:ZD s=true)(h4:∀f∈l,s.len.tmod f.2.2.2.1=0)(h5:s.cells.length<=512):Zg n l s=0:=by
 unfold Zg
 rw[Td (λh=>h h1),Td (λh=>h h2),h3,Td (by decide),Td,Td (by omega)]
 rw[Bool.not_eq_true,RN]
 intro f hf
 rw[Tt]
 exactλh=>h (h4 f hf)
theorem YjY(hf:Frm s)(hg:∀c∈s.cells,YG n (YC c) (toC c)=true/\0<=Jd l (Xr c)):(J2 n l s).2=0:=by
 refine YI.2 λk _ hk=>?_
 have hk:k<s.cells.length:=by omega
 have hm:=J0 hk
 have hfo:=hf.formed _ hm
 unfold Z1 at hfo
 simp only[To]at hfo
 obtain⟨g1,g2⟩:=hg _ hm
 unfold Ua
 rw[hfo.1.1.1,Td (by decide),g1,Td (by rintro(h|h);cases h;omega),Td]
 rintro⟨h1,h2⟩
 have:=Ygh (T8.2 λi hi=>by
  have h:=XV.2 hf
  unfold Xm at h
  simp only[To]at h
  exact T8.1 h.2 i hi) hk
 unfold VA at this
 simp only[To,Su,Tt]at this
 rcases this.2 with h3|h3
 ·omega
 ·rw[h2]at h3;cases h3
theorem Ylf(h:s.cells.Pairwise λa b=>a.1=b.1->YH a b=false):(Ul s).2=0:=by
 refine YI.2 λk _ hk=>?_
 have hk:k<s.cells.length:=by omega
 have hb:Jj s k=false:=by
  unfold Jj
  rw[RN]
  intro i hi
  have hi:=Rf.1 hi
  have e1:Yn s i=s.cells[i]'(by omega):=XG (Ta _)
  have e2:Yn s k=s.cells[k]:=XG (Ta hk)
  have:=Re.1 h i k (by omega) hk hi
  rw[<-e1,<-e2]at this
  by_cases he:(Yn s i).1=(Yn s k).1
  ·rw[Vd,this he];simp
  ·rw[Tn he];simp
 simp only[hb]
 rfl
theorem Vh:Val n l s↔Sem n l s:=by
 constructor
 ·intro h
  obtain⟨h1,h2,h3,h4,h5⟩:=Vt h.whole
  have hf:=h.frm
  have hfine:=Ysc h.cells h.twice
  have k1:=YI.1 h.cells
  have k3:=YI.1 h.dist
  refine⟨h1,h2,h4,hf,λc hc=>⟨hfine.good c hc,?_⟩,hfine.once,λc hc=>?_⟩
  ·obtain⟨i,hi⟩:=TO.1 hc
   have:=k1 i (Tj _) (by have:=(Tc.1 hi).1;omega)
   unfold Ua at this
   rw[XG hi]at this
   split at this
   ·cases this
   split at this
   ·cases this
   rename_i h6
   exact Int.not_lt.1 λhlt=>h6 (.inr hlt)
  ·obtain⟨i,hi⟩:=TO.1 hc
   have hl:=(Tc.1 hi).1
   have:=k3 i (Tj _) (by omega)
   simp only[YcY h1 hfine hf.ord hl]at this
   rw[XG hi]at this
   cases hcl:Vu n s.cells c with
   |true=>rfl
   |false=>rw[hcl]at this;simp at this
 ·intro h
  refine⟨Ylg h.ck h.fl h.frm.sized h.per h.frm.few,YjY h.frm h.good,Ylf h.once,YI.2 λk _ hk=>?_⟩
  have hk:k<s.cells.length:=by omega
  simp only[YcY h.ck ⟨λc hc=>(h.good c hc).1,h.once⟩ h.frm.ord hk,h.clear _ (J0 hk)]
  rfl
theorem Ydn(h:Ok n){s d e:Int}(he:e<=d)(hd:Z9 n s d=true):Z9 n s e=true:=by
 unfold Z9 at hd⊢
 have h1:=TY hd
 have h2:=h.t0
 have h3:n.thr*(n.noise+e)<=n.thr*(n.noise+d):=SK (by omega) (by omega)
 exact Ti (by omega)
theorem Sem.sub{t:Sch}(h:Sem n l s)(h1:t.len=s.len)(h2:t.off=s.off)(hs:t.cells.Sublist s.cells):Sem n l t:=by
 have hok:=YN h.ck
 have hlen:=hs.length_le
 have hfew:=h.frm.few
 refine⟨h.ck,h.fl,by rw[h1];exact h.per,⟨?_,by omega,λc hc=>?_,h.frm.ord.sublist hs⟩,λc hc=>h.good c (hs.subset hc),h.once.sublist hs,λc hc=>?_⟩
 ·have:=h.frm.sized
  unfold ZD at this⊢
  rw[h1,h2];exact this
 ·have:=h.frm.formed c (hs.subset hc)
  unfold Z1 ZI at this⊢
  rw[h1,h2];exact this
 ·have:=h.clear c (hs.subset hc)
  unfold Vu at this⊢
  simp only[To]at this⊢
  have hd:∀node,Uw n t.cells c node<=Uw n s.cells c node:=λnode=>YqY hok node (hs.filter _)
  exact⟨Ydn hok (hd _) this.1,Ydn hok (hd _) this.2⟩
open Go.RowKit Go.Eng Go.Nw Go.Rt
abbrev Jx(A:Option Addr)(cap:Nat)(l:List Lk):HP:=sl 356 3 A l.length cap (l.flatMap lkF)
theorem Ym5(A:Option Addr)(cap:Nat)(l:List Lk)(a:Lk):sl 356 3 A (l.length+1) cap (l.flatMap lkF++#[Value.int .i64 a.1,.int .i64 a.2.1,.int .i64 a.2.2].toList)=Jx A cap (l++[a]):=by simp[Jx,List.flatMap_append,lkF]
theorem Ye0(n:NetM){B:Nat}{w0:World}{H:List HP}{w:World}(hin:n.In B w0 H)(hck:Yo n.net=0)(hw:St B w0 H w):
 CX B w0 269 [n.val] w λv K=>∃A cap,v=.slice A (YY n.net).length cap/\K=Jx A cap (YY n.net)::H:=by
 have hok:=YN hck
 obtain⟨hpw,hrw,hlk,hmg,hs1,hs2,hs3,hs4⟩:=id hin
 have hk0:n.links.length<=128:=hok.k0
 refine Yc Tryz.func269 Tryz.ntmps269 rfl rfl hw ?_
 (apply Xi;apply YU;apply YB;exact rfl;exact rfl;intro g)
 refine zX7 ?_
 refine YoR (λ(k:Nat) (A:Option Addr) (cap:Nat)=>[(9,.int .i64 k),(8,.int .i64 n.links.length),(7,.slice n.lA n.links.length n.lcap),(3,.slice A (Zz n.net k).length cap),(1,.pointer (some ⟨g,0,none⟩))])
  (λk A cap=>Jx A cap (Zz n.net k)::netB g n::H) (λk _ _=>k<=n.links.length) (λk _ _=>n.links.length-k) 0 none 0 (Tj _) ?_ (λw hw=>hw.nilSlice _ _) ?_
 ·exact zc1
 rintro k A cap hk K hK
 have hal:=Wq n.net k
 by_cases hlt:k<n.links.length
 ·have hlx:n.links[k]? =some (lnk n.net k):=Yal n.net hlt
  have hus:Ve n.net (k:Int)=ZJ n.net k:=by
   unfold Ve
   have e7:n.net.links=n.links:=rfl
   rw[Ti hck,e7,Ti (by omega)]
   rfl
  have hl:=hok.lk k hlt
  have h5:=hl.l0
  have h6:=hl.l1
  have hU:=λ{H:List HP}{w:World}(hin:n.In B w0 H) (hw:St B w0 H w)=>Uo n (k:Int) hin hw
  rw[hus]at hU
  cases hu:ZJ n.net k
  ·rw[hu]at hU
   have e2:=YaK hu
   repeat'(first|((first|apply Ya JU|apply Yb JU);exact za;exact rfl;exactλ_ hw=>(hU (((hin.cons).cons).cons) hw))|refine zgd ?_|(refine zge ?_ ?_<;>intro _<;>try exact zo)|(refine zgh ?_;intro _)|fail)
   apply hK (k+1) A cap
   ·omega
   ·omega
   ·rw[e2];exact zc1
   ·rw[e2];exact zc49
  ·rw[hu]at hU
   have e2:=QA hu
   repeat'(first|((first|apply Ya JU|apply Yb JU);exact za;exact rfl;exactλ_ hw=>(hU (((hin.cons).cons).cons) hw))|refine zgd ?_|(refine zge ?_ ?_<;>intro _<;>try exact zo)|(refine zgh ?_;intro _)|(refine zgi ?_;intro _ _)|fail)
   rename_i A3 cap3
   apply hK (k+1) A3 cap3
   ·omega
   ·omega
   ·rw[e2,Tq,TV];exact zc1
   ·rw[e2,show Jx A3 cap3 (Zz n.net k++[Oe n.net k])=sl 356 3 A3 ((Zz n.net k).length+1) cap3 ((Zz n.net k).flatMap lkF++#[Value.int .i64 (lnk n.net k).1,Value.int .i64 (lnk n.net k).2.1,Value.int .i64 ((lnk n.net k).2.2+1)].toList) from(Ym5 A3 cap3 _ (Oe n.net k)).symm]
    exact zc0
 ·obtain rfl:k=n.links.length:=by omega
  clear hK
  refine zX1 ?_<;>intros
  apply Yi (Jx A cap (YY n.net)::H)
  ·exactλw hw=>(hw.perm (.cons _ (.drop _ _)))
  apply Yd;exact rfl;exact rfl
  exact⟨A,cap,rfl,rfl⟩
variable {B:Nat}{w0 w:World}{H:List HP}
theorem VY(n:NetM)(s t:Int)(hin:n.In B w0 H)(hw:St B w0 H w):
 CX B w0 268 [n.val,.int .i64 s,.int .i64 t] w λv K=>v=.int .i64 (Jo n.net s t)/\K=H:=by
 refine Yc Tryz.func268 Tryz.ntmps268 rfl rfl hw ?_
 have e7:n.net.nodes=n.nodes:=rfl
 unfold Jo offE
 rw[e7]
 by_cases h0:Yo n.net=0
 rotate_left
 ·rw[Tm h0]
  refine zX46 ?_<;>intros
  all_goals((repeat apply Yl);exact zc5)
 rw[Td (λh=>h h0)]
 have hck:=λ{H:List HP}{w:World}(hin:n.In B w0 H) (hw:St B w0 H w)=>Y9 n hin hw
 rw[h0]at hck
 simp only[Tt]
 by_cases h1:(s<0\/n.nodes<=s)\/(t<0\/n.nodes<=t)\/s=t
 ·rw[Tm h1]
  repeat'(first|((first|apply Ya en44|apply Yb en44);exact za;exact rfl;exactλ_ hw=>(hck hin.cons hw))|refine zgc ?_|(refine zgf ?_ ?_<;>intro _<;>try exact zo)|(refine zgh ?_;intro _)|fail)
  all_goals((repeat apply Yl);apply Yd;exact rfl;exact rfl;exact⟨rfl,rfl⟩)
 ·rw[Td h1]
  repeat'(first|((first|apply Ya en44|apply Yb en44);exact za;exact rfl;exactλ_ hw=>(hck hin.cons hw))|refine zgc ?_|(refine zgf ?_ ?_<;>intro _<;>try exact zo)|(refine zgh ?_;intro _)|fail)
  all_goals((repeat apply Yl);apply Yd;exact rfl;exact rfl;exact⟨rfl,rfl⟩)
theorem WI(k:Nat){A:Option Addr}{cap:Nat}(hk:k<=9223372036854775807)(hw:St B w0 H w):
 CX B w0 271 [.slice A k cap] w λv K=>v=.int .i64 (if 9<k then 21 else 0)/\K=H:=by
 refine Yc Tryz.func271 Tryz.ntmps271 rfl rfl hw ?_
 by_cases h:9<k
 ·rw[Tm h]
  refine zX47 ?_<;>intros
  exact zc24
 ·rw[Td h]
  refine zX47 ?_<;>intros
  exact zc24
theorem Yie(n:NetM)(a:Int)(g:Nat)(hm:netB g n∈H)(hw:St B w0 H w):
 CX B w0 235 [.int .i64 a,.pointer (some ⟨g,0,none⟩)] w λv K=>v=.bool (offE n.net a)/\K=H:=by
 refine Yc Tryz.func235 Tryz.ntmps235 rfl rfl hw ?_
 have e7:n.net.nodes=n.nodes:=rfl
 unfold offE
 rw[e7]
 by_cases h:a<0\/n.nodes<=a
 ·rw[Ti h]
  repeat'(first|refine zgc ?_|(refine zgf ?_ ?_<;>intro _<;>try exact zo)|fail)
  all_goals(apply Yd;exact rfl;exact rfl;simp_all)
 ·rw[Tn h]
  repeat'(first|refine zgc ?_|(refine zgf ?_ ?_<;>intro _<;>try exact zo)|fail)
  all_goals(apply Yd;exact rfl;exact rfl;exact⟨rfl,rfl⟩)
def OutS(H:List HP)(R:Sch×Int)(v:Value)(K:List HP):Prop:=∃A cap,v=.tuple #[.agg #[.int .i64 R.1.len,.int .i64 R.1.off,.slice A R.1.cells.length cap],.int .i64 R.2]/\K=cels A cap R.1.cells::H
variable {H:List HP}
theorem WB{R:Sch×Int}{v:Value}(e:Int)(hR:R=(JX,e))(hv:v=.tuple #[.agg #[.int .i64 0,.int .i64 0,.slice none 0 0],.int .i64 e]):OutS H R v (cels none 0 []::H):=⟨none,0,by rw[hR];exact hv,by rw[hR];rfl⟩
theorem Vj(l:List Cel)(hlen:l.length<=1000000){A:Option Addr}{cap B:Nat}{w0:World}{w:World}(hr:Rd B w0 H A (l.flatMap celF))(hw:St B w0 H w):
 CX B w0 162 [.slice A l.length cap] w λv K=>∃A' cap',v=.slice A' l.length cap'/\K=cels A' cap' l::H:=by
 cases A with
 |none=>
  have hl:l=[]:=by
   cases l with
   |nil=>rfl
   |cons x l=>
    exact zc31
  subst hl
  refine Yc Tryz.func162 Tryz.ntmps162 rfl rfl hw ?_
  refine zX6 ?_
  apply Xk 117 5;exact zc33
 |some a=>
  refine Yc Tryz.func162 Tryz.ntmps162 rfl rfl hw ?_
  repeat'(first|(apply Zt;(iterate 3 exact rfl))|(apply XH T;exact rfl;exact rfl;intro g2)|refine zga ?_|fail)
  apply Xs T (f:=celF) (l2:=l) (e:=117) (size:=5) (xs:=[]);(iterate 3 exact rfl);exact hr.cons;exact(λ_=>rfl);exact(λ_=>rfl);exact rfl;(intro _ _;exact zd);omega;intro A' cap'
  exact zc52
def YoJ(n:Net)(l:List Flw)(s:Sch):Prop:=∀c∈s.cells,YG n (YC c) (toC c)=true/\0<=Jd l (Xr c)
def YoK(s:Sch):Prop:=s.cells.Pairwise λa b=>a.1=b.1->YH a b=false
def YjH(n:Net)(s:Sch):Prop:=∀c∈s.cells,Vu n s.cells c=true
theorem YqI(s:Sch)(k:Nat):repC s (k+1)=repC s k++s.cells.map (movC ((k:Int)*s.len)):=by
 grind [repC,RV]
variable {s t:Sch}{k i j:Nat}
theorem Ycj{x:Cel}:x∈repC s k↔∃i,i<k/\∃c∈s.cells,x=movC ((i:Int)*s.len) c:=by
 unfold repC
 grind
theorem YiQ{L:Int}(hL:0<=L)(h:i<j):(i:Int)*L+L<=(j:Int)*L:=by
 have h1:((i:Int)+1)*L<=(j:Int)*L:=S7 (by omega) hL
 grind
variable {c:Cel}
theorem Ymu(hf:Frm s)(hc:c∈s.cells):0<=c.1/\c.1<s.len:=by
 have:=hf.formed c hc
 simp_all [Z1,ZI,insE]
theorem YfQ(hf:Frm s){d:Cel}(hc:c∈s.cells)(hd:d∈s.cells)(h:c.1+(i:Int)*s.len=d.1+(j:Int)*s.len):i=j/\c.1=d.1:=by
 have h1:=Ymu hf hc
 have h2:=Ymu hf hd
 rcases SI i j with h3|h3|h3
 ·have:=YiQ (L:=s.len) (by omega) h3;omega
 ·simp_all
 ·have:=YiQ (L:=s.len) (by omega) h3;omega
structure Rep(s t:Sch)(k:Nat):Prop where
 k1:1<=k
 frm:Frm s
 len:t.len=s.len*k
 off:t.off=s.off
 cells:t.cells=repC s k
 l512:s.len*k<=512
 c512:s.cells.length*k<=512
theorem YdS{s:Sch}{p q:Cel->Bool}{j0:Nat}(hq:∀d∈s.cells,p (movC ((j0:Int)*s.len) d)=q d):∀{m:Nat},(∀j,j<m->j≠j0->∀d∈s.cells,p (movC ((j:Int)*s.len) d)=false)->(repC s m).filter p=if j0<m then(s.cells.filter q).map (movC ((j0:Int)*s.len))else []
 |0,_=>by simp[repC]
 |m+1,h=>by
  rw[YqI,SN,YdS hq λj hj=>h j (by omega),List.filter_map]
  by_cases e:m=j0
  ·simp_all [List.filter_congr]
  ·have hz:s.cells.filter (p∘movC ((m:Int)*s.len))=[]:=by
    simp_all
   grind
theorem YsZ(n:Net)(node d:Int)(l:List Cel):sumC n node (l.map (movC d))=sumC n node l:=by
 unfold sumC
 rw[NI]
 rfl
theorem Rep.dist(h:Rep s t k)(n:Net)(hi:i<k)(hc:c∈s.cells)(node:Int):Uw n t.cells (movC ((i:Int)*s.len) c) node=Uw n s.cells c node:=by
 unfold Uw
 rw[h.cells,YdS (j0:=i) (q:=λd=>XM c d&&decide (d≠c)),Tm hi,YsZ]
 ·intro d hd
  have h2:(movC ((i:Int)*s.len) d≠movC ((i:Int)*s.len) c)↔d≠c:=by
   grind [movC]
  simp_all [XM,movC]
 ·intro j hj hne d hd
  have:XM (movC ((i:Int)*s.len) c) (movC ((j:Int)*s.len) d)=false:=by
   refine Tn ?_
   rintro⟨h3,_⟩
   exact hne (YfQ h.frm hd hc h3).1
  simp_all
theorem Rep.good(h:Rep s t k)(n:Net)(l:List Flw):YoJ n l t↔YoJ n l s:=by
 unfold YoJ
 rw[h.cells]
 constructor
 ·intro hg c hc
  exact hg (movC (((0:Nat):Int)*s.len) c) (Ycj.2 ⟨0,h.k1,c,hc,rfl⟩)
 ·intro hg x hx
  obtain⟨i,_,c,hc,rfl⟩:=Ycj.1 hx
  exact hg c hc
theorem Rep.once(h:Rep s t k):YoK t↔YoK s:=by
 unfold YoK
 rw[h.cells]
 unfold repC
 rw[List.pairwise_flatMap]
 constructor
 ·rintro⟨h1,_⟩
  have:=h1 0 (Rf.2 h.k1)
  rw[Nb]at this
  exact this.imp λ{a b} hab e=>hab (by grind [movC])
 ·intro ho
  refine⟨λi _=>?_,?_⟩
  ·rw[Nb]
   exact ho.imp λ{a b} hab e=>hab (by grind [movC])
  ·refine List.pairwise_lt_range.imp λ{i j} hij x hx y hy e=>?_
   obtain⟨a,ha,rfl⟩:=TD.1 hx
   obtain⟨b,hb,rfl⟩:=TD.1 hy
   have:=(YfQ h.frm ha hb e).1
   omega
theorem Rep.clear(h:Rep s t k)(n:Net):YjH n t↔YjH n s:=by
 have hc:∀i,i<k->∀c∈s.cells,Vu n t.cells (movC ((i:Int)*s.len) c)=Vu n s.cells c:=λi hi c hc=>by
  unfold Vu
  have e1:YC (movC ((i:Int)*s.len) c)=YC c:=rfl
  have e2:toC (movC ((i:Int)*s.len) c)=toC c:=rfl
  rw[e1,e2,h.dist n hi hc,h.dist n hi hc]
 unfold YjH
 constructor
 ·intro hg c hcm
  rw[<-hc 0 h.k1 c hcm]
  exact hg _ (by rw[h.cells];exact Ycj.2 ⟨0,h.k1,c,hcm,rfl⟩)
 ·intro hg x hx
  rw[h.cells]at hx
  grind [Ycj]
variable {A:Option Addr}{cap B:Nat}{w0 w:World}{H:List HP}
theorem Yiz(l:List Int)(v:Int)(hlen:l.length<=9223372036854775807)(hr:Rd B w0 H A (l.flatMap numF))(hw:St B w0 H w):
 CX B w0 20 [.slice A l.length cap,.int .i64 v] w λu K=>u=.int .i64 (Ym (λx=>decide (v=x)) l 0)/\K=H:=by
 refine Yc Tryz.func20 Tryz.ntmps20 rfl rfl hw ?_
 refine zX7 ?_
 refine Yj (λ(k:Nat)=>[(8,.int .i64 k),(7,.int .i64 l.length),(0,.slice A l.length cap),(1,.int .i64 v)]) (λ_=>H) (λk=>k<=l.length/\Ym (λx=>decide (v=x)) l 0=Ym (λx=>decide (v=x)) (l.drop k) k) (λk=>l.length-k) 0 ⟨Tj _,by simp⟩ ?_ (λw hw=>hw) ?_
 ·exact zc1
 rintro k ⟨hk,hi⟩ K hK
 by_cases hlt:k<l.length
 ·obtain⟨a,ha⟩:∃a,l[k]? =some a:=⟨_,Ta hlt⟩
  rw[Vn _ l ha]at hi
  repeat'(first|refine zgd ?_|(refine zge ?_ ?_<;>intro _<;>try exact zo)|fail)
  ·rename_i h
   rw[Tm (Ti h)]at hi
   exact zc98
  ·rename_i h
   rw[Td (by simp[h])]at hi
   repeat'(first|fail)
   apply hK (k+1)
   ·grind
   ·omega
   ·exact zc1
   exact zc19
 ·refine zX1 ?_<;>intros
  exact zc74
theorem Jy(l:List Int)(v:Int)(hlen:l.length<=9223372036854775807)(hr:Rd B w0 H A (l.flatMap numF))(hw:St B w0 H w):
 CX B w0 236 [.slice A l.length cap,.int .i64 v] w λu K=>u=.bool (decide (v∈l))/\K=H:=by
 refine Yc Tryz.func236 Tryz.ntmps236 rfl rfl hw ?_
 have hia:=VO (λx=>decide (v=x)) l 0 (by omega)
 have hmm:l.any (λx=>decide (v=x))=true↔v∈l:=by simp[List.any_eq_true]
 repeat'(first|((first|apply Ya en20|apply Yb en20);exact za;exact rfl;exactλ_ hw=>(Yiz l v hlen hr hw))|refine zga ?_|(refine zgf ?_ ?_<;>intro _<;>try exact zo)|fail)
 all_goals(apply Yd;exact rfl;exact rfl)
 ·rename_i h;exact⟨by rw[Ti (hmm.1 (hia.1 h))],rfl⟩
 ·rename_i h
  exact⟨by rw[Tn λe=>by have:=hia.2 (hmm.2 e);omega],rfl⟩
theorem Ybr(l m:List Int)(hlen:l.length<=9223372036854775807)(_hlen2:m.length<=9223372036854775807){A2:Option Addr}{cap2:Nat}(hr:Rd B w0 H A (l.flatMap numF))(hr2:Rd B w0 H A2 (m.flatMap numF))(hw:St B w0 H w):
 CX B w0 174 [.slice A l.length cap,.slice A2 m.length cap2] w λu K=>u=.bool (decide (l=m))/\K=H:=by
 refine Yc Tryz.func174 Tryz.ntmps174 rfl rfl hw ?_
 by_cases hll:l.length=m.length
 rotate_left
 ·exact zc11
 refine zX3 ?_<;>intros
 refine Yj (λ(k:Nat)=>[(13,.int .i64 k),(12,.int .i64 l.length),(0,.slice A l.length cap),(1,.slice A2 m.length cap2)]) (λ_=>H) (λk=>k<=l.length/\l.take k=m.take k) (λk=>l.length-k) 0 ⟨Tj _,by simp⟩ ?_ (λw hw=>hw) ?_
 ·exact zc1
 rintro k ⟨hk,hi⟩ K hK
 by_cases hlt:k<l.length
 ·obtain⟨a,ha⟩:∃a,l[k]? =some a:=⟨_,Ta hlt⟩
  obtain⟨b,hb⟩:∃b,m[k]? =some b:=⟨_,Ta (by omega)⟩
  repeat'(first|refine zgd ?_|(refine zge ?_ ?_<;>intro _<;>try exact zo)|fail)
  ·exact zc48
  ·rename_i h
   apply hK (k+1)
   ·exact Yrq
   ·omega
   ·exact zc1
   exact zc19
 exact zc8
theorem Ydp{α:Type}(p:α->Bool):∀(l:List α) (k:Int),(l.filter (λa=>!p a)=l/\Ym p l k= -1)\/∃j,j<l.length/\Ym p l k=k+j/\(l.take j).filter (λa=>!p a)=l.take j/\∃a,l[j]? =some a/\p a=true
 |[],_=>.inl ⟨rfl,rfl⟩
 |a::l,k=>by
  unfold Ym
  cases h:p a with
  |true=>exact .inr ⟨0,by simp,by simp,rfl,a,rfl,h⟩
  |false=>
   rw[Td (by decide)]
   have hn:(!p a)=true:=by simp_all
   rcases Ydp p l (k+1)with⟨h1,h2⟩|⟨j,h1,h2,h3,b,h4,h5⟩
   ·simp_all
   exact YuD
variable {A:Option Addr}{cap B:Nat}{w0 w:World}{H:List HP}
theorem Yds(p:Cel->Bool)(l:List Cel)(f:Nat)(cs:List Value)(hen:∀xs w,(callFunc f xs).run Tryz.prog w=.ok (.enter f xs) w)(hlen:l.length<=1000)(hr:Rd B w0 H A (l.flatMap celF))
 (hp:∀a∈l,∀w,St B w0 H w->Calls Tryz.prog f ([celV a]++cs).toArray w (Post B w0 λv K=>v=.bool (p a)/\K=H)) (hw:St B w0 H w):
 CX B w0 233 [.slice A l.length cap,.func (.func f) #[] cs.toArray] w λv K=>v=.int .i64 (Ym p l 0)/\K=H:=by
 refine Yc Tryz.func233 Tryz.ntmps233 rfl rfl hw ?_
 refine zX7 ?_
 refine Yj (λ(k:Nat)=>[(8,.int .i64 k),(7,.int .i64 l.length),(0,.slice A l.length cap),(1,.func (.func f) #[] cs.toArray)]) (λ_=>H) (λk=>k<=l.length/\Ym p l 0=Ym p (l.drop k) k) (λk=>l.length-k) 0 ⟨Tj _,by simp⟩ ?_ (λw hw=>hw) ?_
 ·exact zc1
 rintro k ⟨hk,hi⟩ K hK
 by_cases hlt:k<l.length
 ·obtain⟨a,ha⟩:∃a,l[k]? =some a:=⟨_,Ta hlt⟩
  have hpa:=hp a (Tf ha)
  rw[Vn p l ha]at hi
  refine zX8 ?_<;>intros
  cases hpv:p a
  ·rw[hpv]at hi
   refine zX9 ?_
   apply hK (k+1)
   ·grind
   ·omega
   ·exact zc1
   exact zc19
  exact zc9
 exact zc7
structure Kc where
 i:Nat
 j:Nat
 M:List Cel
theorem Om(p:Cel->Bool)(l:List Cel)(f:Nat)(cs:List Value)(hen:∀xs w,(callFunc f xs).run Tryz.prog w=.ok (.enter f xs) w)(hlen:l.length<=1000)
 (hp:∀a∈l,∀(X:List HP) w,St B w0 (X++H) w->Calls Tryz.prog f ([celV a]++cs).toArray w (Post B w0 λv K=>v=.bool (p a)/\K=X++H)) (hw:St B w0 (cels A cap l::H) w):
 CX B w0 161 [.slice A l.length cap,.func (.func f) #[] cs.toArray] w λv K=>v=.slice A (l.filter λa=>!p a).length cap/\K=cels A cap (l.filter λa=>!p a)::H:=by
 refine Yc Tryz.func161 Tryz.ntmps161 rfl rfl hw ?_
 refine Wj (e:=117) (size:=5) (A:=A) (xs:=l.flatMap celF) (k:=l.length) (cap:=cap) TB λhcap=>?_
 have hif:=λ{w:World}(hw:St B w0 (cels A cap l::H) w)=>Yds p l f cs hen hlen (cap:=cap) (.sl TB) (λa ha w hw=>hp a ha [cels A cap l] w hw) hw
 rcases Ydp p l 0 with⟨h1,h2⟩|⟨i0,h1,h2,h3,a0,h4,h5⟩
 ·rw[h2]at hif
  rw[h1]
  repeat'(first|((first|apply Ya Yfd|apply Yb Yfd);exact za;exact rfl;exactλ_ hw=>(hif hw))|refine zgb ?_|(refine zge ?_ ?_<;>intro _<;>try exact zo)|fail)
  exact zc5
 rw[h2,Int.zero_add]at hif
 repeat'(first|((first|apply Ya Yfd|apply Yb Yfd);exact za;exact rfl;exactλ_ hw=>(hif hw))|refine zgc ?_|(refine zge ?_ ?_<;>intro _<;>try exact zo)|fail)
 refine Yj (λ(z:Kc)=>[(6,.int .i64 z.j),(5,.int .i64 z.i),(0,.slice A z.M.length cap),(1,.func (.func f) #[] cs.toArray)]) (λz=>cels A cap z.M::H) (λz=>z.M.length=l.length/\z.i<z.j/\z.j<=l.length/\z.M.take z.i=(l.take z.j).filter (λa=>!p a)/\z.M.drop z.j=l.drop z.j) (λz=>l.length-z.j) ⟨i0,i0+1,l⟩ ⟨rfl,by exact zc29,by exact zc29,?_,rfl⟩ ?_ (λw hw=>hw) ?_
 ·exact YuG
 ·exact zc1
 rintro⟨i,j,M⟩ ⟨hM,hij,hj,ht,hd⟩ K hK
 simp only at hM hij hj ht hd⊢
 unfold cels
 by_cases hlt:j<l.length
 ·obtain⟨a,ha⟩:∃a,l[j]? =some a:=⟨_,Ta hlt⟩
  have hMa:M[j]? =some a:=zc84
  have hpa:=λ{X1 X2:HP}{w:World}(hw:St B w0 (X1::X2::H) w)=>hp a (Tf ha) [X1,X2] w hw
  have hft:(l.take (j+1)).filter (λa=>!p a)=M.take i++(if p a=true then []else [a]):=Yuz
  obtain⟨b,hb⟩:∃b,p a=b:=⟨_,rfl⟩
  rw[hb]at hft hpa
  have hd1:∀x:Cel,(M.set i x).drop (j+1)=l.drop (j+1):=λx=>by
   exact YuB
  cases b with
  |true=>
   rw[Tm rfl,Rx]at hft
   refine zX34 ?_<;>intros
   apply hK ⟨i,j+1,M⟩
   ·exact⟨hM,by exact zc29,by exact zc29,hft.symm,by exact YuP⟩
   ·exact zc29
   ·exact zc1
   ·exact zc49
  |false=>
   rw[Td (by decide)]at hft
   have hMl:(M.set i a).length=M.length:=Rj
   repeat'(first|((first|apply YV (cs:=cs));exact rfl;exact hen;exact za;exact rfl;exactλ_ hw=>hpa hw)|(apply Jb T (f:=celF) (l:=M) (i:=i) (a:=a);(iterate 3 exact rfl);exact zd;exactλ_=>rfl;(iterate 3 exact rfl);omega)|refine zgd ?_|(refine zge ?_ ?_<;>intro _<;>try exact zo)|(refine zgh ?_;intro _)|fail)
   apply hK ⟨i+1,j+1,M.set i a⟩
   ·refine⟨by exact zc29,by exact zc29,by exact zc29,?_,hd1 a⟩
    exact zc96
   ·exact zc29
   ·dsimp only
    rw[hMl]
    exact zc1
   ·unfold cels
    dsimp only
    rw[hMl]
    exact zc49
 ·obtain rfl:j=l.length:=by omega
  clear hK
  rw[TQ]at ht
  have hil:(l.filter λa=>!p a).length=i:=by rw[<-ht,TA];omega
  have hfl:(M.flatMap celF).take (i*5)=(l.filter λa=>!p a).flatMap celF:=by rw[<-XQ (q:=5) (λ_=>rfl),ht]
  refine zX36 ?_<;>intros
  rw[RS]
  apply ZE (sl 117 5 A i cap ((l.filter λa=>!p a).flatMap celF)::H)
  ·intro w hw
   refine hw.shrink (e:=117) (size:=5) (cap:=cap) (A:=A) (xs:=M.flatMap celF) (k:=M.length) (k':=i) (by omega) ?_
   rw[hfl]
   exact Upd.here _
  apply Yct T T2 (e:=117) (size:=5) (k:=i) (xs:=(l.filter λa=>!p a).flatMap celF);exact rfl;exact TB;(iterate 3 exact rfl);omega
  refine zX37 ?_
  rw[XY]
  repeat'(first|fail)
  apply Yd;exact rfl;exact rfl
  exact⟨by rw[hil],by rw[hil]⟩
end Go.Proofs.YtambgjgljcadlaaGreatDoor
