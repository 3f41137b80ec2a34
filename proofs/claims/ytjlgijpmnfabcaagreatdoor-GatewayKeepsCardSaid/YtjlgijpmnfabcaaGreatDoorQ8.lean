/- Lemmas. -/
import Derived.Lib.AppendStr
import Derived.Laws.Externs
import Derived.Laws.CopyRow
import Derived.Lib.AppendZerosOnto
import Derived.Lib.Overlaps
import Derived.Sort.OwnSortedInts
import Derived.Lib.AppendIntMem
import Derived.WideLaws
import Derived.Lib.SmallJoins
import Derived.Lib.Builder
import Derived.Test.YtjlgijpmnfabcaaGreatDoorQ6
set_option maxRecDepth 100000
set_option maxHeartbeats 8000000
set_option linter.all false
namespace Go.Eng
open Go.RowKit
theorem Yd0{P:Program}(w:World)(t u ty e:TypeId)(i:TypeInfo)(ht:P.underlying t=some (.slice e))(hu:P.underlying u=some .string)(hi:P.info? e=some i)(hz:i.zero=some (.int .u8 0))
 (hsize:i.size=1) (hby:i.bytes=1) (v:Value) (n:Nat) (xs:List Value) (hown:w.ownsRow 0 e 1 v n xs) (s:ByteArray) (hb:n+s.size<=1000000000):
 ∃v' w',(Builtin.append_ #[t,u] ty #[v,.string s]).run P w=.ok v' w'/\w'.ownsRow 0 e 1 v' (n+s.size) (xs++Lib.strCells s)/\w.grownBy w' v.ownBlock/\∀b,v'.ownBlock=some b->v.ownBlock=some b\/w.heap.size<=b:=by
 have hm:n+s.size<=maxLen:=by grind [maxLen]
 obtain⟨v',w',h1,h2,h3,_⟩:=Lib.run_append_own_string (P:=P) w 0 t u ty e i ht hu hi hz hsize hby v n xs hown s hm (by omega) (Ti _)
 refine⟨v',w',h1,h2,h3,λb hbb=>?_⟩
 rcases hown.2 with⟨rfl,rfl⟩|⟨g,cap,cur,rfl,hbg,hg,hnc,hcm,hcs,htake⟩
 ·right
  obtain⟨v2,w2,k1,k2,_⟩:=Lib.run_append_own_string (P:=P) w w.heap.size t u ty e i ht hu hi hz hsize hby (.slice none 0 0) 0 xs ⟨hown.1,.inl ⟨rfl,rfl⟩⟩ s hm (by omega) (TM _)
  rw[h1]at k1
  obtain⟨rfl,rfl⟩:v'=v2/\w'=w2:=by simp_all
  rcases k2.2 with⟨e1,_⟩|⟨g',_,_,e1,e2,_⟩
  all_goals grind [Go.Value.ownBlock]
 ·have hcs':cur.size=cap:=by omega
  have hxl:xs.length=n:=by grind
  by_cases hroom:n+s.size<=cap
  ·have k1:=Lib.run_append_room_string (P:=P) w t u ty e i ht hu hi hsize g n cap cur hg s hroom (by omega)
   rw[h1]at k1
   obtain⟨rfl,_⟩:=(Result.ok.injEq _ _ _ _).mp k1
   exact .inl hbb
  ·have holds:∀j u,xs[j]? =some u->w.cell? ((⟨g,0,none⟩:Addr).add j)=some u:=hown.cells (g:=g) rfl
   have k1:=Lib.run_append_grow_string (P:=P) w t u ty e i (.int .u8 0) ht hu hi hz ⟨g,0,none⟩ n cap xs (by simp_all) holds s (by omega) (by omega) (by rw[hby];exact growslice_fits (by omega) (by omega))
   exact Ymc
section
variable {P:Program}{m:Mode}{n:Shp}{B d:Nat}{w0:World}{ops:Array Oper}{Q:Exit->Act->World->Prop}{rest:List Oper}{env:Env}{H:List HP}{ty:TypeId}{pos:String}{after:Array Edge}{x y:Operand}
def Yca(P:Program)(e:TypeId):Bool:=match P.info? e with|some i=>(match i.zero with|some (.int .u8 0)=>true|_=>false)&&i.size==1&&i.bytes==1|none=>false
theorem Yd2{e:TypeId}(h:Yca P e=true):∃i,P.info? e=some i/\i.zero=some (.int .u8 0)/\i.size=1/\i.bytes=1:=by
 unfold Yca at h
 grind
theorem YfI(T:Tab P){t tt k cap e bytes:Nat}{A:Option Addr}{s:ByteArray}{xs:List Value}{K:Option Addr->Nat->List HP}(hx:evo env x=some (.slice A k cap))(hy:evo env y=some (.string s))(ht:look T.sl t=some (e,1,bytes))(hbi:Yca P e=true)(htt:look T.st tt=some ())
 (hn:Nat.ble (d+1) n.k=true) (hu:∀A' cap',Upd (sl e 1 A k cap xs) (sl e 1 A' (k+s.size) cap' (xs++Lib.strCells s)) H (K A' cap')) (hb:k+s.size<=1000000000)
 (h:∀A' cap',VL P none n B w0 ops Q rest ((d,.slice A' (k+s.size) cap')::env) (K A' cap')):
 VL P none n B w0 ops Q (⟨some d,.call ⟨.builtin .append,#[x,y],#[t,tt]⟩,ty,pos,after,none⟩::rest) env H:=by
 obtain⟨hut,_⟩:=YJ (T.slic ht)
 obtain⟨i,hi,hz,hs1,hb1⟩:=Yd2 hbi
 have hst:P.underlying tt=some .string:=T.strs htt
 refine Xi (λv K'=>∃A' cap',v=.slice A' (k+s.size) cap'/\K'=K A' cap') rfl rfl hn (λa w ha hw=>?_) YqQ
 have hmem:sl e 1 A k cap xs∈H:=YqW
 have hown:=hw.sl hmem
 obtain⟨v',w',hrun,hown',hgrow,hat⟩:=Yd0 (P:=P) w t tt ty e i hut hst hi hz hs1 hb1 (.slice A k cap) k xs hown s hb
 have hshape:∃A' cap',v'=.slice A' (k+s.size) cap':=Yuf
 obtain⟨A',cap',rfl⟩:=hshape
 refine⟨_,K A' cap',w',by exact YqN,?_,A',cap',rfl,rfl⟩
 refine hw.updN (hu A' cap') hgrow.os hgrow.tape hgrow.output hgrow.size λS1 ⟨_,hS⟩=>⟨⟨λb=>Value.ownBlock (.slice A' (k+s.size) cap')=some b,⟨hown',?_⟩,λb hb=>?_⟩,λb hb hlt=>hgrow.block b hlt (λe=>hb ?_)⟩
 ·rintro a rfl;rfl
 ·rcases hat b hb with e|e
  ·cases A with
   |none=>cases e
   |some a=>exact Ymc
  ·right
   refine⟨e,?_⟩
   rcases hown'.2 with⟨e1,_⟩|⟨g',_,_,e1,_,e3,_⟩
   all_goals grind [Go.Value.ownBlock]
 ·cases A with
  |none=>cases e
  |some a=>exact Ymc
end
end Go.Eng
namespace Go.Proofs.YtjlgijpmnfabcaaGreatDoor
open Go.RowKit Go.Eng Go.Nw
def inI(s:Sch)(slot:Int)(k:Nat):List Nat:=(List.range k).filter λi=>decide ((Ym s i).1=slot)
def inXs(s:Sch)(slot:Int):List (List Value):=(inI s slot s.cells.length).map λ(i:Nat)=>[Value.int .i64 (i:Int)]
variable {s:Sch}{slot:Int}{k B:Nat}
theorem YlQ(h:(Ym s k).1=slot):inI s slot (k+1)=inI s slot k++[k]:=by
 grind [inI,RL]
theorem Ypt(h:(Ym s k).1≠slot):inI s slot (k+1)=inI s slot k:=by
 grind [inI,RL]
theorem YrD{n:Nat}(h:(Ym s k).1=slot)(hk:k<n):(inI s slot n)[(inI s slot k).length]? =some k:=by
 obtain⟨m,rfl⟩:∃m,n=k+(m+1):=⟨n-k-1,by omega⟩
 have e:inI s slot (k+(m+1))=inI s slot k++((List.range (m+1)).map (k+·)).filter λi=>decide ((Ym s i).1=slot):=by
  grind [inI,List.range_add]
 simp_all [List.range_succ_eq_map]
theorem Og{i:Nat}:i∈inI s slot k↔i<k/\(Ym s i).1=slot:=by
 grind [inI]
def schB(g:Nat)(s:SchM):HP:=blk g (.cells #[.int .i64 s.len,.int .i64 s.off,.slice s.A s.cells.length s.cap] 30 (0,0))
def intB(g:Nat)(x:Int):HP:=blk g (.cells #[.int .i64 x] 3 (0,0))
variable {w0:World}
theorem YcX(s:SchM)(slot:Int)(gs gt:Nat){HI:List HP}(hr:Rd B w0 HI s.A (s.cells.flatMap celF))(hl:s.cells.length<=1000000000000)
 (hms:blk gs (.cells #[.int .i64 s.len,.int .i64 s.off,.slice s.A s.cells.length s.cap] 30 (0,0))∈HI) (hmt:blk gt (.cells #[.int .i64 slot] 3 (0,0))∈HI):
 YbN Tryz.prog 320 [.pointer (some ⟨gs,0,none⟩),.pointer (some ⟨gt,0,none⟩)] (inXs s.sch slot) B w0 HI:=by
 refine YbO Tryz.func320 Tryz.ntmps320 rfl rfl ?_
 intro l SS X hy L0 h0
 refine zX7 ?_
 refine Yi (λ(x:Nat×List HP)=>[(9,.int .i64 x.1),(8,.int .i64 s.cells.length),(7,.slice s.A s.cells.length s.cap),(0,.func (.yield l) #[] #[]),(1,.pointer (some ⟨gs,0,none⟩)),(2,.pointer (some ⟨gt,0,none⟩))]) (λx=>many x.2::HI) (λx=>x.1<=s.cells.length/\SS (inI s.sch slot x.1).length x.2) (λx=>s.cells.length-x.1) (0,L0) ⟨Ti _,h0⟩ ?_ (λw hw=>hw) ?_
 ·exact zc1
 rintro⟨i,L⟩ ⟨hi,hS⟩ K hK
 dsimp only at hi hS⊢
 have hr:=hr.cons (X:=many L)
 by_cases hlt:i<s.cells.length
 ·have hget:s.cells[i]? =some (Ym s.sch i):=Y0 (s:=s.sch) hlt
  have hlt2:i<s.sch.cells.length:=hlt
  iterate 22 (first|refine zgd ?_|(refine zge ?_ ?_<;>intro _<;>try exact zo)|(refine zgh ?_;intro _)|fail)
  refine YbQ 7 rfl rfl Yjf ?_
  repeat'(first|refine zgc ?_|(refine zgf ?_ ?_<;>intro _<;>try exact zo)|fail)
  ·rename_i g5 hs
   have hx:(inXs s.sch slot)[(inI s.sch slot i).length]? =some [.int .i64 (i:Int)]:=by
    rw[inXs,TS,YrD hs hlt2];rfl
   have hY:=hy _ _ hx [blk g5 (.cells (celF (Ym s.sch i)).toArray 48 (0,0))] L hS
   apply Yb1 _ _ (hy:=hY)
   ·exact Ybl (j:=4) (s:=18) rfl rfl rfl
   ·exact rfl
   ·exact YqP
   ·exact rfl
   ·exact Yjf
   ·rintro _ ⟨L',hS',rfl⟩
    refine zX2 ?_
    apply hK (i+1,L')
    ·exact⟨by omega,by rw[YlQ hs,Tt];exact hS'⟩
    ·exact zc54
    ·exact zc1
    ·exact zc59
   ·rintro _ ⟨L',hX',rfl⟩
    refine zX2 ?_
    apply Yh (many L'::HI)
    ·exact zc59
    apply ZR;exact rfl
    exact .inr ⟨L',hX',rfl⟩
  ·rename_i hs
   apply Yhm Yjf
   refine zX9 ?_
   apply hK (i+1,L)
   ·exact⟨by omega,by rw[Ypt hs];exact hS⟩
   ·exact zc54
   ·exact zc1
   ·exact zc59
 ·refine zX1 ?_<;>intros
  apply Zk;exact rfl
  rw[show i=s.cells.length by omega]at hS
  exact .inl ⟨L,by rw[inXs,Tv];exact hS,rfl⟩
theorem YcY(s:SchM)(slot:Int){H:List HP}{w:World}(hw:St B w0 H w):
 CX B w0 238 [s.val,.int .i64 slot] w λv K=>∃gs gt,v=.func (.func 320) #[] #[.pointer (some ⟨gs,0,none⟩),.pointer (some ⟨gt,0,none⟩)]/\K=intB gt slot::schB gs s::H:=by
 refine Ya Tryz.func238 Tryz.ntmps238 rfl rfl hw ?_
 refine zX26 ?_<;>intros
 apply Yd;exact rfl;exact rfl
 exact⟨_,_,rfl,rfl⟩
end Go.Proofs.YtjlgijpmnfabcaaGreatDoor
namespace Go.Eng
open Go.RowKit
section
variable {P:Program}{m:Mode}{n:Shp}{B d:Nat}{w0:World}{ops:Array Oper}{Q:Exit->Act->World->Prop}{rest:List Oper}{env:Env}{H:List HP}{ty:TypeId}{pos:String}{after:Array Edge}{x y hi:Operand}
theorem Yeh(w:World)(dT sT ty elem:TypeId)(g o dLen dCap size:Nat)(a:Addr)(sLen sCap:Nat)(cur:Array Value)(t:TypeId)(cs:List Value)
 (hu:P.underlying dT=some (.slice elem)) (hs:(P.info? elem).map (·.size)=some size)
 (hg:w.heap[g]? =some (.cells cur t (0,0))) (hn:cs.length=Nat.min sLen dLen*size)
 (hsrc:∀j v,cs[j]? =some v->w.cell? (a.add j)=some v) (hfit:o+cs.length<=cur.size) (h1:∀v∈cs,v.oneCell'=true):
 (Builtin.copy_ #[dT,sT] ty #[.slice (some ⟨g,o,none⟩) dLen dCap,.slice (some a) sLen sCap]).run P w=
  .ok (goInt (Nat.min sLen dLen)) (w.setRow g (cur.toList.take o++cs++cur.toList.drop (o+cs.length)).toArray):=by
 have hl:=run_firstCells_some (P:=P) w size (Nat.min sLen dLen) a sLen sCap cs hn hsrc
 have hst:=run_storeCells_at P g o t cs 0 cur w hg (by omega) h1
 cases hq:P.info? elem with
 |none=>simp_all
 |some i=>
  simp_all [Go.Builtin.copy_,Go.Builtin.lenOf,sizeOf,typeInfo,run_underlying]
variable {α:Type}
theorem Ysh(l cs:List α)(o k k':Nat)(hk:k<=l.length)(ho:o<=k)(hfit:o+cs.length<=l.length)(hk':k'=max k (o+cs.length)):
 (l.take o++cs++l.drop (o+cs.length)).take k'=(l.take k).take o++cs++(l.take k).drop (o+cs.length):=by
 have hA:(l.take o++cs).length=o+cs.length:=by grind
 by_cases h:o+cs.length<=k
 ·grind [Nat.max_eq_left,YiO]
 ·rw[hk',Nat.max_eq_right (by omega),SJ,hA,NG,SO,Rm,TX (by omega),List.take_take,Ss (by omega),Rw (by grind),Rm]
variable {t e size bytes o k cap kd cd mm c2:Nat}{A A2:Option Addr}{xs:List Value}{K:List HP}
theorem Yog(T:Tab P){k':Nat}{ys:List Value}(hx:evo env x=some (.slice (subA A o cap size) kd cd))(hy:evo env y=some (.slice A2 mm c2))(hr:Rd B w0 H A2 ys)
 (hu:Upd (sl e size A k cap xs) (sl e size A k' cap (xs.take (o*size)++ys.take (min mm kd*size)++xs.drop (o*size+min mm kd*size))) H K) (ht:look T.sl t=some (e,size,bytes)) (hn:Nat.ble (d+1) n.k=true) (h1:∀v∈ys,v.oneCell'=true)
 (hA:∃g,A=some ⟨g,0,none⟩) (hb:o+kd<=cap/\0<min mm kd/\o<=k/\k'=max k (o+min mm kd)) (hyl:min mm kd*size<=ys.length)
 (h:VL P none n B w0 ops Q rest ((d,.int .i64 (min mm kd:Nat))::env) K):
 VL P none n B w0 ops Q (⟨some d,.call ⟨.builtin .copy,#[x,y],#[t,t]⟩,ty,pos,after,none⟩::rest) env H:=by
 obtain⟨hut,inf,z,hi,hz,hzs,hsi,hbi,hs0,hb0⟩:=YJ (T.slic ht)
 refine Xi (λv K'=>v=.int .i64 (min mm kd:Nat)/\K'=K) rfl rfl hn (λa w ha hw=>?_) zc47
 have hmem:sl e size A k cap xs∈H:=Yl9
 obtain⟨hb1,hb2,hb3,hb5⟩:=hb
 rcases ZF (hw.sl hmem)with⟨rfl,_⟩|⟨g,cur,rfl,g1,g2,g3,g4,g5,g6⟩
 ·obtain⟨_,hA⟩:=hA;cases hA
 have hsub:subA (some ⟨g,0,none⟩) o cap size=some ⟨g,o*size,none⟩:=Yud
 obtain⟨c,hc⟩:∃c,min mm kd=c:=⟨_,rfl⟩
 rw[hc]at hu hb2 hb5 hyl
 have hcs:(ys.take (c*size)).length=c*size:=YdS
 have hpos:0<c*size:=Nat.mul_pos hb2 hs0
 have hsome:∃a2,A2=some a2/\∀j v,(ys.take (c*size))[j]? =some v->w.cell? (a2.add j)=some v:=by
  have h0:ys[0]? =some (ys[0]'(by omega)):=Ta (by omega)
  obtain⟨g2',o2,rfl,_⟩:=hr w hw 0 _ h0
  refine⟨_,rfl,λj v hj=>?_⟩
  rw[SZ]at hj
  by_cases hjm:j<c*size
  ·rw[Tm hjm]at hj
   obtain⟨g3',o3,e3,hc⟩:=hr w hw j v hj
   injection e3 with e3
   injection e3 with e3 e4
   subst e3 e4
   rw[Addr.add_lit];exact hc
  ·rw[Tf hjm]at hj;cases hj
 obtain⟨a2,rfl,hsrc⟩:=hsome
 have hoc:o+c<=cap:=by
  have:c<=kd:=by rw[<-hc];exact Nat.min_le_right _ _
  omega
 have hfit:o*size+c*size<=cur.size:=by rw[g4,<-SV];exact Rn _ hoc
 have hrun:=Yeh (P:=P) w t t ty e g (o*size) kd cd size a2 mm c2 cur e (ys.take (c*size)) hut (by rw[hi];simp[hsi]) g1 (by rw[hcs];show c*size=min mm kd*size;rw[hc]) hsrc (by rw[hcs];exact hfit) (λv hv=>h1 v (SN hv))
 have hkl:k*size<=cur.toList.length:=by rw[Array.length_toList,g4];exact Rn _ g2
 have hok:o*size<=k*size:=Rn _ hb3
 have hmax:k'*size=max (k*size) (o*size+c*size):=by
  rw[hb5,<-SV]
  rcases Nat.le_total k (o+c)with h|h
  ·rw[Nat.max_eq_right h,Nat.max_eq_right (Rn _ h)]
  ·rw[Nat.max_eq_left h,Nat.max_eq_left (Rn _ h)]
 refine⟨_,K,_,?_,hw.storeRow (k':=k') (o:=o*size) (vs:=ys.take (c*size)) hu rfl g1 g4 (by rw[hb5];exact Nat.max_le.2 ⟨g2,hoc⟩) g3 (by rw[hcs];exact hfit) ?_ ?_,rfl,rfl⟩
 ·simp only[execOp,resolve,invoke,builtin]
  have hmap:#[x,y].map a.eval=#[.slice (some ⟨g,o*size,none⟩) kd cd,.slice (some a2) mm c2]:=by simp[ha.eval hx,ha.eval hy,hsub]
  simp only[hmap,Sem.run_bind,Sem.run_pure,Result.andThen_ok]
  rw[hrun]
  simp[goInt]
 ·have:=Ysh cur.toList (ys.take (c*size)) (o*size) (k*size) (k'*size) hkl hok (by rw[hcs,Array.length_toList];exact hfit) (by rw[hcs];exact hmax)
  rw[hcs]at this⊢
  rw[this,g5]
 ·rw[Tt,Tt,hcs,TK,Rk,g6,hmax]
  omega
theorem Zb(T:Tab P){f:α->List Value}(L M R:List α)(hx:evo env x=some (.slice (subA A o cap size) kd cd))(hy:evo env y=some (.slice A2 mm c2))(hr:Rd B w0 H A2 (M.flatMap f))(hq:∀a,(f a).length=size)(h1:∀a,ZX (f a)=true)
 (ht:look T.sl t=some (e,size,bytes)) (hn:Nat.ble (d+1) n.k=true) (hA:∃g,A=some ⟨g,0,none⟩) (hb:o+kd<=cap/\0<min mm kd/\o<=L.length/\min mm kd<=M.length) (hR:L.take o++M.take (min mm kd)++L.drop (o+min mm kd)=R)
 (hu:Upd (sl e size A L.length cap (L.flatMap f)) (sl e size A R.length cap (R.flatMap f)) H K)
 (h:VL P none n B w0 ops Q rest ((d,.int .i64 (min mm kd:Nat))::env) K):
 VL P none n B w0 ops Q (⟨some d,.call ⟨.builtin .copy,#[x,y],#[t,t]⟩,ty,pos,after,none⟩::rest) env H:=by
 have hlen:∀l:List α,(l.flatMap f).length=l.length*size:=λl=>by
  induction l with
  |nil=>simp
  |cons a l ih=>grind
 have hRl:R.length=max L.length (o+min mm kd):=by
  grind
 have hRf:R.flatMap f=(L.flatMap f).take (o*size)++(M.flatMap f).take (min mm kd*size)++(L.flatMap f).drop (o*size+min mm kd*size):=by
  rw[<-hR,TR,TR,Xz hq,Xz hq,Us hq,SV]
 rw[hRf]at hu
 refine Yog T hx hy hr hu ht hn (λv hv=>?_) hA ⟨hb.1,hb.2.1,hb.2.2.1,hRl⟩ (by grind [Rn]) h
 grind [Zo]
theorem Ww(T:Tab P){tn i j:Nat}(hx:evo env x=some (.slice A i cap))(hy:evo env y=some (.int .i64 (j:Int)))(hm:sl e size A k cap xs∈H)(ht:look T.sl t=some (e,size,bytes))(htn:Ygh P tn=true)(hn:Nat.ble (d+1) n.k=true)(hb:Nat.ble bytes 1000=true)
 (hk:i<=k/\0<k/\0<j/\cap<i+j/\i+j<=1000000)
 (h:∀g c,i+j<=c->VL P none n B w0 ops Q rest ((d,.slice (some ⟨g,0,none⟩) (i+j) c)::env) (sl e size (some ⟨g,0,none⟩) i c (xs.take (i*size))::H)):VL P none n B w0 ops Q (⟨some d,.call ⟨.builtin .append,#[x,y],#[t,tn]⟩,ty,pos,after,none⟩::rest) env H:=by
 obtain⟨hu,inf,z,hi,hz,hzs,hsi,hbi,hs0,hb0⟩:=YJ (T.slic ht)
 obtain⟨kn,hkn⟩:=YaZ htn
 have hb':=T9 hb
 refine Xi (λv K=>∃g c,v=.slice (some ⟨g,0,none⟩) (i+j) c/\K=sl e size (some ⟨g,0,none⟩) i c (xs.take (i*size))::H/\i+j<=c) rfl rfl hn (λa w ha hw=>?_) (by rintro _ _ ⟨g,c,rfl,rfl,hc⟩;exact h g c hc)
 obtain⟨hk1,hk2,hk3,hk4,hk5⟩:=hk
 have hown:=hw.sl hm
 rcases ZF hown with⟨_,e0,_⟩|⟨g,cur,rfl,g1,g2,g3,g4,g5,g6⟩
 ·omega
 have hik:i*size<=k*size:=Rn _ hk1
 have hxl:(xs.take (i*size)).length=i*size:=YdS
 have hbj:(i+j)*inf.bytes<=1000000*1000:=Nat.mul_le_mul hk5 (by omega)
 have hbj2:j*inf.bytes<=(i+j)*inf.bytes:=Rn _ (by omega)
 have hold:(Builtin.firstCells inf.size i (.slice (some ⟨g,0,none⟩) i cap)).run P w.drew=.ok (xs.take (i*size)).toArray w.drew:=by
  rw[hsi]
  refine run_firstCells_some (P:=P) w.drew size i ⟨g,0,none⟩ i cap _ hxl λq v hq=>?_
  rw[SZ]at hq
  split at hq
  ·obtain⟨g',e5,hc,_⟩:=QS hown hq
   injection e5 with e5
   injection e5 with e5
   subst e5
   rw[Addr.add_lit,RV];exact hc
  ·cases hq
 have hrun:=Lib.run_append_grow_zeros (P:=P) w t tn ty e inf z .i64 kn hu hkn hi hz (some ⟨g,0,none⟩) i cap (xs.take (i*size)) hold j hk3 (by omega) hk4 (by omega) (by omega) (growslice_fits hk4 (by omega))
 have hge:=grownCap_ge w (i+j) cap e
 have hcm:grownCap w (i+j) cap e<=maxLen:=grownCap_le_maxLen w (i+j) cap e (by simp only[maxLen];omega)
 refine⟨_,_,_,by simp only[execOp,resolve,invoke,builtin,ha.eval hx,ha.eval hy,List.map_toArray,Ro,Nh,Sem.run_bind,Sem.run_pure,hrun,Result.andThen_ok];rfl,?_,w.heap.size,grownCap w (i+j) cap e,rfl,rfl,hge⟩
 have h2:=hw.drew.alloc (.cells ((xs.take (i*size)).toArray++Builtin.zeroCells z.cells j++Builtin.zeroCells z.cells (grownCap w (i+j) cap e-(i+j))) e)
 refine h2.upd (Upd.here _) rfl rfl rfl (TM _) λS1 ⟨h3,h4⟩=>⟨⟨⟨hxl,.inr ⟨w.heap.size,grownCap w (i+j) cap e,_,rfl,Ti _,h4,by omega,hcm,?_,?_⟩⟩,λa ha=>by cases ha;exact h3⟩,λ_ _ _=>rfl⟩
 ·rw[Array.size_append,Array.size_append,size_zeroCells,size_zeroCells,hzs,List.size_toArray,hxl,<-SV,<-SV]
  congr 1
  omega
 ·rw[Array.toList_append,Array.toList_append,Ry,SJ,TX (by simp[hxl]),List.toList_toArray,hxl,NG,SO,Rm]
theorem Zw(T:Tab P){n':Nat}{ki:IntKind}{z:Int}(hx:evo env x=some (.slice A k cap))(hl:evo env hi=some (.int ki z))(ht:look T.sl t=some (e,size,bytes))(hn:Nat.ble (d+1) n.k=true)(hb:0<=z/\z<=cap)(hn':z.toNat=n')(hA:∃g,A=some ⟨g,0,none⟩)
 (h:VL P m n B w0 ops Q rest ((d,.slice A n' cap)::env) H):VL P m n B w0 ops Q (⟨some d,.slice t x none (some hi) none,ty,pos,after,none⟩::rest) env H:=by
 subst hn'
 obtain⟨g,rfl⟩:=hA
 refine YH rfl rfl hn rfl (λf w ha hw=>?_) h
 have hA:(if cap=0 then(some ⟨g,0,none⟩:Option Addr)else(some ⟨g,0,none⟩:Option Addr).map (·.add (0*size)))=some ⟨g,0,none⟩:=by
  simp[Addr.add_lit]
 have hb2:(Instr.sliceBounds true k cap none (some (.int ki z)) none).run P w=.ok (0,z.toNat,cap) w:=zc78
 have hr:=Vf T (A:=some ⟨g,0,none⟩) ht hb2
 exact YtW
theorem Q7{w:World}{gv g:Nat}{o:Obj}{R:List HP}(h:St B w0 (Eng.blk gv o::sl e size (some ⟨g,0,none⟩) k cap xs::R) w):gv≠g:=by
 obtain⟨S1,S2,_,_,hd,h4,h5⟩:=h.sep
 obtain⟨S3,S4,h6,_,_,h9,_⟩:=h5
 rintro rfl
 exact hd gv h4.1 (h6 _ (h9.2 _ rfl))
end
variable {B cap:Nat}{w0:World}{H:List HP}{A:Option Addr}
theorem Oa{P:Program}{n:Shp}{Q:Exit->Act->World->Prop}{env:Env}{c:Code}{e size k:Nat}{xs:List Value}(hm:sl e size A k cap xs∈H)(h:k<=cap->VC P n B w0 c Q env H):VC P n B w0 c Q env H:=by
 refine⟨λa w ha hw=>?_⟩
 have hown:=hw.sl hm
 have hkc:k<=cap:=zc49
 exact(h hkc).run a w ha hw
end Go.Eng
namespace Go.Proofs.YtjlgijpmnfabcaaGreatDoor
open Go.RowKit Go.Eng Go.Nw
theorem Z1(A:Option Addr)(cap size:Nat):subA A 0 cap size=A:=by
 simp_all [subA,Go.Addr.add]
def cels(A:Option Addr)(cap:Nat)(l:List Cel):HP:=sl 48 5 A l.length cap (l.flatMap celF)
theorem YmM(A:Option Addr)(cap:Nat)(l:List Cel)(c:Cel):sl 48 5 A (l.length+1) cap (l.flatMap celF++celF c)=cels A cap (l++[c]):=by
 grind [cels]
theorem Vs(A:Option Addr)(cap:Nat)(l:List Cel)(c:Cel):sl 48 5 A (l.length+1) cap (l.flatMap celF++#[Value.int .i64 c.1,.int .i64 c.2.1,.int .i64 c.2.2.1,.int .i64 c.2.2.2.1,.int .i64 c.2.2.2.2].toList)=cels A cap (l++[c]):=YmM A cap l c
theorem Yc5(l:List Cel)(c:Cel):l.length+1=(l++[c]).length:=by simp
variable {B cap:Nat}{w0:World}{H:List HP}{A:Option Addr}
theorem Rd.cels{l:List Cel}(h:cels A cap l∈H):Rd B w0 H A (l.flatMap celF):=.sl h
def UP(s:Sch)(slot:Int)(k:Nat):List Cel:=((inI s slot s.cells.length).take k).map (Ym s)
theorem YjI(s:Sch)(slot:Int):UP s slot (inXs s slot).length=s.cells.filter λc=>decide (c.1=slot):=by
 have e:s.cells=(List.range s.cells.length).map (Ym s):=by
  apply SQ
  intro i
  by_cases h:i<s.cells.length
  ·grind [Y0]
  simp_all
 unfold UP inXs
 rw[Tv,TL]
 conv=>rhs;rw[e]
 rw[List.filter_map]
 rfl
variable {s:Sch}{slot:Int}{k:Nat}
theorem YhE{i:Nat}(h:(inI s slot s.cells.length)[k]? =some i):UP s slot (k+1)=UP s slot k++[Ym s i]:=by
 grind [UP,TF]
theorem WM{args:List Value}(h:(inXs s slot)[k]? =some args):∃i,(inI s slot s.cells.length)[k]? =some i/\i<s.cells.length/\args=[.int .i64 (i:Int)]:=by
 unfold inXs at h
 rw[TS]at h
 cases hi:(inI s slot s.cells.length)[k]? with
 |none=>simp_all
 |some i=>
  rw[hi]at h
  cases h
  exact⟨i,rfl,(Og.1 (Td hi)).1,rfl⟩
theorem YmL:(UP s slot k).length<=s.cells.length:=by
 grind [UP,inI]
structure AcM where
 A:Option Addr
 cap:Nat
 l:List Cel
theorem Yrn(s:SchM)(slot:Int){B:Nat}{w0:World}{H:List HP}{w:World}(hr:Rd B w0 H s.A (s.cells.flatMap celF))(hl:s.cells.length<=1000000000000)(hw:St B w0 H w):
 CX B w0 142 [s.val,.int .i64 slot] w λv K=>∃A cap,v=.slice A (atE s.sch slot).length cap/\K=cels A cap (atE s.sch slot)::H:=by
 refine X5 Tryz.func142 Tryz.ntmps142 rfl rfl hw ?_
 have e1:s.sch.cells=s.cells:=rfl
 by_cases hf:Xh s.sch=true
 rotate_left
 ·have hf:Xh s.sch=false:=by simpa using hf
  refine zX27 ?_<;>intros
  apply Yh (cels none 0 []::H)
  ·exact YqZ
  apply VQ_m
  apply Yd;exact rfl;exact rfl
  exact⟨none,0,by rw[atE,Tm (.inl hf)];rfl,by rw[atE,Tm (.inl hf)]⟩
 have hfr:=Jl.1 hf
 have hsz:1<=s.len/\s.len<=512:=by
  have:=TV hfr.sized
  exact⟨this.1,this.2.1⟩
 by_cases h0:slot<0
 ·skip
  refine zX28 ?_<;>intros
  apply Yh (cels none 0 []::H)
  ·exact YqZ
  apply VQ_m
  apply Yd;exact rfl;exact rfl
  exact⟨none,0,by rw[atE,Tm (.inr h0)];rfl,by rw[atE,Tm (.inr h0)]⟩
 obtain⟨tz,hto⟩:∃tz,slot%s.len=tz:=⟨_,rfl⟩
 have hat:atE s.sch slot=s.cells.filter λc=>decide (c.1=tz):=by
  rw[atE,Tf (by simp[hf,h0]),<-hto,<-Rj (by omega)];rfl
 rw[hat]
 refine zX28 ?_<;>intros
 rename_i gB _ gO
 apply Yz [0,1,2,3,4] [5] [true,true]
 kernel_rfl
 kernel_rfl
 exact zy
 (simp only[Ye,nthO];rfl)
 (simp only[Ye,nthO];rfl)
 refine zX2 ?_
 apply Yg _ Yo2
 exact za
 exact rfl
 exactλ_ hw=>(YcY s _ (hw))
 rintro _ _ ⟨gs,gt,rfl,rfl⟩
 rw[hto]
 refine zX2 ?_
 have hr4:Rd B w0 (intB gt tz::schB gs s::schB gB s::H) s.A (s.cells.flatMap celF):=hr.cons.cons.cons
 refine Xf 48 5 ?_
 refine X7 (gf:=320) (lb:=[.pointer (some ⟨gs,0,none⟩),.pointer (some ⟨gt,0,none⟩)]) (xs:=inXs s.sch tz) (intB gt tz::schB gs s::schB gB s::H) (λx:AcM=>[blk gO (.cells #[.slice x.A x.l.length x.cap] 28 (0,0)),cels x.A x.cap x.l]) (λi x=>x.l=UP s.sch tz i) (λ_ _=>False) ⟨none,0,[]⟩ rfl Yo5 (YcX s tz gs gt hr4 hl (.tail _ (.head _)) (.head _)) rfl ?_ (by kernel_rfl) (by kernel_rfl) ?_ rfl ?_ ?_ (λ_ _ _ h=>h.elim)
 ·exact YtT
 ·unfold schB intB cels
  simp only[TB,TI,Rh,SX]
  exact YtQ
 ·rintro l k args R ⟨A,cap,xs⟩ hk hI
  obtain⟨i,hi,hlt,rfl⟩:=WM hk
  have hlt2:i<s.cells.length:=hlt
  dsimp only at hI⊢
  dsimp only[Uc,List.cons_append,List.nil_append]
  have hget:s.cells[i]? =some (Ym s.sch i):=Y0 (s:=s.sch) hlt
  refine zX3 ?_
  apply JB Yy
  intro R'
  unfold cels intB schB
  refine Y8 (R'::blk gO (.cells #[.slice A xs.length cap] 28 (0,0))::sl 48 5 A xs.length cap (xs.flatMap celF)::blk gt (.cells #[.int .i64 tz] 3 (0,0))::blk gs (.cells #[.int .i64 s.len,.int .i64 s.off,.slice s.A s.cells.length s.cap] 30 (0,0))::blk gB (.cells #[.int .i64 s.len,.int .i64 s.off,.slice s.A s.cells.length s.cap] 30 (0,0))::[many H]) (λw hw=>hw.perm (.cons _ (.cons _ (.cons _ (.cons _ (.cons _ (.cons _ (.closeT _)))))))) ?_
  have hrt:Rd B w0 [many H] s.A (s.cells.flatMap celF):=hr.tail
  refine zX7 ?_
  apply O9 [0,1,2,3,4,5,6] [7,8] [false,true,false,false,false,true,true]
  kernel_rfl
  kernel_rfl
  exact zy
  (simp only[Ye,nthO];rfl)
  (simp only[Ye,nthO];rfl)
  have hxl:xs.length<=512:=by
   have h1:=YmL (s:=s.sch) (slot:=tz) (k:=k)
   rw[<-hI]at h1
   exact TY h1 hfr.few
  repeat'(first|(apply Yj;try exact zl)|refine zgd ?_|(refine zgh ?_;intro _)|(refine zgi ?_;intro _ _)|fail)
  rename_i A' cap'
  apply VO (AcM.mk A' cap' (xs++[Ym s.sch i]))
  ·show xs++[Ym s.sch i]=UP s.sch tz (k+1)
   rw[YhE hi,hI]
  ·intro w hw
   rw[Vs,Yc5 xs (Ym s.sch i)]at hw
   unfold cels at hw
   have h5:St B w0 (R'::blk gO (.cells #[.slice A' (xs++[Ym s.sch i]).length cap'] 28 (0,0))::sl 48 5 A' (xs++[Ym s.sch i]).length cap' ((xs++[Ym s.sch i]).flatMap celF)::blk gt (.cells #[.int .i64 tz] 3 (0,0))::blk gs (.cells #[.int .i64 s.len,.int .i64 s.off,.slice s.A s.cells.length s.cap] 30 (0,0))::blk gB (.cells #[.int .i64 s.len,.int .i64 s.off,.slice s.A s.cells.length s.cap] 30 (0,0))::[many H]) w:=by
    revert w
    exact zc0
   exact h5.perm (.cons _ (.cons _ (.cons _ (.cons _ (.cons _ (.cons _ (.openT _)))))))
 ·rintro D ⟨A,cap,xs⟩ hI
  dsimp only at hI⊢
  rw[YjI,e1]at hI
  subst hI
  dsimp only[List.cons_append,List.nil_append]
  unfold cels intB schB
  refine zX9 ?_
  apply Zx Yy
  apply VQ_m
  apply Yh (cels A cap (s.cells.filter λc=>decide (c.1=tz))::H)
  ·unfold cels
   exact zc0
  exact Yut
abbrev ints(A:Option Addr)(cap:Nat)(l:List Int):HP:=sl 3 1 A l.length cap (l.flatMap numF)
theorem Ynb(A:Option Addr)(cap:Nat)(l:List Int)(z:Int):sl 3 1 A (l.length+1) cap (l.flatMap numF++#[Value.int .i64 z].toList)=ints A cap (l++[z]):=by simp_all [ints,numF]
theorem YfB{l:List Int}{k:Nat}{a:Int}(h:l[k]? =some a):l.take (k+1)=l.take k++[a]:=YdT
def wordS:List UInt8:=[115,99,104,101,100,117,108,101]
def wordC:List UInt8:=[99,101,108,108]
def Wf(w:List UInt8)(l:List Int):List UInt8:=w++l.flatMap λn=>32::Lib.itoa n
def WO(w:List UInt8)(l:List Int):List UInt8:=Wf w l++[10]
def Yqw(s:Sch):List UInt8:=WO wordS [s.len,s.off]++s.cells.flatMap λc=>WO wordC (nums c)
def ZM(s:Sch):List UInt8×Int:=if Xh s=false then([],1)else(Yqw s,0)
theorem YpA{n:Int}(h:0<=n):Lib.itoa n=Lib.decDigits n.toNat:=by simp_all [Go.Lib.itoa,if_neg]
theorem Yak{s:Sch}(h:Frm s):(∀n∈[s.len,s.off],0<=n/\n<10000)/\∀c∈s.cells,∀n∈nums c,0<=n/\n<10000:=by
 have h1:=h.sized
 unfold Zs at h1
 constructor
 ·grind
 ·intro c hc n hn
  have h3:=h.formed c hc
  unfold ZA ZC insE at h3
  unfold nums at hn
  grind
variable {B:Nat}{w0:World}{H:List HP}
theorem NetM.In.mono{K:List HP}{n:NetM}(h:n.In B w0 H)(hH:∀w,St B w0 K w->St B w0 H w):n.In B w0 K:=
 ⟨h.pw.mono hH,λr hr=>(h.rw_ r hr).mono hH,h.lk.mono hH,h.mg.mono hH,h.s1,h.s2,h.s3,h.s4⟩
def fewE(n:Net):Bool:=decide ((∀r∈n.power,r.length<=40)/\n.power.length<=8/\n.links.length<=60/\n.margin.length<=60)
theorem YhS(n:NetM){w:World}(hin:n.In B w0 H)(hw:St B w0 H w):
 CX B w0 18 [n.val] w λv K=>v=.bool (fewE n.net)/\K=H:=by
 refine Ya Tryz.func18 Tryz.ntmps18 rfl rfl hw ?_
 obtain⟨hpw,hrw,hlk,hmg,hs1,hs2,hs3,hs4⟩:=id hin
 have e1:(∀r∈n.net.power,r.length<=40)↔∀r∈n.rows,r.xs.length<=40:=by simp[NetM.net]
 have e2:n.net.power.length=n.rows.length:=by simp[NetM.net]
 have e3:n.net.links=n.links:=rfl
 have e4:n.net.margin=n.margin:=rfl
 unfold fewE
 rw[e2,e3,e4]
 (apply Y7;apply YM;apply YO;exact rfl;exact rfl;intro g)
 refine zX7 ?_
 refine Yi (λ(a:Nat)=>[(3,.int .i64 a),(1,.pointer (some ⟨g,0,none⟩))]) (λ_=>netB g n::H) (λa=>a<=n.rows.length/\∀j r,j<a->n.rows[j]? =some r->r.xs.length<=40) (λa=>n.rows.length-a) 0 ⟨Ti _,by intro j r hj;omega⟩ ?_ (λw hw=>hw) ?_
 ·exact zc1
 rintro a ⟨ha,hai⟩ K hK
 by_cases hlt:a<n.rows.length
 ·obtain⟨r,hr⟩:∃r,n.rows[a]? =some r:=⟨_,Ta hlt⟩
  have hs2r:=hs2 r (Td hr)
  repeat'(first|refine zgd ?_|(refine zge ?_ ?_<;>intro _<;>try exact zo)|fail)
  ·rename_i h
   apply Yl;apply Yd;exact rfl;exact rfl
   exact⟨by rw[Tu λhc=>by have:=e1.1 hc.1 r (Td hr);omega],rfl⟩
  ·rename_i h
   apply hK (a+1)
   ·refine⟨by omega,λj q hj hq=>?_⟩
    by_cases e:j=a
    ·subst e;rw[hr]at hq;rw[<-Tn hq];omega
    ·exact hai j q (by omega) hq
   ·omega
   ·exact zc1
   exact zc21
 obtain rfl:a=n.rows.length:=by omega
 have hall:∀r∈n.rows,r.xs.length<=40:=λr hr=>by
  obtain⟨j,hj⟩:=List.getElem?_of_mem hr
  exact hai j r (Tc.1 hj).1 hj
 repeat'(first|refine zgc ?_|(refine zgf ?_ ?_<;>intro _<;>try exact zo)|fail)
 ·apply Yl;apply Yd;exact rfl;exact rfl
  exact⟨by rw[Tj ⟨e1.2 hall,by omega,by omega,by omega⟩],rfl⟩
 all_goals(apply Yl;apply Yd;exact rfl;exact rfl;exact⟨by rw[Tu λhc=>by omega],rfl⟩)
structure Tabs(w:World):Prop where
 pow:Lib.TabIs Tryz.prog w "internal/strconv.uint64pow10" .u64 Lib.pow10Tab
def TabsB(B:Nat)(w0:World):Prop:=∀w,Below B w0 w->Tabs w
variable {B:Nat}{w0 w:World}{H:List HP}
theorem TabsB.here(h:TabsB B w0)(hw:St B w0 H w):TabsB w.heap.size w:=λw1 h1=>h w1 (hw.below.trans (h1.mono hw.le))
abbrev strV(l:List UInt8):Value:=.string ⟨l.toArray⟩
theorem Ynf(n:Int)(h0: -9223372036854775808<=n)(h1:n<=9223372036854775807)(ht:TabsB B w0)(hw:St B w0 H w):
 CX B w0 94 [.int .i64 n] w λv K=>v=strV (Lib.itoa n)/\K=H:=
 YjD hw ((Tryz.strconv_Itoa n h0 h1 w (ht w hw.below).pow).mono λe w' ⟨h1,k,os,h2⟩=>⟨h1,by simp_all [Go.Lib.below_grow]⟩)
section
variable {m:Eng.Mode}{n:Shp}{B d:Nat}{w0:World}{ops:Array Oper}{Q:Exit->Act->World->Prop}{rest:List Oper}{env:Env}{H:List HP}{ty:TypeId}{pos:String}{after:Array Edge}{x y:Operand}
theorem Yjo(a b:List UInt8)(hx:evo env x=some (strV a))(hy:evo env y=some (strV b))(hn:Nat.ble (d+1) n.k=true)(hb:a.length+b.length<=1000000)(h:VL Tryz.prog m n B w0 ops Q rest ((d,strV (a++b))::env) H):
 VL Tryz.prog m n B w0 ops Q (⟨some d,.binOp .add 9 x y 9,ty,pos,after,none⟩::rest) env H:=by
 have hs:∀l:List UInt8,(⟨l.toArray⟩:ByteArray).size=l.length:=by grind [ByteArray.size]
 refine Yrd hx hy hn (by grind) ?_
 have e:(⟨a.toArray⟩:ByteArray)++⟨b.toArray⟩=⟨(a++b).toArray⟩:=by
  apply ByteArray.ext
  simp
 simp_all
variable {g:Nat}{cs:Array Value}{fr:Nat×Nat}
theorem Yor(hx:evo env x=some (.pointer (some ⟨g,0,none⟩)))(hm:blk g (.cells cs 98 fr)∈H)(hc:cs.size=2)(hn:Nat.ble (d+1) n.k=true)
 (h:VL Tryz.prog none n B w0 ops Q rest ((d,.pointer (some ⟨g,0,none⟩))::env) H):VL Tryz.prog none n B w0 ops Q (⟨some d,.convert 95 256 x,ty,pos,after,none⟩::rest) env H:=by
 refine Xi (λv K'=>v=.pointer (some ⟨g,0,none⟩)/\K'=H) rfl rfl hn (λa w ha hw=>?_) (by rintro _ _ ⟨rfl,rfl⟩;exact h)
 have hb:=(hw.blk hm).1
 obtain⟨j,hj,hjs⟩:=Option.map_eq_some_iff.1 (show(Tryz.prog.info? 98).map (·.size)=some 2 by kernel_rfl)
 have hr:=Lib.run_to_unsafe (P:=Tryz.prog) w ⟨g,0,none⟩ Tryz.underlying95 Tryz.underlying256 hj (by rw[hjs];decide) (show w.shape? g=some (98,2) by simp[World.shape?,hb,hc]) (Nat.zero_lt_succ 1)
 exact⟨_,H,w,by simp[execOp,ha.eval hx,hr],hw,rfl,rfl⟩
theorem Yol(hx:evo env x=some (.pointer (some ⟨g,0,none⟩)))(hm:blk g (.cells cs 98 fr)∈H)(hc:cs.size=2)(hn:Nat.ble (d+1) n.k=true)
 (h:VL Tryz.prog none n B w0 ops Q rest ((d,.pointer (some ⟨g,0,none⟩))::env) H):VL Tryz.prog none n B w0 ops Q (⟨some d,.convert 256 95 x,ty,pos,after,none⟩::rest) env H:=by
 refine Xi (λv K'=>v=.pointer (some ⟨g,0,none⟩)/\K'=H) rfl rfl hn (λa w ha hw=>?_) zc47
 have hb:=(hw.blk hm).1
 obtain⟨j,hj,hjs⟩:=Option.map_eq_some_iff.1 (show(Tryz.prog.info? 98).map (·.size)=some 2 by kernel_rfl)
 have hr:=Lib.run_from_unsafe (P:=Tryz.prog) w ⟨g,0,none⟩ Tryz.underlying256 Tryz.underlying95 hj (show w.shape? g=some (98,2) by simp[World.shape?,hb,hc]) (by kernel_rfl)
 exact⟨_,H,w,by simp[execOp,ha.eval hx,hr],hw,rfl,rfl⟩
theorem Yoj{v:Value}{tys:Array TypeId}(hx:evo env x=some v)(hn:Nat.ble (d+1) n.k=true)(h:VL Tryz.prog none n B w0 ops Q rest ((d,v)::env) H):
 VL Tryz.prog none n B w0 ops Q (⟨some d,.call ⟨.value (.func 179),#[x],tys⟩,ty,pos,after,none⟩::rest) env H:=by
 refine Xi (λu K'=>u=v/\K'=H) rfl rfl hn (λa w ha hw=>⟨v,H,w,?_,hw,rfl,rfl⟩) zc47
 have hr:=run_callFunc_extern (P:=Tryz.prog) Tryz.func179 (by kernel_rfl) (by kernel_rfl) (by kernel_rfl) (e:=Extern.AbiNoEscape.same) (by kernel_rfl) #[v] w
 have he:a.eval (.func 179)=.func (.func 179) #[] #[]:=rfl
 simp[execOp,resolve,invoke,ha.eval hx,he,Deferred.ofValue,hr,Lib.run_noEscape,Result.andThen]
theorem Yhf{g:Addr}(hx:evo env x=some (.pointer (some g)))(hy:evo env y=some (.pointer (some g)))(hn:Nat.ble (d+1) n.k=true)(h:VL Tryz.prog m n B w0 ops Q rest ((d,.bool false)::env) H):
 VL Tryz.prog m n B w0 ops Q (⟨some d,.binOp .neq 95 x y 95,ty,pos,after,none⟩::rest) env H:=by
 obtain⟨j,hj,hjs⟩:=Option.map_eq_some_iff.1 (show(Tryz.prog.info? 98).map (·.size)=some 2 by kernel_rfl)
 exact Xb hx hy hn (λ_=>rfl) (λw=>Lib.run_neq_ptr_same w g Tryz.underlying95 hj) h
end
variable {B b cap:Nat}{w0 w:World}{H:List HP}
theorem Yck(b:Nat)(p v:Value)(hp:p=.pointer none\/p=.pointer (some ⟨b,0,none⟩))(hw:St B w0 (blk b (.cells #[p,v] 98 (0,0))::H) w):
 CX B w0 93 [.pointer (some ⟨b,0,none⟩)] w λu K=>u=.tuple #[]/\K=blk b (.cells #[.pointer (some ⟨b,0,none⟩),v] 98 (0,0))::H:=by
 refine Ya Tryz.func93 Tryz.ntmps93 rfl rfl hw ?_
 rcases hp with rfl|rfl
 ·skip
  repeat'(first|(apply Yhe;exact rfl;exact rfl;kernel_rfl)|(apply Yor;exact rfl;exact zm;exact rfl;exact rfl)|(apply Yol;exact rfl;exact zm;exact rfl;exact rfl)|(apply Yoj;exact rfl;exact rfl)|(apply Yhf;(iterate 3 exact rfl))|refine zgd ?_|fail)
  exact Yjg
 ·skip
  repeat'(first|(apply Yhe;exact rfl;exact rfl;kernel_rfl)|(apply Yhf;(iterate 3 exact rfl))|refine zgd ?_|fail)
  exact Yjg
def bdP(b:Nat)(p:Value)(A:Option Addr)(cap:Nat)(l:List UInt8)(H:List HP):List HP:=blk b (.cells #[p,.slice A l.length cap] 98 (0,0))::sl 5 1 A l.length cap (Lib.byteCells l)::H
theorem YdR(b:Nat)(p:Value)(hp:p=.pointer none\/p=.pointer (some ⟨b,0,none⟩))(A:Option Addr)(cap:Nat)(l s:List UInt8)(hl:l.length+s.length<=1000000)(hw:St B w0 (bdP b p A cap l H) w):
 CX B w0 35 [.pointer (some ⟨b,0,none⟩),strV s] w λu K=>u=.tuple #[.int .i64 s.length,.nilIface]/\∃A' cap',K=bdP b (.pointer (some ⟨b,0,none⟩)) A' cap' (l++s) H:=by
 have hs:(⟨s.toArray⟩:ByteArray).size=s.length:=by simp[ByteArray.size]
 refine Ya Tryz.func35 Tryz.ntmps35 rfl rfl hw ?_
 unfold bdP
 refine zX3 ?_
 apply Yg _ en93
 exact za
 exact rfl
 exactλ_ hw=>(Yck b p _ hp (hw))
 rintro _ _ ⟨rfl,rfl⟩
 repeat'(first|(apply YfI T (e:=5);(iterate 3 exact rfl);kernel_rfl;exact rfl;exact rfl;(intro _ _;exact zd);(rw[hs];omega);intro A' cap')|refine zgd ?_|fail)
 have e1:Lib.byteCells l++Lib.strCells ⟨s.toArray⟩=Lib.byteCells (l++s):=by
  grind [Go.Lib.byteCells,Go.Lib.strCells]
 have e2:l.length+(⟨s.toArray⟩:ByteArray).size=(l++s).length:=by simp_all
 apply Yu;(iterate 3 exact rfl)
 refine⟨by rw[hs],A',cap',?_⟩
 simp_all
variable {p:Value}{A:Option Addr}{l:List UInt8}
theorem Yu1(hp:p=.pointer none\/p=.pointer (some ⟨b,0,none⟩))(hw:St B w0 (bdP b p A cap l H) w):Lib.IsBuilder 98 5 B b (Lib.byteCells l) w:=by
 obtain⟨_,_,S1,S2,k1,k2,k3,⟨k4,k5⟩,S3,S4,j1,j2,j3,⟨⟨j4,j5⟩,j6⟩,j7⟩:=hw
 have hl:(Lib.byteCells l).length=l.length:=by omega
 have hat:Lib.BuilderAt 98 5 B b p (Lib.byteCells l) w:=by
  refine⟨(k1 b k4).1,.slice A l.length cap,k5,⟨by omega,?_⟩,?_⟩
  ·rw[hl]
   rcases j5 with j5|⟨g,c,cur,e1,e2,e3⟩
   ·simp_all
   ·refine .inr ⟨g,c,cur,e1,?_,e3⟩
    simp_all
  exact Ymc
 rcases hp with rfl|rfl
 ·exact .inl hat
 ·exact .inr hat
theorem YiU(hp:p=.pointer none\/p=.pointer (some ⟨b,0,none⟩))(hw:St B w0 (bdP b p A cap l H) w):
 CX B w0 37 [.pointer (some ⟨b,0,none⟩)] w λv K=>v=strV l/\K=[]:=by
 refine(Tryz.Builder_String_any B b l w (Yu1 hp hw) hw.le).mono ?_
 rintro e w' ⟨rfl,hb⟩
 exact⟨_,[],rfl,⟨hw.below.trans hb,TY hw.le hb.size,trivial⟩,rfl,rfl⟩
theorem Yia{n:Int}(h:0<=n/\n<10000):(Lib.itoa n).length<=4:=by
 grind [YpA,Yru]
theorem Yb8{w:List UInt8}:∀{l:List Int},(∀n∈l,0<=n/\n<10000)->(Wf w l).length<=w.length+5*l.length
 |[],_=>by simp[Wf]
 |n::l,h=>by
  have ih:=Yb8 (w:=w) (l:=l) λm hm=>h m (TE _ hm)
  grind [Yia,Wf]
theorem YmH(w:List UInt8)(l:List Int)(n:Int):Wf w (l++[n])=Wf w l++([32]++Lib.itoa n):=by
 grind [Wf]
theorem Yfa(word:List UInt8)(l:List Int)(h:∀n∈l,0<=n/\n<10000)(h5:l.length<=100)(hwd:word.length<=100)(ht:TabsB B w0)(hr:Rd B w0 H A (l.flatMap numF))(hw:St B w0 H w):
 CX B w0 44 [strV word,.slice A l.length cap] w λv K=>v=strV (WO word l)/\K=H:=by
 refine Ya Tryz.func44 Tryz.ntmps44 rfl rfl hw ?_
 refine zX7 ?_
 refine Yi (λ(i:Nat)=>[(9,.int .i64 i),(8,.int .i64 l.length),(7,.slice A l.length cap),(0,strV (Wf word (l.take i)))]) (λ_=>H) (λi=>i<=l.length) (λi=>l.length-i) 0 (Ti _) ?_ (λw hw=>hw) ?_
 ·have e0:Wf word (l.take 0)=word:=by simp[Wf]
  rw[e0]
  exact zc1
 intro i hi K hK
 have hbl:=Yb8 (w:=word) (l:=l.take i) λn hn=>h n (SN hn)
 have hlt0:(l.take i).length<=100:=by grind
 by_cases hlt:i<l.length
 ·obtain⟨n,hn⟩:∃n,l[i]? =some n:=⟨_,Ta hlt⟩
  have hnb:=h n (Td hn)
  have hil:=Yia hnb
  repeat'(first|((first|apply Yb en94|apply Yc en94);exact za;exact rfl;exactλ_ hw=>(Ynf n (by omega) (by omega) ht hw))|(apply Yjo [32] (Lib.itoa n);(iterate 3 exact rfl);(show 1+_<=_;omega))|(apply Yjo (Wf word (l.take i)) ([32]++Lib.itoa n);(iterate 3 exact rfl);(rw[Tt];show _+(1+_)<=_;omega))|refine zgd ?_|(refine zge ?_ ?_<;>intro _<;>try exact zo)|fail)
  apply hK (i+1)
  ·show i+1<=l.length
   omega
  ·omega
  ·rw[TF,hn,RE,YmH]
   exact zc1
  exact zc21
 ·skip
  repeat'(first|(apply Yjo (Wf word (l.take i)) [10];(iterate 3 exact rfl);(show _+1<=_;omega))|refine zgc ?_|(refine zge ?_ ?_<;>intro _<;>try exact zo)|fail)
  apply Yd;exact rfl;exact rfl
  rw[show i=l.length by omega,TL]
  exact zc84
def Ju(s:Sch)(i:Nat):List UInt8:=WO wordS [s.len,s.off]++(s.cells.take i).flatMap λc=>WO wordC (nums c)
theorem Ybh{s:Sch}{i:Nat}(h:i<s.cells.length):Ju s (i+1)=Ju s i++WO wordC (nums (Ym s i)):=by
 grind [Ju,TF,Y0]
theorem QF{w:List UInt8}{l:List Int}(h:∀n∈l,0<=n/\n<10000):(WO w l).length<=w.length+5*l.length+1:=by
 grind [WO,Yb8]
theorem YdK{s:Sch}(h:Frm s):∀i,i<=s.cells.length->(Ju s i).length<=100+40*i
 |0,_=>by
  have h1:=QF (w:=wordS) (Yak h).1
  grind [Ju,wordS,TZ]
 |i+1,hi=>by
  have ih:=YdK h i (by omega)
  have h1:=QF (w:=wordC) ((Yak h).2 _ (JD (s:=s) (i:=i) (by omega)))
  rw[Ybh (by omega),Tt]
  have:wordC.length=4:=rfl
  have h2:(nums (Ym s i)).length=5:=rfl
  omega
theorem Yp9(s:SchM)(ht:TabsB B w0)(hr:Rd B w0 [] s.A (s.cells.flatMap celF))(hl:s.cells.length<=1000000000000)(hw:St B w0 [] w):
 CX B w0 11 [s.val] w λv _=>v=.tuple #[strV (ZM s.sch).1,.int .i64 (ZM s.sch).2]:=by
 refine Ya Tryz.func11 Tryz.ntmps11 rfl rfl hw ?_
 have e1:s.sch.cells=s.cells:=rfl
 cases hf:Xh s.sch with
 |false=>
  refine zX27 ?_<;>intros
  apply Yu;(iterate 3 exact rfl)
  simp_all [ZM]
 |true=>
  have hfr:=Jl.1 hf
  have hle:s.cells.length<=512:=hfr.few
  have hnm:=Yak hfr
  have hln1:=QF (w:=wordS) hnm.1
  refine zX27 ?_<;>intros
  rename_i gs gb gl
  have hrl:Rd B w0 [blk gl (.cells #[.int .i64 s.len,.int .i64 s.off] 3 (0,0)),blk gb (.cells (Value.agg #[.pointer none,.slice none 0 0]).cells 98 (0,0)),blk gs (.cells #[.int .i64 s.len,.int .i64 s.off,.slice s.A s.cells.length s.cap] 30 (0,0))] (some ⟨gl,0,none⟩) ([s.sch.len,s.sch.off].flatMap numF):=Rd.blk (cs:=#[.int .i64 s.len,.int .i64 s.off]) (.head _)
  first|apply Yb en44|apply Yc en44
  exact za
  exact rfl
  exactλ_ hw=>(Yfa wordS [s.sch.len,s.sch.off] hnm.1 (by show 2<=100;decide) (by decide) ht hrl hw)
  apply Zn (bdP gb (.pointer none) none 0 [] [blk gs (.cells #[.int .i64 s.len,.int .i64 s.off,.slice s.A s.cells.length s.cap] 30 (0,0))])
  ·unfold bdP
   intro w hw
   have h5:St B w0 [blk gb (.cells (Value.agg #[.pointer none,.slice none 0 0]).cells 98 (0,0)),blk gs (.cells #[.int .i64 s.len,.int .i64 s.off,.slice s.A s.cells.length s.cap] 30 (0,0))] w:=by
    revert w
    exact zc0
   exact(h5.nilSlice _ _).perm (.swap _ _ _)
  apply Yg _ en35
  exact za
  exact rfl
  exactλ_ hw=>(YdR gb _ (.inl rfl) none 0 [] (WO wordS [s.sch.len,s.sch.off]) (by simp only[Rh];have:wordS.length=8:=rfl;simp only[TZ,Rh]at hln1;omega) (hw))
  rintro _ _ ⟨rfl,A1,cap1,rfl⟩
  unfold bdP
  refine zX7 ?_
  refine Yi (λ(z:Nat×Option Addr×Nat)=>[(21,.int .i64 z.1),(20,.int .i64 s.cells.length),(19,.slice s.A s.cells.length s.cap),(4,.pointer (some ⟨gb,0,none⟩))]) (λz=>bdP gb (.pointer (some ⟨gb,0,none⟩)) z.2.1 z.2.2 (Ju s.sch z.1) [blk gs (.cells #[.int .i64 s.len,.int .i64 s.off,.slice s.A s.cells.length s.cap] 30 (0,0))]) (λz=>z.1<=s.cells.length) (λz=>s.cells.length-z.1) (0,A1,cap1) (Ti _) ?_ ?_ ?_
  ·exact zc1
  ·have e0:Ju s.sch 0=[]++WO wordS [s.sch.len,s.sch.off]:=by unfold Ju;simp
   rw[e0]
   unfold bdP
   exactλw hw=>hw
  rintro⟨i,A2,cap2⟩ hi K hK
  dsimp only at hi⊢
  have htl:=YdK hfr i hi
  by_cases hlt:i<s.cells.length
  ·have hget:s.cells[i]? =some (Ym s.sch i):=Y0 (s:=s.sch) hlt
   have hnc:=hnm.2 _ (JD (s:=s.sch) hlt)
   have hln:=QF (w:=wordC) hnc
   have hr':Rd B w0 (bdP gb (.pointer (some ⟨gb,0,none⟩)) A2 cap2 (Ju s.sch i) [blk gs (.cells #[.int .i64 s.len,.int .i64 s.off,.slice s.A s.cells.length s.cap] 30 (0,0))]) s.A (s.cells.flatMap celF):=hr.cons.cons.cons
   repeat'(first|((first|apply Yb en45|apply Yc en45);exact za;exact rfl;exactλ_ hw=>(QL _ hw))|(apply Qc T (e:=3);(iterate 3 exact rfl))|refine zgd ?_|(refine zge ?_ ?_<;>intro _<;>try exact zo)|(refine zgh ?_;intro _)|fail)
   rename_i gc ga
   have hra:∀X,Rd B w0 (blk ga (.cells (celF (Ym s.sch i)).toArray 113 (0,0))::X) (some ⟨ga,0,none⟩) ((nums (Ym s.sch i)).flatMap numF):=λX=>Rd.blk (cs:=(celF (Ym s.sch i)).toArray) (.head _)
   first|apply Yb en44|apply Yc en44
   exact za
   exact rfl
   exactλ_ hw=>(Yfa wordC (nums (Ym s.sch i)) hnc (by show 5<=100;decide) (by decide) ht (hra _) hw)
   apply Zn (bdP gb (.pointer (some ⟨gb,0,none⟩)) A2 cap2 (Ju s.sch i) [blk gs (.cells #[.int .i64 s.len,.int .i64 s.off,.slice s.A s.cells.length s.cap] 30 (0,0))])
   ·exactλw hw=>hw.tail.tail
   have h5n:(nums (Ym s.sch i)).length=5:=rfl
   have h4w:wordC.length=4:=rfl
   apply Yg _ en35
   exact za
   exact rfl
   exactλ_ hw=>(YdR gb _ (.inr rfl) A2 cap2 (Ju s.sch i) (WO wordC (nums (Ym s.sch i))) (by omega) (hw))
   rintro _ _ ⟨rfl,A3,cap3,rfl⟩
   rw[<-Ybh hlt]
   refine zX9 ?_
   apply hK (i+1,A3,cap3)
   ·show i+1<=s.cells.length
    omega
   ·exact zc54
   ·exact zc1
   exact zc21
  ·refine zX1 ?_<;>intros
   apply Yg _ en37
   exact za
   exact rfl
   exactλ_ hw=>(YiU (l:=Ju s.sch i) (.inr rfl) (hw))
   rintro _ _ ⟨rfl,rfl⟩
   refine zX3 ?_
   apply Yu;(iterate 3 exact rfl)
   rw[ZM,Tf (by simp[hf])]
   rw[show i=s.sch.cells.length from(by have:s.sch.cells.length=s.cells.length:=rfl;omega),show Ju s.sch s.sch.cells.length=Yqw s.sch from(by unfold Ju Yqw;rw[TL])]
theorem O4(s:SchM)(ht:TabsB B w0)(hr:Rd B w0 H s.A (s.cells.flatMap celF))(hl:s.cells.length<=1000000000000)(hw:St B w0 H w):
 CX B w0 11 [s.val] w λv K=>v=.tuple #[strV (ZM s.sch).1,.int .i64 (ZM s.sch).2]/\K=H:=
 YhC hw (Yp9 s (ht.here hw) (hr.here hw) hl (St.start w))
open Go.RowKit Go.Eng Go.Nw Go.Rt
variable {n:Net}
theorem YgR(h:Yq n=0)(a b:Int):JJ n (XG n a b)=Y5 n a b:=by
 have hok:=YT h
 unfold JJ XG
 rw[Tf (by simp[h]),Tj h,SB]
 by_cases h1:0<=YA n a b
 ·have h2:=Zl h1
  rw[Tj ⟨h1,by omega⟩,SB,Ybi hok h2]
  grind [Qu]
 simp_all [decide_eq_false,Y5]
def Yb5(n:Net)(i:Nat):Lk:=((lnk n i).1,(lnk n i).2.1,(lnk n i).2.2+1)
def ZJ(n:Net)(k:Nat):List Lk:=(List.range k).flatMap λi=>if ZU n i=true then [Yb5 n i]else []
def JO(n:Net):List Lk:=ZJ n n.links.length
variable {k:Nat}
theorem Yb6(h:ZU n k=true):ZJ n (k+1)=ZJ n k++[Yb5 n k]:=by
 grind [ZJ,RL]
theorem Yeu(h:ZU n k=false):ZJ n (k+1)=ZJ n k:=by
 grind [ZJ,RL]
theorem UO(n:Net):∀k,(ZJ n k).length<=k
 |0=>by simp[ZJ]
 |k+1=>by
  have:=UO n k
  grind [ZU,Yeu,Yb6]
theorem Yik{a:Lk}:a∈ZJ n k↔∃i,i<k/\ZU n i=true/\Yb5 n i=a:=by
 unfold ZJ
 grind
theorem Yla(h:Ok n){nodes:Nat}(hn:n.nodes=nodes):ArcsOk nodes (JO n):=by
 intro a ha
 obtain⟨i,hi,_,rfl⟩:=Yik.1 ha
 have hl:=h.lk i hi
 have h1:=hl.f0;have h2:=hl.f1;have h3:=hl.t0;have h4:=hl.t1;have h5:=hl.l0;have h6:=hl.l1
 grind [Yb5]
def offE(n:Net)(a:Int):Bool:=decide (a<0\/n.nodes<=a)
def Jk(n:Net)(s t:Int):Int:=if Yq n≠0 then 1 else if offE n s=true\/offE n t=true\/s=t then 2 else 0
def Yaw(r:List Int):Bool:=(List.range r.length).any λi=>(r.take i).contains (r.getD i 0)
def VP(n:Net)(r:List Int):Bool:=(List.range (r.length-1)).any λi=>!Y5 n (r.getD i 0) (r.getD (i+1) 0)
def Vw(n:Net)(s t:Int)(r:List Int):Int:=
 if r.length<2 then 9 else if 9<r.length then 8 else if r.any (offE n)=true then 2 else if r.getD 0 0≠s\/r.getD (r.length-1) 0≠t then 11
 else if Yaw r=true then 6 else if VP n r=true then 17 else 0
def Yfb(n:Net)(a b:Int):Int:=(lnk n (YA n a b).toNat).2.2
def UR(n:Net)(r:List Int):Nat->Int
 |0=>0
 |k+1=>UR n r k+(Yfb n (r.getD k 0) (r.getD (k+1) 0)+1)
def YoP(n:Net)(r:List Int):Int:=UR n r (r.length-1)
def YgY(n:Net)(r:List Int):Int×Int:=
 if Yq n≠0 then(0,1)else
  let e:=Vw n (r.getD 0 0) (r.getD (r.length-1) 0) r
  if e≠0 then(0,e)else(YoP n r,0)
def X6(n:Net)(s t:Int)(r:List Int):Int:=if Jk n s t≠0 then Jk n s t else Vw n s t r
theorem XU{l:List Int}{i:Nat}(h:i<l.length):l[i]? =some (l.getD i 0):=by
 simp_all
theorem YbB(h:Ok n)(a b:Int):0<=Yfb n a b/\Yfb n a b<=7:=by
 unfold Yfb
 by_cases hi:(YA n a b).toNat<n.links.length
 ·have:=h.lk _ hi
  exact⟨this.l0,this.l1⟩
 grind [lnk]
theorem YeC{n:Net}(h:Ok n)(r:List Int):∀k,0<=UR n r k/\UR n r k<=8*k
 |0=>by simp[UR]
 |k+1=>by
  have h1:=YeC h r k
  have h2:=YbB h (r.getD k 0) (r.getD (k+1) 0)
  grind [UR]
end Go.Proofs.YtjlgijpmnfabcaaGreatDoor
namespace Go.Eng
open Go.RowKit
inductive OV where
 |done
 |p1 (i:Nat) (t:OV)
 |d1 (i:Nat) (t:OV)
 |d2 (i:Nat) (t:OV) (j:Nat) (u:OV)
section
variable {P:Program}{n:Shp}{B:Nat}{w0:World}{Q:Exit->Act->World->Prop}{env:Env}{H:List HP}{ops:Array Oper}
def wpD(P:Program)(ops:Array Oper)(K:Act->World->Prop)(o:Oper)(a:Act)(w:World):Prop:=
 if Region.wanted o (yielded ops a.tmps)then o.wp P a w K (λ_ _ _=>False)else K (a.put o.dst undef) w
def Za(P:Program)(ops:Array Oper)(l:List Oper)(Q:Exit->Act->World->Prop)(S:World->Prop):OV->Act->World->Prop
 |.done,a,w=>Q .normal a w
 |.p1 i t,a,w=>Yw P ops (λe a w=>match e with|.normal=>S w/\Za P ops l Q S t a w|_=>False) S [nthO l i] a w
 |.d1 i t,a,w=>wpD P ops (λa w=>S w/\Za P ops l Q S t a w) (nthO l i) a w
 |.d2 i t j u,a,w=>wpD P ops (λa w=>S w/\Za P ops l Q S t a w) (nthO l i) a w/\wpD P ops (λa w=>S w/\Za P ops l Q S u a w) (nthO l j) a w
def Wc(ops:Array Oper)(last:List Nat):OV->Array Bool->Nat->Bool
 |.done,listed,0=>J0 ops last listed
 |.done,_,_+1=>false
 |.p1 i t,listed,k+1=>!last.contains i&&(match ops[i]? with
  |some o=>!eff o&&((Region.ready .any ops listed).contains i&&Region.free .any ops listed i)
  |none=>false)&&Wc ops last t (listed.setIfInBounds i true) k
 |.d1 i t,listed,k+1=>!last.contains i&&(ops[i]?).isSome&&decide (Region.ready .any ops listed=[i])&&Wc ops last t (listed.setIfInBounds i true) k
 |.d2 i t j u,listed,k+1=>!last.contains i&&!last.contains j&&(ops[i]?).isSome&&(ops[j]?).isSome&&((Region.ready .any ops listed).all λx=>x==i||x==j)&&!(Region.ready .any ops listed).isEmpty&&Wc ops last t (listed.setIfInBounds i true) k&&Wc ops last u (listed.setIfInBounds j true) k
 |.p1 _ _,_,0=>false
 |.d1 _ _,_,0=>false
 |.d2 _ _ _ _,_,0=>false
variable {i:Nat}{o:Oper}{a:Act}{w:World}
theorem Ycm{S:World->Prop}{K:Act->World->Prop}{last:List Nat}{k:Nat}{listed:Array Bool}(ho:ops[i]? =some o)
 (h:wpD P ops K o a w) (hk:∀a w,K a w->S w/\XY P ops Q S last k (listed.setIfInBounds i true) a w):
 wpOp P ops Q i (λa' w'=>(last.contains i=false->S w')/\XY P ops Q S last k (listed.setIfInBounds i true) a' w') a w:=by
 unfold wpD at h
 unfold wpOp
 simp only[ho]
 by_cases hw:Region.wanted o (yielded ops a.tmps)=true
 ·rw[Tm hw]at h⊢
  exact .inl (Oper.wp_mono_noQ (λ_ _ _ h=>h) zc45 (Oper.wp_mono (λa' w' h'=>⟨λ_=>(hk a' w' h').1,(hk a' w' h').2⟩) h))
 grind
theorem JV{S:World->Prop}{last:List Nat}(hs:Region.noSelect ops=true)(hQ:∀c (a:Act) (w:World),¬Q (.panic c) a w)(hlo:¬LetsOut Q)(l:List Oper)(hl:ops=l.toArray)(hlast:Yc3 ops last=true):
 ∀(t:OV) (k:Nat) (listed:Array Bool) (a:Act) (w:World),Closed ops listed->Wc ops last t listed k=true->S w->Za P ops l (Z4 P ops Q (Ye l last)) S t a w->
  XY P ops Q S last (k+last.length) listed a w
 |.done,0,listed,a,w,_,hB,_,h=>by
  exact YtR
 |.done,_+1,_,_,_,_,hB,_,_=>by cases hB
 |.p1 _ _,0,_,_,_,_,hB,_,_=>by cases hB
 |.d1 _ _,0,_,_,_,_,hB,_,_=>by cases hB
 |.d2 _ _ _ _,0,_,_,_,_,hB,_,_=>by cases hB
 |.p1 i t,k+1,listed,a,w,hcl,hB,hS,h=>by
  simp only[Wc,To]at hB
  obtain⟨⟨h0,h1⟩,h2⟩:=hB
  have hno:last.contains i=false:=by simp_all
  cases ho:ops[i]? with
  |none=>simp_all
  |some o=>
   rw[ho]at h1
   have hget:=Xs hl ho
   unfold Za at h
   rw[hget]at h
   rw[Sv]
   simp only[To,RX]at h1
   obtain⟨he,h3,h4⟩:=h1
   unfold Yw at h
   rw[Tf (by simp_all)]at h
   obtain⟨v,hy,h5⟩:=h
   have hr:i∈Region.ready .any ops listed:=by simp_all
   exact Jy ho (Region.noSelect_spec hs) hQ ((Vy hlast).2 i o ho he hno) hno _ listed a w hcl (Region.free_spec ho h4) hr hy hS (JV hs hQ hlo l hl hlast t k _ _ w (hcl.set hr) h2 hS h5.2)
 |.d1 i t,k+1,listed,a,w,hcl,hB,hS,h=>by
  simp only[Wc,To,Tq]at hB
  obtain⟨⟨⟨h0,h1⟩,h3⟩,h2⟩:=hB
  obtain⟨o,ho⟩:=Sr.1 h1
  unfold Za at h
  rw[Xs hl ho]at h
  rw[Sv]
  refine⟨λh0=>(by simp_all),λj hj=>?_⟩
  have hj':=hj
  rw[h3]at hj
  obtain rfl:j=i:=by simp_all
  exact Ycm ho h λa w ⟨hS',h'⟩=>⟨hS',JV hs hQ hlo l hl hlast t k _ a w (hcl.set hj') h2 hS' h'⟩
 |.d2 i t j u,k+1,listed,a,w,hcl,hB,hS,h=>by
  simp only[Wc,To]at hB
  obtain⟨⟨⟨⟨⟨⟨⟨b1,b2⟩,b3⟩,b4⟩,b5⟩,b6⟩,b7⟩,b8⟩:=hB
  obtain⟨o,ho⟩:=Sr.1 b3
  obtain⟨o',ho'⟩:=Sr.1 b4
  unfold Za at h
  rw[Xs hl ho,Xs hl ho']at h
  rw[Sv]
  refine⟨λh0=>(by simp_all),λx hx=>?_⟩
  have h5:=Ri.1 b5 x hx
  simp only[RJ,NQ]at h5
  rcases h5 with rfl|rfl
  ·exact Ycm ho h.1 λa w ⟨hS',h'⟩=>⟨hS',JV hs hQ hlo l hl hlast t k _ a w (hcl.set hx) b7 hS' h'⟩
  ·exact Ycm ho' h.2 λa w ⟨hS',h'⟩=>⟨hS',JV hs hQ hlo l hl hlast u k _ a w (hcl.set hx) b8 hS' h'⟩
structure VV(P:Program)(n:Shp)(B:Nat)(w0:World)(ops:Array Oper)(l:List Oper)(Q:Exit->Act->World->Prop)(t:OV)(env:Env)(H F:List HP):Prop where
 run:∀a,Fits n a env->∀w,St B w0 (H++F) w->Za P ops l Q (St B w0 H) t a w
def UI(P:Program)(B:Nat)(w0:World)(ops:Array Oper)(l:List Oper)(Q:Exit->Act->World->Prop)(Hc:List HP)(t:OV):Exit->Act->World->Prop
 |.normal,a,w=>St B w0 Hc w/\Za P ops l Q (St B w0 Hc) t a w
 |_,_,_=>False
variable {l:List Oper}{t:OV}
theorem YnY:UI P B w0 ops l Q H t=λe a w=>match e with|.normal=>St B w0 H w/\Za P ops l Q (St B w0 H) t a w|_=>False:=by
 funext e a w
 cases e<;>rfl
theorem YkR(h:wpList P ops (UI P B w0 ops l Q H t) [o] a w):wpD P ops (λa w=>St B w0 H w/\Za P ops l Q (St B w0 H) t a w) o a w:=by
 have hno:¬LetsOut (UI P B w0 ops l Q H t):=zc45
 unfold wpList at h
 unfold wpD
 by_cases hw:Region.wanted o (yielded ops a.tmps)=true
 ·rw[Tm hw]at h⊢
  rcases h with h|⟨_,h⟩
  ·exact Oper.wp_mono_noQ (λ_ _ _ h=>h) hno (Oper.wp_mono (λa' w' h'=>h') h)
  simp_all
 ·rw[Tf hw]at h⊢
  exact h
variable {F HF Hc:List HP}
theorem Yrk(happ:App H F HF)(h:VQ n B w0 Q .normal env HF):VV P n B w0 ops l Q .done env H F:=
 ⟨λa ha w hw=>by exact Yl6⟩
theorem Yk8(ho:nthO l i=o)(h:VL P (some (some F)) n B w0 ops (UI P B w0 ops l Q H t) [o] env H):VV P n B w0 ops l Q (.p1 i t) env H F:=by
 refine⟨λa ha w hw=>?_⟩
 have h1:Yw P ops (UI P B w0 ops l Q H t) (St B w0 H) [o] a w:=h.run a ha w hw
 grind [Za,YnY]
theorem Yk6(ho:nthO l i=o)(happ:App H F HF)(h:VL P none n B w0 ops (UI P B w0 ops l Q H t) [o] env HF):VV P n B w0 ops l Q (.d1 i t) env H F:=by
 refine⟨λa ha w hw=>?_⟩
 unfold Za
 rw[ho]
 rw[<-Q5 happ]at hw
 exact YkR (h.run a ha w hw)
theorem Yk7{j:Nat}{u:OV}{o':Oper}(ho:nthO l i=o)(ho':nthO l j=o')(happ:App H F HF)(h:VL P none n B w0 ops (UI P B w0 ops l Q H t) [o] env HF)
 (h':VL P none n B w0 ops (UI P B w0 ops l Q H u) [o'] env HF):VV P n B w0 ops l Q (.d2 i t j u) env H F:=by
 refine⟨λa ha w hw=>?_⟩
 unfold Za
 rw[ho,ho']
 rw[<-Q5 happ]at hw
 exact⟨YkR (h.run a ha w hw),YkR (h'.run a ha w hw)⟩
theorem Qe{H':List HP}(hp:Pull Hc H' F)(h:VV P n B w0 ops l Q t env Hc F):VQ n B w0 (UI P B w0 ops l Q Hc t) .normal env H':=
 ⟨λa w ha hw=>⟨(hw.perm hp).prefix_,h.run a ha w (hw.perm hp)⟩⟩
theorem Qa{id:Nat}(t:OV)(last:List Nat)(mask:List Bool)(hm:P.follows .mixedOrders=true)
 (hB:(Region.noSelect l.toArray&&decide (last.length<=l.toArray.size)&&Yc3 l.toArray last&&Wc l.toArray last t (Array.replicate l.toArray.size false) (l.toArray.size-last.length))=true)
 (hsp:Split mask H Hc F) {l2:List Oper}(hl2:Ye l last=l2) (h:VV P n B w0 l.toArray l (Z4 P l.toArray (Only Q) l2) t env Hc F):VC P n B w0 (.region id l.toArray true) Q env H:=by
 simp only[To,Tq]at hB
 obtain⟨⟨⟨h1,h2⟩,h3⟩,h5⟩:=hB
 refine⟨λa w ha hw=>ZQ (Q:=Only Q) ?_ λe a w h=>by exact zc62⟩
 have hst:St B w0 (Hc++F) w.drew:=(hw.perm (XC hsp)).drew
 have hr:=h.run a ha w.drew hst
 rw[<-hl2]at hr
 have:=JV (S:=St B w0 Hc) h1 (λc a w h=>h) zc45 l rfl h3 t _ _ a w.drew (XK _ _) h5 hst.prefix_ hr
 exact YqU
end
end Go.Eng
namespace Go.Proofs.YtjlgijpmnfabcaaGreatDoor
open Go.RowKit Go.Eng Go.Nw
variable {l:List Flw}
theorem Ypj{id:Int}(h:0<=ZG l id):∃f∈l,f.1=id:=by
 have:=(V1 (λf:Flw=>decide (f.1=id)) l 0 (RB _)).1 h
 simp_all
theorem YeV{nodes:Int}(h:(Yx nodes l).2=0):∀f∈l,0<=f.1/\f.1<=255/\1<=f.2.2.2.1/\f.2.2.2.1<=512:=by
 intro f hf
 obtain⟨i,hi⟩:=TN.1 hf
 have hl:=(Tc.1 hi).1
 unfold Yx at h
 split at h
 ·cases h
 split at h
 ·cases h
 have:=YF.1 h i (Ti _) (by omega)
 unfold Xj at this
 have e:Y1 l i=f:=by grind [Y1]
 split at this
 ·omega
 ·grind [YX]
structure Val(n:Net)(l:List Flw)(s:Sch):Prop where
 whole:XW n l s=0
 cells:(JE n l s).2=0
 twice:(VH s).2=0
 dist:(YeE n s).2=0
variable {n:Net}{s:Sch}
theorem Vg:(schE n l s).2=0↔Val n l s:=by
 unfold schE
 by_cases h1:XW n l s≠0
 ·rw[Tm h1]
  exact⟨λh=>absurd h h1,λh=>absurd h.whole h1⟩
 rw[Tf h1]
 by_cases h2:(JE n l s).2≠0
 ·rw[Tm h2]
  exact⟨λh=>absurd h h2,λh=>absurd h.cells h2⟩
 rw[Tf h2]
 by_cases h3:(VH s).2≠0
 ·rw[Tm h3]
  exact⟨λh=>absurd h h3,λh=>absurd h.twice h3⟩
 rw[Tf h3]
 exact⟨λh=>⟨T8.1 h1,T8.1 h2,T8.1 h3,h⟩,λh=>h.dist⟩
theorem JW(h:XW n l s=0):Yq n=0/\(Yx n.nodes l).2=0/\Zs s=true/\(∀f∈l,s.len.tmod f.2.2.2.1=0)/\s.cells.length<=512:=by
 unfold XW at h
 grind
theorem Val.frm(h:Val n l s):Frm s:=by
 obtain⟨h1,h2,h3,h4,h5⟩:=JW h.whole
 have hok:=YT h1
 have k1:=YF.1 h.cells
 have hids:=YeV h2
 have hn:=hok.n1
 have hcell:∀i,i<s.cells.length->ZC s (Ym s i)=true/\Y5 n (Yr (Ym s i)) (toC (Ym s i))=true/\0<=ZG l (Xr (Ym s i))/\(0<i->Xw (Ym s (i-1)) (Ym s i)=true):=λi hi=>by
  have:=k1 i (Ti _) (by omega)
  unfold VR at this
  grind
 refine⟨h3,h5,λc hc=>?_,?_⟩
 ·obtain⟨i,hi⟩:=TN.1 hc
  obtain⟨a1,a2,a3,_⟩:=hcell i (Tc.1 hi).1
  rw[XR hi]at a1 a2 a3
  have hg:=Xu hok a2
  obtain⟨f,hf,hfe⟩:=Ypj a3
  grind [Yr,toC,Xr,ZA,insE]
 ·refine QM (lt:=Xw) (λh1 h2=>Uj h1 h2) λi a b ha hb=>?_
  grind [XR]
open Go.RowKit Go.Eng Go.Nw Go.Rt
abbrev Jg(A:Option Addr)(cap:Nat)(l:List Lk):HP:=sl 383 3 A l.length cap (l.flatMap lkF)
theorem YmE(A:Option Addr)(cap:Nat)(l:List Lk)(a:Lk):sl 383 3 A (l.length+1) cap (l.flatMap lkF++#[Value.int .i64 a.1,.int .i64 a.2.1,.int .i64 a.2.2].toList)=Jg A cap (l++[a]):=by simp[Jg,List.flatMap_append,lkF]
theorem Yev(n:NetM){B:Nat}{w0:World}{H:List HP}{w:World}(hin:n.In B w0 H)(hck:Yq n.net=0)(hw:St B w0 H w):
 CX B w0 342 [n.val] w λv K=>∃A cap,v=.slice A (JO n.net).length cap/\K=Jg A cap (JO n.net)::H:=by
 have hok:=YT hck
 obtain⟨hpw,hrw,hlk,hmg,hs1,hs2,hs3,hs4⟩:=id hin
 have hk0:n.links.length<=128:=hok.k0
 refine Ya Tryz.func342 Tryz.ntmps342 rfl rfl hw ?_
 (apply Y7;apply YM;apply YO;exact rfl;exact rfl;intro g)
 refine zX7 ?_
 refine Yod (λ(k:Nat) (A:Option Addr) (cap:Nat)=>[(9,.int .i64 k),(8,.int .i64 n.links.length),(7,.slice n.lA n.links.length n.lcap),(3,.slice A (ZJ n.net k).length cap),(1,.pointer (some ⟨g,0,none⟩))])
  (λk A cap=>Jg A cap (ZJ n.net k)::netB g n::H) (λk _ _=>k<=n.links.length) (λk _ _=>n.links.length-k) 0 none 0 (Ti _) ?_ (λw hw=>hw.nilSlice _ _) ?_
 ·exact zc1
 rintro k A cap hk K hK
 have hal:=UO n.net k
 by_cases hlt:k<n.links.length
 ·have hlx:n.links[k]? =some (lnk n.net k):=QH n.net hlt
  have hus:JJ n.net (k:Int)=ZU n.net k:=by
   unfold JJ
   have e7:n.net.links=n.links:=rfl
   rw[Tj hck,e7,Tj (by omega)]
   rfl
  have hl:=hok.lk k hlt
  have h5:=hl.l0
  have h6:=hl.l1
  have hU:=λ{H:List HP}{w:World}(hin:n.In B w0 H) (hw:St B w0 H w)=>VM n (k:Int) hin hw
  rw[hus]at hU
  cases hu:ZU n.net k
  ·rw[hu]at hU
   have e2:=Yeu hu
   repeat'(first|((first|apply Yb J4|apply Yc J4);exact za;exact rfl;exactλ_ hw=>(hU (((hin.cons).cons).cons) hw))|refine zgd ?_|(refine zge ?_ ?_<;>intro _<;>try exact zo)|(refine zgh ?_;intro _)|fail)
   apply hK (k+1) A cap
   ·omega
   ·omega
   ·rw[e2];exact zc1
   ·rw[e2];exact zc59
  ·rw[hu]at hU
   have e2:=Yb6 hu
   repeat'(first|((first|apply Yb J4|apply Yc J4);exact za;exact rfl;exactλ_ hw=>(hU (((hin.cons).cons).cons) hw))|refine zgd ?_|(refine zge ?_ ?_<;>intro _<;>try exact zo)|(refine zgh ?_;intro _)|(refine zgi ?_;intro _ _)|fail)
   rename_i A3 cap3
   apply hK (k+1) A3 cap3
   ·omega
   ·omega
   ·rw[e2,Tt,TO];exact zc1
   ·rw[e2,show Jg A3 cap3 (ZJ n.net k++[Yb5 n.net k])=sl 383 3 A3 ((ZJ n.net k).length+1) cap3 ((ZJ n.net k).flatMap lkF++#[Value.int .i64 (lnk n.net k).1,Value.int .i64 (lnk n.net k).2.1,Value.int .i64 ((lnk n.net k).2.2+1)].toList) from(YmE A3 cap3 _ (Yb5 n.net k)).symm]
    exact zc0
 ·obtain rfl:k=n.links.length:=by omega
  clear hK
  refine zX1 ?_<;>intros
  apply Yh (Jg A cap (JO n.net)::H)
  ·exactλw hw=>(hw.perm (.cons _ (.drop _ _)))
  exact Yut
def cpN(n:Net)(node:Int)(d:Cel):Int:=powN n (Yr d) node+powN n (toC d) node
def sumC(n:Net)(node:Int)(l:List Cel):Int:=(l.map (cpN n node)).sum
theorem YiW(n:Net)(node:Int):sumC n node []=0:=rfl
theorem Zf(n:Net)(node:Int)(d:Cel)(l:List Cel):sumC n node (d::l)=cpN n node d+sumC n node l:=by grind [sumC]
theorem Ybg(n:Net)(node:Int):∀l m:List Cel,sumC n node (l++m)=sumC n node l+sumC n node m
 |[],m=>by grind [YiW]
 |d::l,m=>by rw[TB,Zf,Zf,Ybg n node l m];omega
variable {n:Net}
theorem Yqr(h:Ok n)(node:Int){l m:List Cel}(hs:l.Sublist m):sumC n node l<=sumC n node m:=by
 induction hs with
 |slnil=>omega
 |@cons l m d _ ih=>
  rw[Zf]
  have h1:=U3 h (Yr d) node
  have h2:=U3 h (toC d) node
  grind [cpN]
 |cons_cons d _ ih=>simp_all [Zf]
theorem Ycq{n:Net}{l:List Cel}(hnd:l.Nodup){j:Nat}{c:Cel}(hj:l[j]? =some c)(node:Int):∀k,k<=l.length->YD n l j node k=sumC n node ((l.take k).filter λd=>decide (d≠c))
 |0,_=>rfl
 |k+1,hk=>by
  obtain⟨d,hd⟩:∃d,l[k]? =some d:=⟨_,Ta hk⟩
  have hc:celL l k=d:=by grind [celL]
  unfold YD
  rw[Ycq hnd hj node k (by omega),TF,hd,SI,Ybg,hc]
  by_cases e:k=j
  ·simp_all [sumC]
  ·have hne:d≠c:=by grind [TG]
   simp_all [Zf,YiW,cpN]
def Uq(n:Net)(l:List Cel)(c:Cel)(node:Int):Int:=sumC n node (l.filter λd=>Zh c d&&decide (d≠c))
def Vt(n:Net)(l:List Cel)(c:Cel):Bool:=ZK n (mar n (YA n (Yr c) (toC c)).toNat) (Uq n l c (toC c))&&ZK n (mar n (YA n (toC c) (Yr c)).toNat) (Uq n l c (Yr c))
variable {s:Sch}
theorem Yco(hck:Yq n=0)(hf:Fine n s)(ho:Ord s.cells){i:Nat}(hi:i<s.cells.length):ZO n s i=!(Vt n s.cells (Ym s i)):=by
 rw[YoW hck hf hi]
 have hnd:=Yfj ho
 have hat:=YdC hi
 have hsub:(YL s i).Sublist s.cells:=NH
 have hnds:=hnd.sublist hsub
 have hc:celL (YL s i) (YS s i)=Ym s i:=by grind [celL]
 have hd:∀node,YD n (YL s i) (YS s i) node (YL s i).length=Uq n s.cells (Ym s i) node:=by simp_all [Ycq,Uq,YL,Bool.and_comm]
 have hg:=hf.good _ (JD hi)
 have hto:((List.range (YL s i).length).any λk=>decide (k≠YS s i)&&YI (celL (YL s i) (YS s i)) (celL (YL s i) k))=false:=by
  have hpw:(YL s i).Pairwise λa b=>YI a b=false:=zc33
  rw[RY]
  intro k hk
  have hk:=Ru.1 hk
  by_cases e:k=YS s i
  ·simp_all
  ·have hpk:=TG.1 hpw
   have e1:celL (YL s i) k=(YL s i)[k]:=by grind [celL]
   grind [JI]
 grind [YgB,Vt]
structure Sem(n:Net)(l:List Flw)(s:Sch):Prop where
 ck:Yq n=0
 fl:(Yx n.nodes l).2=0
 per:∀f∈l,s.len.tmod f.2.2.2.1=0
 frm:Frm s
 good:∀c∈s.cells,Y5 n (Yr c) (toC c)=true/\0<=ZG l (Xr c)
 once:s.cells.Pairwise λa b=>a.1=b.1->YI a b=false
 clear:∀c∈s.cells,Vt n s.cells c=true
variable {l:List Flw}
theorem YkQ(h1:Yq n=0)(h2:(Yx n.nodes l).2=0)(h3:Zs s=true)(h4:∀f∈l,s.len.tmod f.2.2.2.1=0)(h5:s.cells.length<=512):XW n l s=0:=by
 unfold XW
 grind
theorem YjH(hf:Frm s)(hg:∀c∈s.cells,Y5 n (Yr c) (toC c)=true/\0<=ZG l (Xr c)):(JE n l s).2=0:=by
 refine YF.2 λk _ hk=>?_
 have hk:k<s.cells.length:=by omega
 have hm:=JD hk
 have hfo:=hf.formed _ hm
 unfold ZA at hfo
 simp only[To]at hfo
 obtain⟨g1,g2⟩:=hg _ hm
 unfold VR
 rw[hfo.1.1.1,Tf (by decide),g1,Tf (by simp_all),Tf]
 rintro⟨h1,h2⟩
 have:=YfX (Ri.2 λi hi=>by
  have h:=Jl.2 hf
  unfold Xh at h
  simp only[To]at h
  exact Ri.1 h.2 i hi) hk
 simp_all [J2]
theorem YkP(h:s.cells.Pairwise λa b=>a.1=b.1->YI a b=false):(VH s).2=0:=by
 refine YF.2 λk _ hk=>?_
 have hk:k<s.cells.length:=by omega
 have hb:Z2 s k=false:=by
  unfold Z2
  rw[RY]
  intro i hi
  have hi:=Ru.1 hi
  have e1:Ym s i=s.cells[i]'(by omega):=XR (Ta _)
  have e2:Ym s k=s.cells[k]:=XR (Ta hk)
  have:=TG.1 h i k (by omega) hk hi
  simp_all [JI]
 simp_all
theorem YgS:Val n l s↔Sem n l s:=by
 constructor
 ·intro h
  obtain⟨h1,h2,h3,h4,h5⟩:=JW h.whole
  have hf:=h.frm
  have hfine:=Yry h.cells h.twice
  have k1:=YF.1 h.cells
  have k3:=YF.1 h.dist
  refine⟨h1,h2,h4,hf,λc hc=>⟨hfine.good c hc,?_⟩,hfine.once,λc hc=>?_⟩
  ·obtain⟨i,hi⟩:=TN.1 hc
   grind [VR,XR]
  ·obtain⟨i,hi⟩:=TN.1 hc
   have hl:=(Tc.1 hi).1
   have:=k3 i (Ti _) (by omega)
   simp_all [Yco,Go.Proofs.YtjlgijpmnfabcaaGreatDoor.Frm.ord,XR]
 ·intro h
  refine⟨YkQ h.ck h.fl h.frm.sized h.per h.frm.few,YjH h.frm h.good,YkP h.once,YF.2 λk _ hk=>?_⟩
  have hk:k<s.cells.length:=by omega
  simp only[Yco h.ck ⟨λc hc=>(h.good c hc).1,h.once⟩ h.frm.ord hk,h.clear _ (JD hk)]
  rfl
theorem YcT(h:Ok n){s d e:Int}(he:e<=d)(hd:ZK n s d=true):ZK n s e=true:=by
 unfold ZK at hd⊢
 have h2:=h.t0
 have h3:n.thr*(n.noise+e)<=n.thr*(n.noise+d):=RH (by omega) (by omega)
 grind
theorem Sem.sub{t:Sch}(h:Sem n l s)(h1:t.len=s.len)(h2:t.off=s.off)(hs:t.cells.Sublist s.cells):Sem n l t:=by
 have hok:=YT h.ck
 have hlen:=hs.length_le
 have hfew:=h.frm.few
 refine⟨h.ck,h.fl,by rw[h1];exact h.per,⟨?_,by omega,λc hc=>?_,h.frm.ord.sublist hs⟩,λc hc=>h.good c (hs.subset hc),h.once.sublist hs,λc hc=>?_⟩
 ·have:=h.frm.sized
  grind [Zs]
 ·have:=h.frm.formed c (hs.subset hc)
  grind [ZA,ZC]
 ·have:=h.clear c (hs.subset hc)
  unfold Vt at this⊢
  simp only[To]at this⊢
  have hd:∀node,Uq n t.cells c node<=Uq n s.cells c node:=λnode=>Yqr hok node (hs.filter _)
  exact⟨YcT hok (hd _) this.1,YcT hok (hd _) this.2⟩
variable {B:Nat}{w0 w:World}{H:List HP}
theorem Vh(n:NetM)(s t:Int)(hin:n.In B w0 H)(hw:St B w0 H w):
 CX B w0 339 [n.val,.int .i64 s,.int .i64 t] w λv K=>v=.int .i64 (Jk n.net s t)/\K=H:=by
 refine Ya Tryz.func339 Tryz.ntmps339 rfl rfl hw ?_
 have e7:n.net.nodes=n.nodes:=rfl
 unfold Jk offE
 rw[e7]
 by_cases h0:Yq n.net=0
 rotate_left
 ·rw[Tm h0]
  refine zX49 ?_<;>intros
  all_goals((repeat apply Yl);exact zc7)
 rw[Tf (λh=>h h0)]
 have hck:=λ{H:List HP}{w:World}(hin:n.In B w0 H) (hw:St B w0 H w)=>YY n hin hw
 rw[h0]at hck
 simp only[Tq]
 by_cases h1:(s<0\/n.nodes<=s)\/(t<0\/n.nodes<=t)\/s=t
 ·rw[Tm h1]
  repeat'(first|((first|apply Yb en68|apply Yc en68);exact za;exact rfl;exactλ_ hw=>(hck hin.cons hw))|refine zgc ?_|(refine zgf ?_ ?_<;>intro _<;>try exact zo)|(refine zgh ?_;intro _)|fail)
  all_goals((repeat apply Yl);apply Yd;exact rfl;exact rfl;exact⟨rfl,rfl⟩)
 ·rw[Tf h1]
  repeat'(first|((first|apply Yb en68|apply Yc en68);exact za;exact rfl;exactλ_ hw=>(hck hin.cons hw))|refine zgc ?_|(refine zgf ?_ ?_<;>intro _<;>try exact zo)|(refine zgh ?_;intro _)|fail)
  all_goals((repeat apply Yl);apply Yd;exact rfl;exact rfl;exact⟨rfl,rfl⟩)
theorem U8(k:Nat){A:Option Addr}{cap:Nat}(hk:k<=9223372036854775807)(hw:St B w0 H w):
 CX B w0 341 [.slice A k cap] w λv K=>v=.int .i64 (if 9<k then 21 else 0)/\K=H:=by
 refine Ya Tryz.func341 Tryz.ntmps341 rfl rfl hw ?_
 by_cases h:9<k
 ·rw[Tm h]
  refine zX5 ?_<;>intros
  exact zc22
 ·rw[Tf h]
  refine zX5 ?_<;>intros
  exact zc22
theorem YhQ(n:NetM)(a:Int)(g:Nat)(hm:netB g n∈H)(hw:St B w0 H w):
 CX B w0 278 [.int .i64 a,.pointer (some ⟨g,0,none⟩)] w λv K=>v=.bool (offE n.net a)/\K=H:=by
 refine Ya Tryz.func278 Tryz.ntmps278 rfl rfl hw ?_
 have e7:n.net.nodes=n.nodes:=rfl
 unfold offE
 rw[e7]
 by_cases h:a<0\/n.nodes<=a
 ·rw[Tj h]
  repeat'(first|refine zgc ?_|(refine zgf ?_ ?_<;>intro _<;>try exact zo)|fail)
  all_goals(apply Yd;exact rfl;exact rfl;simp_all)
 ·rw[Tu h]
  repeat'(first|refine zgc ?_|(refine zgf ?_ ?_<;>intro _<;>try exact zo)|fail)
  all_goals(apply Yd;exact rfl;exact rfl;exact⟨rfl,rfl⟩)
def OutS(H:List HP)(R:Sch×Int)(v:Value)(K:List HP):Prop:=∃A cap,v=.tuple #[.agg #[.int .i64 R.1.len,.int .i64 R.1.off,.slice A R.1.cells.length cap],.int .i64 R.2]/\K=cels A cap R.1.cells::H
variable {H:List HP}
theorem Ol{R:Sch×Int}{v:Value}(e:Int)(hR:R=(JX,e))(hv:v=.tuple #[.agg #[.int .i64 0,.int .i64 0,.slice none 0 0],.int .i64 e]):OutS H R v (cels none 0 []::H):=⟨none,0,by rw[hR];exact hv,by rw[hR];rfl⟩
theorem VS(l:List Cel)(hlen:l.length<=1000000){A:Option Addr}{cap B:Nat}{w0:World}{w:World}(hr:Rd B w0 H A (l.flatMap celF))(hw:St B w0 H w):
 CX B w0 177 [.slice A l.length cap] w λv K=>∃A' cap',v=.slice A' l.length cap'/\K=cels A' cap' l::H:=by
 cases A with
 |none=>
  have hl:l=[]:=by
   cases l with
   |nil=>rfl
   |cons x l=>
    exact zc30
  subst hl
  refine Ya Tryz.func177 Tryz.ntmps177 rfl rfl hw ?_
  refine zX6 ?_
  apply Xg 48 5;exact zc38
 |some a=>
  refine Ya Tryz.func177 Tryz.ntmps177 rfl rfl hw ?_
  repeat'(first|(apply Zc;(iterate 3 exact rfl))|(apply XA T;exact rfl;exact rfl;intro g2)|refine zga ?_|fail)
  apply Xn T (f:=celF) (l2:=l) (e:=48) (size:=5) (xs:=[]);(iterate 3 exact rfl);exact hr.cons;exact(λ_=>rfl);exact(λ_=>rfl);exact rfl;(intro _ _;exact zd);omega;intro A' cap'
  exact zc63
variable {A:Option Addr}{cap B:Nat}{w0 w:World}{H:List HP}
theorem Yh8(l:List Int)(v:Int)(hlen:l.length<=9223372036854775807)(hr:Rd B w0 H A (l.flatMap numF))(hw:St B w0 H w):
 CX B w0 361 [.slice A l.length cap,.int .i64 v] w λu K=>u=.int .i64 (Yp (λx=>decide (v=x)) l 0)/\K=H:=by
 refine Ya Tryz.func361 Tryz.ntmps361 rfl rfl hw ?_
 refine zX7 ?_
 refine Yi (λ(k:Nat)=>[(8,.int .i64 k),(7,.int .i64 l.length),(0,.slice A l.length cap),(1,.int .i64 v)]) (λ_=>H) (λk=>k<=l.length/\Yp (λx=>decide (v=x)) l 0=Yp (λx=>decide (v=x)) (l.drop k) k) (λk=>l.length-k) 0 ⟨Ti _,by simp⟩ ?_ (λw hw=>hw) ?_
 ·exact zc1
 rintro k ⟨hk,hi⟩ K hK
 by_cases hlt:k<l.length
 ·obtain⟨a,ha⟩:∃a,l[k]? =some a:=⟨_,Ta hlt⟩
  rw[JR _ l ha]at hi
  repeat'(first|refine zgd ?_|(refine zgf ?_ ?_<;>intro _<;>try exact zo)|fail)
  ·rename_i h
   rw[Tm (Tj h)]at hi
   exact YtV
  ·rename_i h
   rw[Tf (by simp[h])]at hi
   repeat'(first|fail)
   apply hK (k+1)
   ·grind
   ·omega
   ·exact zc1
   exact zc21
 ·refine zX1 ?_<;>intros
  exact zc91
theorem Jj(l:List Int)(v:Int)(hlen:l.length<=9223372036854775807)(hr:Rd B w0 H A (l.flatMap numF))(hw:St B w0 H w):
 CX B w0 279 [.slice A l.length cap,.int .i64 v] w λu K=>u=.bool (decide (v∈l))/\K=H:=by
 refine Ya Tryz.func279 Tryz.ntmps279 rfl rfl hw ?_
 have hia:=V1 (λx=>decide (v=x)) l 0 (by omega)
 have hmm:l.any (λx=>decide (v=x))=true↔v∈l:=by simp[List.any_eq_true]
 repeat'(first|((first|apply Yb Ytd|apply Yc Ytd);exact za;exact rfl;exactλ_ hw=>(Yh8 l v hlen hr hw))|refine zga ?_|(refine zgf ?_ ?_<;>intro _<;>try exact zo)|fail)
 all_goals(apply Yd;exact rfl;exact rfl)
 ·rename_i h;exact⟨by rw[Tj (hmm.1 (hia.1 h))],rfl⟩
 ·rename_i h
  exact⟨by rw[Tu λe=>by have:=hia.2 (hmm.2 e);omega],rfl⟩
theorem YaP(l m:List Int)(hlen:l.length<=9223372036854775807)(_hlen2:m.length<=9223372036854775807){A2:Option Addr}{cap2:Nat}(hr:Rd B w0 H A (l.flatMap numF))(hr2:Rd B w0 H A2 (m.flatMap numF))(hw:St B w0 H w):
 CX B w0 193 [.slice A l.length cap,.slice A2 m.length cap2] w λu K=>u=.bool (decide (l=m))/\K=H:=by
 refine Ya Tryz.func193 Tryz.ntmps193 rfl rfl hw ?_
 by_cases hll:l.length=m.length
 rotate_left
 ·exact zc16
 refine zX5 ?_<;>intros
 refine Yi (λ(k:Nat)=>[(13,.int .i64 k),(12,.int .i64 l.length),(0,.slice A l.length cap),(1,.slice A2 m.length cap2)]) (λ_=>H) (λk=>k<=l.length/\l.take k=m.take k) (λk=>l.length-k) 0 ⟨Ti _,by simp⟩ ?_ (λw hw=>hw) ?_
 ·exact zc1
 rintro k ⟨hk,hi⟩ K hK
 by_cases hlt:k<l.length
 ·obtain⟨a,ha⟩:∃a,l[k]? =some a:=⟨_,Ta hlt⟩
  obtain⟨b,hb⟩:∃b,m[k]? =some b:=⟨_,Ta (by omega)⟩
  repeat'(first|refine zgd ?_|(refine zge ?_ ?_<;>intro _<;>try exact zo)|fail)
  ·exact zc58
  ·rename_i h
   apply hK (k+1)
   ·exact⟨by omega,by simp_all [YfB]⟩
   ·omega
   ·exact zc1
   exact zc21
 exact zc8
theorem YcV{α:Type}(p:α->Bool):∀(l:List α) (k:Int),(l.filter (λa=>!p a)=l/\Yp p l k= -1)\/∃j,j<l.length/\Yp p l k=k+j/\(l.take j).filter (λa=>!p a)=l.take j/\∃a,l[j]? =some a/\p a=true
 |[],_=>.inl ⟨rfl,rfl⟩
 |a::l,k=>by
  unfold Yp
  cases h:p a with
  |true=>exact .inr ⟨0,by simp,by simp,rfl,a,rfl,h⟩
  |false=>
   rw[Tf (by decide)]
   have hn:(!p a)=true:=by simp_all
   rcases YcV p l (k+1)with⟨h1,h2⟩|⟨j,h1,h2,h3,b,h4,h5⟩
   ·simp_all
   exact Yuh
variable {A:Option Addr}{cap B:Nat}{w0 w:World}{H:List HP}
theorem YcZ(p:Cel->Bool)(l:List Cel)(f:Nat)(cs:List Value)(hen:∀xs w,(callFunc f xs).run Tryz.prog w=.ok (.enter f xs) w)(hlen:l.length<=1000)(hr:Rd B w0 H A (l.flatMap celF))
 (hp:∀a∈l,∀w,St B w0 H w->Calls Tryz.prog f ([celV a]++cs).toArray w (Post B w0 λv K=>v=.bool (p a)/\K=H)) (hw:St B w0 H w):
 CX B w0 271 [.slice A l.length cap,.func (.func f) #[] cs.toArray] w λv K=>v=.int .i64 (Yp p l 0)/\K=H:=by
 refine Ya Tryz.func271 Tryz.ntmps271 rfl rfl hw ?_
 refine zX7 ?_
 refine Yi (λ(k:Nat)=>[(8,.int .i64 k),(7,.int .i64 l.length),(0,.slice A l.length cap),(1,.func (.func f) #[] cs.toArray)]) (λ_=>H) (λk=>k<=l.length/\Yp p l 0=Yp p (l.drop k) k) (λk=>l.length-k) 0 ⟨Ti _,by simp⟩ ?_ (λw hw=>hw) ?_
 ·exact zc1
 rintro k ⟨hk,hi⟩ K hK
 by_cases hlt:k<l.length
 ·obtain⟨a,ha⟩:∃a,l[k]? =some a:=⟨_,Ta hlt⟩
  have hpa:=hp a (Td ha)
  rw[JR p l ha]at hi
  refine zX8 ?_<;>intros
  cases hpv:p a
  ·rw[hpv]at hi
   refine zX9 ?_
   apply hK (k+1)
   ·grind
   ·omega
   ·exact zc1
   exact zc21
  exact zc9
 exact zc6
structure Kc where
 i:Nat
 j:Nat
 M:List Cel
theorem YaJ(p:Cel->Bool)(l:List Cel)(f:Nat)(cs:List Value)(hen:∀xs w,(callFunc f xs).run Tryz.prog w=.ok (.enter f xs) w)(hlen:l.length<=1000)
 (hp:∀a∈l,∀(X:List HP) w,St B w0 (X++H) w->Calls Tryz.prog f ([celV a]++cs).toArray w (Post B w0 λv K=>v=.bool (p a)/\K=X++H)) (hw:St B w0 (cels A cap l::H) w):
 CX B w0 176 [.slice A l.length cap,.func (.func f) #[] cs.toArray] w λv K=>v=.slice A (l.filter λa=>!p a).length cap/\K=cels A cap (l.filter λa=>!p a)::H:=by
 refine Ya Tryz.func176 Tryz.ntmps176 rfl rfl hw ?_
 refine Oa (e:=48) (size:=5) (A:=A) (xs:=l.flatMap celF) (k:=l.length) (cap:=cap) TC λhcap=>?_
 have hif:=λ{w:World}(hw:St B w0 (cels A cap l::H) w)=>YcZ p l f cs hen hlen (cap:=cap) (.sl TC) (λa ha w hw=>hp a ha [cels A cap l] w hw) hw
 rcases YcV p l 0 with⟨h1,h2⟩|⟨i0,h1,h2,h3,a0,h4,h5⟩
 ·rw[h2]at hif
  rw[h1]
  repeat'(first|((first|apply Yb YeK|apply Yc YeK);exact za;exact rfl;exactλ_ hw=>(hif hw))|refine zgb ?_|(refine zgf ?_ ?_<;>intro _<;>try exact zo)|fail)
  exact zc7
 rw[h2,Int.zero_add]at hif
 repeat'(first|((first|apply Yb YeK|apply Yc YeK);exact za;exact rfl;exactλ_ hw=>(hif hw))|refine zgc ?_|(refine zgf ?_ ?_<;>intro _<;>try exact zo)|fail)
 refine Yi (λ(z:Kc)=>[(6,.int .i64 z.j),(5,.int .i64 z.i),(0,.slice A z.M.length cap),(1,.func (.func f) #[] cs.toArray)]) (λz=>cels A cap z.M::H) (λz=>z.M.length=l.length/\z.i<z.j/\z.j<=l.length/\z.M.take z.i=(l.take z.j).filter (λa=>!p a)/\z.M.drop z.j=l.drop z.j) (λz=>l.length-z.j) ⟨i0,i0+1,l⟩ ⟨rfl,by exact zc28,by exact zc28,?_,rfl⟩ ?_ (λw hw=>hw) ?_
 ·exact Yun
 ·exact zc1
 rintro⟨i,j,M⟩ ⟨hM,hij,hj,ht,hd⟩ K hK
 simp only at hM hij hj ht hd⊢
 unfold cels
 by_cases hlt:j<l.length
 ·obtain⟨a,ha⟩:∃a,l[j]? =some a:=⟨_,Ta hlt⟩
  have hMa:M[j]? =some a:=YtK
  have hpa:=λ{X1 X2:HP}{w:World}(hw:St B w0 (X1::X2::H) w)=>hp a (Td ha) [X1,X2] w hw
  have hft:(l.take (j+1)).filter (λa=>!p a)=M.take i++(if p a=true then []else [a]):=Yua
  obtain⟨b,hb⟩:∃b,p a=b:=⟨_,rfl⟩
  rw[hb]at hft hpa
  have hd1:∀x:Cel,(M.set i x).drop (j+1)=l.drop (j+1):=λx=>by
   exact Yue
  cases b with
  |true=>
   rw[Tm rfl,Rm]at hft
   refine zX37 ?_<;>intros
   apply hK ⟨i,j+1,M⟩
   ·exact⟨hM,by exact zc28,by exact zc28,hft.symm,by exact Yuy⟩
   ·exact zc28
   ·exact zc1
   ·exact zc59
  |false=>
   rw[Tf (by decide)]at hft
   have hMl:(M.set i a).length=M.length:=TT
   repeat'(first|((first|apply YK (cs:=cs));exact rfl;exact hen;exact za;exact rfl;exactλ_ hw=>hpa hw)|(apply Zd T (f:=celF) (l:=M) (i:=i) (a:=a);(iterate 3 exact rfl);exact zd;exactλ_=>rfl;(iterate 3 exact rfl);omega)|refine zgd ?_|(refine zge ?_ ?_<;>intro _<;>try exact zo)|(refine zgh ?_;intro _)|fail)
   apply hK ⟨i+1,j+1,M.set i a⟩
   ·refine⟨by exact zc28,by exact zc28,by exact zc28,?_,hd1 a⟩
    exact YtS
   ·exact zc28
   ·dsimp only
    rw[hMl]
    exact zc1
   ·unfold cels
    dsimp only
    rw[hMl]
    exact zc59
 ·obtain rfl:j=l.length:=by omega
  clear hK
  rw[TL]at ht
  have hil:(l.filter λa=>!p a).length=i:=by rw[<-ht,TK];omega
  have hfl:(M.flatMap celF).take (i*5)=(l.filter λa=>!p a).flatMap celF:=by rw[<-Xz (q:=5) (λ_=>rfl),ht]
  refine zX39 ?_<;>intros
  rw[Rq]
  apply Zn (sl 48 5 A i cap ((l.filter λa=>!p a).flatMap celF)::H)
  ·intro w hw
   refine hw.shrink (e:=48) (size:=5) (cap:=cap) (A:=A) (xs:=M.flatMap celF) (k:=M.length) (k':=i) (by omega) ?_
   rw[hfl]
   exact Upd.here _
  apply Yg5 T T2 (e:=48) (size:=5) (k:=i) (xs:=(l.filter λa=>!p a).flatMap celF);exact rfl;exact TC;(iterate 3 exact rfl);omega
  refine zX40 ?_
  rw[Z1]
  repeat'(first|fail)
  apply Yd;exact rfl;exact rfl
  exact⟨by rw[hil],by rw[hil]⟩
def Yn6(n:Net)(l:List Flw)(s:Sch):Prop:=∀c∈s.cells,Y5 n (Yr c) (toC c)=true/\0<=ZG l (Xr c)
def Yn7(s:Sch):Prop:=s.cells.Pairwise λa b=>a.1=b.1->YI a b=false
def Yjm(n:Net)(s:Sch):Prop:=∀c∈s.cells,Vt n s.cells c=true
theorem Yqe(s:Sch)(k:Nat):repC s (k+1)=repC s k++s.cells.map (movC ((k:Int)*s.len)):=by
 grind [repC,RL]
variable {s t:Sch}{k i j:Nat}
theorem YbG{x:Cel}:x∈repC s k↔∃i,i<k/\∃c∈s.cells,x=movC ((i:Int)*s.len) c:=by
 unfold repC
 grind
theorem Yin{L:Int}(hL:0<=L)(h:i<j):(i:Int)*L+L<=(j:Int)*L:=by
 have h1:((i:Int)+1)*L<=(j:Int)*L:=RS (by omega) hL
 grind
variable {c:Cel}
theorem Yl2(hf:Frm s)(hc:c∈s.cells):0<=c.1/\c.1<s.len:=by
 have:=hf.formed c hc
 simp_all [ZA,ZC,insE]
theorem Yfx(hf:Frm s){d:Cel}(hc:c∈s.cells)(hd:d∈s.cells)(h:c.1+(i:Int)*s.len=d.1+(j:Int)*s.len):i=j/\c.1=d.1:=by
 have h1:=Yl2 hf hc
 have h2:=Yl2 hf hd
 rcases RZ i j with h3|h3|h3
 ·have:=Yin (L:=s.len) (by omega) h3;omega
 ·simp_all
 ·have:=Yin (L:=s.len) (by omega) h3;omega
structure Rep(s t:Sch)(k:Nat):Prop where
 k1:1<=k
 frm:Frm s
 len:t.len=s.len*k
 off:t.off=s.off
 cells:t.cells=repC s k
 l512:s.len*k<=512
 c512:s.cells.length*k<=512
theorem Ydp{s:Sch}{p q:Cel->Bool}{j0:Nat}(hq:∀d∈s.cells,p (movC ((j0:Int)*s.len) d)=q d):∀{m:Nat},(∀j,j<m->j≠j0->∀d∈s.cells,p (movC ((j:Int)*s.len) d)=false)->(repC s m).filter p=if j0<m then(s.cells.filter q).map (movC ((j0:Int)*s.len))else []
 |0,_=>by simp[repC]
 |m+1,h=>by
  rw[Yqe,SI,Ydp hq λj hj=>h j (by omega),List.filter_map]
  by_cases e:m=j0
  ·simp_all [List.filter_congr]
  ·have hz:s.cells.filter (p∘movC ((m:Int)*s.len))=[]:=by
    simp_all
   grind
theorem Ysm(n:Net)(node d:Int)(l:List Cel):sumC n node (l.map (movC d))=sumC n node l:=by
 unfold sumC
 rw[SU]
 rfl
theorem Rep.dist(h:Rep s t k)(n:Net)(hi:i<k)(hc:c∈s.cells)(node:Int):Uq n t.cells (movC ((i:Int)*s.len) c) node=Uq n s.cells c node:=by
 unfold Uq
 rw[h.cells,Ydp (j0:=i) (q:=λd=>Zh c d&&decide (d≠c)),Tm hi,Ysm]
 ·intro d hd
  have h2:(movC ((i:Int)*s.len) d≠movC ((i:Int)*s.len) c)↔d≠c:=by
   grind [movC]
  simp_all [Zh,movC]
 ·intro j hj hne d hd
  have:Zh (movC ((i:Int)*s.len) c) (movC ((j:Int)*s.len) d)=false:=by
   refine Tu ?_
   rintro⟨h3,_⟩
   exact hne (Yfx h.frm hd hc h3).1
  simp_all
theorem Rep.good(h:Rep s t k)(n:Net)(l:List Flw):Yn6 n l t↔Yn6 n l s:=by
 unfold Yn6
 rw[h.cells]
 constructor
 ·intro hg c hc
  exact hg (movC (((0:Nat):Int)*s.len) c) (YbG.2 ⟨0,h.k1,c,hc,rfl⟩)
 ·intro hg x hx
  obtain⟨i,_,c,hc,rfl⟩:=YbG.1 hx
  exact hg c hc
theorem Rep.once(h:Rep s t k):Yn7 t↔Yn7 s:=by
 unfold Yn7
 rw[h.cells]
 unfold repC
 rw[List.pairwise_flatMap]
 constructor
 ·rintro⟨h1,_⟩
  have:=h1 0 (Ru.2 h.k1)
  rw[NU]at this
  exact this.imp λ{a b} hab e=>hab (by grind [movC])
 ·intro ho
  refine⟨λi _=>?_,?_⟩
  ·rw[NU]
   exact ho.imp λ{a b} hab e=>hab (by grind [movC])
  ·refine List.pairwise_lt_range.imp λ{i j} hij x hx y hy e=>?_
   obtain⟨a,ha,rfl⟩:=TD.1 hx
   obtain⟨b,hb,rfl⟩:=TD.1 hy
   have:=(Yfx h.frm ha hb e).1
   omega
theorem Rep.clear(h:Rep s t k)(n:Net):Yjm n t↔Yjm n s:=by
 have hc:∀i,i<k->∀c∈s.cells,Vt n t.cells (movC ((i:Int)*s.len) c)=Vt n s.cells c:=λi hi c hc=>by
  unfold Vt
  have e1:Yr (movC ((i:Int)*s.len) c)=Yr c:=rfl
  have e2:toC (movC ((i:Int)*s.len) c)=toC c:=rfl
  rw[e1,e2,h.dist n hi hc,h.dist n hi hc]
 unfold Yjm
 constructor
 ·intro hg c hcm
  rw[<-hc 0 h.k1 c hcm]
  exact hg _ (by rw[h.cells];exact YbG.2 ⟨0,h.k1,c,hcm,rfl⟩)
 ·intro hg x hx
  rw[h.cells]at hx
  grind [YbG]
variable {l:List Int}{A:Option Addr}{cap B k:Nat}{w0:World}{H:List HP}
theorem YwX(k:Nat)(hr:Rd B w0 H A (l.flatMap numF))(hc:l.length<=cap):Rd B w0 H (subA A 0 cap 1) ((l.take k).flatMap numF):=by
 have h:=Rd.sub (f:=numF) (q:=1) (o:=0) (k:=k) (λ_=>rfl) hr hc
 simp_all
theorem Ytv(o:Nat)(hr:Rd B w0 H A (l.flatMap numF))(hc:l.length<=cap):Rd B w0 H (subA A o cap 1) ((l.drop o).flatMap numF):=by
 have h:=Rd.sub (f:=numF) (q:=1) (o:=o) (k:=(l.drop o).length) (λ_=>rfl) hr hc
 grind
variable {p:Nat->Bool}
theorem Yes(h:(List.range k).any p=false)(h2:p k=false):(List.range (k+1)).any p=false:=by
 grind
theorem Yhr{n:Nat}(hk:k<n)(h:p k=true):(List.range n).any p=true:=by grind
theorem YcA(n:NetM)(s t:Int)(r:List Int){w:World}(hin:n.In B w0 H)(hck:Yq n.net=0)(hr:Rd B w0 H A (r.flatMap numF))(hlen:r.length<=9223372036854775807)(hcap:r.length<=cap)(hw:St B w0 H w):
 CX B w0 184 [n.val,.int .i64 s,.int .i64 t,.slice A r.length cap] w λv K=>v=.int .i64 (Vw n.net s t r)/\K=H:=by
 refine Ya Tryz.func184 Tryz.ntmps184 rfl rfl hw ?_
 (apply Y7;apply YM;apply YO;exact rfl;exact rfl;intro g)
 have hnm:netB g n∈netB g n::H:=TC
 unfold Vw
 by_cases h1:r.length<2
 ·rw[Tm h1]
  refine zX0 ?_<;>intros
  (repeat apply Yl);apply Yd;exact rfl;exact rfl
  exact zc84
 rw[Tf h1]
 by_cases h2:9<r.length
 ·rw[Tm h2]
  refine zX0 ?_<;>intros
  (repeat apply Yl);apply Yd;exact rfl;exact rfl
  exact zc84
 rw[Tf h2]
 have hoff:=λ{w:World}(hw:St B w0 (netB g n::H) w)=>Qp (λa:Int=>Value.int .i64 a) (offE n.net) r 278 [.pointer (some ⟨g,0,none⟩)] Ywi hlen (cap:=cap) (hr.cons) (λa _ w hw=>YhQ n a g hnm hw) hw
 obtain⟨b3,h3⟩:∃b,r.any (offE n.net)=b:=⟨_,rfl⟩
 rw[h3]at hoff⊢
 cases b3 with
 |true=>
  rw[Tm rfl]
  refine zX50 ?_<;>intros
  (repeat apply Yl);apply Yd;exact rfl;exact rfl
  exact zc84
 |false=>
  rw[Tf (by decide)]
  have hg0:=XU (l:=r) (i:=0) (by omega)
  have hg1:=XU (l:=r) (i:=r.length-1) (by omega)
  have hgi:((r.length:Int)-1).toNat=r.length-1:=by omega
  rw[<-hgi]at hg1
  by_cases h4:r.getD 0 0≠s\/r.getD (r.length-1) 0≠t
  ·rw[Tm h4]
   rw[<-hgi]at h4
   repeat'(first|((first|apply Yb Ylz|apply Yc Ylz);exact za;exact rfl;exactλ_ hw=>(hoff hw))|(apply zg29;(apply Ys;exact za;exact rfl))|refine zgd ?_|(refine zge ?_ ?_<;>intro _<;>try exact zo)|fail)
   all_goals first
    |((repeat apply Yl);apply Yd;exact rfl;exact rfl;exact⟨rfl,rfl⟩)
    |skip
   done
  rw[Tf h4]
  rw[<-hgi]at h4
  refine zX50 ?_<;>intros
  refine Yi (λ(k:Nat)=>[(43,.int .i64 k),(42,.int .i64 r.length),(41,.slice A r.length cap),(3,.slice A r.length cap),(4,.pointer (some ⟨g,0,none⟩))]) (λ_=>netB g n::H) (λk=>k<=r.length/\((List.range k).any λi=>(r.take i).contains (r.getD i 0))=false) (λk=>r.length-k) 0 ⟨Ti _,rfl⟩ ?_ (λw hw=>hw) ?_
  ·exact zc1
  rintro k ⟨hk,hi⟩ K hK
  by_cases hlt:k<r.length
  ·have hgk:=XU (l:=r) (i:=k) hlt
   obtain⟨b,hb⟩:∃b,(r.take k).contains (r.getD k 0)=b:=⟨_,rfl⟩
   have hbm:decide (r.getD k 0∈r.take k)=b:=by rw[<-hb];simp
   have hcon:=λ{w:World}(hw:St B w0 (netB g n::H) w)=>Jj (r.take k) (r.getD k 0) YdS (cap:=cap) (YwX k (hr.cons (X:=netB g n)) hcap) hw
   rw[hbm]at hcon
   cases b with
   |true=>
    refine zX51 ?_<;>intros
    (repeat apply Yl);apply Yd;exact rfl;exact rfl
    have htw:Yaw r=true:=Yhr hlt hb
    exact⟨by rw[Tm htw],rfl⟩
   |false=>
    refine zX51 ?_<;>intros
    apply hK (k+1)
    ·exact⟨by omega,Yes hi hb⟩
    ·omega
    ·exact zc1
    exact zc21
  obtain rfl:k=r.length:=by omega
  clear hK
  have htw:Yaw r=false:=hi
  rw[Tf (by rw[htw];decide)]
  have hdl:(r.drop 1).length=r.length-1:=Rk
  repeat'(first|(apply Z7 T (n':=(r.drop 1).length);(iterate 4 exact rfl);omega;(rw[hdl];rfl))|refine zgc ?_|(refine zge ?_ ?_<;>intro _<;>try exact zo)|fail)
  refine Yi (λ(k:Nat)=>[(57,.int .i64 k),(56,.int .i64 (r.drop 1).length),(55,.slice (subA A 1 cap 1) (r.drop 1).length (cap-1)),(3,.slice A r.length cap),(4,.pointer (some ⟨g,0,none⟩))]) (λ_=>netB g n::H) (λk=>k<=(r.drop 1).length/\((List.range k).any λi=>!Y5 n.net (r.getD i 0) (r.getD (i+1) 0))=false) (λk=>(r.drop 1).length-k) 0 ⟨Ti _,rfl⟩ ?_ (λw hw=>hw) ?_
  ·exact zc1
  rintro k ⟨hk,hi⟩ K hK
  have hr1:Rd B w0 (netB g n::H) (subA A 1 cap 1) ((r.drop 1).flatMap numF):=Ytv 1 (hr.cons) hcap
  have hr0:Rd B w0 (netB g n::H) A (r.flatMap numF):=hr.cons
  by_cases hlt:k<(r.drop 1).length
  ·have hgk:=XU (l:=r) (i:=k) (by omega)
   have hgk1:(r.drop 1)[k]? =some (r.getD (k+1) 0):=by
    rw[SH,Nat.add_comm];exact XU (by omega)
   obtain⟨b,hb⟩:∃b,Y5 n.net (r.getD k 0) (r.getD (k+1) 0)=b:=⟨_,rfl⟩
   have hus:=λ{w:World}(hw:St B w0 (netB g n::H) w)=>VM n (XG n.net (r.getD k 0) (r.getD (k+1) 0)) (hin.cons (X:=netB g n)) hw
   rw[YgR hck,hb]at hus
   cases b with
   |true=>
    refine zX53 ?_<;>intros
    apply hK (k+1)
    ·exact⟨by omega,Yes hi (by rw[hb];rfl)⟩
    ·omega
    ·exact zc1
    exact zc21
   |false=>
    refine zX53 ?_<;>intros
    (repeat apply Yl);apply Yd;exact rfl;exact rfl
    have hbr:VP n.net r=true:=Yhr (k:=k) (by omega) (by rw[hb];rfl)
    exact⟨by rw[Tm hbr],rfl⟩
  ·obtain rfl:k=(r.drop 1).length:=by omega
   clear hK
   refine zX1 ?_<;>intros
   (repeat apply Yl);apply Yd;exact rfl;exact rfl
   have hbr:VP n.net r=false:=by rw[hdl]at hi;exact hi
   exact⟨by rw[Tf (by rw[hbr];decide)],rfl⟩
end Go.Proofs.YtjlgijpmnfabcaaGreatDoor
