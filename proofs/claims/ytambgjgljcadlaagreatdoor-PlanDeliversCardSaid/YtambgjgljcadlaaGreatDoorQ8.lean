/- Lemmas. -/
import Derived.Lib.AppendStr
import Derived.Laws.Externs
import Derived.Laws.CopyRow
import Derived.Lib.AppendZerosOnto
import Derived.Lib.Overlaps
import Derived.Sort.OwnSortedInts
import Derived.Lib.AppendIntMem
import Derived.WideLaws
import Derived.Lib.SmallJoins
import Derived.Lib.Builder
import Derived.Test.YtambgjgljcadlaaGreatDoorQ6
set_option maxRecDepth 100000
set_option maxHeartbeats 8000000
set_option linter.all false
namespace Go.Eng
open Go.RowKit
theorem YdS{P:Program}(w:World)(t u ty e:TypeId)(i:TypeInfo)(ht:P.underlying t=some (.slice e))(hu:P.underlying u=some .string)(hi:P.info? e=some i)(hz:i.zero=some (.int .u8 0))
 (hsize:i.size=1) (hby:i.bytes=1) (v:Value) (n:Nat) (xs:List Value) (hown:w.ownsRow 0 e 1 v n xs) (s:ByteArray) (hb:n+s.size<=1000000000):
 ∃v' w',(Builtin.append_ #[t,u] ty #[v,.string s]).run P w=.ok v' w'/\w'.ownsRow 0 e 1 v' (n+s.size) (xs++Lib.strCells s)/\w.grownBy w' v.ownBlock/\∀b,v'.ownBlock=some b->v.ownBlock=some b\/w.heap.size<=b:=by
 have hm:n+s.size<=maxLen:=by simp only[maxLen];omega
 obtain⟨v',w',h1,h2,h3,_⟩:=Lib.run_append_own_string (P:=P) w 0 t u ty e i ht hu hi hz hsize hby v n xs hown s hm (by omega) (Tm _)
 refine⟨v',w',h1,h2,h3,λb hbb=>?_⟩
 rcases hown.2 with⟨rfl,rfl⟩|⟨g,cap,cur,rfl,hbg,hg,hnc,hcm,hcs,htake⟩
 ·right
  obtain⟨v2,w2,k1,k2,_⟩:=Lib.run_append_own_string (P:=P) w w.heap.size t u ty e i ht hu hi hz hsize hby (.slice none 0 0) 0 xs ⟨hown.1,.inl ⟨rfl,rfl⟩⟩ s hm (by omega) (TI _)
  rw[h1]at k1
  obtain⟨rfl,rfl⟩:v'=v2/\w'=w2:=by simpa using k1
  rcases k2.2 with⟨e1,_⟩|⟨g',_,_,e1,e2,_⟩
  ·rw[e1]at hbb;cases hbb
  ·rw[e1]at hbb
   simp only[Value.ownBlock,RH]at hbb
   omega
 ·have hcs':cur.size=cap:=by simpa using hcs
  have hxl:xs.length=n:=by simpa using hown.1
  by_cases hroom:n+s.size<=cap
  ·have k1:=Lib.run_append_room_string (P:=P) w t u ty e i ht hu hi hsize g n cap cur hg s hroom (by omega)
   rw[h1]at k1
   obtain⟨rfl,_⟩:=(Result.ok.injEq _ _ _ _).mp k1
   exact .inl hbb
  ·have holds:∀j u,xs[j]? =some u->w.cell? ((⟨g,0,none⟩:Addr).add j)=some u:=hown.cells (g:=g) rfl
   have k1:=Lib.run_append_grow_string (P:=P) w t u ty e i (.int .u8 0) ht hu hi hz ⟨g,0,none⟩ n cap xs (by rw[hsize];simpa using hxl) holds s (by omega) (by omega) (by rw[hby];exact growslice_fits (by omega) (by omega))
   rw[h1]at k1
   obtain⟨rfl,_⟩:=(Result.ok.injEq _ _ _ _).mp k1
   right
   simp only[Value.ownBlock,RH]at hbb
   omega
section
variable {P:Program}{m:Mode}{n:Shp}{B d:Nat}{w0:World}{ops:Array Oper}{Q:Exit->Act->World->Prop}{rest:List Oper}{env:Env}{H:List HP}{ty:TypeId}{pos:String}{after:Array Edge}{x y:Operand}
def Ycb(P:Program)(e:TypeId):Bool:=match P.info? e with|some i=>(match i.zero with|some (.int .u8 0)=>true|_=>false)&&i.size==1&&i.bytes==1|none=>false
theorem YdU{e:TypeId}(h:Ycb P e=true):∃i,P.info? e=some i/\i.zero=some (.int .u8 0)/\i.size=1/\i.bytes=1:=by
 unfold Ycb at h
 split at h
 ·rename_i i hi
  simp only[Tq,Nu]at h
  refine⟨i,hi,?_,h.1.2,h.2⟩
  have h1:=h.1.1
  split at h1
  ·assumption
  ·cases h1
 ·cases h
theorem YfG(T:Tab P){t tt k cap e bytes:Nat}{A:Option Addr}{s:ByteArray}{xs:List Value}{K:Option Addr->Nat->List HP}(hx:evo env x=some (.slice A k cap))(hy:evo env y=some (.string s))(ht:look T.sl t=some (e,1,bytes))(hbi:Ycb P e=true)(htt:look T.st tt=some ())
 (hn:Nat.ble (d+1) n.k=true) (hu:∀A' cap',Upd (sl e 1 A k cap xs) (sl e 1 A' (k+s.size) cap' (xs++Lib.strCells s)) H (K A' cap')) (hb:k+s.size<=1000000000)
 (h:∀A' cap',VL P none n B w0 ops Q rest ((d,.slice A' (k+s.size) cap')::env) (K A' cap')):
 VL P none n B w0 ops Q (⟨some d,.call ⟨.builtin .append,#[x,y],#[t,tt]⟩,ty,pos,after,none⟩::rest) env H:=by
 obtain⟨hut,_⟩:=YH (T.slic ht)
 obtain⟨i,hi,hz,hs1,hb1⟩:=YdU hbi
 have hst:P.underlying tt=some .string:=T.strs htt
 refine Xj (λv K'=>∃A' cap',v=.slice A' (k+s.size) cap'/\K'=K A' cap') rfl rfl hn (λa w ha hw=>?_) (by rintro _ _ ⟨A',cap',rfl,rfl⟩;exact h A' cap')
 have hmem:sl e 1 A k cap xs∈H:=by
  obtain⟨L1,L2,rfl,_⟩:=hu none 0
  simp
 have hown:=hw.sl hmem
 obtain⟨v',w',hrun,hown',hgrow,hat⟩:=YdS (P:=P) w t tt ty e i hut hst hi hz hs1 hb1 (.slice A k cap) k xs hown s hb
 have hshape:∃A' cap',v'=.slice A' (k+s.size) cap':=by
  rcases hown'.2 with⟨e1,e2⟩|⟨g',c',_,e1,_⟩
  ·exact⟨none,0,by rw[e1,e2]⟩
  ·exact⟨_,_,e1⟩
 obtain⟨A',cap',rfl⟩:=hshape
 refine⟨_,K A' cap',w',by simp[execOp,resolve,invoke,builtin,ha.eval hx,ha.eval hy,hrun],?_,A',cap',rfl,rfl⟩
 refine hw.updN (hu A' cap') hgrow.os hgrow.tape hgrow.output hgrow.size λS1 ⟨_,hS⟩=>⟨⟨λb=>Value.ownBlock (.slice A' (k+s.size) cap')=some b,⟨hown',?_⟩,λb hb=>?_⟩,λb hb hlt=>hgrow.block b hlt (λe=>hb ?_)⟩
 ·rintro a rfl;rfl
 ·rcases hat b hb with e|e
  ·cases A with
   |none=>cases e
   |some a=>left;simp only[Value.ownBlock,RH]at e;rw[<-e];exact hS a rfl
  ·right
   refine⟨e,?_⟩
   rcases hown'.2 with⟨e1,_⟩|⟨g',_,_,e1,_,e3,_⟩
   ·rw[e1]at hb;cases hb
   ·rw[e1]at hb
    simp only[Value.ownBlock,RH]at hb
    subst hb
    exact(SR.1 e3).1
 ·cases A with
  |none=>cases e
  |some a=>simp only[Value.ownBlock,RH]at e;rw[e];exact hS a rfl
end
end Go.Eng
namespace Go.Proofs.YtambgjgljcadlaaGreatDoor
open Go.RowKit Go.Eng Go.Nw
theorem Yo8{s:Sch}{i:Nat}(hi:i<s.cells.length)(h:J7 s i=false):Y5 s=false:=by
 unfold Y5
 grind
theorem YeT(s:SchM){B:Nat}{w0:World}{H:List HP}{w:World}(hr:Rd B w0 H s.A (s.cells.flatMap celF))(hl:s.cells.length<=1000000000000)(hw:St B w0 H w):
 CX B w0 156 [s.val] w λv K=>v=.bool (Y5 s.sch)/\K=H:=by
 refine Ya Tryz.func156 Tryz.ntmps156 rfl rfl hw ?_
 have e1:s.sch.cells=s.cells:=rfl
 repeat'(first|((first|apply ZC OE|apply ZB OE);exact za;exact rfl;exactλ_ hw=>(Ydt s hw);all_goals(intro hB;(try simp only[Tt,T8]at hB);try exact zo))|refine zgd ?_|(refine zgf ?_ ?_<;>intro _<;>try exact zo)|(refine zgh ?_;intro _)|fail)
 ·apply Yg H
  ·exact zc0
  apply Yf;exact rfl;exact rfl
  exact⟨by rw[show Y5 s.sch=false by unfold Y5;grind],rfl⟩
 rotate_left
 ·apply Yg H
  ·exact zc0
  apply Yf;exact rfl;exact rfl
  exact⟨by simp[Y5, *],rfl⟩
 rename_i g _
 refine Yh (λ(i:Nat)=>[(17,.int .i64 i),(16,.int .i64 s.cells.length),(15,.slice s.A s.cells.length s.cap),(1,.pointer (some ⟨g,0,none⟩))]) (λ_=>blk g (.cells #[.int .i64 s.len,.int .i64 s.off,.slice s.A s.cells.length s.cap] 30 (0,0))::H) (λi=>i<=s.cells.length/\(List.range i).all (J7 s.sch)=true) (λi=>s.cells.length-i) 0 ⟨Tm _,rfl⟩ ?_ (λw hw=>hw) ?_
 ·exact zc1
 rintro i ⟨hi,hall⟩ K hK
 have hr:=hr.cons (X:=blk g (.cells #[.int .i64 s.len,.int .i64 s.off,.slice s.A s.cells.length s.cap] 30 (0,0)))
 by_cases hlt:i<s.cells.length
 ·have hget:s.cells[i]? =some (Ym s.sch i):=Y0 (s:=s.sch) hlt
  have hgo:J7 s.sch i=false->Y5 s.sch=false:=Yo8 (s:=s.sch) hlt
  have hst:J7 s.sch i=true->(List.range (i+1)).all (J7 s.sch)=true:=λh=>by rw[Yb6,hall,h];rfl
  rcases NY i with h0|h0
  ·subst h0
   repeat'(first|((first|apply ZC YlD|apply ZB YlD);exact za;exact rfl;exactλ_ hw=>(YaU s _ hw);all_goals(intro hB;(try simp only[Tt,T8]at hB);try exact zo))|(apply zg28;refine zs84 ?_)|refine zgd ?_|(refine zgf ?_ ?_<;>intro _<;>try exact zo)|(refine zgh ?_;intro _)|fail)
   ·apply hK (0+1)
    ·exact⟨by omega,hst (by simp[J7, *])⟩
    ·omega
    ·exact zc1
    ·exact zc0
   ·apply Yg H
    ·exact zc0
    apply Yf;exact rfl;exact rfl
    exact⟨by rw[hgo (by simp[J7, *])],rfl⟩
  ·have hget2:s.cells[((i:Int)-1).toNat]? =some (Ym s.sch (i-1)):=YtI
   repeat'(first|((first|apply ZC YlD|apply ZB YlD);exact za;exact rfl;exactλ_ hw=>(YaU s _ hw);all_goals(intro hB;(try simp only[Tt,T8]at hB);try exact zo))|((first|apply Yb YlE|apply Yc YlE);exact za;exact rfl;exactλ_ hw=>(OD _ _ hw))|(apply zg28;refine zs84 ?_)|refine zgd ?_|(refine zgf ?_ ?_<;>intro _<;>try exact zo)|(refine zgh ?_;intro _)|fail)
   all_goals first
    |(apply hK (i+1)
      ·refine⟨by omega,hst ?_⟩
       have hc:cmpV (nums (Ym s.sch (i-1))) (nums (Ym s.sch i))<0:=by omega
       simp[J7,(Yad _ _).1 hc, *]
      ·omega
      ·exact zu
      ·exact zk
      done)
    |(apply Yg H
      ·exact zk
      apply Yf;exact rfl;exact rfl
      refine⟨?_,rfl⟩
      rw[hgo]
      first
       |(simp[J7, *];done)
       |(have hc:¬cmpV (nums (Ym s.sch (i-1))) (nums (Ym s.sch i))<0:=by omega
         have hd:Xb (Ym s.sch (i-1)) (Ym s.sch i)=false:=by
          rw[Yad]at hc
          simpa using hc
         simp[J7,hd]
         omega))
 ·refine zX0 ?_<;>intros
  apply Yg H
  ·exact zc0
  apply Yf;exact rfl;exact rfl
  refine⟨?_,rfl⟩
  rw[show i=s.cells.length by omega]at hall
  rw[show Y5 s.sch=true by unfold Y5;rw[e1,hall,Ti (by omega)];simp[*]]
def inI(s:Sch)(slot:Int)(k:Nat):List Nat:=(List.range k).filter λi=>decide ((Ym s i).1=slot)
def inXs(s:Sch)(slot:Int):List (List Value):=(inI s slot s.cells.length).map λ(i:Nat)=>[Value.int .i64 (i:Int)]
variable {s:Sch}{slot:Int}{k B:Nat}
theorem Yl1(h:(Ym s k).1=slot):inI s slot (k+1)=inI s slot k++[k]:=by
 grind [inI,RD]
theorem YpL(h:(Ym s k).1≠slot):inI s slot (k+1)=inI s slot k:=by
 grind [inI,RD]
theorem YrV{n:Nat}(h:(Ym s k).1=slot)(hk:k<n):(inI s slot n)[(inI s slot k).length]? =some k:=by
 obtain⟨m,rfl⟩:∃m,n=k+(m+1):=⟨n-k-1,by omega⟩
 have e:inI s slot (k+(m+1))=inI s slot k++((List.range (m+1)).map (k+·)).filter λi=>decide ((Ym s i).1=slot):=by
  grind [inI,List.range_add]
 simp_all [List.range_succ_eq_map]
theorem Ot{i:Nat}:i∈inI s slot k↔i<k/\(Ym s i).1=slot:=by
 grind [inI]
def schB(g:Nat)(s:SchM):HP:=blk g (.cells #[.int .i64 s.len,.int .i64 s.off,.slice s.A s.cells.length s.cap] 30 (0,0))
def intB(g:Nat)(x:Int):HP:=blk g (.cells #[.int .i64 x] 3 (0,0))
variable {w0:World}
theorem YcM(s:SchM)(slot:Int)(gs gt:Nat){HI:List HP}(hr:Rd B w0 HI s.A (s.cells.flatMap celF))(hl:s.cells.length<=1000000000000)
 (hms:blk gs (.cells #[.int .i64 s.len,.int .i64 s.off,.slice s.A s.cells.length s.cap] 30 (0,0))∈HI) (hmt:blk gt (.cells #[.int .i64 slot] 3 (0,0))∈HI):
 YbM Tryz.prog 246 [.pointer (some ⟨gs,0,none⟩),.pointer (some ⟨gt,0,none⟩)] (inXs s.sch slot) B w0 HI:=by
 refine YbN Tryz.func246 Tryz.ntmps246 rfl rfl ?_
 intro l SS X hy L0 h0
 refine zX9 ?_
 refine Yh (λ(x:Nat×List HP)=>[(9,.int .i64 x.1),(8,.int .i64 s.cells.length),(7,.slice s.A s.cells.length s.cap),(0,.func (.yield l) #[] #[]),(1,.pointer (some ⟨gs,0,none⟩)),(2,.pointer (some ⟨gt,0,none⟩))]) (λx=>many x.2::HI) (λx=>x.1<=s.cells.length/\SS (inI s.sch slot x.1).length x.2) (λx=>s.cells.length-x.1) (0,L0) ⟨Tm _,h0⟩ ?_ (λw hw=>hw) ?_
 ·exact zc1
 rintro⟨i,L⟩ ⟨hi,hS⟩ K hK
 dsimp only at hi hS⊢
 have hr:=hr.cons (X:=many L)
 by_cases hlt:i<s.cells.length
 ·have hget:s.cells[i]? =some (Ym s.sch i):=Y0 (s:=s.sch) hlt
  have hlt2:i<s.sch.cells.length:=hlt
  iterate 22 (first|refine zgd ?_|(refine zge ?_ ?_<;>intro _<;>try exact zo)|(refine zgh ?_;intro _)|fail)
  refine YbQ 7 rfl rfl Yjl ?_
  repeat'(first|refine zgc ?_|(refine zge ?_ ?_<;>intro _<;>try exact zo)|fail)
  ·rename_i g5 hs
   have hx:(inXs s.sch slot)[(inI s.sch slot i).length]? =some [.int .i64 (i:Int)]:=by
    rw[inXs,TM,YrV hs hlt2];rfl
   have hY:=hy _ _ hx [blk g5 (.cells (celF (Ym s.sch i)).toArray 117 (0,0))] L hS
   apply Yb2 _ _ (hy:=hY)
   ·exact Ybh (j:=4) (s:=18) rfl rfl rfl
   ·exact rfl
   ·exact YqU
   ·exact rfl
   ·exact Yjl
   ·rintro _ ⟨L',hS',rfl⟩
    refine zX2 ?_
    apply hK (i+1,L')
    ·exact⟨by omega,by rw[Yl1 hs,To];exact hS'⟩
    ·exact zc36
    ·exact zc1
    ·exact zc56
   ·rintro _ ⟨L',hX',rfl⟩
    refine zX2 ?_
    apply Yg (many L'::HI)
    ·exact zc56
    apply ZD;exact rfl
    exact .inr ⟨L',hX',rfl⟩
  ·rename_i hs
   apply Yhj Yjl
   refine zX9 ?_
   apply hK (i+1,L)
   ·exact⟨by omega,by rw[YpL hs];exact hS⟩
   ·exact zc36
   ·exact zc1
   ·exact zc56
 ·refine zX0 ?_<;>intros
  apply X7;exact rfl
  rw[show i=s.cells.length by omega]at hS
  exact .inl ⟨L,by rw[inXs,Tv];exact hS,rfl⟩
theorem YcN(s:SchM)(slot:Int){H:List HP}{w:World}(hw:St B w0 H w):
 CX B w0 182 [s.val,.int .i64 slot] w λv K=>∃gs gt,v=.func (.func 246) #[] #[.pointer (some ⟨gs,0,none⟩),.pointer (some ⟨gt,0,none⟩)]/\K=intB gt slot::schB gs s::H:=by
 refine Ya Tryz.func182 Tryz.ntmps182 rfl rfl hw ?_
 refine zX31 ?_<;>intros
 apply Yf;exact rfl;exact rfl
 exact⟨_,_,rfl,rfl⟩
end Go.Proofs.YtambgjgljcadlaaGreatDoor
namespace Go.Eng
open Go.RowKit
section
variable {P:Program}{m:Mode}{n:Shp}{B d:Nat}{w0:World}{ops:Array Oper}{Q:Exit->Act->World->Prop}{rest:List Oper}{env:Env}{H:List HP}{ty:TypeId}{pos:String}{after:Array Edge}{x y hi:Operand}
theorem Yd9(w:World)(dT sT ty elem:TypeId)(g o dLen dCap size:Nat)(a:Addr)(sLen sCap:Nat)(cur:Array Value)(t:TypeId)(cs:List Value)
 (hu:P.underlying dT=some (.slice elem)) (hs:(P.info? elem).map (·.size)=some size)
 (hg:w.heap[g]? =some (.cells cur t (0,0))) (hn:cs.length=Nat.min sLen dLen*size)
 (hsrc:∀j v,cs[j]? =some v->w.cell? (a.add j)=some v) (hfit:o+cs.length<=cur.size) (h1:∀v∈cs,v.oneCell'=true):
 (Builtin.copy_ #[dT,sT] ty #[.slice (some ⟨g,o,none⟩) dLen dCap,.slice (some a) sLen sCap]).run P w=
  .ok (goInt (Nat.min sLen dLen)) (w.setRow g (cur.toList.take o++cs++cur.toList.drop (o+cs.length)).toArray):=by
 have hl:=run_firstCells_some (P:=P) w size (Nat.min sLen dLen) a sLen sCap cs hn hsrc
 have hst:=run_storeCells_at P g o t cs 0 cur w hg (by omega) h1
 cases hq:P.info? elem with
 |none=>simp_all
 |some i=>
  simp_all [Go.Builtin.copy_,Go.Builtin.lenOf,sizeOf,typeInfo,run_underlying]
variable {α:Type}
theorem Ysx(l cs:List α)(o k k':Nat)(hk:k<=l.length)(ho:o<=k)(hfit:o+cs.length<=l.length)(hk':k'=max k (o+cs.length)):
 (l.take o++cs++l.drop (o+cs.length)).take k'=(l.take k).take o++cs++(l.take k).drop (o+cs.length):=by
 have hA:(l.take o++cs).length=o+cs.length:=by grind
 by_cases h:o+cs.length<=k
 ·grind [Nat.max_eq_left,YiW]
 ·rw[hk',Nat.max_eq_right (by omega),SZ,hA,NT,Sr,Ri,Rl (by omega),List.take_take,S9 (by omega),Rk (by grind),Ri]
variable {t e size bytes o k cap kd cd mm c2:Nat}{A A2:Option Addr}{xs:List Value}{K:List HP}
theorem YoE(T:Tab P){k':Nat}{ys:List Value}(hx:evo env x=some (.slice (subA A o cap size) kd cd))(hy:evo env y=some (.slice A2 mm c2))(hr:Rd B w0 H A2 ys)
 (hu:Upd (sl e size A k cap xs) (sl e size A k' cap (xs.take (o*size)++ys.take (min mm kd*size)++xs.drop (o*size+min mm kd*size))) H K) (ht:look T.sl t=some (e,size,bytes)) (hn:Nat.ble (d+1) n.k=true) (h1:∀v∈ys,v.oneCell'=true)
 (hA:∃g,A=some ⟨g,0,none⟩) (hb:o+kd<=cap/\0<min mm kd/\o<=k/\k'=max k (o+min mm kd)) (hyl:min mm kd*size<=ys.length)
 (h:VL P none n B w0 ops Q rest ((d,.int .i64 (min mm kd:Nat))::env) K):
 VL P none n B w0 ops Q (⟨some d,.call ⟨.builtin .copy,#[x,y],#[t,t]⟩,ty,pos,after,none⟩::rest) env H:=by
 obtain⟨hut,inf,z,hi,hz,hzs,hsi,hbi,hs0,hb0⟩:=YH (T.slic ht)
 refine Xj (λv K'=>v=.int .i64 (min mm kd:Nat)/\K'=K) rfl rfl hn (λa w ha hw=>?_) zc51
 have hmem:sl e size A k cap xs∈H:=Yq1
 obtain⟨hb1,hb2,hb3,hb5⟩:=hb
 rcases ZK (hw.sl hmem)with⟨rfl,_⟩|⟨g,cur,rfl,g1,g2,g3,g4,g5,g6⟩
 ·obtain⟨_,hA⟩:=hA;cases hA
 have hsub:subA (some ⟨g,0,none⟩) o cap size=some ⟨g,o*size,none⟩:=Yt5
 obtain⟨c,hc⟩:∃c,min mm kd=c:=⟨_,rfl⟩
 rw[hc]at hu hb2 hb5 hyl
 have hcs:(ys.take (c*size)).length=c*size:=Yfy
 have hpos:0<c*size:=Nat.mul_pos hb2 hs0
 have hsome:∃a2,A2=some a2/\∀j v,(ys.take (c*size))[j]? =some v->w.cell? (a2.add j)=some v:=by
  have h0:ys[0]? =some (ys[0]'(by omega)):=Ta (by omega)
  obtain⟨g2',o2,rfl,_⟩:=hr w hw 0 _ h0
  refine⟨_,rfl,λj v hj=>?_⟩
  rw[S0]at hj
  by_cases hjm:j<c*size
  ·rw[Tj hjm]at hj
   obtain⟨g3',o3,e3,hc⟩:=hr w hw j v hj
   injection e3 with e3
   injection e3 with e3 e4
   subst e3 e4
   rw[Addr.add_lit];exact hc
  ·rw[Tf hjm]at hj;cases hj
 obtain⟨a2,rfl,hsrc⟩:=hsome
 have hoc:o+c<=cap:=by
  have:c<=kd:=by rw[<-hc];exact Nat.min_le_right _ _
  omega
 have hfit:o*size+c*size<=cur.size:=by rw[g4,<-SA];exact Rf _ hoc
 have hrun:=Yd9 (P:=P) w t t ty e g (o*size) kd cd size a2 mm c2 cur e (ys.take (c*size)) hut (by rw[hi];simp[hsi]) g1 (by rw[hcs];show c*size=min mm kd*size;rw[hc]) hsrc (by rw[hcs];exact hfit) (λv hv=>h1 v (SC hv))
 have hkl:k*size<=cur.toList.length:=by rw[Nx,g4];exact Rf _ g2
 have hok:o*size<=k*size:=Rf _ hb3
 have hmax:k'*size=max (k*size) (o*size+c*size):=by
  rw[hb5,<-SA]
  rcases Nat.le_total k (o+c)with h|h
  ·rw[Nat.max_eq_right h,Nat.max_eq_right (Rf _ h)]
  ·rw[Nat.max_eq_left h,Nat.max_eq_left (Rf _ h)]
 refine⟨_,K,_,?_,hw.storeRow (k':=k') (o:=o*size) (vs:=ys.take (c*size)) hu rfl g1 g4 (by rw[hb5];exact Nat.max_le.2 ⟨g2,hoc⟩) g3 (by rw[hcs];exact hfit) ?_ ?_,rfl,rfl⟩
 ·simp only[execOp,resolve,invoke,builtin]
  have hmap:#[x,y].map a.eval=#[.slice (some ⟨g,o*size,none⟩) kd cd,.slice (some a2) mm c2]:=by simp[ha.eval hx,ha.eval hy,hsub]
  simp only[hmap,Sem.run_bind,Sem.run_pure,Result.andThen_ok]
  rw[hrun]
  simp[goInt]
 ·have:=Ysx cur.toList (ys.take (c*size)) (o*size) (k*size) (k'*size) hkl hok (by rw[hcs,Nx];exact hfit) (by rw[hcs];exact hmax)
  rw[hcs]at this⊢
  rw[this,g5]
 ·rw[To,To,hcs,TX,Ro,g6,hmax]
  omega
theorem JV(T:Tab P){f:α->List Value}(L M R:List α)(hx:evo env x=some (.slice (subA A o cap size) kd cd))(hy:evo env y=some (.slice A2 mm c2))(hr:Rd B w0 H A2 (M.flatMap f))(hq:∀a,(f a).length=size)(h1:∀a,Jj (f a)=true)
 (ht:look T.sl t=some (e,size,bytes)) (hn:Nat.ble (d+1) n.k=true) (hA:∃g,A=some ⟨g,0,none⟩) (hb:o+kd<=cap/\0<min mm kd/\o<=L.length/\min mm kd<=M.length) (hR:L.take o++M.take (min mm kd)++L.drop (o+min mm kd)=R)
 (hu:Upd (sl e size A L.length cap (L.flatMap f)) (sl e size A R.length cap (R.flatMap f)) H K)
 (h:VL P none n B w0 ops Q rest ((d,.int .i64 (min mm kd:Nat))::env) K):
 VL P none n B w0 ops Q (⟨some d,.call ⟨.builtin .copy,#[x,y],#[t,t]⟩,ty,pos,after,none⟩::rest) env H:=by
 have hlen:∀l:List α,(l.flatMap f).length=l.length*size:=λl=>by
  induction l with
  |nil=>simp
  |cons a l ih=>grind
 have hRl:R.length=max L.length (o+min mm kd):=by
  grind
 have hRf:R.flatMap f=(L.flatMap f).take (o*size)++(M.flatMap f).take (min mm kd*size)++(L.flatMap f).drop (o*size+min mm kd*size):=by
  rw[<-hR,T9,T9,Xz hq,Xz hq,UA hq,SA]
 rw[hRf]at hu
 refine YoE T hx hy hr hu ht hn (λv hv=>?_) hA ⟨hb.1,hb.2.1,hb.2.2.1,hRl⟩ (by grind [Rf]) h
 grind [Zn]
theorem YaC(T:Tab P){tn i j:Nat}(hx:evo env x=some (.slice A i cap))(hy:evo env y=some (.int .i64 (j:Int)))(hm:sl e size A k cap xs∈H)(ht:look T.sl t=some (e,size,bytes))(htn:Yj8 P tn=true)(hn:Nat.ble (d+1) n.k=true)(hb:Nat.ble bytes 1000=true)
 (hk:i<=k/\0<k/\0<j/\cap<i+j/\i+j<=1000000)
 (h:∀g c,i+j<=c->VL P none n B w0 ops Q rest ((d,.slice (some ⟨g,0,none⟩) (i+j) c)::env) (sl e size (some ⟨g,0,none⟩) i c (xs.take (i*size))::H)):VL P none n B w0 ops Q (⟨some d,.call ⟨.builtin .append,#[x,y],#[t,tn]⟩,ty,pos,after,none⟩::rest) env H:=by
 obtain⟨hu,inf,z,hi,hz,hzs,hsi,hbi,hs0,hb0⟩:=YH (T.slic ht)
 obtain⟨kn,hkn⟩:=Yh9 htn
 have hb':=T0 hb
 refine Xj (λv K=>∃g c,v=.slice (some ⟨g,0,none⟩) (i+j) c/\K=sl e size (some ⟨g,0,none⟩) i c (xs.take (i*size))::H/\i+j<=c) rfl rfl hn (λa w ha hw=>?_) (by rintro _ _ ⟨g,c,rfl,rfl,hc⟩;exact h g c hc)
 obtain⟨hk1,hk2,hk3,hk4,hk5⟩:=hk
 have hown:=hw.sl hm
 rcases ZK hown with⟨_,e0,_⟩|⟨g,cur,rfl,g1,g2,g3,g4,g5,g6⟩
 ·omega
 have hik:i*size<=k*size:=Rf _ hk1
 have hxl:(xs.take (i*size)).length=i*size:=Yfy
 have hbj:(i+j)*inf.bytes<=1000000*1000:=Nat.mul_le_mul hk5 (by omega)
 have hbj2:j*inf.bytes<=(i+j)*inf.bytes:=Rf _ (by omega)
 have hold:(Builtin.firstCells inf.size i (.slice (some ⟨g,0,none⟩) i cap)).run P w.drew=.ok (xs.take (i*size)).toArray w.drew:=by
  rw[hsi]
  refine run_firstCells_some (P:=P) w.drew size i ⟨g,0,none⟩ i cap _ hxl λq v hq=>?_
  rw[S0]at hq
  split at hq
  ·obtain⟨g',e5,hc,_⟩:=QW hown hq
   injection e5 with e5
   injection e5 with e5
   subst e5
   rw[Addr.add_lit,RL];exact hc
  ·cases hq
 have hrun:=Lib.run_append_grow_zeros (P:=P) w t tn ty e inf z .i64 kn hu hkn hi hz (some ⟨g,0,none⟩) i cap (xs.take (i*size)) hold j hk3 (by omega) hk4 (by omega) (by omega) (growslice_fits hk4 (by omega))
 have hge:=grownCap_ge w (i+j) cap e
 have hcm:grownCap w (i+j) cap e<=maxLen:=grownCap_le_maxLen w (i+j) cap e (by simp only[maxLen];omega)
 refine⟨_,_,_,by simp only[execOp,resolve,invoke,builtin,ha.eval hx,ha.eval hy,List.map_toArray,Rh,N5,Sem.run_bind,Sem.run_pure,hrun,Result.andThen_ok];rfl,?_,w.heap.size,grownCap w (i+j) cap e,rfl,rfl,hge⟩
 have h2:=hw.drew.alloc (.cells ((xs.take (i*size)).toArray++Builtin.zeroCells z.cells j++Builtin.zeroCells z.cells (grownCap w (i+j) cap e-(i+j))) e)
 refine h2.upd (Upd.here _) rfl rfl rfl (TI _) λS1 ⟨h3,h4⟩=>⟨⟨⟨hxl,.inr ⟨w.heap.size,grownCap w (i+j) cap e,_,rfl,Tm _,h4,by omega,hcm,?_,?_⟩⟩,λa ha=>by cases ha;exact h3⟩,λ_ _ _=>rfl⟩
 ·rw[Array.size_append,Array.size_append,size_zeroCells,size_zeroCells,hzs,List.size_toArray,hxl,<-SA,<-SA]
  congr 1
  omega
 ·rw[Array.toList_append,Array.toList_append,Ru,SZ,Rl (by simp[hxl]),List.toList_toArray,hxl,NT,Sr,Ri]
theorem Vd(T:Tab P){n':Nat}{ki:IntKind}{z:Int}(hx:evo env x=some (.slice A k cap))(hl:evo env hi=some (.int ki z))(ht:look T.sl t=some (e,size,bytes))(hn:Nat.ble (d+1) n.k=true)(hb:0<=z/\z<=cap)(hn':z.toNat=n')(hA:∃g,A=some ⟨g,0,none⟩)
 (h:VL P m n B w0 ops Q rest ((d,.slice A n' cap)::env) H):VL P m n B w0 ops Q (⟨some d,.slice t x none (some hi) none,ty,pos,after,none⟩::rest) env H:=by
 subst hn'
 obtain⟨g,rfl⟩:=hA
 refine YA rfl rfl hn rfl (λf w ha hw=>?_) h
 have hA:(if cap=0 then(some ⟨g,0,none⟩:Option Addr)else(some ⟨g,0,none⟩:Option Addr).map (·.add (0*size)))=some ⟨g,0,none⟩:=by
  simp[Addr.add_lit]
 have hb2:(Instr.sliceBounds true k cap none (some (.int ki z)) none).run P w=.ok (0,z.toNat,cap) w:=zc52
 have hr:=Ju T (A:=some ⟨g,0,none⟩) ht hb2
 exact YtP
theorem Yep{w:World}{gv g:Nat}{o:Obj}{R:List HP}(h:St B w0 (Eng.blk gv o::sl e size (some ⟨g,0,none⟩) k cap xs::R) w):gv≠g:=by
 obtain⟨S1,S2,_,_,hd,h4,h5⟩:=h.sep
 obtain⟨S3,S4,h6,_,_,h9,_⟩:=h5
 rintro rfl
 exact hd gv h4.1 (h6 _ (h9.2 _ rfl))
end
variable {B cap:Nat}{w0:World}{H:List HP}{A:Option Addr}
theorem Qg{P:Program}{n:Shp}{Q:Exit->Act->World->Prop}{env:Env}{c:Code}{e size k:Nat}{xs:List Value}(hm:sl e size A k cap xs∈H)(h:k<=cap->VC P n B w0 c Q env H):VC P n B w0 c Q env H:=by
 refine⟨λa w ha hw=>?_⟩
 have hown:=hw.sl hm
 have hkc:k<=cap:=zc47
 exact(h hkc).run a w ha hw
end Go.Eng
namespace Go.Proofs.YtambgjgljcadlaaGreatDoor
open Go.RowKit Go.Eng Go.Nw
theorem Ydx(A:Option Addr)(cap size:Nat):subA A 0 cap size=A:=by
 simp_all [subA,Go.Addr.add]
theorem YaR{α:Type}{f:α->List Value}{q:Nat}(hq:∀a,(f a).length=q):∀(l:List α) (i:Nat),i<l.length->(l.flatMap f).take (i*q)++(l.flatMap f).drop ((i+1)*q)=(l.eraseIdx i).flatMap f
 |x::l,0,_=>by
  simp_all
 |x::l,i+1,h=>by
  rw[TS]at h
  have ih:=YaR hq l i (by omega)
  have e1:(i+1)*q=(f x).length+i*q:=by grind
  have e2:(i+1+1)*q=(f x).length+(i+1)*q:=by grind
  rw[TR,List.eraseIdx_cons_succ,TR,e2,List.drop_length_add_append,<-ih,<-Ru]
  grind
def cels(A:Option Addr)(cap:Nat)(l:List Cel):HP:=sl 117 5 A l.length cap (l.flatMap celF)
theorem YmX(A:Option Addr)(cap:Nat)(l:List Cel)(c:Cel):sl 117 5 A (l.length+1) cap (l.flatMap celF++celF c)=cels A cap (l++[c]):=by
 grind [cels]
theorem VB(A:Option Addr)(cap:Nat)(l:List Cel)(c:Cel):sl 117 5 A (l.length+1) cap (l.flatMap celF++#[Value.int .i64 c.1,.int .i64 c.2.1,.int .i64 c.2.2.1,.int .i64 c.2.2.2.1,.int .i64 c.2.2.2.2].toList)=cels A cap (l++[c]):=YmX A cap l c
theorem YcW(l:List Cel)(c:Cel):l.length+1=(l++[c]).length:=by simp
variable {B cap:Nat}{w0:World}{H:List HP}{A:Option Addr}
theorem Rd.cels{l:List Cel}(h:cels A cap l∈H):Rd B w0 H A (l.flatMap celF):=.sl h
theorem Yhx{a b:Cel}(h:celF a=celF b):a=b:=by
 obtain⟨a1,a2,a3,a4,a5⟩:=a
 simp_all [celF]
section
variable {m:Eng.Mode}{n:Shp}{B d:Nat}{w0:World}{ops:Array Oper}{Q:Exit->Act->World->Prop}{rest:List Oper}{env:Env}{H:List HP}{ty:TypeId}{pos:String}{after:Array Edge}
variable {x y:Operand}
theorem Yrg(a b:Cel)(hx:evo env x=some (.agg (celF a).toArray))(hy:evo env y=some (.agg (celF b).toArray))(hn:Nat.ble (d+1) n.k=true)
 (h1:a=b->VL Tryz.prog m n B w0 ops Q rest ((d,.bool true)::env) H) (h2:a≠b->VL Tryz.prog m n B w0 ops Q rest ((d,.bool false)::env) H):
 VL Tryz.prog m n B w0 ops Q (⟨some d,.binOp .eql 117 x y 117,ty,pos,after,none⟩::rest) env H:=
 Yre (xs:=celF a) (ys:=celF b) hx hy hn (by kernel_rfl) (by kernel_rfl) (λe=>h1 (Yhx e)) (λe=>h2 λh=>e (by rw[h]))
theorem Yrh(a b:Cel)(hx:evo env x=some (.agg (celF a).toArray))(hy:evo env y=some (.agg (celF b).toArray))(hn:Nat.ble (d+1) n.k=true)
 (h1:a≠b->VL Tryz.prog m n B w0 ops Q rest ((d,.bool true)::env) H) (h2:a=b->VL Tryz.prog m n B w0 ops Q rest ((d,.bool false)::env) H):
 VL Tryz.prog m n B w0 ops Q (⟨some d,.binOp .neq 117 x y 117,ty,pos,after,none⟩::rest) env H:=
 Yrf (xs:=celF a) (ys:=celF b) hx hy hn (by kernel_rfl) (by kernel_rfl) (λe=>h1 λh=>e (by rw[h])) (λe=>h2 (Yhx e))
end
def UX(s:Sch)(slot:Int)(k:Nat):List Cel:=((inI s slot s.cells.length).take k).map (Ym s)
theorem YjL(s:Sch)(slot:Int):UX s slot (inXs s slot).length=s.cells.filter λc=>decide (c.1=slot):=by
 have e:s.cells=(List.range s.cells.length).map (Ym s):=by
  apply Su
  intro i
  by_cases h:i<s.cells.length
  ·grind [Y0]
  simp_all
 unfold UX inXs
 rw[Tv,TP]
 conv=>rhs;rw[e]
 rw[List.filter_map]
 rfl
variable {s:Sch}{slot:Int}{k:Nat}
theorem Yhz{i:Nat}(h:(inI s slot s.cells.length)[k]? =some i):UX s slot (k+1)=UX s slot k++[Ym s i]:=by
 grind [UX,TG]
theorem WW{args:List Value}(h:(inXs s slot)[k]? =some args):∃i,(inI s slot s.cells.length)[k]? =some i/\i<s.cells.length/\args=[.int .i64 (i:Int)]:=by
 unfold inXs at h
 rw[TM]at h
 cases hi:(inI s slot s.cells.length)[k]? with
 |none=>simp_all
 |some i=>
  rw[hi]at h
  cases h
  exact⟨i,rfl,(Ot.1 (Tc hi)).1,rfl⟩
theorem YmW:(UX s slot k).length<=s.cells.length:=by
 grind [UX,inI]
structure AcM where
 A:Option Addr
 cap:Nat
 l:List Cel
theorem YrC(s:SchM)(slot:Int){B:Nat}{w0:World}{H:List HP}{w:World}(hr:Rd B w0 H s.A (s.cells.flatMap celF))(hl:s.cells.length<=1000000000000)(hw:St B w0 H w):
 CX B w0 105 [s.val,.int .i64 slot] w λv K=>∃A cap,v=.slice A (atE s.sch slot).length cap/\K=cels A cap (atE s.sch slot)::H:=by
 refine XK Tryz.func105 Tryz.ntmps105 rfl rfl hw ?_
 have e1:s.sch.cells=s.cells:=rfl
 by_cases hf:Y5 s.sch=true
 rotate_left
 ·have hf:Y5 s.sch=false:=by simpa using hf
  refine zX32 ?_<;>intros
  apply Yg (cels none 0 []::H)
  ·exact Yq2
  apply VQ_m
  apply Yf;exact rfl;exact rfl
  exact⟨none,0,by rw[atE,Tj (.inl hf)];rfl,by rw[atE,Tj (.inl hf)]⟩
 have hfr:=Zt.1 hf
 have hsz:1<=s.len/\s.len<=512:=by
  have:=Rn hfr.sized
  exact⟨this.1,this.2.1⟩
 by_cases h0:slot<0
 ·skip
  refine zX33 ?_<;>intros
  apply Yg (cels none 0 []::H)
  ·exact Yq2
  apply VQ_m
  apply Yf;exact rfl;exact rfl
  exact⟨none,0,by rw[atE,Tj (.inr h0)];rfl,by rw[atE,Tj (.inr h0)]⟩
 obtain⟨tz,hto⟩:∃tz,slot%s.len=tz:=⟨_,rfl⟩
 have hat:atE s.sch slot=s.cells.filter λc=>decide (c.1=tz):=by
  rw[atE,Tf (by simp[hf,h0]),<-hto,<-Rq (by omega)];rfl
 rw[hat]
 refine zX33 ?_<;>intros
 rename_i gB _ gO
 apply YD [0,1,2,3,4] [5] [true,true]
 kernel_rfl
 kernel_rfl
 exact zy
 (simp only[Yd,nthO];rfl)
 (simp only[Yd,nthO];rfl)
 refine zX2 ?_
 apply Ye _ Ypq
 exact za
 exact rfl
 exactλ_ hw=>(YcN s _ (hw))
 rintro _ _ ⟨gs,gt,rfl,rfl⟩
 rw[hto]
 refine zX2 ?_
 have hr4:Rd B w0 (intB gt tz::schB gs s::schB gB s::H) s.A (s.cells.flatMap celF):=hr.cons.cons.cons
 refine Z1 117 5 ?_
 refine XL (gf:=246) (lb:=[.pointer (some ⟨gs,0,none⟩),.pointer (some ⟨gt,0,none⟩)]) (xs:=inXs s.sch tz) (intB gt tz::schB gs s::schB gB s::H) (λx:AcM=>[blk gO (.cells #[.slice x.A x.l.length x.cap] 28 (0,0)),cels x.A x.cap x.l]) (λi x=>x.l=UX s.sch tz i) (λ_ _=>False) ⟨none,0,[]⟩ rfl Ypt (YcM s tz gs gt hr4 hl (.tail _ (.head _)) (.head _)) rfl ?_ (by kernel_rfl) (by kernel_rfl) ?_ rfl ?_ ?_ (λ_ _ _ h=>h.elim)
 ·exact YtN
 ·unfold schB intB cels
  simp only[TA,TD,Rj,ND]
  exact YtJ
 ·rintro l k args R ⟨A,cap,xs⟩ hk hI
  obtain⟨i,hi,hlt,rfl⟩:=WW hk
  have hlt2:i<s.cells.length:=hlt
  dsimp only at hI⊢
  dsimp only[VP,List.cons_append,List.nil_append]
  have hget:s.cells[i]? =some (Ym s.sch i):=Y0 (s:=s.sch) hlt
  refine zX4 ?_
  apply Z5 Ys
  intro R'
  unfold cels intB schB
  refine XM (R'::blk gO (.cells #[.slice A xs.length cap] 28 (0,0))::sl 117 5 A xs.length cap (xs.flatMap celF)::blk gt (.cells #[.int .i64 tz] 3 (0,0))::blk gs (.cells #[.int .i64 s.len,.int .i64 s.off,.slice s.A s.cells.length s.cap] 30 (0,0))::blk gB (.cells #[.int .i64 s.len,.int .i64 s.off,.slice s.A s.cells.length s.cap] 30 (0,0))::[many H]) (λw hw=>hw.perm (.cons _ (.cons _ (.cons _ (.cons _ (.cons _ (.cons _ (.closeT _)))))))) ?_
  have hrt:Rd B w0 [many H] s.A (s.cells.flatMap celF):=hr.tail
  refine zX7 ?_
  apply YbP [0,1,2,3,4,5,6] [7,8] [false,true,false,false,false,true,true]
  kernel_rfl
  kernel_rfl
  exact zy
  (simp only[Yd,nthO];rfl)
  (simp only[Yd,nthO];rfl)
  have hxl:xs.length<=512:=by
   have h1:=YmW (s:=s.sch) (slot:=tz) (k:=k)
   rw[<-hI]at h1
   exact TU h1 hfr.few
  repeat'(first|(apply Yj;try exact zl)|refine zgd ?_|(refine zgh ?_;intro _)|(refine zgi ?_;intro _ _)|fail)
  rename_i A' cap'
  apply Ve (AcM.mk A' cap' (xs++[Ym s.sch i]))
  ·show xs++[Ym s.sch i]=UX s.sch tz (k+1)
   rw[Yhz hi,hI]
  ·intro w hw
   rw[VB,YcW xs (Ym s.sch i)]at hw
   unfold cels at hw
   have h5:St B w0 (R'::blk gO (.cells #[.slice A' (xs++[Ym s.sch i]).length cap'] 28 (0,0))::sl 117 5 A' (xs++[Ym s.sch i]).length cap' ((xs++[Ym s.sch i]).flatMap celF)::blk gt (.cells #[.int .i64 tz] 3 (0,0))::blk gs (.cells #[.int .i64 s.len,.int .i64 s.off,.slice s.A s.cells.length s.cap] 30 (0,0))::blk gB (.cells #[.int .i64 s.len,.int .i64 s.off,.slice s.A s.cells.length s.cap] 30 (0,0))::[many H]) w:=by
    revert w
    exact zc0
   exact h5.perm (.cons _ (.cons _ (.cons _ (.cons _ (.cons _ (.cons _ (.openT _)))))))
 ·rintro D ⟨A,cap,xs⟩ hI
  dsimp only at hI⊢
  rw[YjL,e1]at hI
  subst hI
  dsimp only[List.cons_append,List.nil_append]
  unfold cels intB schB
  refine zX9 ?_
  apply Zg Ys
  apply VQ_m
  apply Yg (cels A cap (s.cells.filter λc=>decide (c.1=tz))::H)
  ·unfold cels
   exact zc0
  exact Yun
abbrev ints(A:Option Addr)(cap:Nat)(l:List Int):HP:=sl 3 1 A l.length cap (l.flatMap numF)
theorem Ynt(A:Option Addr)(cap:Nat)(l:List Int)(z:Int):sl 3 1 A (l.length+1) cap (l.flatMap numF++#[Value.int .i64 z].toList)=ints A cap (l++[z]):=by simp_all [ints,numF]
variable {A:Option Addr}{cap B:Nat}{w0 w:World}{H:List HP}
theorem Yj5(l:List Int)(v:Int)(hlen:l.length<=9223372036854775807)(hr:Rd B w0 H A (l.flatMap numF))(hw:St B w0 H w):
 CX B w0 224 [.slice A l.length cap,.int .i64 v] w λu K=>u=.int .i64 (Yi (λx=>decide (v=x)) l 0)/\K=H:=by
 refine Ya Tryz.func224 Tryz.ntmps224 rfl rfl hw ?_
 refine zX9 ?_
 refine Yh (λ(k:Nat)=>[(8,.int .i64 k),(7,.int .i64 l.length),(0,.slice A l.length cap),(1,.int .i64 v)]) (λ_=>H) (λk=>k<=l.length/\Yi (λx=>decide (v=x)) l 0=Yi (λx=>decide (v=x)) (l.drop k) k) (λk=>l.length-k) 0 ⟨Tm _,by simp⟩ ?_ (λw hw=>hw) ?_
 ·exact zc1
 rintro k ⟨hk,hi⟩ K hK
 by_cases hlt:k<l.length
 ·obtain⟨a,ha⟩:∃a,l[k]? =some a:=⟨_,Ta hlt⟩
  rw[Zu _ l ha]at hi
  repeat'(first|refine zgd ?_|(refine zge ?_ ?_<;>intro _<;>try exact zo)|fail)
  ·rename_i h
   rw[Tj (Ti h)]at hi
   exact zc61
  ·rename_i h
   rw[Tf (by simp[h])]at hi
   refine zX8 ?_
   apply hK (k+1)
   ·grind
   ·omega
   ·exact zc1
   exact zc19
 exact zc26
theorem YdY(l:List Int)(v:Int)(hlen:l.length<=9223372036854775807)(hr:Rd B w0 H A (l.flatMap numF))(hw:St B w0 H w):
 CX B w0 143 [.slice A l.length cap,.int .i64 v] w λu K=>u=.bool (decide (v∈l))/\K=H:=by
 refine Ya Tryz.func143 Tryz.ntmps143 rfl rfl hw ?_
 have hia:=Vl (λx=>decide (v=x)) l 0 (by omega)
 have hmm:l.any (λx=>decide (v=x))=true↔v∈l:=by simp[List.any_eq_true]
 repeat'(first|((first|apply Yb YsY|apply Yc YsY);exact za;exact rfl;exactλ_ hw=>(Yj5 l v hlen hr hw))|refine zga ?_|(refine zgf ?_ ?_<;>intro _<;>try exact zo)|fail)
 all_goals(apply Yf;exact rfl;exact rfl)
 ·rename_i h;exact⟨by rw[Ti (hmm.1 (hia.1 h))],rfl⟩
 ·rename_i h
  exact⟨by rw[Tn λe=>by have:=hia.2 (hmm.2 e);omega],rfl⟩
theorem Yfu{l:List Int}{k:Nat}{a:Int}(h:l[k]? =some a):l.take (k+1)=l.take k++[a]:=YdK
variable {B:Nat}{w0:World}{H:List HP}
theorem NetM.In.mono{K:List HP}{n:NetM}(h:n.In B w0 H)(hH:∀w,St B w0 K w->St B w0 H w):n.In B w0 K:=
 ⟨h.pw.mono hH,λr hr=>(h.rw_ r hr).mono hH,h.lk.mono hH,h.mg.mono hH,h.s1,h.s2,h.s3,h.s4⟩
def fewE(n:Net):Bool:=decide ((∀r∈n.power,r.length<=40)/\n.power.length<=8/\n.links.length<=60/\n.margin.length<=60)
theorem YhQ(n:NetM){w:World}(hin:n.In B w0 H)(hw:St B w0 H w):
 CX B w0 94 [n.val] w λv K=>v=.bool (fewE n.net)/\K=H:=by
 refine Ya Tryz.func94 Tryz.ntmps94 rfl rfl hw ?_
 obtain⟨hpw,hrw,hlk,hmg,hs1,hs2,hs3,hs4⟩:=id hin
 have e1:(∀r∈n.net.power,r.length<=40)↔∀r∈n.rows,r.xs.length<=40:=by simp[NetM.net]
 have e2:n.net.power.length=n.rows.length:=by simp[NetM.net]
 have e3:n.net.links=n.links:=rfl
 have e4:n.net.margin=n.margin:=rfl
 unfold fewE
 rw[e2,e3,e4]
 (apply Xm;apply YY;apply YV;exact rfl;exact rfl;intro g)
 refine zX7 ?_
 refine Yh (λ(a:Nat)=>[(3,.int .i64 a),(1,.pointer (some ⟨g,0,none⟩))]) (λ_=>netB g n::H) (λa=>a<=n.rows.length/\∀j r,j<a->n.rows[j]? =some r->r.xs.length<=40) (λa=>n.rows.length-a) 0 ⟨Tm _,by intro j r hj;omega⟩ ?_ (λw hw=>hw) ?_
 ·exact zc1
 rintro a ⟨ha,hai⟩ K hK
 by_cases hlt:a<n.rows.length
 ·obtain⟨r,hr⟩:∃r,n.rows[a]? =some r:=⟨_,Ta hlt⟩
  have hs2r:=hs2 r (Tc hr)
  repeat'(first|refine zgd ?_|(refine zgf ?_ ?_<;>intro _<;>try exact zo)|fail)
  ·rename_i h
   apply Yn;apply Yf;exact rfl;exact rfl
   exact⟨by rw[Tn λhc=>by have:=e1.1 hc.1 r (Tc hr);omega],rfl⟩
  ·rename_i h
   apply hK (a+1)
   ·refine⟨by omega,λj q hj hq=>?_⟩
    by_cases e:j=a
    ·subst e;rw[hr]at hq;rw[<-Tz hq];omega
    ·exact hai j q (by omega) hq
   ·omega
   ·exact zc1
   exact zc19
 obtain rfl:a=n.rows.length:=by omega
 have hall:∀r∈n.rows,r.xs.length<=40:=λr hr=>by
  obtain⟨j,hj⟩:=List.getElem?_of_mem hr
  exact hai j r (Td.1 hj).1 hj
 repeat'(first|refine zgc ?_|(refine zgf ?_ ?_<;>intro _<;>try exact zo)|fail)
 ·apply Yn;apply Yf;exact rfl;exact rfl
  exact⟨by rw[Ti ⟨e1.2 hall,by omega,by omega,by omega⟩],rfl⟩
 all_goals(apply Yn;apply Yf;exact rfl;exact rfl;exact⟨by rw[Tn λhc=>by omega],rfl⟩)
def wordS:List UInt8:=[115,99,104,101,100,117,108,101]
def wordC:List UInt8:=[99,101,108,108]
def Zh(w:List UInt8)(l:List Int):List UInt8:=w++l.flatMap λn=>32::Lib.itoa n
def XF(w:List UInt8)(l:List Int):List UInt8:=Zh w l++[10]
def Yi6(s:Sch):List UInt8:=XF wordS [s.len,s.off]++s.cells.flatMap λc=>XF wordC (nums c)
def Xs(s:Sch):List UInt8×Int:=if Y5 s=false then([],1)else(Yi6 s,0)
theorem Yia{n:Int}(h:0<=n):Lib.itoa n=Lib.decDigits n.toNat:=by unfold Lib.itoa;rw[Tf (by omega)]
theorem Yak{s:Sch}(h:Frm s):(∀n∈[s.len,s.off],0<=n/\n<10000)/\∀c∈s.cells,∀n∈nums c,0<=n/\n<10000:=by
 have h1:=h.sized
 unfold Zy at h1
 have h2:=Rn h1
 constructor
 ·intro n hn
  simp only[TV,RJ,N4]at hn
  omega
 ·intro c hc n hn
  have h3:=h.formed c hc
  unfold ZF Zl insE at h3
  simp only[Tq,Tt]at h3
  unfold nums at hn
  simp only[TV,RJ,N4]at hn
  omega
variable {l:List Flw}
theorem YpF{id:Int}(h:0<=Zi l id):∃f∈l,f.1=id:=by
 unfold Zi at h
 have:=(Vl (λf:Flw=>decide (f.1=id)) l 0 (RI _)).1 h
 obtain⟨f,hf,hp⟩:=Re.1 this
 exact⟨f,hf,Rn hp⟩
theorem YeR{nodes:Int}(h:(Yz nodes l).2=0):∀f∈l,0<=f.1/\f.1<=255/\1<=f.2.2.2.1/\f.2.2.2.1<=512:=by
 intro f hf
 obtain⟨i,hi⟩:=TQ.1 hf
 have hl:=(Td.1 hi).1
 unfold Yz at h
 split at h
 ·cases h
 split at h
 ·cases h
 have:=YG.1 h i (Tm _) (by omega)
 unfold Xl at this
 have e:Xk l i=f:=by unfold Xk;rw[Tu,hi];rfl
 rw[e]at this
 split at this
 ·rename_i h1;exact absurd this h1
 ·rename_i h1
  have h2:YX nodes f=0:=RE.1 h1
  unfold YX at h2
  split at h2
  ·cases h2
  split at h2
  ·cases h2
  omega
structure Val(n:Net)(l:List Flw)(s:Sch):Prop where
 whole:Zf n l s=0
 cells:(JH n l s).2=0
 twice:(V1 s).2=0
 dist:(Yez n s).2=0
variable {n:Net}{s:Sch}
theorem ZW:(schE n l s).2=0↔Val n l s:=by
 unfold schE
 by_cases h1:Zf n l s≠0
 ·rw[Tj h1]
  exact⟨λh=>absurd h h1,λh=>absurd h.whole h1⟩
 rw[Tf h1]
 by_cases h2:(JH n l s).2≠0
 ·rw[Tj h2]
  exact⟨λh=>absurd h h2,λh=>absurd h.cells h2⟩
 rw[Tf h2]
 by_cases h3:(V1 s).2≠0
 ·rw[Tj h3]
  exact⟨λh=>absurd h h3,λh=>absurd h.twice h3⟩
 rw[Tf h3]
 exact⟨λh=>⟨RE.1 h1,RE.1 h2,RE.1 h3,h⟩,λh=>h.dist⟩
theorem Oi(h:Zf n l s=0):Yp n=0/\(Yz n.nodes l).2=0/\Zy s=true/\(∀f∈l,s.len.tmod f.2.2.2.1=0)/\s.cells.length<=512:=by
 unfold Zf at h
 by_cases h1:Yp n=0
 rotate_left
 ·rw[Tj h1]at h;cases h
 rw[Tf (λe=>e h1)]at h
 by_cases h2:(Yz n.nodes l).2=0
 rotate_left
 ·rw[Tj h2]at h;cases h
 rw[Tf (λe=>e h2)]at h
 cases h3:Zy s with
 |false=>rw[h3,Tj rfl]at h;cases h
 |true=>
  rw[h3,Tf (by decide)]at h
  split at h
  ·cases h
  rename_i h4
  split at h
  ·cases h
  refine⟨h1,h2,rfl,λf hf=>?_,by omega⟩
  have:=RA.1 (Nn.2 h4) f hf
  simpa using this
theorem Val.frm(h:Val n l s):Frm s:=by
 obtain⟨h1,h2,h3,h4,h5⟩:=Oi h.whole
 have hok:=YM h1
 have k1:=YG.1 h.cells
 have hids:=YeR h2
 have hn:=hok.n1
 have hcell:∀i,i<s.cells.length->Zl s (Ym s i)=true/\Y3 n (Yr (Ym s i)) (toC (Ym s i))=true/\0<=Zi l (Y7 (Ym s i))/\(0<i->Xb (Ym s (i-1)) (Ym s i)=true):=λi hi=>by
  have:=k1 i (Tm _) (by omega)
  unfold VA at this
  cases hp:Zl s (Ym s i)with
  |false=>rw[hp,Tj rfl]at this;cases this
  |true=>
   rw[hp,Tf (by decide)]at this
   split at this
   ·cases this
   rename_i h6
   split at this
   ·cases this
   rename_i h7
   refine⟨rfl,?_,?_,λh0=>?_⟩
   ·cases hg:Y3 n (Yr (Ym s i)) (toC (Ym s i))with
    |true=>rfl
    |false=>exact absurd (.inl hg) h6
   ·exact Md.1 λhlt=>h6 (.inr hlt)
   ·cases hc:Xb (Ym s (i-1)) (Ym s i)with
    |true=>rfl
    |false=>exact absurd ⟨h0,hc⟩ h7
 refine⟨h3,h5,λc hc=>?_,?_⟩
 ·obtain⟨i,hi⟩:=TQ.1 hc
  obtain⟨a1,a2,a3,_⟩:=hcell i (Td.1 hi).1
  rw[Xy hi]at a1 a2 a3
  have hg:=Xr hok a2
  obtain⟨f,hf,hfe⟩:=YpF a3
  have hid:=hids f hf
  unfold Yr toC Y7 at*
  unfold ZF insE
  rw[a1,Ti (by omega),Ti (by omega),Ti (by omega)]
  rfl
 ·refine QQ (lt:=Xb) (λh1 h2=>Z6 h1 h2) λi a b ha hb=>?_
  have:=(hcell (i+1) (Td.1 hb).1).2.2.2 (by omega)
  rw[SB,Xy ha,Xy hb]at this
  exact this
structure Tabs(w:World):Prop where
 pow:Lib.TabIs Tryz.prog w "internal/strconv.uint64pow10" .u64 Lib.pow10Tab
def TabsB(B:Nat)(w0:World):Prop:=∀w,Below B w0 w->Tabs w
variable {B:Nat}{w0 w:World}{H:List HP}
theorem TabsB.here(h:TabsB B w0)(hw:St B w0 H w):TabsB w.heap.size w:=λw1 h1=>h w1 (hw.below.trans (h1.mono hw.le))
abbrev strV(l:List UInt8):Value:=.string ⟨l.toArray⟩
theorem Ye0(n:Int)(h0: -9223372036854775808<=n)(h1:n<=9223372036854775807)(ht:TabsB B w0)(hw:St B w0 H w):
 CX B w0 155 [.int .i64 n] w λv K=>v=strV (Lib.itoa n)/\K=H:=
 YjG hw ((Tryz.strconv_Itoa n h0 h1 w (ht w hw.below).pow).mono λe w' ⟨h1,k,os,h2⟩=>⟨h1,by rw[h2];exact Lib.below_grow _ w (TI _) k os⟩)
open Go.RowKit Go.Eng Go.Nw Go.Rt
variable {n:Net}
theorem YgV(h:Yp n=0)(a b:Int):JQ n (XG n a b)=Y3 n a b:=by
 have hok:=YM h
 unfold JQ XG
 rw[Tf (by simp[h]),Ti h,RV]
 by_cases h1:0<=Yy n a b
 ·have h2:=Zj h1
  rw[Ti ⟨h1,by omega⟩,RV,Ybf hok h2]
  obtain⟨e1,e2⟩:=WU h1
  rw[e1,e2]
 ·rw[Tn (λh=>h1 h.1),SD]
  unfold Y3
  rw[Tn h1,SD]
def Yb7(n:Net)(i:Nat):Lk:=((lnk n i).1,(lnk n i).2.1,(lnk n i).2.2+1)
def ZO(n:Net)(k:Nat):List Lk:=(List.range k).flatMap λi=>if ZL n i=true then [Yb7 n i]else []
def JW(n:Net):List Lk:=ZO n n.links.length
variable {k:Nat}
theorem Yb8(h:ZL n k=true):ZO n (k+1)=ZO n k++[Yb7 n k]:=by
 simp[ZO,List.range_succ,List.flatMap_append,h]
theorem Yen(h:ZL n k=false):ZO n (k+1)=ZO n k:=by
 simp[ZO,List.range_succ,List.flatMap_append,h]
theorem UW(n:Net):∀k,(ZO n k).length<=k
 |0=>by simp[ZO]
 |k+1=>by
  have:=UW n k
  cases h:ZL n k
  ·rw[Yen h];omega
  ·rw[Yb8 h,To,TL];omega
theorem Yio{a:Lk}:a∈ZO n k↔∃i,i<k/\ZL n i=true/\Yb7 n i=a:=by
 unfold ZO
 rw[SQ]
 constructor
 ·rintro⟨i,hi,h⟩
  cases hu:ZL n i
  ·rw[hu]at h;simp at h
  ·rw[hu]at h
   rw[Tj rfl,TO]at h
   exact⟨i,TN.1 hi,hu,h.symm⟩
 ·rintro⟨i,hi,hu,rfl⟩
  exact⟨i,TN.2 hi,by simp[hu]⟩
theorem Ylg(h:Ok n){nodes:Nat}(hn:n.nodes=nodes):ArcsOk nodes (JW n):=by
 intro a ha
 obtain⟨i,hi,_,rfl⟩:=Yio.1 ha
 have hl:=h.lk i hi
 have h1:=hl.f0;have h2:=hl.f1;have h3:=hl.t0;have h4:=hl.t1;have h5:=hl.l0;have h6:=hl.l1
 unfold Yb7
 simp only
 omega
def offE(n:Net)(a:Int):Bool:=decide (a<0\/n.nodes<=a)
def Z8(n:Net)(s t:Int):Int:=if Yp n≠0 then 1 else if offE n s=true\/offE n t=true\/s=t then 2 else 0
def Yaz(r:List Int):Bool:=(List.range r.length).any λi=>(r.take i).contains (r.getD i 0)
def V7(n:Net)(r:List Int):Bool:=(List.range (r.length-1)).any λi=>!Y3 n (r.getD i 0) (r.getD (i+1) 0)
def VG(n:Net)(s t:Int)(r:List Int):Int:=
 if r.length<2 then 9 else if 9<r.length then 8 else if r.any (offE n)=true then 2 else if r.getD 0 0≠s\/r.getD (r.length-1) 0≠t then 11
 else if Yaz r=true then 6 else if V7 n r=true then 17 else 0
def Ye8(n:Net)(a b:Int):Int:=(lnk n (Yy n a b).toNat).2.2
def UZ(n:Net)(r:List Int):Nat->Int
 |0=>0
 |k+1=>UZ n r k+(Ye8 n (r.getD k 0) (r.getD (k+1) 0)+1)
def Ypc(n:Net)(r:List Int):Int:=UZ n r (r.length-1)
def YgZ(n:Net)(r:List Int):Int×Int:=
 if Yp n≠0 then(0,1)else
  let e:=VG n (r.getD 0 0) (r.getD (r.length-1) 0) r
  if e≠0 then(0,e)else(Ypc n r,0)
def X6(n:Net)(s t:Int)(r:List Int):Int:=if Z8 n s t≠0 then Z8 n s t else VG n s t r
theorem XY{l:List Int}{i:Nat}(h:i<l.length):l[i]? =some (l.getD i 0):=by
 rw[Tu,Ta h];rfl
theorem Ybz(h:Ok n)(a b:Int):0<=Ye8 n a b/\Ye8 n a b<=7:=by
 unfold Ye8
 by_cases hi:(Yy n a b).toNat<n.links.length
 ·have:=h.lk _ hi
  exact⟨this.l0,this.l1⟩
 ·rw[show lnk n (Yy n a b).toNat=(0,0,0) by simp[lnk,List.getD,List.getElem?_eq_none (Nat.le_of_not_lt hi)]]
  decide
theorem Yey{n:Net}(h:Ok n)(r:List Int):∀k,0<=UZ n r k/\UZ n r k<=8*k
 |0=>by simp[UZ]
 |k+1=>by
  have h1:=Yey h r k
  have h2:=Ybz h (r.getD k 0) (r.getD (k+1) 0)
  unfold UZ
  omega
section
variable {m:Eng.Mode}{n:Shp}{B d:Nat}{w0:World}{ops:Array Oper}{Q:Exit->Act->World->Prop}{rest:List Oper}{env:Env}{H:List HP}{ty:TypeId}{pos:String}{after:Array Edge}{x y:Operand}
theorem UQ(a b:List UInt8)(hx:evo env x=some (strV a))(hy:evo env y=some (strV b))(hn:Nat.ble (d+1) n.k=true)(hb:a.length+b.length<=1000000)(h:VL Tryz.prog m n B w0 ops Q rest ((d,strV (a++b))::env) H):
 VL Tryz.prog m n B w0 ops Q (⟨some d,.binOp .add 9 x y 9,ty,pos,after,none⟩::rest) env H:=by
 have hs:∀l:List UInt8,(⟨l.toArray⟩:ByteArray).size=l.length:=by grind [ByteArray.size]
 refine Yrr hx hy hn (by grind) ?_
 have e:(⟨a.toArray⟩:ByteArray)++⟨b.toArray⟩=⟨(a++b).toArray⟩:=by
  apply ByteArray.ext
  simp
 simp_all
variable {g:Nat}{cs:Array Value}{fr:Nat×Nat}
theorem YoR(hx:evo env x=some (.pointer (some ⟨g,0,none⟩)))(hm:blk g (.cells cs 175 fr)∈H)(hc:cs.size=2)(hn:Nat.ble (d+1) n.k=true)
 (h:VL Tryz.prog none n B w0 ops Q rest ((d,.pointer (some ⟨g,0,none⟩))::env) H):VL Tryz.prog none n B w0 ops Q (⟨some d,.convert 172 319 x,ty,pos,after,none⟩::rest) env H:=by
 refine Xj (λv K'=>v=.pointer (some ⟨g,0,none⟩)/\K'=H) rfl rfl hn (λa w ha hw=>?_) (by rintro _ _ ⟨rfl,rfl⟩;exact h)
 have hb:=(hw.blk hm).1
 obtain⟨j,hj,hjs⟩:=Option.map_eq_some_iff.1 (show(Tryz.prog.info? 175).map (·.size)=some 2 by kernel_rfl)
 have hr:=Lib.run_to_unsafe (P:=Tryz.prog) w ⟨g,0,none⟩ Tryz.underlying172 Tryz.underlying319 hj (by rw[hjs];decide) (show w.shape? g=some (175,2) by simp[World.shape?,hb,hc]) (Nat.zero_lt_succ 1)
 exact⟨_,H,w,by simp[execOp,ha.eval hx,hr],hw,rfl,rfl⟩
theorem YoK(hx:evo env x=some (.pointer (some ⟨g,0,none⟩)))(hm:blk g (.cells cs 175 fr)∈H)(hc:cs.size=2)(hn:Nat.ble (d+1) n.k=true)
 (h:VL Tryz.prog none n B w0 ops Q rest ((d,.pointer (some ⟨g,0,none⟩))::env) H):VL Tryz.prog none n B w0 ops Q (⟨some d,.convert 319 172 x,ty,pos,after,none⟩::rest) env H:=by
 refine Xj (λv K'=>v=.pointer (some ⟨g,0,none⟩)/\K'=H) rfl rfl hn (λa w ha hw=>?_) zc51
 have hb:=(hw.blk hm).1
 obtain⟨j,hj,hjs⟩:=Option.map_eq_some_iff.1 (show(Tryz.prog.info? 175).map (·.size)=some 2 by kernel_rfl)
 have hr:=Lib.run_from_unsafe (P:=Tryz.prog) w ⟨g,0,none⟩ Tryz.underlying319 Tryz.underlying172 hj (show w.shape? g=some (175,2) by simp[World.shape?,hb,hc]) (by kernel_rfl)
 exact⟨_,H,w,by simp[execOp,ha.eval hx,hr],hw,rfl,rfl⟩
theorem YoI{v:Value}{tys:Array TypeId}(hx:evo env x=some v)(hn:Nat.ble (d+1) n.k=true)(h:VL Tryz.prog none n B w0 ops Q rest ((d,v)::env) H):
 VL Tryz.prog none n B w0 ops Q (⟨some d,.call ⟨.value (.func 228),#[x],tys⟩,ty,pos,after,none⟩::rest) env H:=by
 refine Xj (λu K'=>u=v/\K'=H) rfl rfl hn (λa w ha hw=>⟨v,H,w,?_,hw,rfl,rfl⟩) zc51
 have hr:=run_callFunc_extern (P:=Tryz.prog) Tryz.func228 (by kernel_rfl) (by kernel_rfl) (by kernel_rfl) (e:=Extern.AbiNoEscape.same) (by kernel_rfl) #[v] w
 have he:a.eval (.func 228)=.func (.func 228) #[] #[]:=rfl
 simp[execOp,resolve,invoke,ha.eval hx,he,Deferred.ofValue,hr,Lib.run_noEscape,Result.andThen]
theorem Yhd{g:Addr}(hx:evo env x=some (.pointer (some g)))(hy:evo env y=some (.pointer (some g)))(hn:Nat.ble (d+1) n.k=true)(h:VL Tryz.prog m n B w0 ops Q rest ((d,.bool false)::env) H):
 VL Tryz.prog m n B w0 ops Q (⟨some d,.binOp .neq 172 x y 172,ty,pos,after,none⟩::rest) env H:=by
 obtain⟨j,hj,hjs⟩:=Option.map_eq_some_iff.1 (show(Tryz.prog.info? 175).map (·.size)=some 2 by kernel_rfl)
 exact Y8 hx hy hn (λ_=>rfl) (λw=>Lib.run_neq_ptr_same w g Tryz.underlying172 hj) h
end
variable {B b cap:Nat}{w0 w:World}{H:List HP}
theorem Ycj(b:Nat)(p v:Value)(hp:p=.pointer none\/p=.pointer (some ⟨b,0,none⟩))(hw:St B w0 (blk b (.cells #[p,v] 175 (0,0))::H) w):
 CX B w0 154 [.pointer (some ⟨b,0,none⟩)] w λu K=>u=.tuple #[]/\K=blk b (.cells #[.pointer (some ⟨b,0,none⟩),v] 175 (0,0))::H:=by
 refine Ya Tryz.func154 Tryz.ntmps154 rfl rfl hw ?_
 rcases hp with rfl|rfl
 ·skip
  repeat'(first|(apply Yhc;exact rfl;exact rfl;kernel_rfl)|(apply YoR;exact rfl;exact zm;exact rfl;exact rfl)|(apply YoK;exact rfl;exact zm;exact rfl;exact rfl)|(apply YoI;exact rfl;exact rfl)|(apply Yhd;(iterate 3 exact rfl))|refine zgd ?_|fail)
  exact Yjn
 ·skip
  repeat'(first|(apply Yhc;exact rfl;exact rfl;kernel_rfl)|(apply Yhd;(iterate 3 exact rfl))|refine zgd ?_|fail)
  exact Yjn
def bdP(b:Nat)(p:Value)(A:Option Addr)(cap:Nat)(l:List UInt8)(H:List HP):List HP:=blk b (.cells #[p,.slice A l.length cap] 175 (0,0))::sl 5 1 A l.length cap (Lib.byteCells l)::H
theorem JP(b:Nat)(p:Value)(hp:p=.pointer none\/p=.pointer (some ⟨b,0,none⟩))(A:Option Addr)(cap:Nat)(l s:List UInt8)(hl:l.length+s.length<=1000000)(hw:St B w0 (bdP b p A cap l H) w):
 CX B w0 83 [.pointer (some ⟨b,0,none⟩),strV s] w λu K=>u=.tuple #[.int .i64 s.length,.nilIface]/\∃A' cap',K=bdP b (.pointer (some ⟨b,0,none⟩)) A' cap' (l++s) H:=by
 have hs:(⟨s.toArray⟩:ByteArray).size=s.length:=by simp[ByteArray.size]
 refine Ya Tryz.func83 Tryz.ntmps83 rfl rfl hw ?_
 unfold bdP
 refine zX4 ?_
 apply Ye _ YvW
 exact za
 exact rfl
 exactλ_ hw=>(Ycj b p _ hp (hw))
 rintro _ _ ⟨rfl,rfl⟩
 repeat'(first|(apply YfG T (e:=5);(iterate 3 exact rfl);kernel_rfl;exact rfl;exact rfl;(intro _ _;exact zd);(rw[hs];omega);intro A' cap')|refine zgd ?_|fail)
 have e1:Lib.byteCells l++Lib.strCells ⟨s.toArray⟩=Lib.byteCells (l++s):=by
  grind [Go.Lib.byteCells,Go.Lib.strCells]
 have e2:l.length+(⟨s.toArray⟩:ByteArray).size=(l++s).length:=by simp_all
 apply YL;(iterate 3 exact rfl)
 refine⟨by rw[hs],A',cap',?_⟩
 simp_all
variable {p:Value}{A:Option Addr}{l:List UInt8}
theorem YuR(hp:p=.pointer none\/p=.pointer (some ⟨b,0,none⟩))(hw:St B w0 (bdP b p A cap l H) w):Lib.IsBuilder 175 5 B b (Lib.byteCells l) w:=by
 obtain⟨_,_,S1,S2,k1,k2,k3,⟨k4,k5⟩,S3,S4,j1,j2,j3,⟨⟨j4,j5⟩,j6⟩,j7⟩:=hw
 have hl:(Lib.byteCells l).length=l.length:=by omega
 have hat:Lib.BuilderAt 175 5 B b p (Lib.byteCells l) w:=by
  refine⟨(k1 b k4).1,.slice A l.length cap,k5,⟨by omega,?_⟩,?_⟩
  ·rw[hl]
   rcases j5 with j5|⟨g,c,cur,e1,e2,e3⟩
   ·simp_all
   ·refine .inr ⟨g,c,cur,e1,?_,e3⟩
    simp_all
  grind [Go.Value.ownBlock]
 rcases hp with rfl|rfl
 ·exact .inl hat
 ·exact .inr hat
theorem Oe(hp:p=.pointer none\/p=.pointer (some ⟨b,0,none⟩))(hw:St B w0 (bdP b p A cap l H) w):
 CX B w0 87 [.pointer (some ⟨b,0,none⟩)] w λv K=>v=strV l/\K=[]:=by
 refine(Tryz.Builder_String_any B b l w (YuR hp hw) hw.le).mono ?_
 rintro e w' ⟨rfl,hb⟩
 exact⟨_,[],rfl,⟨hw.below.trans hb,TU hw.le hb.size,trivial⟩,rfl,rfl⟩
theorem QI{n:Int}(h:0<=n/\n<10000):(Lib.itoa n).length<=4:=by
 grind [Yia,YrJ]
theorem WH{w:List UInt8}:∀{l:List Int},(∀n∈l,0<=n/\n<10000)->(Zh w l).length<=w.length+5*l.length
 |[],_=>by simp[Zh]
 |n::l,h=>by
  have ih:=WH (w:=w) (l:=l) λm hm=>h m (TJ _ hm)
  grind [QI,Zh]
theorem Q9(w:List UInt8)(l:List Int)(n:Int):Zh w (l++[n])=Zh w l++([32]++Lib.itoa n):=by
 grind [Zh]
theorem Ye7(word:List UInt8)(l:List Int)(h:∀n∈l,0<=n/\n<10000)(h5:l.length<=100)(hwd:word.length<=100)(ht:TabsB B w0)(hr:Rd B w0 H A (l.flatMap numF))(hw:St B w0 H w):
 CX B w0 157 [strV word,.slice A l.length cap] w λv K=>v=strV (XF word l)/\K=H:=by
 refine Ya Tryz.func157 Tryz.ntmps157 rfl rfl hw ?_
 refine zX9 ?_
 refine Yh (λ(i:Nat)=>[(9,.int .i64 i),(8,.int .i64 l.length),(7,.slice A l.length cap),(0,strV (Zh word (l.take i)))]) (λ_=>H) (λi=>i<=l.length) (λi=>l.length-i) 0 (Tm _) ?_ (λw hw=>hw) ?_
 ·have e0:Zh word (l.take 0)=word:=by simp[Zh]
  rw[e0]
  exact zc1
 intro i hi K hK
 have hbl:=WH (w:=word) (l:=l.take i) λn hn=>h n (SC hn)
 have hlt0:(l.take i).length<=100:=by grind
 by_cases hlt:i<l.length
 ·obtain⟨n,hn⟩:∃n,l[i]? =some n:=⟨_,Ta hlt⟩
  have hnb:=h n (Tc hn)
  have hil:=QI hnb
  refine zX37 ?_<;>intros
  apply hK (i+1)
  ·show i+1<=l.length
   omega
  ·omega
  ·rw[TG,hn,SE,Q9]
   exact zc1
  exact zc19
 exact zc14
def ZX(s:Sch)(i:Nat):List UInt8:=XF wordS [s.len,s.off]++(s.cells.take i).flatMap λc=>XF wordC (nums c)
theorem Ybe{s:Sch}{i:Nat}(h:i<s.cells.length):ZX s (i+1)=ZX s i++XF wordC (nums (Ym s i)):=by
 grind [ZX,TG,Y0]
theorem Zb{w:List UInt8}{l:List Int}(h:∀n∈l,0<=n/\n<10000):(XF w l).length<=w.length+5*l.length+1:=by
 grind [XF,WH]
theorem Qf{s:Sch}(h:Frm s):∀i,i<=s.cells.length->(ZX s i).length<=100+40*i
 |0,_=>by
  have h1:=Zb (w:=wordS) (Yak h).1
  grind [ZX,wordS,TS]
 |i+1,hi=>by
  have ih:=Qf h i (by omega)
  have h1:=Zb (w:=wordC) ((Yak h).2 _ (JE (s:=s) (i:=i) (by omega)))
  rw[Ybe (by omega),To]
  have:wordC.length=4:=rfl
  have h2:(nums (Ym s i)).length=5:=rfl
  omega
theorem Yqi(s:SchM)(ht:TabsB B w0)(hr:Rd B w0 [] s.A (s.cells.flatMap celF))(hl:s.cells.length<=1000000000000)(hw:St B w0 [] w):
 CX B w0 85 [s.val] w λv _=>v=.tuple #[strV (Xs s.sch).1,.int .i64 (Xs s.sch).2]:=by
 refine Ya Tryz.func85 Tryz.ntmps85 rfl rfl hw ?_
 have e1:s.sch.cells=s.cells:=rfl
 cases hf:Y5 s.sch with
 |false=>
  refine zX32 ?_<;>intros
  apply YL;(iterate 3 exact rfl)
  simp_all [Xs]
 |true=>
  have hfr:=Zt.1 hf
  have hle:s.cells.length<=512:=hfr.few
  have hnm:=Yak hfr
  have hln1:=Zb (w:=wordS) hnm.1
  refine zX32 ?_<;>intros
  rename_i gs gb gl
  have hrl:Rd B w0 [blk gl (.cells #[.int .i64 s.len,.int .i64 s.off] 3 (0,0)),blk gb (.cells (Value.agg #[.pointer none,.slice none 0 0]).cells 175 (0,0)),blk gs (.cells #[.int .i64 s.len,.int .i64 s.off,.slice s.A s.cells.length s.cap] 30 (0,0))] (some ⟨gl,0,none⟩) ([s.sch.len,s.sch.off].flatMap numF):=Rd.blk (cs:=#[.int .i64 s.len,.int .i64 s.off]) (.head _)
  first|apply Yb Ylt|apply Yc Ylt
  exact za
  exact rfl
  exactλ_ hw=>(Ye7 wordS [s.sch.len,s.sch.off] hnm.1 (by show 2<=100;decide) (by decide) ht hrl hw)
  apply Xv (bdP gb (.pointer none) none 0 [] [blk gs (.cells #[.int .i64 s.len,.int .i64 s.off,.slice s.A s.cells.length s.cap] 30 (0,0))])
  ·unfold bdP
   intro w hw
   have h5:St B w0 [blk gb (.cells (Value.agg #[.pointer none,.slice none 0 0]).cells 175 (0,0)),blk gs (.cells #[.int .i64 s.len,.int .i64 s.off,.slice s.A s.cells.length s.cap] 30 (0,0))] w:=by
    revert w
    exact zc0
   exact(h5.nilSlice _ _).perm (.swap _ _ _)
  apply Ye _ en83
  exact za
  exact rfl
  exactλ_ hw=>(JP gb _ (.inl rfl) none 0 [] (XF wordS [s.sch.len,s.sch.off]) (by simp only[Rj];have:wordS.length=8:=rfl;simp only[TS,Rj]at hln1;omega) (hw))
  rintro _ _ ⟨rfl,A1,cap1,rfl⟩
  unfold bdP
  refine zX9 ?_
  refine Yh (λ(z:Nat×Option Addr×Nat)=>[(21,.int .i64 z.1),(20,.int .i64 s.cells.length),(19,.slice s.A s.cells.length s.cap),(4,.pointer (some ⟨gb,0,none⟩))]) (λz=>bdP gb (.pointer (some ⟨gb,0,none⟩)) z.2.1 z.2.2 (ZX s.sch z.1) [blk gs (.cells #[.int .i64 s.len,.int .i64 s.off,.slice s.A s.cells.length s.cap] 30 (0,0))]) (λz=>z.1<=s.cells.length) (λz=>s.cells.length-z.1) (0,A1,cap1) (Tm _) ?_ ?_ ?_
  ·exact zc1
  ·have e0:ZX s.sch 0=[]++XF wordS [s.sch.len,s.sch.off]:=by unfold ZX;simp
   rw[e0]
   unfold bdP
   exact YfB
  rintro⟨i,A2,cap2⟩ hi K hK
  dsimp only at hi⊢
  have htl:=Qf hfr i hi
  by_cases hlt:i<s.cells.length
  ·have hget:s.cells[i]? =some (Ym s.sch i):=Y0 (s:=s.sch) hlt
   have hnc:=hnm.2 _ (JE (s:=s.sch) hlt)
   have hln:=Zb (w:=wordC) hnc
   have hr':Rd B w0 (bdP gb (.pointer (some ⟨gb,0,none⟩)) A2 cap2 (ZX s.sch i) [blk gs (.cells #[.int .i64 s.len,.int .i64 s.off,.slice s.A s.cells.length s.cap] 30 (0,0))]) s.A (s.cells.flatMap celF):=hr.cons.cons.cons
   repeat'(first|((first|apply Yb Ypp|apply Yc Ypp);exact za;exact rfl;exactλ_ hw=>(QP _ hw))|(apply Qk T (e:=3);(iterate 3 exact rfl))|refine zgd ?_|(refine zge ?_ ?_<;>intro _<;>try exact zo)|(refine zgh ?_;intro _)|fail)
   rename_i gc ga
   have hra:∀X,Rd B w0 (blk ga (.cells (celF (Ym s.sch i)).toArray 254 (0,0))::X) (some ⟨ga,0,none⟩) ((nums (Ym s.sch i)).flatMap numF):=λX=>Rd.blk (cs:=(celF (Ym s.sch i)).toArray) (.head _)
   first|apply Yb Ylt|apply Yc Ylt
   exact za
   exact rfl
   exactλ_ hw=>(Ye7 wordC (nums (Ym s.sch i)) hnc (by show 5<=100;decide) (by decide) ht (hra _) hw)
   apply Xv (bdP gb (.pointer (some ⟨gb,0,none⟩)) A2 cap2 (ZX s.sch i) [blk gs (.cells #[.int .i64 s.len,.int .i64 s.off,.slice s.A s.cells.length s.cap] 30 (0,0))])
   ·exactλw hw=>hw.tail.tail
   have h5n:(nums (Ym s.sch i)).length=5:=rfl
   have h4w:wordC.length=4:=rfl
   apply Ye _ en83
   exact za
   exact rfl
   exactλ_ hw=>(JP gb _ (.inr rfl) A2 cap2 (ZX s.sch i) (XF wordC (nums (Ym s.sch i))) (by omega) (hw))
   rintro _ _ ⟨rfl,A3,cap3,rfl⟩
   rw[<-Ybe hlt]
   refine zX9 ?_
   apply hK (i+1,A3,cap3)
   ·show i+1<=s.cells.length
    omega
   ·exact zc36
   ·exact zc1
   exact zc19
  ·refine zX0 ?_<;>intros
   apply Ye _ en87
   exact za
   exact rfl
   exactλ_ hw=>(Oe (l:=ZX s.sch i) (.inr rfl) (hw))
   rintro _ _ ⟨rfl,rfl⟩
   refine zX4 ?_
   apply YL;(iterate 3 exact rfl)
   rw[Xs,Tf (by simp[hf])]
   rw[show i=s.sch.cells.length from(by have:s.sch.cells.length=s.cells.length:=rfl;omega),show ZX s.sch s.sch.cells.length=Yi6 s.sch from(by unfold ZX Yi6;rw[TP])]
theorem VO(s:SchM)(ht:TabsB B w0)(hr:Rd B w0 H s.A (s.cells.flatMap celF))(hl:s.cells.length<=1000000000000)(hw:St B w0 H w):
 CX B w0 85 [s.val] w λv K=>v=.tuple #[strV (Xs s.sch).1,.int .i64 (Xs s.sch).2]/\K=H:=
 WJ hw (Yqi s (ht.here hw) (hr.here hw) hl (St.start w))
end Go.Proofs.YtambgjgljcadlaaGreatDoor
namespace Go.Eng
open Go.RowKit
inductive OV where
 |done
 |p1 (i:Nat) (t:OV)
 |d1 (i:Nat) (t:OV)
 |d2 (i:Nat) (t:OV) (j:Nat) (u:OV)
section
variable {P:Program}{n:Shp}{B:Nat}{w0:World}{Q:Exit->Act->World->Prop}{env:Env}{H:List HP}{ops:Array Oper}
def wpD(P:Program)(ops:Array Oper)(K:Act->World->Prop)(o:Oper)(a:Act)(w:World):Prop:=
 if Region.wanted o (yielded ops a.tmps)then o.wp P a w K (λ_ _ _=>False)else K (a.put o.dst undef) w
def Za(P:Program)(ops:Array Oper)(l:List Oper)(Q:Exit->Act->World->Prop)(S:World->Prop):OV->Act->World->Prop
 |.done,a,w=>Q .normal a w
 |.p1 i t,a,w=>Yt P ops (λe a w=>match e with|.normal=>S w/\Za P ops l Q S t a w|_=>False) S [nthO l i] a w
 |.d1 i t,a,w=>wpD P ops (λa w=>S w/\Za P ops l Q S t a w) (nthO l i) a w
 |.d2 i t j u,a,w=>wpD P ops (λa w=>S w/\Za P ops l Q S t a w) (nthO l i) a w/\wpD P ops (λa w=>S w/\Za P ops l Q S u a w) (nthO l j) a w
def Wl(ops:Array Oper)(last:List Nat):OV->Array Bool->Nat->Bool
 |.done,listed,0=>J6 ops last listed
 |.done,_,_+1=>false
 |.p1 i t,listed,k+1=>!last.contains i&&(match ops[i]? with
  |some o=>!eff o&&((Region.ready .any ops listed).contains i&&Region.free .any ops listed i)
  |none=>false)&&Wl ops last t (listed.setIfInBounds i true) k
 |.d1 i t,listed,k+1=>!last.contains i&&(ops[i]?).isSome&&decide (Region.ready .any ops listed=[i])&&Wl ops last t (listed.setIfInBounds i true) k
 |.d2 i t j u,listed,k+1=>!last.contains i&&!last.contains j&&(ops[i]?).isSome&&(ops[j]?).isSome&&((Region.ready .any ops listed).all λx=>x==i||x==j)&&!(Region.ready .any ops listed).isEmpty&&Wl ops last t (listed.setIfInBounds i true) k&&Wl ops last u (listed.setIfInBounds j true) k
 |.p1 _ _,_,0=>false
 |.d1 _ _,_,0=>false
 |.d2 _ _ _ _,_,0=>false
variable {i:Nat}{o:Oper}{a:Act}{w:World}
theorem Ycl{S:World->Prop}{K:Act->World->Prop}{last:List Nat}{k:Nat}{listed:Array Bool}(ho:ops[i]? =some o)
 (h:wpD P ops K o a w) (hk:∀a w,K a w->S w/\XZ P ops Q S last k (listed.setIfInBounds i true) a w):
 wpOp P ops Q i (λa' w'=>(last.contains i=false->S w')/\XZ P ops Q S last k (listed.setIfInBounds i true) a' w') a w:=by
 unfold wpD at h
 unfold wpOp
 simp only[ho]
 by_cases hw:Region.wanted o (yielded ops a.tmps)=true
 ·rw[Tj hw]at h⊢
  exact .inl (Oper.wp_mono_noQ (λ_ _ _ h=>h) (by rintro⟨_,_,h⟩;exact h) (Oper.wp_mono (λa' w' h'=>⟨λ_=>(hk a' w' h').1,(hk a' w' h').2⟩) h))
 ·rw[Tf hw]at h⊢
  exact⟨λ_=>(hk _ w h).1,(hk _ w h).2⟩
theorem J2{S:World->Prop}{last:List Nat}(hs:Region.noSelect ops=true)(hQ:∀c (a:Act) (w:World),¬Q (.panic c) a w)(hlo:¬LetsOut Q)(l:List Oper)(hl:ops=l.toArray)(hlast:YcU ops last=true):
 ∀(t:OV) (k:Nat) (listed:Array Bool) (a:Act) (w:World),Closed ops listed->Wl ops last t listed k=true->S w->Za P ops l (Z0 P ops Q (Yd l last)) S t a w->
  XZ P ops Q S last (k+last.length) listed a w
 |.done,0,listed,a,w,_,hB,_,h=>by
  have:=Jb (S:=S) l hl (JJ hlast).1 hlo last listed a w (λj hj=>by simpa using hj) hB h
  rw[RL]
  exact this
 |.done,_+1,_,_,_,_,hB,_,_=>by cases hB
 |.p1 _ _,0,_,_,_,_,hB,_,_=>by cases hB
 |.d1 _ _,0,_,_,_,_,hB,_,_=>by cases hB
 |.d2 _ _ _ _,0,_,_,_,_,hB,_,_=>by cases hB
 |.p1 i t,k+1,listed,a,w,hcl,hB,hS,h=>by
  simp only[Wl,Tq]at hB
  obtain⟨⟨h0,h1⟩,h2⟩:=hB
  have hno:last.contains i=false:=by simpa using h0
  cases ho:ops[i]? with
  |none=>rw[ho]at h1;cases h1
  |some o=>
   rw[ho]at h1
   have hget:=Xp hl ho
   unfold Za at h
   rw[hget]at h
   rw[SL]
   simp only[Tq,RZ]at h1
   obtain⟨he,h3,h4⟩:=h1
   unfold Yt at h
   rw[Tf (by rw[he];simp)]at h
   obtain⟨v,hy,h5⟩:=h
   have hr:i∈Region.ready .any ops listed:=by simpa using h3
   exact Jy ho (Region.noSelect_spec hs) hQ ((JJ hlast).2 i o ho he hno) hno _ listed a w hcl (Region.free_spec ho h4) hr hy hS (J2 hs hQ hlo l hl hlast t k _ _ w (hcl.set hr) h2 hS h5.2)
 |.d1 i t,k+1,listed,a,w,hcl,hB,hS,h=>by
  simp only[Wl,Tq,Tt]at hB
  obtain⟨⟨⟨h0,h1⟩,h3⟩,h2⟩:=hB
  obtain⟨o,ho⟩:=S5.1 h1
  unfold Za at h
  rw[Xp hl ho]at h
  rw[SL]
  refine⟨λh0=>(by rw[h3]at h0;cases h0),λj hj=>?_⟩
  have hj':=hj
  rw[h3]at hj
  obtain rfl:j=i:=by simpa using hj
  exact Ycl ho h λa w ⟨hS',h'⟩=>⟨hS',J2 hs hQ hlo l hl hlast t k _ a w (hcl.set hj') h2 hS' h'⟩
 |.d2 i t j u,k+1,listed,a,w,hcl,hB,hS,h=>by
  simp only[Wl,Tq]at hB
  obtain⟨⟨⟨⟨⟨⟨⟨b1,b2⟩,b3⟩,b4⟩,b5⟩,b6⟩,b7⟩,b8⟩:=hB
  obtain⟨o,ho⟩:=S5.1 b3
  obtain⟨o',ho'⟩:=S5.1 b4
  unfold Za at h
  rw[Xp hl ho,Xp hl ho']at h
  rw[SL]
  refine⟨λh0=>(by rw[h0]at b6;cases b6),λx hx=>?_⟩
  have h5:=TK.1 b5 x hx
  simp only[RO,Nu]at h5
  rcases h5 with rfl|rfl
  ·exact Ycl ho h.1 λa w ⟨hS',h'⟩=>⟨hS',J2 hs hQ hlo l hl hlast t k _ a w (hcl.set hx) b7 hS' h'⟩
  ·exact Ycl ho' h.2 λa w ⟨hS',h'⟩=>⟨hS',J2 hs hQ hlo l hl hlast u k _ a w (hcl.set hx) b8 hS' h'⟩
structure VV(P:Program)(n:Shp)(B:Nat)(w0:World)(ops:Array Oper)(l:List Oper)(Q:Exit->Act->World->Prop)(t:OV)(env:Env)(H F:List HP):Prop where
 run:∀a,Fits n a env->∀w,St B w0 (H++F) w->Za P ops l Q (St B w0 H) t a w
def UO(P:Program)(B:Nat)(w0:World)(ops:Array Oper)(l:List Oper)(Q:Exit->Act->World->Prop)(Hc:List HP)(t:OV):Exit->Act->World->Prop
 |.normal,a,w=>St B w0 Hc w/\Za P ops l Q (St B w0 Hc) t a w
 |_,_,_=>False
variable {l:List Oper}{t:OV}
theorem Yof:UO P B w0 ops l Q H t=λe a w=>match e with|.normal=>St B w0 H w/\Za P ops l Q (St B w0 H) t a w|_=>False:=by
 funext e a w
 cases e<;>rfl
theorem YkX(h:wpList P ops (UO P B w0 ops l Q H t) [o] a w):wpD P ops (λa w=>St B w0 H w/\Za P ops l Q (St B w0 H) t a w) o a w:=by
 have hno:¬LetsOut (UO P B w0 ops l Q H t):=by rintro⟨_,_,h⟩;exact h
 unfold wpList at h
 unfold wpD
 by_cases hw:Region.wanted o (yielded ops a.tmps)=true
 ·rw[Tj hw]at h⊢
  rcases h with h|⟨_,h⟩
  ·exact Oper.wp_mono_noQ (λ_ _ _ h=>h) hno (Oper.wp_mono (λa' w' h'=>h') h)
  ·exact(hno h).elim
 ·rw[Tf hw]at h⊢
  exact h
variable {F HF Hc:List HP}
theorem Yry(happ:App H F HF)(h:VQ n B w0 Q .normal env HF):VV P n B w0 ops l Q .done env H F:=
 ⟨λa ha w hw=>by rw[<-UV happ]at hw;exact h.run a w ha hw⟩
theorem Ylf(ho:nthO l i=o)(h:VL P (some (some F)) n B w0 ops (UO P B w0 ops l Q H t) [o] env H):VV P n B w0 ops l Q (.p1 i t) env H F:=by
 refine⟨λa ha w hw=>?_⟩
 have h1:Yt P ops (UO P B w0 ops l Q H t) (St B w0 H) [o] a w:=h.run a ha w hw
 unfold Za
 rw[ho,<-Yof]
 exact h1
theorem Yld(ho:nthO l i=o)(happ:App H F HF)(h:VL P none n B w0 ops (UO P B w0 ops l Q H t) [o] env HF):VV P n B w0 ops l Q (.d1 i t) env H F:=by
 refine⟨λa ha w hw=>?_⟩
 unfold Za
 rw[ho]
 rw[<-UV happ]at hw
 exact YkX (h.run a ha w hw)
theorem Yle{j:Nat}{u:OV}{o':Oper}(ho:nthO l i=o)(ho':nthO l j=o')(happ:App H F HF)(h:VL P none n B w0 ops (UO P B w0 ops l Q H t) [o] env HF)
 (h':VL P none n B w0 ops (UO P B w0 ops l Q H u) [o'] env HF):VV P n B w0 ops l Q (.d2 i t j u) env H F:=by
 refine⟨λa ha w hw=>?_⟩
 unfold Za
 rw[ho,ho']
 rw[<-UV happ]at hw
 exact⟨YkX (h.run a ha w hw),YkX (h'.run a ha w hw)⟩
theorem Qm{H':List HP}(hp:Pull Hc H' F)(h:VV P n B w0 ops l Q t env Hc F):VQ n B w0 (UO P B w0 ops l Q Hc t) .normal env H':=
 ⟨λa w ha hw=>⟨(hw.perm hp).prefix_,h.run a ha w (hw.perm hp)⟩⟩
theorem Qi{id:Nat}(t:OV)(last:List Nat)(mask:List Bool)(hm:P.follows .mixedOrders=true)
 (hB:(Region.noSelect l.toArray&&decide (last.length<=l.toArray.size)&&YcU l.toArray last&&Wl l.toArray last t (Array.replicate l.toArray.size false) (l.toArray.size-last.length))=true)
 (hsp:Split mask H Hc F) {l2:List Oper}(hl2:Yd l last=l2) (h:VV P n B w0 l.toArray l (Z0 P l.toArray (Only Q) l2) t env Hc F):VC P n B w0 (.region id l.toArray true) Q env H:=by
 simp only[Tq,Tt]at hB
 obtain⟨⟨⟨h1,h2⟩,h3⟩,h5⟩:=hB
 refine⟨λa w ha hw=>ZA (Q:=Only Q) ?_ λe a w h=>by cases e<;>first|exact h|cases h⟩
 have hst:St B w0 (Hc++F) w.drew:=(hw.perm (XC hsp)).drew
 have hr:=h.run a ha w.drew hst
 rw[<-hl2]at hr
 have:=J2 (S:=St B w0 Hc) h1 (λc a w h=>h) (by rintro⟨_,_,h⟩;exact h) l rfl h3 t _ _ a w.drew (XO _ _) h5 hst.prefix_ hr
 rw[Nat.sub_add_cancel h2]at this
 exact Vp hm (Zz _ _ _ _ this)
end
end Go.Eng
namespace Go.Proofs.YtambgjgljcadlaaGreatDoor
open Go.RowKit Go.Eng Go.Nw
def cpN(n:Net)(node:Int)(d:Cel):Int:=powN n (Yr d) node+powN n (toC d) node
def sumC(n:Net)(node:Int)(l:List Cel):Int:=(l.map (cpN n node)).sum
theorem Yi1(n:Net)(node:Int):sumC n node []=0:=rfl
theorem XJ(n:Net)(node:Int)(d:Cel)(l:List Cel):sumC n node (d::l)=cpN n node d+sumC n node l:=by unfold sumC;rw[Rh,NI]
theorem Ybd(n:Net)(node:Int):∀l m:List Cel,sumC n node (l++m)=sumC n node l+sumC n node m
 |[],m=>by rw[TD,Yi1];omega
 |d::l,m=>by rw[TA,XJ,XJ,Ybd n node l m];omega
variable {n:Net}
theorem YqE(h:Ok n)(node:Int){l m:List Cel}(hs:l.Sublist m):sumC n node l<=sumC n node m:=by
 induction hs with
 |slnil=>exact RI _
 |@cons l m d _ ih=>
  rw[XJ]
  have h1:=We h (Yr d) node
  have h2:=We h (toC d) node
  unfold cpN
  omega
 |cons_cons d _ ih=>rw[XJ,XJ];omega
theorem Yco{n:Net}{l:List Cel}(hnd:l.Nodup){j:Nat}{c:Cel}(hj:l[j]? =some c)(node:Int):∀k,k<=l.length->Yx n l j node k=sumC n node ((l.take k).filter λd=>decide (d≠c))
 |0,_=>rfl
 |k+1,hk=>by
  obtain⟨d,hd⟩:∃d,l[k]? =some d:=⟨_,Ta hk⟩
  have hc:celL l k=d:=by unfold celL;rw[Tu,hd];rfl
  unfold Yx
  rw[Yco hnd hj node k (by omega),TG,hd,Sv,Ybd,hc]
  congr 1
  by_cases e:k=j
  ·subst e
   rw[hj]at hd
   obtain rfl:=Tz hd
   rw[Tj rfl]
   simp[sumC]
  ·have hne:d≠c:=λh=>by
    subst h
    obtain⟨h1,h2⟩:=Td.1 hd
    obtain⟨h3,h4⟩:=Td.1 hj
    have hp:=TY.1 hnd
    rcases NZ e with h|h
    ·exact hp k j h1 h3 h (by rw[h2,h4])
    ·exact hp j k h3 h1 h (by rw[h2,h4])
   rw[Tf e]
   simp only[SE,SO,Ti hne,Nv,List.filter_nil]
   rw[XJ,Yi1]
   unfold cpN
   omega
def V9(n:Net)(l:List Cel)(c:Cel)(node:Int):Int:=sumC n node (l.filter λd=>XB c d&&decide (d≠c))
def J4(n:Net)(l:List Cel)(c:Cel):Bool:=ZP n (mar n (Yy n (Yr c) (toC c)).toNat) (V9 n l c (toC c))&&ZP n (mar n (Yy n (toC c) (Yr c)).toNat) (V9 n l c (Yr c))
variable {s:Sch}
theorem Ycm(hck:Yp n=0)(hf:Fine n s)(ho:Ord s.cells){i:Nat}(hi:i<s.cells.length):ZT n s i=!(J4 n s.cells (Ym s i)):=by
 have hok:=YM hck
 rw[YhJ hck hf hi]
 have hnd:=Yfg ho
 have hat:=Yds hi
 have hsub:(YF s i).Sublist s.cells:=Ny
 have hnds:=hnd.sublist hsub
 have hc:celL (YF s i) (YI s i)=Ym s i:=by unfold celL;rw[Tu,hat];rfl
 have hd:∀node,Yx n (YF s i) (YI s i) node (YF s i).length=V9 n s.cells (Ym s i) node:=λnode=>by
  rw[Yco hnds hat node _ (TI _),TP]
  unfold V9 YF
  rw[Nc]
  congr 1
  refine Nq λx _=>?_
  exact Bool.and_comm _ _
 have hg:=hf.good _ (JE hi)
 have hr:=YhJ hck hf hi
 have hto:((List.range (YF s i).length).any λk=>decide (k≠YI s i)&&YE (celL (YF s i) (YI s i)) (celL (YF s i) k))=false:=by
  have hpw:(YF s i).Pairwise λa b=>YE a b=false:=by
   refine(hf.once.sublist hsub).imp_of_mem λ{a b} ha hb hab=>hab ?_
   have h1:=(Rr.1 ha).2
   have h2:=(Rr.1 hb).2
   unfold XB at h1 h2
   simp only[Tt]at h1 h2
   rw[h1.1,h2.1]
  have hlt:=(Td.1 hat).1
  rw[RA]
  intro k hk
  have hk:=TN.1 hk
  by_cases e:k=YI s i
  ·rw[Tn (λh=>h e)];simp
  ·have hpk:=TY.1 hpw
   have e1:celL (YF s i) k=(YF s i)[k]:=by unfold celL;rw[Tu,Ta hk];rfl
   have e2:celL (YF s i) (YI s i)=(YF s i)[YI s i]:=by unfold celL;rw[Tu,Ta hlt];rfl
   rw[Ti e,RV,e1,e2]
   rcases NZ e with h|h
   ·rw[JN,hpk k _ hk hlt h];simp
   ·rw[hpk _ k hlt hk h];simp
 unfold YgI
 rw[hto,hc,hg,hd,hd]
 unfold J4
 simp
structure Sem(n:Net)(l:List Flw)(s:Sch):Prop where
 ck:Yp n=0
 fl:(Yz n.nodes l).2=0
 per:∀f∈l,s.len.tmod f.2.2.2.1=0
 frm:Frm s
 good:∀c∈s.cells,Y3 n (Yr c) (toC c)=true/\0<=Zi l (Y7 c)
 once:s.cells.Pairwise λa b=>a.1=b.1->YE a b=false
 clear:∀c∈s.cells,J4 n s.cells c=true
variable {l:List Flw}
theorem YkW(h1:Yp n=0)(h2:(Yz n.nodes l).2=0)(h3:Zy s=true)(h4:∀f∈l,s.len.tmod f.2.2.2.1=0)(h5:s.cells.length<=512):Zf n l s=0:=by
 unfold Zf
 rw[Tf (λh=>h h1),Tf (λh=>h h2),h3,Tf (by decide),Tf,Tf (by omega)]
 rw[Bool.not_eq_true,RA]
 intro f hf
 rw[Tt]
 exactλh=>h (h4 f hf)
theorem YjK(hf:Frm s)(hg:∀c∈s.cells,Y3 n (Yr c) (toC c)=true/\0<=Zi l (Y7 c)):(JH n l s).2=0:=by
 refine YG.2 λk _ hk=>?_
 have hk:k<s.cells.length:=by omega
 have hm:=JE hk
 have hfo:=hf.formed _ hm
 unfold ZF at hfo
 simp only[Tq]at hfo
 obtain⟨g1,g2⟩:=hg _ hm
 unfold VA
 rw[hfo.1.1.1,Tf (by decide),g1,Tf (by rintro(h|h);cases h;omega),Tf]
 rintro⟨h1,h2⟩
 have:=YfV (TK.2 λi hi=>by
  have h:=Zt.2 hf
  unfold Y5 at h
  simp only[Tq]at h
  exact TK.1 h.2 i hi) hk
 unfold J7 at this
 simp only[Tq,RO,Tt]at this
 rcases this.2 with h3|h3
 ·omega
 ·rw[h2]at h3;cases h3
theorem YkV(h:s.cells.Pairwise λa b=>a.1=b.1->YE a b=false):(V1 s).2=0:=by
 refine YG.2 λk _ hk=>?_
 have hk:k<s.cells.length:=by omega
 have hb:ZY s k=false:=by
  unfold ZY
  rw[RA]
  intro i hi
  have hi:=TN.1 hi
  have e1:Ym s i=s.cells[i]'(by omega):=Xy (Ta _)
  have e2:Ym s k=s.cells[k]:=Xy (Ta hk)
  have:=TY.1 h i k (by omega) hk hi
  rw[<-e1,<-e2]at this
  by_cases he:(Ym s i).1=(Ym s k).1
  ·rw[JN,this he];simp
  ·rw[Tn he];simp
 simp only[hb]
 rfl
theorem Vo:Val n l s↔Sem n l s:=by
 constructor
 ·intro h
  obtain⟨h1,h2,h3,h4,h5⟩:=Oi h.whole
  have hf:=h.frm
  have hfine:=YrO h.cells h.twice
  have k1:=YG.1 h.cells
  have k3:=YG.1 h.dist
  refine⟨h1,h2,h4,hf,λc hc=>⟨hfine.good c hc,?_⟩,hfine.once,λc hc=>?_⟩
  ·obtain⟨i,hi⟩:=TQ.1 hc
   have:=k1 i (Tm _) (by have:=(Td.1 hi).1;omega)
   unfold VA at this
   rw[Xy hi]at this
   split at this
   ·cases this
   split at this
   ·cases this
   rename_i h6
   exact Md.1 λhlt=>h6 (.inr hlt)
  ·obtain⟨i,hi⟩:=TQ.1 hc
   have hl:=(Td.1 hi).1
   have:=k3 i (Tm _) (by omega)
   simp only[Ycm h1 hfine hf.ord hl]at this
   rw[Xy hi]at this
   cases hcl:J4 n s.cells c with
   |true=>rfl
   |false=>rw[hcl]at this;simp at this
 ·intro h
  refine⟨YkW h.ck h.fl h.frm.sized h.per h.frm.few,YjK h.frm h.good,YkV h.once,YG.2 λk _ hk=>?_⟩
  have hk:k<s.cells.length:=by omega
  simp only[Ycm h.ck ⟨λc hc=>(h.good c hc).1,h.once⟩ h.frm.ord hk,h.clear _ (JE hk)]
  rfl
theorem YcJ(h:Ok n){s d e:Int}(he:e<=d)(hd:ZP n s d=true):ZP n s e=true:=by
 unfold ZP at hd⊢
 have h1:=Rn hd
 have h2:=h.t0
 have h3:n.thr*(n.noise+e)<=n.thr*(n.noise+d):=Ry (by omega) (by omega)
 exact Ti (by omega)
theorem Sem.sub{t:Sch}(h:Sem n l s)(h1:t.len=s.len)(h2:t.off=s.off)(hs:t.cells.Sublist s.cells):Sem n l t:=by
 have hok:=YM h.ck
 have hlen:=hs.length_le
 have hfew:=h.frm.few
 refine⟨h.ck,h.fl,by rw[h1];exact h.per,⟨?_,by omega,λc hc=>?_,h.frm.ord.sublist hs⟩,λc hc=>h.good c (hs.subset hc),h.once.sublist hs,λc hc=>?_⟩
 ·have:=h.frm.sized
  unfold Zy at this⊢
  rw[h1,h2];exact this
 ·have:=h.frm.formed c (hs.subset hc)
  unfold ZF Zl at this⊢
  rw[h1,h2];exact this
 ·have:=h.clear c (hs.subset hc)
  unfold J4 at this⊢
  simp only[Tq]at this⊢
  have hd:∀node,V9 n t.cells c node<=V9 n s.cells c node:=λnode=>YqE hok node (hs.filter _)
  exact⟨YcJ hok (hd _) this.1,YcJ hok (hd _) this.2⟩
open Go.RowKit Go.Eng Go.Nw Go.Rt
abbrev Jk(A:Option Addr)(cap:Nat)(l:List Lk):HP:=sl 356 3 A l.length cap (l.flatMap lkF)
theorem YmS(A:Option Addr)(cap:Nat)(l:List Lk)(a:Lk):sl 356 3 A (l.length+1) cap (l.flatMap lkF++#[Value.int .i64 a.1,.int .i64 a.2.1,.int .i64 a.2.2].toList)=Jk A cap (l++[a]):=by simp[Jk,List.flatMap_append,lkF]
theorem Yeo(n:NetM){B:Nat}{w0:World}{H:List HP}{w:World}(hin:n.In B w0 H)(hck:Yp n.net=0)(hw:St B w0 H w):
 CX B w0 269 [n.val] w λv K=>∃A cap,v=.slice A (JW n.net).length cap/\K=Jk A cap (JW n.net)::H:=by
 have hok:=YM hck
 obtain⟨hpw,hrw,hlk,hmg,hs1,hs2,hs3,hs4⟩:=id hin
 have hk0:n.links.length<=128:=hok.k0
 refine Ya Tryz.func269 Tryz.ntmps269 rfl rfl hw ?_
 (apply Xm;apply YY;apply YV;exact rfl;exact rfl;intro g)
 refine zX9 ?_
 refine Yoz (λ(k:Nat) (A:Option Addr) (cap:Nat)=>[(9,.int .i64 k),(8,.int .i64 n.links.length),(7,.slice n.lA n.links.length n.lcap),(3,.slice A (ZO n.net k).length cap),(1,.pointer (some ⟨g,0,none⟩))])
  (λk A cap=>Jk A cap (ZO n.net k)::netB g n::H) (λk _ _=>k<=n.links.length) (λk _ _=>n.links.length-k) 0 none 0 (Tm _) ?_ (λw hw=>hw.nilSlice _ _) ?_
 ·exact zc1
 rintro k A cap hk K hK
 have hal:=UW n.net k
 by_cases hlt:k<n.links.length
 ·have hlx:n.links[k]? =some (lnk n.net k):=QL n.net hlt
  have hus:JQ n.net (k:Int)=ZL n.net k:=by
   unfold JQ
   have e7:n.net.links=n.links:=rfl
   rw[Ti hck,e7,Ti (by omega)]
   rfl
  have hl:=hok.lk k hlt
  have h5:=hl.l0
  have h6:=hl.l1
  have hU:=λ{H:List HP}{w:World}(hin:n.In B w0 H) (hw:St B w0 H w)=>V4 n (k:Int) hin hw
  rw[hus]at hU
  cases hu:ZL n.net k
  ·rw[hu]at hU
   have e2:=Yen hu
   repeat'(first|((first|apply Yb JA|apply Yc JA);exact za;exact rfl;exactλ_ hw=>(hU (((hin.cons).cons).cons) hw))|refine zgd ?_|(refine zge ?_ ?_<;>intro _<;>try exact zo)|(refine zgh ?_;intro _)|fail)
   apply hK (k+1) A cap
   ·omega
   ·omega
   ·rw[e2];exact zc1
   ·rw[e2];exact zc56
  ·rw[hu]at hU
   have e2:=Yb8 hu
   repeat'(first|((first|apply Yb JA|apply Yc JA);exact za;exact rfl;exactλ_ hw=>(hU (((hin.cons).cons).cons) hw))|refine zgd ?_|(refine zge ?_ ?_<;>intro _<;>try exact zo)|(refine zgh ?_;intro _)|(refine zgi ?_;intro _ _)|fail)
   rename_i A3 cap3
   apply hK (k+1) A3 cap3
   ·omega
   ·omega
   ·rw[e2,To,TL];exact zc1
   ·rw[e2,show Jk A3 cap3 (ZO n.net k++[Yb7 n.net k])=sl 356 3 A3 ((ZO n.net k).length+1) cap3 ((ZO n.net k).flatMap lkF++#[Value.int .i64 (lnk n.net k).1,Value.int .i64 (lnk n.net k).2.1,Value.int .i64 ((lnk n.net k).2.2+1)].toList) from(YmS A3 cap3 _ (Yb7 n.net k)).symm]
    exact zc0
 ·obtain rfl:k=n.links.length:=by omega
  clear hK
  refine zX0 ?_<;>intros
  apply Yg (Jk A cap (JW n.net)::H)
  ·exactλw hw=>(hw.perm (.cons _ (.drop _ _)))
  exact Yun
variable {B:Nat}{w0 w:World}{H:List HP}
theorem Vr(n:NetM)(s t:Int)(hin:n.In B w0 H)(hw:St B w0 H w):
 CX B w0 268 [n.val,.int .i64 s,.int .i64 t] w λv K=>v=.int .i64 (Z8 n.net s t)/\K=H:=by
 refine Ya Tryz.func268 Tryz.ntmps268 rfl rfl hw ?_
 have e7:n.net.nodes=n.nodes:=rfl
 unfold Z8 offE
 rw[e7]
 by_cases h0:Yp n.net=0
 rotate_left
 ·rw[Tj h0]
  refine zX47 ?_<;>intros
  all_goals((repeat apply Yn);exact zc5)
 rw[Tf (λh=>h h0)]
 have hck:=λ{H:List HP}{w:World}(hin:n.In B w0 H) (hw:St B w0 H w)=>Y1 n hin hw
 rw[h0]at hck
 simp only[Tt]
 by_cases h1:(s<0\/n.nodes<=s)\/(t<0\/n.nodes<=t)\/s=t
 ·rw[Tj h1]
  repeat'(first|((first|apply Yb en44|apply Yc en44);exact za;exact rfl;exactλ_ hw=>(hck hin.cons hw))|refine zgc ?_|(refine zgf ?_ ?_<;>intro _<;>try exact zo)|(refine zgh ?_;intro _)|fail)
  all_goals((repeat apply Yn);apply Yf;exact rfl;exact rfl;exact⟨rfl,rfl⟩)
 ·rw[Tf h1]
  repeat'(first|((first|apply Yb en44|apply Yc en44);exact za;exact rfl;exactλ_ hw=>(hck hin.cons hw))|refine zgc ?_|(refine zgf ?_ ?_<;>intro _<;>try exact zo)|(refine zgh ?_;intro _)|fail)
  all_goals((repeat apply Yn);apply Yf;exact rfl;exact rfl;exact⟨rfl,rfl⟩)
theorem Wh(k:Nat){A:Option Addr}{cap:Nat}(hk:k<=9223372036854775807)(hw:St B w0 H w):
 CX B w0 271 [.slice A k cap] w λv K=>v=.int .i64 (if 9<k then 21 else 0)/\K=H:=by
 refine Ya Tryz.func271 Tryz.ntmps271 rfl rfl hw ?_
 by_cases h:9<k
 ·rw[Tj h]
  refine zX40 ?_<;>intros
  exact zc22
 ·rw[Tf h]
  refine zX40 ?_<;>intros
  exact zc22
theorem YhO(n:NetM)(a:Int)(g:Nat)(hm:netB g n∈H)(hw:St B w0 H w):
 CX B w0 235 [.int .i64 a,.pointer (some ⟨g,0,none⟩)] w λv K=>v=.bool (offE n.net a)/\K=H:=by
 refine Ya Tryz.func235 Tryz.ntmps235 rfl rfl hw ?_
 have e7:n.net.nodes=n.nodes:=rfl
 unfold offE
 rw[e7]
 by_cases h:a<0\/n.nodes<=a
 ·rw[Ti h]
  repeat'(first|refine zgc ?_|(refine zgf ?_ ?_<;>intro _<;>try exact zo)|fail)
  all_goals(apply Yf;exact rfl;exact rfl;simp_all)
 ·rw[Tn h]
  repeat'(first|refine zgc ?_|(refine zgf ?_ ?_<;>intro _<;>try exact zo)|fail)
  all_goals(apply Yf;exact rfl;exact rfl;exact⟨rfl,rfl⟩)
def OutS(H:List HP)(R:Sch×Int)(v:Value)(K:List HP):Prop:=∃A cap,v=.tuple #[.agg #[.int .i64 R.1.len,.int .i64 R.1.off,.slice A R.1.cells.length cap],.int .i64 R.2]/\K=cels A cap R.1.cells::H
variable {H:List HP}
theorem Uj{R:Sch×Int}{v:Value}(e:Int)(hR:R=(Zd,e))(hv:v=.tuple #[.agg #[.int .i64 0,.int .i64 0,.slice none 0 0],.int .i64 e]):OutS H R v (cels none 0 []::H):=⟨none,0,by rw[hR];exact hv,by rw[hR];rfl⟩
theorem Z7(l:List Cel)(hlen:l.length<=1000000){A:Option Addr}{cap B:Nat}{w0:World}{w:World}(hr:Rd B w0 H A (l.flatMap celF))(hw:St B w0 H w):
 CX B w0 162 [.slice A l.length cap] w λv K=>∃A' cap',v=.slice A' l.length cap'/\K=cels A' cap' l::H:=by
 cases A with
 |none=>
  have hl:l=[]:=by
   cases l with
   |nil=>rfl
   |cons x l=>
    exact zc33
  subst hl
  refine Ya Tryz.func162 Tryz.ntmps162 rfl rfl hw ?_
  refine zX6 ?_
  apply X5 117 5;exact zc40
 |some a=>
  refine Ya Tryz.func162 Tryz.ntmps162 rfl rfl hw ?_
  repeat'(first|(apply Ze;(iterate 3 exact rfl))|(apply Xn T;exact rfl;exact rfl;intro g2)|refine zgb ?_|fail)
  apply XN T (f:=celF) (l2:=l) (e:=117) (size:=5) (xs:=[]);(iterate 3 exact rfl);exact hr.cons;exact(λ_=>rfl);exact(λ_=>rfl);exact rfl;(intro _ _;exact zd);omega;intro A' cap'
  exact zc59
variable {A:Option Addr}{cap B:Nat}{w0 w:World}{H:List HP}
theorem YaZ(l:List Int)(v:Int)(hlen:l.length<=9223372036854775807)(hr:Rd B w0 H A (l.flatMap numF))(hw:St B w0 H w):
 CX B w0 20 [.slice A l.length cap,.int .i64 v] w λu K=>u=.int .i64 (Yi (λx=>decide (v=x)) l 0)/\K=H:=by
 refine Ya Tryz.func20 Tryz.ntmps20 rfl rfl hw ?_
 refine zX9 ?_
 refine Yh (λ(k:Nat)=>[(8,.int .i64 k),(7,.int .i64 l.length),(0,.slice A l.length cap),(1,.int .i64 v)]) (λ_=>H) (λk=>k<=l.length/\Yi (λx=>decide (v=x)) l 0=Yi (λx=>decide (v=x)) (l.drop k) k) (λk=>l.length-k) 0 ⟨Tm _,by simp⟩ ?_ (λw hw=>hw) ?_
 ·exact zc1
 rintro k ⟨hk,hi⟩ K hK
 by_cases hlt:k<l.length
 ·obtain⟨a,ha⟩:∃a,l[k]? =some a:=⟨_,Ta hlt⟩
  rw[Zu _ l ha]at hi
  repeat'(first|refine zgd ?_|(refine zge ?_ ?_<;>intro _<;>try exact zo)|fail)
  ·rename_i h
   rw[Tj (Ti h)]at hi
   exact zc61
  ·rename_i h
   rw[Tf (by simp[h])]at hi
   refine zX8 ?_
   apply hK (k+1)
   ·grind
   ·omega
   ·exact zc1
   exact zc19
 exact zc26
theorem Jl(l:List Int)(v:Int)(hlen:l.length<=9223372036854775807)(hr:Rd B w0 H A (l.flatMap numF))(hw:St B w0 H w):
 CX B w0 236 [.slice A l.length cap,.int .i64 v] w λu K=>u=.bool (decide (v∈l))/\K=H:=by
 refine Ya Tryz.func236 Tryz.ntmps236 rfl rfl hw ?_
 have hia:=Vl (λx=>decide (v=x)) l 0 (by omega)
 have hmm:l.any (λx=>decide (v=x))=true↔v∈l:=by simp[List.any_eq_true]
 repeat'(first|((first|apply Yb en20|apply Yc en20);exact za;exact rfl;exactλ_ hw=>(YaZ l v hlen hr hw))|refine zga ?_|(refine zgf ?_ ?_<;>intro _<;>try exact zo)|fail)
 all_goals(apply Yf;exact rfl;exact rfl)
 ·rename_i h;exact⟨by rw[Ti (hmm.1 (hia.1 h))],rfl⟩
 ·rename_i h
  exact⟨by rw[Tn λe=>by have:=hia.2 (hmm.2 e);omega],rfl⟩
theorem YaQ(l m:List Int)(hlen:l.length<=9223372036854775807)(_hlen2:m.length<=9223372036854775807){A2:Option Addr}{cap2:Nat}(hr:Rd B w0 H A (l.flatMap numF))(hr2:Rd B w0 H A2 (m.flatMap numF))(hw:St B w0 H w):
 CX B w0 174 [.slice A l.length cap,.slice A2 m.length cap2] w λu K=>u=.bool (decide (l=m))/\K=H:=by
 refine Ya Tryz.func174 Tryz.ntmps174 rfl rfl hw ?_
 by_cases hll:l.length=m.length
 rotate_left
 ·exact zc17
 refine zX0 ?_<;>intros
 refine Yh (λ(k:Nat)=>[(13,.int .i64 k),(12,.int .i64 l.length),(0,.slice A l.length cap),(1,.slice A2 m.length cap2)]) (λ_=>H) (λk=>k<=l.length/\l.take k=m.take k) (λk=>l.length-k) 0 ⟨Tm _,by simp⟩ ?_ (λw hw=>hw) ?_
 ·exact zc1
 rintro k ⟨hk,hi⟩ K hK
 by_cases hlt:k<l.length
 ·obtain⟨a,ha⟩:∃a,l[k]? =some a:=⟨_,Ta hlt⟩
  obtain⟨b,hb⟩:∃b,m[k]? =some b:=⟨_,Ta (by omega)⟩
  repeat'(first|refine zgd ?_|(refine zge ?_ ?_<;>intro _<;>try exact zo)|fail)
  ·exact zc55
  ·rename_i h
   apply hK (k+1)
   ·exact⟨by omega,by simp_all [Yfu]⟩
   ·omega
   ·exact zc1
   exact zc19
 exact zc9
end Go.Proofs.YtambgjgljcadlaaGreatDoor
