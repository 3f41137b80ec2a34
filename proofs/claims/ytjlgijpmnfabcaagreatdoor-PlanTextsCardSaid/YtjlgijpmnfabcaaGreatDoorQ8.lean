/- Lemmas. -/
import Derived.Laws.CopyRow
import Derived.Lib.AppendZerosOnto
import Derived.Lib.Overlaps
import Derived.Sort.OwnSortedInts
import Derived.Lib.AppendIntMem
import Derived.WideLaws
import Derived.Lib.SmallJoins
import Derived.Lib.Builder
import Derived.Test.YtjlgijpmnfabcaaGreatDoorQ6
set_option maxRecDepth 100000
set_option maxHeartbeats 8000000
set_option linter.all false
namespace Go.Eng
open Go.RowKit
section
variable {P:Program}{m:Mode}{n:Shp}{B d:Nat}{w0:World}{ops:Array Oper}{Q:Exit->Act->World->Prop}{rest:List Oper}{env:Env}{H:List HP}{ty:TypeId}{pos:String}{after:Array Edge}{x y hi:Operand}
theorem Yd3(w:World)(dT sT ty elem:TypeId)(g o dLen dCap size:Nat)(a:Addr)(sLen sCap:Nat)(cur:Array Value)(t:TypeId)(cs:List Value)
 (hu:P.underlying dT=some (.slice elem)) (hs:(P.info? elem).map (·.size)=some size)
 (hg:w.heap[g]? =some (.cells cur t (0,0))) (hn:cs.length=Nat.min sLen dLen*size)
 (hsrc:∀j v,cs[j]? =some v->w.cell? (a.add j)=some v) (hfit:o+cs.length<=cur.size) (h1:∀v∈cs,v.oneCell'=true):
 (Builtin.copy_ #[dT,sT] ty #[.slice (some ⟨g,o,none⟩) dLen dCap,.slice (some a) sLen sCap]).run P w=
  .ok (goInt (Nat.min sLen dLen)) (w.setRow g (cur.toList.take o++cs++cur.toList.drop (o+cs.length)).toArray):=by
 have hl:=run_firstCells_some (P:=P) w size (Nat.min sLen dLen) a sLen sCap cs hn hsrc
 have hst:=run_storeCells_at P g o t cs 0 cur w hg (by omega) h1
 cases hq:P.info? elem with
 |none=>simp_all
 |some i=>
  simp_all [Go.Builtin.copy_,Go.Builtin.lenOf,sizeOf,typeInfo,run_underlying]
variable {α:Type}
theorem YrV(l cs:List α)(o k k':Nat)(hk:k<=l.length)(ho:o<=k)(hfit:o+cs.length<=l.length)(hk':k'=max k (o+cs.length)):
 (l.take o++cs++l.drop (o+cs.length)).take k'=(l.take k).take o++cs++(l.take k).drop (o+cs.length):=by
 have hA:(l.take o++cs).length=o+cs.length:=by grind
 by_cases h:o+cs.length<=k
 ·grind [Nat.max_eq_left,Yix]
 ·rw[hk',Nat.max_eq_right (by omega),SE,hA,NC,S7,Rr,TL (by omega),List.take_take,SQ (by omega),Rf (by grind),Rr]
variable {t e size bytes o k cap kd cd mm c2:Nat}{A A2:Option Addr}{xs:List Value}{K:List HP}
theorem Yoc(T:Tab P){k':Nat}{ys:List Value}(hx:evo env x=some (.slice (subA A o cap size) kd cd))(hy:evo env y=some (.slice A2 mm c2))(hr:Rd B w0 H A2 ys)
 (hu:Upd (sl e size A k cap xs) (sl e size A k' cap (xs.take (o*size)++ys.take (min mm kd*size)++xs.drop (o*size+min mm kd*size))) H K) (ht:look T.sl t=some (e,size,bytes)) (hn:Nat.ble (d+1) n.k=true) (h1:∀v∈ys,v.oneCell'=true)
 (hA:∃g,A=some ⟨g,0,none⟩) (hb:o+kd<=cap/\0<min mm kd/\o<=k/\k'=max k (o+min mm kd)) (hyl:min mm kd*size<=ys.length)
 (h:VL P none n B w0 ops Q rest ((d,.int .i64 (min mm kd:Nat))::env) K):
 VL P none n B w0 ops Q (⟨some d,.call ⟨.builtin .copy,#[x,y],#[t,t]⟩,ty,pos,after,none⟩::rest) env H:=by
 obtain⟨hut,inf,z,hi,hz,hzs,hsi,hbi,hs0,hb0⟩:=Yx (T.slic ht)
 refine Xj (λv K'=>v=.int .i64 (min mm kd:Nat)/\K'=K) rfl rfl hn (λa w ha hw=>?_) zc51
 have hmem:sl e size A k cap xs∈H:=YiV
 obtain⟨hb1,hb2,hb3,hb5⟩:=hb
 rcases ZK (hw.sl hmem)with⟨rfl,_⟩|⟨g,cur,rfl,g1,g2,g3,g4,g5,g6⟩
 ·obtain⟨_,hA⟩:=hA;cases hA
 have hsub:subA (some ⟨g,0,none⟩) o cap size=some ⟨g,o*size,none⟩:=Ytz
 obtain⟨c,hc⟩:∃c,min mm kd=c:=⟨_,rfl⟩
 rw[hc]at hu hb2 hb5 hyl
 have hcs:(ys.take (c*size)).length=c*size:=Yfj
 have hpos:0<c*size:=Nat.mul_pos hb2 hs0
 have hsome:∃a2,A2=some a2/\∀j v,(ys.take (c*size))[j]? =some v->w.cell? (a2.add j)=some v:=by
  have h0:ys[0]? =some (ys[0]'(by omega)):=Ta (by omega)
  obtain⟨g2',o2,rfl,_⟩:=hr w hw 0 _ h0
  refine⟨_,rfl,λj v hj=>?_⟩
  rw[SG]at hj
  by_cases hjm:j<c*size
  ·rw[Tn hjm]at hj
   obtain⟨g3',o3,e3,hc⟩:=hr w hw j v hj
   injection e3 with e3
   injection e3 with e3 e4
   subst e3 e4
   rw[Addr.add_lit];exact hc
  ·rw[Tf hjm]at hj;cases hj
 obtain⟨a2,rfl,hsrc⟩:=hsome
 have hoc:o+c<=cap:=by
  have:c<=kd:=by rw[<-hc];exact Nat.min_le_right _ _
  omega
 have hfit:o*size+c*size<=cur.size:=by rw[g4,<-SH];exact T9 _ hoc
 have hrun:=Yd3 (P:=P) w t t ty e g (o*size) kd cd size a2 mm c2 cur e (ys.take (c*size)) hut (by rw[hi];simp[hsi]) g1 (by rw[hcs];show c*size=min mm kd*size;rw[hc]) hsrc (by rw[hcs];exact hfit) (λv hv=>h1 v (SA hv))
 have hkl:k*size<=cur.toList.length:=by rw[SY,g4];exact T9 _ g2
 have hok:o*size<=k*size:=T9 _ hb3
 have hmax:k'*size=max (k*size) (o*size+c*size):=by
  rw[hb5,<-SH]
  rcases Nat.le_total k (o+c)with h|h
  ·rw[Nat.max_eq_right h,Nat.max_eq_right (T9 _ h)]
  ·rw[Nat.max_eq_left h,Nat.max_eq_left (T9 _ h)]
 refine⟨_,K,_,?_,hw.storeRow (k':=k') (o:=o*size) (vs:=ys.take (c*size)) hu rfl g1 g4 (by rw[hb5];exact Nat.max_le.2 ⟨g2,hoc⟩) g3 (by rw[hcs];exact hfit) ?_ ?_,rfl,rfl⟩
 ·simp only[execOp,resolve,invoke,builtin]
  have hmap:#[x,y].map a.eval=#[.slice (some ⟨g,o*size,none⟩) kd cd,.slice (some a2) mm c2]:=by simp[ha.eval hx,ha.eval hy,hsub]
  simp only[hmap,Sem.run_bind,Sem.run_pure,Result.andThen_ok]
  rw[hrun]
  simp[goInt]
 ·have:=YrV cur.toList (ys.take (c*size)) (o*size) (k*size) (k'*size) hkl hok (by rw[hcs,SY];exact hfit) (by rw[hcs];exact hmax)
  rw[hcs]at this⊢
  rw[this,g5]
 ·rw[Tq,Tq,hcs,TT,TZ,g6,hmax]
  omega
theorem JO(T:Tab P){f:α->List Value}(L M R:List α)(hx:evo env x=some (.slice (subA A o cap size) kd cd))(hy:evo env y=some (.slice A2 mm c2))(hr:Rd B w0 H A2 (M.flatMap f))(hq:∀a,(f a).length=size)(h1:∀a,ZM (f a)=true)
 (ht:look T.sl t=some (e,size,bytes)) (hn:Nat.ble (d+1) n.k=true) (hA:∃g,A=some ⟨g,0,none⟩) (hb:o+kd<=cap/\0<min mm kd/\o<=L.length/\min mm kd<=M.length) (hR:L.take o++M.take (min mm kd)++L.drop (o+min mm kd)=R)
 (hu:Upd (sl e size A L.length cap (L.flatMap f)) (sl e size A R.length cap (R.flatMap f)) H K)
 (h:VL P none n B w0 ops Q rest ((d,.int .i64 (min mm kd:Nat))::env) K):
 VL P none n B w0 ops Q (⟨some d,.call ⟨.builtin .copy,#[x,y],#[t,t]⟩,ty,pos,after,none⟩::rest) env H:=by
 have hlen:∀l:List α,(l.flatMap f).length=l.length*size:=λl=>by
  induction l with
  |nil=>simp
  |cons a l ih=>grind
 have hRl:R.length=max L.length (o+min mm kd):=by
  grind
 have hRf:R.flatMap f=(L.flatMap f).take (o*size)++(M.flatMap f).take (min mm kd*size)++(L.flatMap f).drop (o*size+min mm kd*size):=by
  rw[<-hR,Ro,Ro,Xr hq,Xr hq,UB hq,SH]
 rw[hRf]at hu
 refine Yoc T hx hy hr hu ht hn (λv hv=>?_) hA ⟨hb.1,hb.2.1,hb.2.2.1,hRl⟩ (by grind [T9]) h
 grind [Zl]
theorem YaF(T:Tab P){tn i j:Nat}(hx:evo env x=some (.slice A i cap))(hy:evo env y=some (.int .i64 (j:Int)))(hm:sl e size A k cap xs∈H)(ht:look T.sl t=some (e,size,bytes))(htn:YjH P tn=true)(hn:Nat.ble (d+1) n.k=true)(hb:Nat.ble bytes 1000=true)
 (hk:i<=k/\0<k/\0<j/\cap<i+j/\i+j<=1000000)
 (h:∀g c,i+j<=c->VL P none n B w0 ops Q rest ((d,.slice (some ⟨g,0,none⟩) (i+j) c)::env) (sl e size (some ⟨g,0,none⟩) i c (xs.take (i*size))::H)):VL P none n B w0 ops Q (⟨some d,.call ⟨.builtin .append,#[x,y],#[t,tn]⟩,ty,pos,after,none⟩::rest) env H:=by
 obtain⟨hu,inf,z,hi,hz,hzs,hsi,hbi,hs0,hb0⟩:=Yx (T.slic ht)
 obtain⟨kn,hkn⟩:=YhP htn
 have hb':=TR hb
 refine Xj (λv K=>∃g c,v=.slice (some ⟨g,0,none⟩) (i+j) c/\K=sl e size (some ⟨g,0,none⟩) i c (xs.take (i*size))::H/\i+j<=c) rfl rfl hn (λa w ha hw=>?_) (by rintro _ _ ⟨g,c,rfl,rfl,hc⟩;exact h g c hc)
 obtain⟨hk1,hk2,hk3,hk4,hk5⟩:=hk
 have hown:=hw.sl hm
 rcases ZK hown with⟨_,e0,_⟩|⟨g,cur,rfl,g1,g2,g3,g4,g5,g6⟩
 ·omega
 have hik:i*size<=k*size:=T9 _ hk1
 have hxl:(xs.take (i*size)).length=i*size:=Yfj
 have hbj:(i+j)*inf.bytes<=1000000*1000:=Nat.mul_le_mul hk5 (by omega)
 have hbj2:j*inf.bytes<=(i+j)*inf.bytes:=T9 _ (by omega)
 have hold:(Builtin.firstCells inf.size i (.slice (some ⟨g,0,none⟩) i cap)).run P w.drew=.ok (xs.take (i*size)).toArray w.drew:=by
  rw[hsi]
  refine run_firstCells_some (P:=P) w.drew size i ⟨g,0,none⟩ i cap _ hxl λq v hq=>?_
  rw[SG]at hq
  split at hq
  ·obtain⟨g',e5,hc,_⟩:=OA hown hq
   injection e5 with e5
   injection e5 with e5
   subst e5
   rw[Addr.add_lit,RH];exact hc
  ·cases hq
 have hrun:=Lib.run_append_grow_zeros (P:=P) w t tn ty e inf z .i64 kn hu hkn hi hz (some ⟨g,0,none⟩) i cap (xs.take (i*size)) hold j hk3 (by omega) hk4 (by omega) (by omega) (growslice_fits hk4 (by omega))
 have hge:=grownCap_ge w (i+j) cap e
 have hcm:grownCap w (i+j) cap e<=maxLen:=grownCap_le_maxLen w (i+j) cap e (by simp only[maxLen];omega)
 refine⟨_,_,_,by simp only[execOp,resolve,invoke,builtin,ha.eval hx,ha.eval hy,List.map_toArray,Ru,List.map_nil,Sem.run_bind,Sem.run_pure,hrun,Result.andThen_ok];rfl,?_,w.heap.size,grownCap w (i+j) cap e,rfl,rfl,hge⟩
 have h2:=hw.drew.alloc (.cells ((xs.take (i*size)).toArray++Builtin.zeroCells z.cells j++Builtin.zeroCells z.cells (grownCap w (i+j) cap e-(i+j))) e)
 refine h2.upd (Upd.here _) rfl rfl rfl (TI _) λS1 ⟨h3,h4⟩=>⟨⟨⟨hxl,.inr ⟨w.heap.size,grownCap w (i+j) cap e,_,rfl,Ti _,h4,by omega,hcm,?_,?_⟩⟩,λa ha=>by cases ha;exact h3⟩,λ_ _ _=>rfl⟩
 ·rw[Array.size_append,Array.size_append,size_zeroCells,size_zeroCells,hzs,List.size_toArray,hxl,<-SH,<-SH]
  congr 1
  omega
 ·rw[Array.toList_append,Array.toList_append,Re,SE,TL (by simp[hxl]),List.toList_toArray,hxl,NC,S7,Rr]
theorem J8(T:Tab P){n':Nat}{ki:IntKind}{z:Int}(hx:evo env x=some (.slice A k cap))(hl:evo env hi=some (.int ki z))(ht:look T.sl t=some (e,size,bytes))(hn:Nat.ble (d+1) n.k=true)(hb:0<=z/\z<=cap)(hn':z.toNat=n')(hA:∃g,A=some ⟨g,0,none⟩)
 (h:VL P m n B w0 ops Q rest ((d,.slice A n' cap)::env) H):VL P m n B w0 ops Q (⟨some d,.slice t x none (some hi) none,ty,pos,after,none⟩::rest) env H:=by
 subst hn'
 obtain⟨g,rfl⟩:=hA
 refine Yt rfl rfl hn rfl (λf w ha hw=>?_) h
 have hA:(if cap=0 then(some ⟨g,0,none⟩:Option Addr)else(some ⟨g,0,none⟩:Option Addr).map (·.add (0*size)))=some ⟨g,0,none⟩:=by
  simp[Addr.add_lit]
 have hb2:(Instr.sliceBounds true k cap none (some (.int ki z)) none).run P w=.ok (0,z.toNat,cap) w:=zc52
 have hr:=Jp T (A:=some ⟨g,0,none⟩) ht hb2
 exact Ytk
theorem Yek{w:World}{gv g:Nat}{o:Obj}{R:List HP}(h:St B w0 (Eng.blk gv o::sl e size (some ⟨g,0,none⟩) k cap xs::R) w):gv≠g:=by
 obtain⟨S1,S2,_,_,hd,h4,h5⟩:=h.sep
 obtain⟨S3,S4,h6,_,_,h9,_⟩:=h5
 rintro rfl
 exact hd gv h4.1 (h6 _ (h9.2 _ rfl))
end
end Go.Eng
namespace Go.Proofs.YtjlgijpmnfabcaaGreatDoor
open Go.RowKit Go.Eng Go.Nw
theorem YoG{s:Sch}{i:Nat}(hi:i<s.cells.length)(h:J1 s i=false):Y1 s=false:=by
 unfold Y1
 grind
theorem YmZ(s:SchM){B:Nat}{w0:World}{H:List HP}{w:World}(hr:Rd B w0 H s.A (s.cells.flatMap celF))(hl:s.cells.length<=1000000000000)(hw:St B w0 H w):
 CX B w0 43 [s.val] w λv K=>v=.bool (Y1 s.sch)/\K=H:=by
 refine Ya Tryz.func43 Tryz.ntmps43 rfl rfl hw ?_
 have e1:s.sch.cells=s.cells:=rfl
 repeat'(first|((first|apply ZU YaQ|apply ZT YaQ);exact za;exact rfl;exactλ_ hw=>(Ydt s hw);all_goals(intro hB;(try simp only[To,Rl]at hB);try exact zo))|refine zgd ?_|(refine zge ?_ ?_<;>intro _<;>try exact zo)|(refine zgh ?_;intro _)|fail)
 ·apply Yh H
  ·exact zc0
  apply Ye;exact rfl;exact rfl
  exact⟨by rw[show Y1 s.sch=false by unfold Y1;grind],rfl⟩
 rotate_left
 ·apply Yh H
  ·exact zc0
  apply Ye;exact rfl;exact rfl
  exact⟨by simp[Y1, *],rfl⟩
 rename_i g _
 refine Yg (λ(i:Nat)=>[(17,.int .i64 i),(16,.int .i64 s.cells.length),(15,.slice s.A s.cells.length s.cap),(1,.pointer (some ⟨g,0,none⟩))]) (λ_=>blk g (.cells #[.int .i64 s.len,.int .i64 s.off,.slice s.A s.cells.length s.cap] 30 (0,0))::H) (λi=>i<=s.cells.length/\(List.range i).all (J1 s.sch)=true) (λi=>s.cells.length-i) 0 ⟨Ti _,rfl⟩ ?_ (λw hw=>hw) ?_
 ·exact zc1
 rintro i ⟨hi,hall⟩ K hK
 have hr:=hr.cons (X:=blk g (.cells #[.int .i64 s.len,.int .i64 s.off,.slice s.A s.cells.length s.cap] 30 (0,0)))
 by_cases hlt:i<s.cells.length
 ·have hget:s.cells[i]? =some (Yn s.sch i):=YU (s:=s.sch) hlt
  have hgo:J1 s.sch i=false->Y1 s.sch=false:=YoG (s:=s.sch) hlt
  have hst:J1 s.sch i=true->(List.range (i+1)).all (J1 s.sch)=true:=λh=>by rw[Yb7,hall,h];rfl
  rcases Ss i with h0|h0
  ·subst h0
   repeat'(first|((first|apply ZU Yk0|apply ZT Yk0);exact za;exact rfl;exactλ_ hw=>(YaY s _ hw);all_goals(intro hB;(try simp only[To,Rl]at hB);try exact zo))|(apply zg28;refine zs84 ?_)|refine zgd ?_|(refine zge ?_ ?_<;>intro _<;>try exact zo)|(refine zgh ?_;intro _)|fail)
   ·apply hK (0+1)
    ·exact⟨by omega,hst (by simp[J1, *])⟩
    ·omega
    ·exact zc1
    ·exact zc0
   ·apply Yh H
    ·exact zc0
    apply Ye;exact rfl;exact rfl
    exact⟨by rw[hgo (by simp[J1, *])],rfl⟩
  ·have hget2:s.cells[((i:Int)-1).toNat]? =some (Yn s.sch (i-1)):=Yte
   repeat'(first|((first|apply ZU Yk0|apply ZT Yk0);exact za;exact rfl;exactλ_ hw=>(YaY s _ hw);all_goals(intro hB;(try simp only[To,Rl]at hB);try exact zo))|((first|apply Yb Yk1|apply Yc Yk1);exact za;exact rfl;exactλ_ hw=>(OG _ _ hw))|(apply zg28;refine zs84 ?_)|refine zgd ?_|(refine zgf ?_ ?_<;>intro _<;>try exact zo)|(refine zgh ?_;intro _)|fail)
   all_goals first
    |(apply hK (i+1)
      ·refine⟨by omega,hst ?_⟩
       have hc:cmpV (nums (Yn s.sch (i-1))) (nums (Yn s.sch i))<0:=by omega
       simp[J1,(Yaj _ _).1 hc, *]
      ·omega
      ·exact zu
      ·exact zk
      done)
    |(apply Yh H
      ·exact zk
      apply Ye;exact rfl;exact rfl
      refine⟨?_,rfl⟩
      rw[hgo]
      first
       |(simp[J1, *];done)
       |(have hc:¬cmpV (nums (Yn s.sch (i-1))) (nums (Yn s.sch i))<0:=by omega
         have hd:Y4 (Yn s.sch (i-1)) (Yn s.sch i)=false:=by
          rw[Yaj]at hc
          simpa using hc
         simp[J1,hd]
         omega))
 ·refine zX1 ?_<;>intros
  apply Yh H
  ·exact zc0
  apply Ye;exact rfl;exact rfl
  refine⟨?_,rfl⟩
  rw[show i=s.cells.length by omega]at hall
  rw[show Y1 s.sch=true by unfold Y1;rw[e1,hall,Td (by omega)];simp[*]]
def wordS:List UInt8:=[115,99,104,101,100,117,108,101]
def wordC:List UInt8:=[99,101,108,108]
def YA(w:List UInt8)(l:List Int):List UInt8:=w++l.flatMap λn=>32::Lib.itoa n
def Xq(w:List UInt8)(l:List Int):List UInt8:=YA w l++[10]
def Wz(s:Sch):List UInt8:=Xq wordS [s.len,s.off]++s.cells.flatMap λc=>Xq wordC (nums c)
def Y3(s:Sch):List UInt8×Int:=if Y1 s=false then([],1)else(Wz s,0)
def YpI(ws:List (List UInt8)):Option (List Int):=if(ws.any λw=>decide (numW w<0))=true then none else some (ws.map numW)
def YlK(line word:List UInt8)(many:Nat):Option (List Int):=
 if(cutC 32 line).length≠many+1\/(cutC 32 line).headD []≠word then none else YpI (cutC 32 line).tail
def YuO(i:Nat):List UInt8:=if i=0 then wordS else wordC
def Yur(i:Nat):Nat:=if i=0 then 2 else 5
def rowE(i:Nat)(line:List UInt8):Option (List Int):=YlK line (YuO i) (Yur i)
def Ui(ls:List (List UInt8))(i:Nat):List UInt8:=ls.getD i []
def YfL(ls:List (List UInt8))(i:Nat):Int:=if(rowE i (Ui ls i)).isNone=true then 3 else 0
def Ysd(x:List Int):Cel:=(x.getD 0 0,x.getD 1 0,x.getD 2 0,x.getD 3 0,x.getD 4 0)
def Ys2(i:Nat)(s:Sch)(x:List Int):Sch:=if i=0 then⟨x.getD 0 0,x.getD 1 0,s.cells⟩else⟨s.len,s.off,s.cells++[Ysd x]⟩
def Ydo(ls:List (List UInt8)):Nat->Sch
 |0=>XI
 |k+1=>Ys2 k (Ydo ls k) ((rowE k (Ui ls k)).getD [])
def YpU(ls:List (List UInt8)):Sch×(Int×Int):=
 if(YH (YfL ls) (ls.length-1) 0).2≠0 then(XI,YH (YfL ls) (ls.length-1) 0)
 else if ls.length-1=0\/Ui ls (ls.length-1)≠[]then(XI,(((ls.length-1:Nat):Int),3))
 else if Y1 (Ydo ls (ls.length-1))=false then(XI,(-1,1))else(Ydo ls (ls.length-1),(-1,0))
def YpT(text:List UInt8):Sch×(Int×Int):=YpU (cutC 10 text)
theorem U7{c:UInt8}(p:List UInt8):∀l:List (List UInt8),ON c (p::l)=p++l.flatMap λq=>c::q
 |[]=>by simp[ON]
 |q::r=>by
  show p++c::ON c (q::r)=_
  rw[U7 q r];rfl
theorem VA:∀l:List (List UInt8),ON 10 (l++[[]])=l.flatMap λp=>p++[10]
 |[]=>rfl
 |p::l=>by
  rw[TA,U7,TN,<-VA l]
  cases l with
  |nil=>simp[ON]
  |cons q r=>grind [U7]
theorem Yem(w:List UInt8)(l:List Int):YA w l=ON 32 (w::l.map Lib.itoa):=by
 rw[U7,Np];rfl
theorem Ycj(u:Nat){b:UInt8}(hb:b∈Lib.decDigits u):b≠32/\b≠10:=by
 have:=TK.1 (YkV u).dig b hb
 have h:=Rm this
 constructor<;>(intro e;subst e;exact absurd h (by decide))
theorem UD{n:Int}(h:0<=n):Lib.itoa n=Lib.decDigits n.toNat:=by simp_all [Go.Lib.itoa,if_neg]
variable {w:List UInt8}{l:List Int}
theorem Zc(hw:(10:UInt8)∉w)(hl:∀n∈l,0<=n):(10:UInt8)∉YA w l:=by
 grind [YA,UD,Ycj]
theorem UL(hw:(32:UInt8)∉w)(hl:∀n∈l,0<=n/\n<10000):YlK (YA w l) w l.length=some l:=by
 have hc:cutC 32 (YA w l)=w::l.map Lib.itoa:=by
  grind [Yem,Ux,UD,Ycj]
 have hn:∀n∈l,numW (Lib.itoa n)=n:=by grind [UD,YjV]
 unfold YlK
 rw[hc,Tf (by simp),List.tail_cons]
 unfold YpI
 rw[Tf,Nq]
 ·have:l.map (numW∘Lib.itoa)=l.map id:=by grind [List.map_congr_left]
  simp_all
 simp_all
theorem Yjf(c:Cel):Ysd (nums c)=c:=rfl
def J6(s:Sch):List (List UInt8):=YA wordS [s.len,s.off]::s.cells.map λc=>YA wordC (nums c)
theorem OB(s:Sch):Wz s=(J6 s).flatMap λp=>p++[10]:=by
 grind [Wz,J6,Xq,Np]
variable {s:Sch}
theorem Vj(h:Frm s):(∀n∈[s.len,s.off],0<=n/\n<10000)/\∀c∈s.cells,∀n∈nums c,0<=n/\n<10000:=by
 have h1:=h.sized
 unfold ZP at h1
 constructor
 ·grind
 ·intro c hc n hn
  have h3:=h.formed c hc
  unfold Zu Zv insE at h3
  unfold nums at hn
  grind
theorem YoR(h:Frm s):cutC 10 (Wz s)=J6 s++[[]]:=by
 obtain⟨h1,h2⟩:=Vj h
 rw[OB,<-VA]
 refine Ux (by simp) λp hp=>?_
 rcases TU.1 hp with hp|hp
 ·rcases TV.1 hp with rfl|hp
  ·exact Zc (by decide) λn hn=>(h1 n hn).1
  ·obtain⟨c,hc,rfl⟩:=TC.1 hp
   exact Zc (by decide) λn hn=>(h2 c hc n hn).1
 simp_all
theorem Ydf(h:Frm s){i:Nat}(hi:i<s.cells.length+1):rowE i (Ui (J6 s++[[]]) i)=some (if i=0 then [s.len,s.off]else nums (Yn s (i-1))):=by
 obtain⟨h1,h2⟩:=Vj h
 unfold rowE Ui J6
 cases i with
 |zero=>exact UL (w:=wordS) (l:=[s.len,s.off]) (by decide) h1
 |succ i=>
  have hi:i<s.cells.length:=by omega
  have hc:=YU hi
  have e:((YA wordS [s.len,s.off]::s.cells.map λc=>YA wordC (nums c))++[[]]).getD (i+1) []=YA wordC (nums (Yn s i)):=by
   grind [SO]
  rw[e,Tf (by omega),R7]
  exact UL (w:=wordC) (l:=nums (Yn s i)) (by decide) (h2 _ (ZY hi))
theorem Yiv{s:Sch}(h:Frm s):∀k,k<=s.cells.length->Ydo (J6 s++[[]]) (k+1)=⟨s.len,s.off,s.cells.take k⟩
 |0,_=>by
  unfold Ydo
  rw[Ydf h (Nat.succ_pos _)]
  rfl
 |k+1,hk=>by
  unfold Ydo
  rw[Yiv h k (by omega),Ydf h (by omega),Tf (by omega),R7]
  unfold Ys2
  rw[Tf (by omega),Option.getD_some,Yjf,TF,YU (by omega)]
  rfl
theorem Ybc(h:Y1 s=true):YpT (Wz s)=(s,(-1,0)):=by
 have hf:=Xw.1 h
 have hl:(J6 s++[[]]).length-1=s.cells.length+1:=by grind [J6]
 have hbad:(YH (YfL (J6 s++[[]])) (s.cells.length+1) 0).2=0:=by grind [YD,YfL,Ydf]
 have hlast:Ui (J6 s++[[]]) (s.cells.length+1)=[]:=by
  grind [Ui]
 have hs:Ydo (J6 s++[[]]) (s.cells.length+1)=s:=by
  simp_all [Yiv]
 simp_all [YpT,YpU,YoR]
end Go.Proofs.YtjlgijpmnfabcaaGreatDoor
namespace Go.Eng
open Go.RowKit
variable {B cap:Nat}{w0:World}{H:List HP}{A:Option Addr}
theorem Oc{P:Program}{n:Shp}{Q:Exit->Act->World->Prop}{env:Env}{c:Code}{e size k:Nat}{xs:List Value}(hm:sl e size A k cap xs∈H)(h:k<=cap->VC P n B w0 c Q env H):VC P n B w0 c Q env H:=by
 refine⟨λa w ha hw=>?_⟩
 have hown:=hw.sl hm
 have hkc:k<=cap:=zc46
 exact(h hkc).run a w ha hw
end Go.Eng
namespace Go.Proofs.YtjlgijpmnfabcaaGreatDoor
open Go.RowKit Go.Eng Go.Nw
theorem Ydy(A:Option Addr)(cap size:Nat):subA A 0 cap size=A:=by
 simp_all [subA,Go.Addr.add]
theorem YaV{α:Type}{f:α->List Value}{q:Nat}(hq:∀a,(f a).length=q):∀(l:List α) (i:Nat),i<l.length->(l.flatMap f).take (i*q)++(l.flatMap f).drop ((i+1)*q)=(l.eraseIdx i).flatMap f
 |x::l,0,_=>by
  simp_all
 |x::l,i+1,h=>by
  rw[T0]at h
  have ih:=YaV hq l i (by omega)
  have e1:(i+1)*q=(f x).length+i*q:=by grind
  have e2:(i+1+1)*q=(f x).length+(i+1)*q:=by grind
  rw[TN,List.eraseIdx_cons_succ,TN,e2,List.drop_length_add_append,<-ih,<-Re]
  grind
def cels(A:Option Addr)(cap:Nat)(l:List Cel):HP:=sl 48 5 A l.length cap (l.flatMap celF)
theorem YmB(A:Option Addr)(cap:Nat)(l:List Cel)(c:Cel):sl 48 5 A (l.length+1) cap (l.flatMap celF++celF c)=cels A cap (l++[c]):=by
 grind [cels]
theorem UZ(A:Option Addr)(cap:Nat)(l:List Cel)(c:Cel):sl 48 5 A (l.length+1) cap (l.flatMap celF++#[Value.int .i64 c.1,.int .i64 c.2.1,.int .i64 c.2.2.1,.int .i64 c.2.2.2.1,.int .i64 c.2.2.2.2].toList)=cels A cap (l++[c]):=YmB A cap l c
theorem YhV(l:List Cel)(c:Cel):l.length+1=(l++[c]).length:=by simp
variable {B cap:Nat}{w0:World}{H:List HP}{A:Option Addr}
theorem Rd.cels{l:List Cel}(h:cels A cap l∈H):Rd B w0 H A (l.flatMap celF):=.sl h
theorem Yhf{a b:Cel}(h:celF a=celF b):a=b:=by
 obtain⟨a1,a2,a3,a4,a5⟩:=a
 simp_all [celF]
section
variable {m:Eng.Mode}{n:Shp}{B d:Nat}{w0:World}{ops:Array Oper}{Q:Exit->Act->World->Prop}{rest:List Oper}{env:Env}{H:List HP}{ty:TypeId}{pos:String}{after:Array Edge}
variable {x y:Operand}
theorem YqS(a b:Cel)(hx:evo env x=some (.agg (celF a).toArray))(hy:evo env y=some (.agg (celF b).toArray))(hn:Nat.ble (d+1) n.k=true)
 (h1:a=b->VL Tryz.prog m n B w0 ops Q rest ((d,.bool true)::env) H) (h2:a≠b->VL Tryz.prog m n B w0 ops Q rest ((d,.bool false)::env) H):
 VL Tryz.prog m n B w0 ops Q (⟨some d,.binOp .eql 48 x y 48,ty,pos,after,none⟩::rest) env H:=
 YqR (xs:=celF a) (ys:=celF b) hx hy hn (by kernel_rfl) (by kernel_rfl) (λe=>h1 (Yhf e)) (λe=>h2 λh=>e (by rw[h]))
theorem YkD(a b:Cel)(hx:evo env x=some (.agg (celF a).toArray))(hy:evo env y=some (.agg (celF b).toArray))(hn:Nat.ble (d+1) n.k=true)
 (h1:a≠b->VL Tryz.prog m n B w0 ops Q rest ((d,.bool true)::env) H) (h2:a=b->VL Tryz.prog m n B w0 ops Q rest ((d,.bool false)::env) H):
 VL Tryz.prog m n B w0 ops Q (⟨some d,.binOp .neq 48 x y 48,ty,pos,after,none⟩::rest) env H:=
 Yby (xs:=celF a) (ys:=celF b) hx hy hn (by kernel_rfl) (by kernel_rfl) (λe=>h1 λh=>e (by rw[h])) (λe=>h2 (Yhf e))
end
theorem Yjv(l m:List Cel)(hl:l.length<=1000000000000)(hm:m.length<=1000000000000){A2:Option Addr}{cap2:Nat}{w:World}(hr:Rd B w0 H A (l.flatMap celF))(hr2:Rd B w0 H A2 (m.flatMap celF))(hw:St B w0 H w):
 CX B w0 15 [.slice A l.length cap,.slice A2 m.length cap2] w λv K=>v=.bool (decide (l=m))/\K=H:=by
 refine Ya Tryz.func15 Tryz.ntmps15 rfl rfl hw ?_
 by_cases hll:l.length=m.length
 rotate_left
 ·exact zc11
 refine zX3 ?_<;>intros
 refine Yg (λ(i:Nat)=>[(13,.int .i64 i),(12,.int .i64 l.length),(0,.slice A l.length cap),(1,.slice A2 m.length cap2)]) (λ_=>H) (λi=>i<=l.length/\l.take i=m.take i) (λi=>l.length-i) 0 ⟨Ti _,rfl⟩ ?_ (λw hw=>hw) ?_
 ·exact zc1
 rintro i ⟨hi,he⟩ K hK
 by_cases hlt:i<l.length
 ·obtain⟨x,hx⟩:∃x,l[i]? =some x:=⟨_,Ta hlt⟩
  obtain⟨y,hy⟩:∃y,m[i]? =some y:=⟨_,Ta (by omega)⟩
  repeat'(first|(apply YkD x y;(iterate 3 exact rfl);all_goals intro hxy)|refine zgd ?_|(refine zge ?_ ?_<;>intro _<;>try exact zo)|fail)
  ·apply Ye;exact rfl;exact rfl
   have hne:l≠m:=by
    grind
   simp_all
  ·apply hK (i+1)
   ·exact⟨by omega,by exact Ybo⟩
   ·omega
   ·exact zc1
   exact zc20
 ·obtain rfl:i=l.length:=by omega
  refine zX1 ?_<;>intros
  exact YlV
def inI(s:Sch)(slot:Int)(k:Nat):List Nat:=(List.range k).filter λi=>decide ((Yn s i).1=slot)
def inXs(s:Sch)(slot:Int):List (List Value):=(inI s slot s.cells.length).map λ(i:Nat)=>[Value.int .i64 (i:Int)]
variable {s:Sch}{slot:Int}{k B:Nat}
theorem YlA(h:(Yn s k).1=slot):inI s slot (k+1)=inI s slot k++[k]:=by
 grind [inI,Rq]
theorem Ypl(h:(Yn s k).1≠slot):inI s slot (k+1)=inI s slot k:=by
 grind [inI,Rq]
theorem Yrp{n:Nat}(h:(Yn s k).1=slot)(hk:k<n):(inI s slot n)[(inI s slot k).length]? =some k:=by
 obtain⟨m,rfl⟩:∃m,n=k+(m+1):=⟨n-k-1,by omega⟩
 have e:inI s slot (k+(m+1))=inI s slot k++((List.range (m+1)).map (k+·)).filter λi=>decide ((Yn s i).1=slot):=by
  grind [inI,List.range_add]
 simp_all [List.range_succ_eq_map]
theorem Om{i:Nat}:i∈inI s slot k↔i<k/\(Yn s i).1=slot:=by
 grind [inI]
def schB(g:Nat)(s:SchM):HP:=blk g (.cells #[.int .i64 s.len,.int .i64 s.off,.slice s.A s.cells.length s.cap] 30 (0,0))
def intB(g:Nat)(x:Int):HP:=blk g (.cells #[.int .i64 x] 3 (0,0))
variable {w0:World}
theorem YhL(s:SchM)(slot:Int)(gs gt:Nat){HI:List HP}(hr:Rd B w0 HI s.A (s.cells.flatMap celF))(hl:s.cells.length<=1000000000000)
 (hms:blk gs (.cells #[.int .i64 s.len,.int .i64 s.off,.slice s.A s.cells.length s.cap] 30 (0,0))∈HI) (hmt:blk gt (.cells #[.int .i64 slot] 3 (0,0))∈HI):
 YbP Tryz.prog 320 [.pointer (some ⟨gs,0,none⟩),.pointer (some ⟨gt,0,none⟩)] (inXs s.sch slot) B w0 HI:=by
 refine YbQ Tryz.func320 Tryz.ntmps320 rfl rfl ?_
 intro l SS X hy L0 h0
 refine zX8 ?_
 refine Yg (λ(x:Nat×List HP)=>[(9,.int .i64 x.1),(8,.int .i64 s.cells.length),(7,.slice s.A s.cells.length s.cap),(0,.func (.yield l) #[] #[]),(1,.pointer (some ⟨gs,0,none⟩)),(2,.pointer (some ⟨gt,0,none⟩))]) (λx=>many x.2::HI) (λx=>x.1<=s.cells.length/\SS (inI s.sch slot x.1).length x.2) (λx=>s.cells.length-x.1) (0,L0) ⟨Ti _,h0⟩ ?_ (λw hw=>hw) ?_
 ·exact zc1
 rintro⟨i,L⟩ ⟨hi,hS⟩ K hK
 dsimp only at hi hS⊢
 have hr:=hr.cons (X:=many L)
 by_cases hlt:i<s.cells.length
 ·have hget:s.cells[i]? =some (Yn s.sch i):=YU (s:=s.sch) hlt
  have hlt2:i<s.sch.cells.length:=hlt
  iterate 22 (first|refine zgd ?_|(refine zge ?_ ?_<;>intro _<;>try exact zo)|(refine zgh ?_;intro _)|fail)
  refine YbS 7 rfl rfl YiW ?_
  repeat'(first|refine zgc ?_|(refine zgf ?_ ?_<;>intro _<;>try exact zo)|fail)
  ·rename_i g5 hs
   have hx:(inXs s.sch slot)[(inI s.sch slot i).length]? =some [.int .i64 (i:Int)]:=by
    rw[inXs,TJ,Yrp hs hlt2];rfl
   have hY:=hy _ _ hx [blk g5 (.cells (celF (Yn s.sch i)).toArray 48 (0,0))] L hS
   apply Yb3 _ _ (hy:=hY)
   ·exact Ybm (j:=4) (s:=18) rfl rfl rfl
   ·exact rfl
   ·exact YqB
   ·exact rfl
   ·exact YiW
   ·rintro _ ⟨L',hS',rfl⟩
    refine zX2 ?_
    apply hK (i+1,L')
    ·exact⟨by omega,by rw[YlA hs,Tq];exact hS'⟩
    ·exact zc47
    ·exact zc1
    ·exact zc57
   ·rintro _ ⟨L',hX',rfl⟩
    refine zX2 ?_
    apply Yh (many L'::HI)
    ·exact zc57
    apply UV;exact rfl
    exact .inr ⟨L',hX',rfl⟩
  ·rename_i hs
   apply Yg4 YiW
   refine zX11 ?_
   apply hK (i+1,L)
   ·exact⟨by omega,by rw[Ypl hs];exact hS⟩
   ·exact zc47
   ·exact zc1
   ·exact zc57
 ·refine zX1 ?_<;>intros
  apply Jb;exact rfl
  rw[show i=s.cells.length by omega]at hS
  exact .inl ⟨L,by rw[inXs,Tt];exact hS,rfl⟩
theorem YhM(s:SchM)(slot:Int){H:List HP}{w:World}(hw:St B w0 H w):
 CX B w0 238 [s.val,.int .i64 slot] w λv K=>∃gs gt,v=.func (.func 320) #[] #[.pointer (some ⟨gs,0,none⟩),.pointer (some ⟨gt,0,none⟩)]/\K=intB gt slot::schB gs s::H:=by
 refine Ya Tryz.func238 Tryz.ntmps238 rfl rfl hw ?_
 refine zX27 ?_<;>intros
 apply Ye;exact rfl;exact rfl
 exact⟨_,_,rfl,rfl⟩
abbrev ints(A:Option Addr)(cap:Nat)(l:List Int):HP:=sl 3 1 A l.length cap (l.flatMap numF)
theorem Ym7(A:Option Addr)(cap:Nat)(l:List Int)(z:Int):sl 3 1 A (l.length+1) cap (l.flatMap numF++#[Value.int .i64 z].toList)=ints A cap (l++[z]):=by simp_all [ints,numF]
variable {A:Option Addr}{cap B:Nat}{w0 w:World}{H:List HP}
theorem YjF(l:List Int)(v:Int)(hlen:l.length<=9223372036854775807)(hr:Rd B w0 H A (l.flatMap numF))(hw:St B w0 H w):
 CX B w0 266 [.slice A l.length cap,.int .i64 v] w λu K=>u=.int .i64 (Yl (λx=>decide (v=x)) l 0)/\K=H:=by
 refine Ya Tryz.func266 Tryz.ntmps266 rfl rfl hw ?_
 refine zX8 ?_
 refine Yg (λ(k:Nat)=>[(8,.int .i64 k),(7,.int .i64 l.length),(0,.slice A l.length cap),(1,.int .i64 v)]) (λ_=>H) (λk=>k<=l.length/\Yl (λx=>decide (v=x)) l 0=Yl (λx=>decide (v=x)) (l.drop k) k) (λk=>l.length-k) 0 ⟨Ti _,by simp⟩ ?_ (λw hw=>hw) ?_
 ·exact zc1
 rintro k ⟨hk,hi⟩ K hK
 by_cases hlt:k<l.length
 ·obtain⟨a,ha⟩:∃a,l[k]? =some a:=⟨_,Ta hlt⟩
  rw[Ji _ l ha]at hi
  repeat'(first|refine zgd ?_|(refine zgf ?_ ?_<;>intro _<;>try exact zo)|fail)
  ·rename_i h
   rw[Tn (Td h)]at hi
   exact zc64
  ·rename_i h
   rw[Tf (by simp[h])]at hi
   refine zX9 ?_
   apply hK (k+1)
   ·grind
   ·omega
   ·exact zc1
   exact zc20
 exact zc29
theorem YdV(l:List Int)(v:Int)(hlen:l.length<=9223372036854775807)(hr:Rd B w0 H A (l.flatMap numF))(hw:St B w0 H w):
 CX B w0 164 [.slice A l.length cap,.int .i64 v] w λu K=>u=.bool (decide (v∈l))/\K=H:=by
 refine Ya Tryz.func164 Tryz.ntmps164 rfl rfl hw ?_
 have hia:=Ve (λx=>decide (v=x)) l 0 (by omega)
 have hmm:l.any (λx=>decide (v=x))=true↔v∈l:=by simp[List.any_eq_true]
 repeat'(first|((first|apply Yb Ysv|apply Yc Ysv);exact za;exact rfl;exactλ_ hw=>(YjF l v hlen hr hw))|refine zga ?_|(refine zgf ?_ ?_<;>intro _<;>try exact zo)|fail)
 all_goals(apply Ye;exact rfl;exact rfl)
 ·rename_i h;exact⟨by rw[Td (hmm.1 (hia.1 h))],rfl⟩
 ·rename_i h
  exact⟨by rw[Tj λe=>by have:=hia.2 (hmm.2 e);omega],rfl⟩
theorem YnQ{l:List Int}{k:Nat}{a:Int}(h:l[k]? =some a):l.take (k+1)=l.take k++[a]:=Ybo
variable {B:Nat}{w0:World}{H:List HP}
theorem NetM.In.mono{K:List HP}{n:NetM}(h:n.In B w0 H)(hH:∀w,St B w0 K w->St B w0 H w):n.In B w0 K:=
 ⟨h.pw.mono hH,λr hr=>(h.rw_ r hr).mono hH,h.lk.mono hH,h.mg.mono hH,h.s1,h.s2,h.s3,h.s4⟩
def fewE(n:Net):Bool:=decide ((∀r∈n.power,r.length<=40)/\n.power.length<=8/\n.links.length<=60/\n.margin.length<=60)
theorem Yhv(n:NetM){w:World}(hin:n.In B w0 H)(hw:St B w0 H w):
 CX B w0 18 [n.val] w λv K=>v=.bool (fewE n.net)/\K=H:=by
 refine Ya Tryz.func18 Tryz.ntmps18 rfl rfl hw ?_
 obtain⟨hpw,hrw,hlk,hmg,hs1,hs2,hs3,hs4⟩:=id hin
 have e1:(∀r∈n.net.power,r.length<=40)↔∀r∈n.rows,r.xs.length<=40:=by simp[NetM.net]
 have e2:n.net.power.length=n.rows.length:=by simp[NetM.net]
 have e3:n.net.links=n.links:=rfl
 have e4:n.net.margin=n.margin:=rfl
 unfold fewE
 rw[e2,e3,e4]
 (apply Xs;apply YX;apply YT;exact rfl;exact rfl;intro g)
 refine zX8 ?_
 refine Yg (λ(a:Nat)=>[(3,.int .i64 a),(1,.pointer (some ⟨g,0,none⟩))]) (λ_=>netB g n::H) (λa=>a<=n.rows.length/\∀j r,j<a->n.rows[j]? =some r->r.xs.length<=40) (λa=>n.rows.length-a) 0 ⟨Ti _,by intro j r hj;omega⟩ ?_ (λw hw=>hw) ?_
 ·exact zc1
 rintro a ⟨ha,hai⟩ K hK
 by_cases hlt:a<n.rows.length
 ·obtain⟨r,hr⟩:∃r,n.rows[a]? =some r:=⟨_,Ta hlt⟩
  have hs2r:=hs2 r (Tc hr)
  repeat'(first|refine zgd ?_|(refine zge ?_ ?_<;>intro _<;>try exact zo)|fail)
  ·rename_i h
   apply Ym;apply Ye;exact rfl;exact rfl
   exact⟨by rw[Tj λhc=>by have:=e1.1 hc.1 r (Tc hr);omega],rfl⟩
  ·rename_i h
   apply hK (a+1)
   ·refine⟨by omega,λj q hj hq=>?_⟩
    by_cases e:j=a
    ·subst e;rw[hr]at hq;rw[<-Tv hq];omega
    ·exact hai j q (by omega) hq
   ·omega
   ·exact zc1
   exact zc20
 obtain rfl:a=n.rows.length:=by omega
 have hall:∀r∈n.rows,r.xs.length<=40:=λr hr=>by
  obtain⟨j,hj⟩:=List.getElem?_of_mem hr
  exact hai j r (Tu.1 hj).1 hj
 repeat'(first|refine zgc ?_|(refine zgf ?_ ?_<;>intro _<;>try exact zo)|fail)
 ·apply Ym;apply Ye;exact rfl;exact rfl
  exact⟨by rw[Td ⟨e1.2 hall,by omega,by omega,by omega⟩],rfl⟩
 all_goals(apply Ym;apply Ye;exact rfl;exact rfl;exact⟨by rw[Tj λhc=>by omega],rfl⟩)
structure Tabs(w:World):Prop where
 pow:Lib.TabIs Tryz.prog w "internal/strconv.uint64pow10" .u64 Lib.pow10Tab
def TabsB(B:Nat)(w0:World):Prop:=∀w,Below B w0 w->Tabs w
variable {B:Nat}{w0 w:World}{H:List HP}
theorem TabsB.here(h:TabsB B w0)(hw:St B w0 H w):TabsB w.heap.size w:=λw1 h1=>h w1 (hw.below.trans (h1.mono hw.le))
abbrev strV(l:List UInt8):Value:=.string ⟨l.toArray⟩
theorem YeO(n:Int)(h0: -9223372036854775808<=n)(h1:n<=9223372036854775807)(ht:TabsB B w0)(hw:St B w0 H w):
 CX B w0 94 [.int .i64 n] w λv K=>v=strV (Lib.itoa n)/\K=H:=
 Yje hw ((Tryz.strconv_Itoa n h0 h1 w (ht w hw.below).pow).mono λe w' ⟨h1,k,os,h2⟩=>⟨h1,by simp_all [Go.Lib.below_grow]⟩)
theorem QH{s:Sch}{slot:Int}{k:Nat}{args:List Value}(h:(inXs s slot)[k]? =some args):∃i,(inI s slot s.cells.length)[k]? =some i/\i<s.cells.length/\args=[.int .i64 (i:Int)]:=by
 unfold inXs at h
 rw[TJ]at h
 cases hi:(inI s slot s.cells.length)[k]? with
 |none=>simp_all
 |some i=>
  rw[hi]at h
  cases h
  exact⟨i,rfl,(Om.1 (Tc hi)).1,rfl⟩
section
variable {m:Eng.Mode}{n:Shp}{B d:Nat}{w0:World}{ops:Array Oper}{Q:Exit->Act->World->Prop}{rest:List Oper}{env:Env}{H:List HP}{ty:TypeId}{pos:String}{after:Array Edge}{x y:Operand}
theorem Ug(a b:List UInt8)(hx:evo env x=some (strV a))(hy:evo env y=some (strV b))(hn:Nat.ble (d+1) n.k=true)(hb:a.length+b.length<=1000000)(h:VL Tryz.prog m n B w0 ops Q rest ((d,strV (a++b))::env) H):
 VL Tryz.prog m n B w0 ops Q (⟨some d,.binOp .add 9 x y 9,ty,pos,after,none⟩::rest) env H:=by
 have hs:∀l:List UInt8,(⟨l.toArray⟩:ByteArray).size=l.length:=by grind [ByteArray.size]
 refine Yq2 hx hy hn (by grind) ?_
 have e:(⟨a.toArray⟩:ByteArray)++⟨b.toArray⟩=⟨(a++b).toArray⟩:=by
  apply ByteArray.ext
  simp
 simp_all
variable {g:Nat}{cs:Array Value}{fr:Nat×Nat}
theorem Yot(hx:evo env x=some (.pointer (some ⟨g,0,none⟩)))(hm:blk g (.cells cs 98 fr)∈H)(hc:cs.size=2)(hn:Nat.ble (d+1) n.k=true)
 (h:VL Tryz.prog none n B w0 ops Q rest ((d,.pointer (some ⟨g,0,none⟩))::env) H):VL Tryz.prog none n B w0 ops Q (⟨some d,.convert 95 256 x,ty,pos,after,none⟩::rest) env H:=by
 refine Xj (λv K'=>v=.pointer (some ⟨g,0,none⟩)/\K'=H) rfl rfl hn (λa w ha hw=>?_) (by rintro _ _ ⟨rfl,rfl⟩;exact h)
 have hb:=(hw.blk hm).1
 obtain⟨j,hj,hjs⟩:=Option.map_eq_some_iff.1 (show(Tryz.prog.info? 98).map (·.size)=some 2 by kernel_rfl)
 have hr:=Lib.run_to_unsafe (P:=Tryz.prog) w ⟨g,0,none⟩ Tryz.underlying95 Tryz.underlying256 hj (by rw[hjs];decide) (show w.shape? g=some (98,2) by simp[World.shape?,hb,hc]) (Nat.zero_lt_succ 1)
 exact⟨_,H,w,by simp[execOp,ha.eval hx,hr],hw,rfl,rfl⟩
theorem Yoi(hx:evo env x=some (.pointer (some ⟨g,0,none⟩)))(hm:blk g (.cells cs 98 fr)∈H)(hc:cs.size=2)(hn:Nat.ble (d+1) n.k=true)
 (h:VL Tryz.prog none n B w0 ops Q rest ((d,.pointer (some ⟨g,0,none⟩))::env) H):VL Tryz.prog none n B w0 ops Q (⟨some d,.convert 256 95 x,ty,pos,after,none⟩::rest) env H:=by
 refine Xj (λv K'=>v=.pointer (some ⟨g,0,none⟩)/\K'=H) rfl rfl hn (λa w ha hw=>?_) zc51
 have hb:=(hw.blk hm).1
 obtain⟨j,hj,hjs⟩:=Option.map_eq_some_iff.1 (show(Tryz.prog.info? 98).map (·.size)=some 2 by kernel_rfl)
 have hr:=Lib.run_from_unsafe (P:=Tryz.prog) w ⟨g,0,none⟩ Tryz.underlying256 Tryz.underlying95 hj (show w.shape? g=some (98,2) by simp[World.shape?,hb,hc]) (by kernel_rfl)
 exact⟨_,H,w,by simp[execOp,ha.eval hx,hr],hw,rfl,rfl⟩
theorem Yog{v:Value}{tys:Array TypeId}(hx:evo env x=some v)(hn:Nat.ble (d+1) n.k=true)(h:VL Tryz.prog none n B w0 ops Q rest ((d,v)::env) H):
 VL Tryz.prog none n B w0 ops Q (⟨some d,.call ⟨.value (.func 179),#[x],tys⟩,ty,pos,after,none⟩::rest) env H:=by
 refine Xj (λu K'=>u=v/\K'=H) rfl rfl hn (λa w ha hw=>⟨v,H,w,?_,hw,rfl,rfl⟩) zc51
 have hr:=run_callFunc_extern (P:=Tryz.prog) Tryz.func179 (by kernel_rfl) (by kernel_rfl) (by kernel_rfl) (e:=Extern.AbiNoEscape.same) (by kernel_rfl) #[v] w
 have he:a.eval (.func 179)=.func (.func 179) #[] #[]:=rfl
 simp[execOp,resolve,invoke,ha.eval hx,he,Deferred.ofValue,hr,Lib.run_noEscape,Result.andThen]
theorem YgU{g:Addr}(hx:evo env x=some (.pointer (some g)))(hy:evo env y=some (.pointer (some g)))(hn:Nat.ble (d+1) n.k=true)(h:VL Tryz.prog m n B w0 ops Q rest ((d,.bool false)::env) H):
 VL Tryz.prog m n B w0 ops Q (⟨some d,.binOp .neq 95 x y 95,ty,pos,after,none⟩::rest) env H:=by
 obtain⟨j,hj,hjs⟩:=Option.map_eq_some_iff.1 (show(Tryz.prog.info? 98).map (·.size)=some 2 by kernel_rfl)
 exact YS hx hy hn (λ_=>rfl) (λw=>Lib.run_neq_ptr_same w g Tryz.underlying95 hj) h
end
variable {B b cap:Nat}{w0 w:World}{H:List HP}
theorem Yci(b:Nat)(p v:Value)(hp:p=.pointer none\/p=.pointer (some ⟨b,0,none⟩))(hw:St B w0 (blk b (.cells #[p,v] 98 (0,0))::H) w):
 CX B w0 93 [.pointer (some ⟨b,0,none⟩)] w λu K=>u=.tuple #[]/\K=blk b (.cells #[.pointer (some ⟨b,0,none⟩),v] 98 (0,0))::H:=by
 refine Ya Tryz.func93 Tryz.ntmps93 rfl rfl hw ?_
 rcases hp with rfl|rfl
 ·skip
  repeat'(first|(apply YgT;exact rfl;exact rfl;kernel_rfl)|(apply Yot;exact rfl;exact zm;exact rfl;exact rfl)|(apply Yoi;exact rfl;exact zm;exact rfl;exact rfl)|(apply Yog;exact rfl;exact rfl)|(apply YgU;(iterate 3 exact rfl))|refine zgd ?_|fail)
  exact YiX
 ·skip
  repeat'(first|(apply YgT;exact rfl;exact rfl;kernel_rfl)|(apply YgU;(iterate 3 exact rfl))|refine zgd ?_|fail)
  exact YiX
def bdP(b:Nat)(p:Value)(A:Option Addr)(cap:Nat)(l:List UInt8)(H:List HP):List HP:=blk b (.cells #[p,.slice A l.length cap] 98 (0,0))::sl 5 1 A l.length cap (Lib.byteCells l)::H
theorem JF(b:Nat)(p:Value)(hp:p=.pointer none\/p=.pointer (some ⟨b,0,none⟩))(A:Option Addr)(cap:Nat)(l s:List UInt8)(hl:l.length+s.length<=1000000)(hw:St B w0 (bdP b p A cap l H) w):
 CX B w0 35 [.pointer (some ⟨b,0,none⟩),strV s] w λu K=>u=.tuple #[.int .i64 s.length,.nilIface]/\∃A' cap',K=bdP b (.pointer (some ⟨b,0,none⟩)) A' cap' (l++s) H:=by
 have hs:(⟨s.toArray⟩:ByteArray).size=s.length:=by simp[ByteArray.size]
 refine Ya Tryz.func35 Tryz.ntmps35 rfl rfl hw ?_
 unfold bdP
 refine zX4 ?_
 apply Yf _ en93
 exact za
 exact rfl
 exactλ_ hw=>(Yci b p _ hp (hw))
 rintro _ _ ⟨rfl,rfl⟩
 repeat'(first|(apply Qk T (e:=5);(iterate 3 exact rfl);kernel_rfl;exact rfl;exact rfl;(intro _ _;exact zd);(rw[hs];omega);intro A' cap')|refine zgd ?_|fail)
 have e1:Lib.byteCells l++Lib.strCells ⟨s.toArray⟩=Lib.byteCells (l++s):=by
  grind [Go.Lib.byteCells,Go.Lib.strCells]
 have e2:l.length+(⟨s.toArray⟩:ByteArray).size=(l++s).length:=by simp_all
 apply YN;(iterate 3 exact rfl)
 refine⟨by rw[hs],A',cap',?_⟩
 simp_all
variable {p:Value}{A:Option Addr}{l:List UInt8}
theorem Yug(hp:p=.pointer none\/p=.pointer (some ⟨b,0,none⟩))(hw:St B w0 (bdP b p A cap l H) w):Lib.IsBuilder 98 5 B b (Lib.byteCells l) w:=by
 obtain⟨_,_,S1,S2,k1,k2,k3,⟨k4,k5⟩,S3,S4,j1,j2,j3,⟨⟨j4,j5⟩,j6⟩,j7⟩:=hw
 have hl:(Lib.byteCells l).length=l.length:=by omega
 have hat:Lib.BuilderAt 98 5 B b p (Lib.byteCells l) w:=by
  refine⟨(k1 b k4).1,.slice A l.length cap,k5,⟨by omega,?_⟩,?_⟩
  ·rw[hl]
   rcases j5 with j5|⟨g,c,cur,e1,e2,e3⟩
   ·simp_all
   ·refine .inr ⟨g,c,cur,e1,?_,e3⟩
    simp_all
  exact Yl0
 rcases hp with rfl|rfl
 ·exact .inl hat
 ·exact .inr hat
theorem W7(hp:p=.pointer none\/p=.pointer (some ⟨b,0,none⟩))(hw:St B w0 (bdP b p A cap l H) w):
 CX B w0 37 [.pointer (some ⟨b,0,none⟩)] w λv K=>v=strV l/\K=[]:=by
 refine(Tryz.Builder_String_any B b l w (Yug hp hw) hw.le).mono ?_
 rintro e w' ⟨rfl,hb⟩
 exact⟨_,[],rfl,⟨hw.below.trans hb,TY hw.le hb.size,trivial⟩,rfl,rfl⟩
theorem QK{n:Int}(h:0<=n/\n<10000):(Lib.itoa n).length<=4:=by
 grind [UD,YkW]
theorem WG{w:List UInt8}:∀{l:List Int},(∀n∈l,0<=n/\n<10000)->(YA w l).length<=w.length+5*l.length
 |[],_=>by simp[YA]
 |n::l,h=>by
  have ih:=WG (w:=w) (l:=l) λm hm=>h m (TD _ hm)
  grind [QK,YA]
theorem Yaf(w:List UInt8)(l:List Int)(n:Int):YA w (l++[n])=YA w l++([32]++Lib.itoa n):=by
 grind [YA]
theorem YeU(word:List UInt8)(l:List Int)(h:∀n∈l,0<=n/\n<10000)(h5:l.length<=100)(hwd:word.length<=100)(ht:TabsB B w0)(hr:Rd B w0 H A (l.flatMap numF))(hw:St B w0 H w):
 CX B w0 44 [strV word,.slice A l.length cap] w λv K=>v=strV (Xq word l)/\K=H:=by
 refine Ya Tryz.func44 Tryz.ntmps44 rfl rfl hw ?_
 refine zX8 ?_
 refine Yg (λ(i:Nat)=>[(9,.int .i64 i),(8,.int .i64 l.length),(7,.slice A l.length cap),(0,strV (YA word (l.take i)))]) (λ_=>H) (λi=>i<=l.length) (λi=>l.length-i) 0 (Ti _) ?_ (λw hw=>hw) ?_
 ·have e0:YA word (l.take 0)=word:=by simp[YA]
  rw[e0]
  exact zc1
 intro i hi K hK
 have hbl:=WG (w:=word) (l:=l.take i) λn hn=>h n (SA hn)
 have hlt0:(l.take i).length<=100:=by grind
 by_cases hlt:i<l.length
 ·obtain⟨n,hn⟩:∃n,l[i]? =some n:=⟨_,Ta hlt⟩
  have hnb:=h n (Tc hn)
  have hil:=QK hnb
  refine zX30 ?_<;>intros
  apply hK (i+1)
  ·show i+1<=l.length
   omega
  ·omega
  ·rw[TF,hn,Sv,Yaf]
   exact zc1
  exact zc20
 exact zc14
def ZQ(s:Sch)(i:Nat):List UInt8:=Xq wordS [s.len,s.off]++(s.cells.take i).flatMap λc=>Xq wordC (nums c)
theorem Ybj{s:Sch}{i:Nat}(h:i<s.cells.length):ZQ s (i+1)=ZQ s i++Xq wordC (nums (Yn s i)):=by
 grind [ZQ,TF,YU]
theorem Zb{w:List UInt8}{l:List Int}(h:∀n∈l,0<=n/\n<10000):(Xq w l).length<=w.length+5*l.length+1:=by
 grind [Xq,WG]
theorem Qh{s:Sch}(h:Frm s):∀i,i<=s.cells.length->(ZQ s i).length<=100+40*i
 |0,_=>by
  have h1:=Zb (w:=wordS) (Vj h).1
  grind [ZQ,wordS,T0]
 |i+1,hi=>by
  have ih:=Qh h i (by omega)
  have h1:=Zb (w:=wordC) ((Vj h).2 _ (ZY (s:=s) (i:=i) (by omega)))
  rw[Ybj (by omega),Tq]
  have:wordC.length=4:=rfl
  have h2:(nums (Yn s i)).length=5:=rfl
  omega
theorem YpY(s:SchM)(ht:TabsB B w0)(hr:Rd B w0 [] s.A (s.cells.flatMap celF))(hl:s.cells.length<=1000000000000)(hw:St B w0 [] w):
 CX B w0 11 [s.val] w λv _=>v=.tuple #[strV (Y3 s.sch).1,.int .i64 (Y3 s.sch).2]:=by
 refine Ya Tryz.func11 Tryz.ntmps11 rfl rfl hw ?_
 have e1:s.sch.cells=s.cells:=rfl
 cases hf:Y1 s.sch with
 |false=>
  refine zX31 ?_<;>intros
  apply YN;(iterate 3 exact rfl)
  simp_all [Y3]
 |true=>
  have hfr:=Xw.1 hf
  have hle:s.cells.length<=512:=hfr.few
  have hnm:=Vj hfr
  have hln1:=Zb (w:=wordS) hnm.1
  refine zX31 ?_<;>intros
  rename_i gs gb gl
  have hrl:Rd B w0 [blk gl (.cells #[.int .i64 s.len,.int .i64 s.off] 3 (0,0)),blk gb (.cells (Value.agg #[.pointer none,.slice none 0 0]).cells 98 (0,0)),blk gs (.cells #[.int .i64 s.len,.int .i64 s.off,.slice s.A s.cells.length s.cap] 30 (0,0))] (some ⟨gl,0,none⟩) ([s.sch.len,s.sch.off].flatMap numF):=Rd.blk (cs:=#[.int .i64 s.len,.int .i64 s.off]) (.head _)
  first|apply Yb en44|apply Yc en44
  exact za
  exact rfl
  exactλ_ hw=>(YeU wordS [s.sch.len,s.sch.off] hnm.1 (by show 2<=100;decide) (by decide) ht hrl hw)
  apply Xy (bdP gb (.pointer none) none 0 [] [blk gs (.cells #[.int .i64 s.len,.int .i64 s.off,.slice s.A s.cells.length s.cap] 30 (0,0))])
  ·unfold bdP
   intro w hw
   have h5:St B w0 [blk gb (.cells (Value.agg #[.pointer none,.slice none 0 0]).cells 98 (0,0)),blk gs (.cells #[.int .i64 s.len,.int .i64 s.off,.slice s.A s.cells.length s.cap] 30 (0,0))] w:=by
    revert w
    exact zc0
   exact(h5.nilSlice _ _).perm (.swap _ _ _)
  apply Yf _ en35
  exact za
  exact rfl
  exactλ_ hw=>(JF gb _ (.inl rfl) none 0 [] (Xq wordS [s.sch.len,s.sch.off]) (by simp only[RB];have:wordS.length=8:=rfl;simp only[T0,RB]at hln1;omega) (hw))
  rintro _ _ ⟨rfl,A1,cap1,rfl⟩
  unfold bdP
  refine zX8 ?_
  refine Yg (λ(z:Nat×Option Addr×Nat)=>[(21,.int .i64 z.1),(20,.int .i64 s.cells.length),(19,.slice s.A s.cells.length s.cap),(4,.pointer (some ⟨gb,0,none⟩))]) (λz=>bdP gb (.pointer (some ⟨gb,0,none⟩)) z.2.1 z.2.2 (ZQ s.sch z.1) [blk gs (.cells #[.int .i64 s.len,.int .i64 s.off,.slice s.A s.cells.length s.cap] 30 (0,0))]) (λz=>z.1<=s.cells.length) (λz=>s.cells.length-z.1) (0,A1,cap1) (Ti _) ?_ ?_ ?_
  ·exact zc1
  ·have e0:ZQ s.sch 0=[]++Xq wordS [s.sch.len,s.sch.off]:=by unfold ZQ;simp
   rw[e0]
   unfold bdP
   exact Yfl
  rintro⟨i,A2,cap2⟩ hi K hK
  dsimp only at hi⊢
  have htl:=Qh hfr i hi
  by_cases hlt:i<s.cells.length
  ·have hget:s.cells[i]? =some (Yn s.sch i):=YU (s:=s.sch) hlt
   have hnc:=hnm.2 _ (ZY (s:=s.sch) hlt)
   have hln:=Zb (w:=wordC) hnc
   have hr':Rd B w0 (bdP gb (.pointer (some ⟨gb,0,none⟩)) A2 cap2 (ZQ s.sch i) [blk gs (.cells #[.int .i64 s.len,.int .i64 s.off,.slice s.A s.cells.length s.cap] 30 (0,0))]) s.A (s.cells.flatMap celF):=hr.cons.cons.cons
   repeat'(first|((first|apply Yb en45|apply Yc en45);exact za;exact rfl;exactλ_ hw=>(QS _ hw))|(apply J7 T (e:=3);(iterate 3 exact rfl))|refine zgd ?_|(refine zge ?_ ?_<;>intro _<;>try exact zo)|(refine zgh ?_;intro _)|fail)
   rename_i gc ga
   have hra:∀X,Rd B w0 (blk ga (.cells (celF (Yn s.sch i)).toArray 113 (0,0))::X) (some ⟨ga,0,none⟩) ((nums (Yn s.sch i)).flatMap numF):=λX=>Rd.blk (cs:=(celF (Yn s.sch i)).toArray) (.head _)
   first|apply Yb en44|apply Yc en44
   exact za
   exact rfl
   exactλ_ hw=>(YeU wordC (nums (Yn s.sch i)) hnc (by show 5<=100;decide) (by decide) ht (hra _) hw)
   apply Xy (bdP gb (.pointer (some ⟨gb,0,none⟩)) A2 cap2 (ZQ s.sch i) [blk gs (.cells #[.int .i64 s.len,.int .i64 s.off,.slice s.A s.cells.length s.cap] 30 (0,0))])
   ·exactλw hw=>hw.tail.tail
   have h5n:(nums (Yn s.sch i)).length=5:=rfl
   have h4w:wordC.length=4:=rfl
   apply Yf _ en35
   exact za
   exact rfl
   exactλ_ hw=>(JF gb _ (.inr rfl) A2 cap2 (ZQ s.sch i) (Xq wordC (nums (Yn s.sch i))) (by omega) (hw))
   rintro _ _ ⟨rfl,A3,cap3,rfl⟩
   rw[<-Ybj hlt]
   refine zX11 ?_
   apply hK (i+1,A3,cap3)
   ·show i+1<=s.cells.length
    omega
   ·exact zc47
   ·exact zc1
   exact zc20
  ·refine zX1 ?_<;>intros
   apply Yf _ en37
   exact za
   exact rfl
   exactλ_ hw=>(W7 (l:=ZQ s.sch i) (.inr rfl) (hw))
   rintro _ _ ⟨rfl,rfl⟩
   refine zX4 ?_
   apply YN;(iterate 3 exact rfl)
   rw[Y3,Tf (by simp[hf])]
   rw[show i=s.sch.cells.length from(by have:s.sch.cells.length=s.cells.length:=rfl;omega),show ZQ s.sch s.sch.cells.length=Wz s.sch from(by unfold ZQ Wz;rw[TM])]
theorem VH(s:SchM)(ht:TabsB B w0)(hr:Rd B w0 H s.A (s.cells.flatMap celF))(hl:s.cells.length<=1000000000000)(hw:St B w0 H w):
 CX B w0 11 [s.val] w λv K=>v=.tuple #[strV (Y3 s.sch).1,.int .i64 (Y3 s.sch).2]/\K=H:=
 WI hw (YpY s (ht.here hw) (hr.here hw) hl (St.start w))
open Go.RowKit Go.Eng Go.Nw Go.Rt
variable {n:Net}
theorem Ygw(h:Yo n=0)(a b:Int):JG n (XS n a b)=YZ n a b:=by
 have hok:=YK h
 unfold JG XS
 rw[Tf (by simp[h]),Td h,RV]
 by_cases h1:0<=Yy n a b
 ·have h2:=Zs h1
  rw[Td ⟨h1,by omega⟩,RV,Ybk hok h2]
  grind [QC]
 simp_all [decide_eq_false,YZ]
def Yb8(n:Net)(i:Nat):Lk:=((lnk n i).1,(lnk n i).2.1,(lnk n i).2.2+1)
def Zz(n:Net)(k:Nat):List Lk:=(List.range k).flatMap λi=>if ZL n i=true then [Yb8 n i]else []
def JP(n:Net):List Lk:=Zz n n.links.length
variable {k:Nat}
theorem Yb9(h:ZL n k=true):Zz n (k+1)=Zz n k++[Yb8 n k]:=by
 grind [Zz,Rq]
theorem Yeh(h:ZL n k=false):Zz n (k+1)=Zz n k:=by
 grind [Zz,Rq]
theorem UY(n:Net):∀k,(Zz n k).length<=k
 |0=>by simp[Zz]
 |k+1=>by
  have:=UY n k
  grind [ZL,Yeh,Yb9]
theorem Yh2{a:Lk}:a∈Zz n k↔∃i,i<k/\ZL n i=true/\Yb8 n i=a:=by
 unfold Zz
 grind
theorem YkM(h:Ok n){nodes:Nat}(hn:n.nodes=nodes):ArcsOk nodes (JP n):=by
 intro a ha
 obtain⟨i,hi,_,rfl⟩:=Yh2.1 ha
 have hl:=h.lk i hi
 have h1:=hl.f0;have h2:=hl.f1;have h3:=hl.t0;have h4:=hl.t1;have h5:=hl.l0;have h6:=hl.l1
 grind [Yb8]
def offE(n:Net)(a:Int):Bool:=decide (a<0\/n.nodes<=a)
def Z2(n:Net)(s t:Int):Int:=if Yo n≠0 then 1 else if offE n s=true\/offE n t=true\/s=t then 2 else 0
def YaC(r:List Int):Bool:=(List.range r.length).any λi=>(r.take i).contains (r.getD i 0)
def VY(n:Net)(r:List Int):Bool:=(List.range (r.length-1)).any λi=>!YZ n (r.getD i 0) (r.getD (i+1) 0)
def Vy(n:Net)(s t:Int)(r:List Int):Int:=
 if r.length<2 then 9 else if 9<r.length then 8 else if r.any (offE n)=true then 2 else if r.getD 0 0≠s\/r.getD (r.length-1) 0≠t then 11
 else if YaC r=true then 6 else if VY n r=true then 17 else 0
def YeV(n:Net)(a b:Int):Int:=(lnk n (Yy n a b).toNat).2.2
def U3(n:Net)(r:List Int):Nat->Int
 |0=>0
 |k+1=>U3 n r k+(YeV n (r.getD k 0) (r.getD (k+1) 0)+1)
def YoM(n:Net)(r:List Int):Int:=U3 n r (r.length-1)
def Ygz(n:Net)(r:List Int):Int×Int:=
 if Yo n≠0 then(0,1)else
  let e:=Vy n (r.getD 0 0) (r.getD (r.length-1) 0) r
  if e≠0 then(0,e)else(YoM n r,0)
def X0(n:Net)(s t:Int)(r:List Int):Int:=if Z2 n s t≠0 then Z2 n s t else Vy n s t r
theorem XR{l:List Int}{i:Nat}(h:i<l.length):l[i]? =some (l.getD i 0):=by
 simp_all
theorem YbF(h:Ok n)(a b:Int):0<=YeV n a b/\YeV n a b<=7:=by
 unfold YeV
 by_cases hi:(Yy n a b).toNat<n.links.length
 ·have:=h.lk _ hi
  exact⟨this.l0,this.l1⟩
 grind [lnk]
theorem Yer{n:Net}(h:Ok n)(r:List Int):∀k,0<=U3 n r k/\U3 n r k<=8*k
 |0=>by simp[U3]
 |k+1=>by
  have h1:=Yer h r k
  have h2:=YbF h (r.getD k 0) (r.getD (k+1) 0)
  grind [U3]
end Go.Proofs.YtjlgijpmnfabcaaGreatDoor
namespace Go.Eng
open Go.RowKit
inductive OV where
 |done
 |p1 (i:Nat) (t:OV)
 |d1 (i:Nat) (t:OV)
 |d2 (i:Nat) (t:OV) (j:Nat) (u:OV)
section
variable {P:Program}{n:Shp}{B:Nat}{w0:World}{Q:Exit->Act->World->Prop}{env:Env}{H:List HP}{ops:Array Oper}
def wpD(P:Program)(ops:Array Oper)(K:Act->World->Prop)(o:Oper)(a:Act)(w:World):Prop:=
 if Region.wanted o (yielded ops a.tmps)then o.wp P a w K (λ_ _ _=>False)else K (a.put o.dst undef) w
def X9(P:Program)(ops:Array Oper)(l:List Oper)(Q:Exit->Act->World->Prop)(S:World->Prop):OV->Act->World->Prop
 |.done,a,w=>Q .normal a w
 |.p1 i t,a,w=>Ys P ops (λe a w=>match e with|.normal=>S w/\X9 P ops l Q S t a w|_=>False) S [nthO l i] a w
 |.d1 i t,a,w=>wpD P ops (λa w=>S w/\X9 P ops l Q S t a w) (nthO l i) a w
 |.d2 i t j u,a,w=>wpD P ops (λa w=>S w/\X9 P ops l Q S t a w) (nthO l i) a w/\wpD P ops (λa w=>S w/\X9 P ops l Q S u a w) (nthO l j) a w
def Wm(ops:Array Oper)(last:List Nat):OV->Array Bool->Nat->Bool
 |.done,listed,0=>JZ ops last listed
 |.done,_,_+1=>false
 |.p1 i t,listed,k+1=>!last.contains i&&(match ops[i]? with
  |some o=>!eff o&&((Region.ready .any ops listed).contains i&&Region.free .any ops listed i)
  |none=>false)&&Wm ops last t (listed.setIfInBounds i true) k
 |.d1 i t,listed,k+1=>!last.contains i&&(ops[i]?).isSome&&decide (Region.ready .any ops listed=[i])&&Wm ops last t (listed.setIfInBounds i true) k
 |.d2 i t j u,listed,k+1=>!last.contains i&&!last.contains j&&(ops[i]?).isSome&&(ops[j]?).isSome&&((Region.ready .any ops listed).all λx=>x==i||x==j)&&!(Region.ready .any ops listed).isEmpty&&Wm ops last t (listed.setIfInBounds i true) k&&Wm ops last u (listed.setIfInBounds j true) k
 |.p1 _ _,_,0=>false
 |.d1 _ _,_,0=>false
 |.d2 _ _ _ _,_,0=>false
variable {i:Nat}{o:Oper}{a:Act}{w:World}
theorem Yck{S:World->Prop}{K:Act->World->Prop}{last:List Nat}{k:Nat}{listed:Array Bool}(ho:ops[i]? =some o)
 (h:wpD P ops K o a w) (hk:∀a w,K a w->S w/\XT P ops Q S last k (listed.setIfInBounds i true) a w):
 wpOp P ops Q i (λa' w'=>(last.contains i=false->S w')/\XT P ops Q S last k (listed.setIfInBounds i true) a' w') a w:=by
 unfold wpD at h
 unfold wpOp
 simp only[ho]
 by_cases hw:Region.wanted o (yielded ops a.tmps)=true
 ·rw[Tn hw]at h⊢
  exact .inl (Oper.wp_mono_noQ (λ_ _ _ h=>h) zc42 (Oper.wp_mono (λa' w' h'=>⟨λ_=>(hk a' w' h').1,(hk a' w' h').2⟩) h))
 grind
theorem JX{S:World->Prop}{last:List Nat}(hs:Region.noSelect ops=true)(hQ:∀c (a:Act) (w:World),¬Q (.panic c) a w)(hlo:¬LetsOut Q)(l:List Oper)(hl:ops=l.toArray)(hlast:YcS ops last=true):
 ∀(t:OV) (k:Nat) (listed:Array Bool) (a:Act) (w:World),Closed ops listed->Wm ops last t listed k=true->S w->X9 P ops l (ZS P ops Q (Yd l last)) S t a w->
  XT P ops Q S last (k+last.length) listed a w
 |.done,0,listed,a,w,_,hB,_,h=>by
  exact Ytg
 |.done,_+1,_,_,_,_,hB,_,_=>by cases hB
 |.p1 _ _,0,_,_,_,_,hB,_,_=>by cases hB
 |.d1 _ _,0,_,_,_,_,hB,_,_=>by cases hB
 |.d2 _ _ _ _,0,_,_,_,_,hB,_,_=>by cases hB
 |.p1 i t,k+1,listed,a,w,hcl,hB,hS,h=>by
  simp only[Wm,Tm]at hB
  obtain⟨⟨h0,h1⟩,h2⟩:=hB
  have hno:last.contains i=false:=by simp_all
  cases ho:ops[i]? with
  |none=>simp_all
  |some o=>
   rw[ho]at h1
   have hget:=Xf hl ho
   unfold X9 at h
   rw[hget]at h
   rw[Su]
   simp only[Tm,RY]at h1
   obtain⟨he,h3,h4⟩:=h1
   unfold Ys at h
   rw[Tf (by simp_all)]at h
   obtain⟨v,hy,h5⟩:=h
   have hr:i∈Region.ready .any ops listed:=by simp_all
   exact Jt ho (Region.noSelect_spec hs) hQ ((VB hlast).2 i o ho he hno) hno _ listed a w hcl (Region.free_spec ho h4) hr hy hS (JX hs hQ hlo l hl hlast t k _ _ w (hcl.set hr) h2 hS h5.2)
 |.d1 i t,k+1,listed,a,w,hcl,hB,hS,h=>by
  simp only[Wm,Tm,To]at hB
  obtain⟨⟨⟨h0,h1⟩,h3⟩,h2⟩:=hB
  obtain⟨o,ho⟩:=Option.isSome_iff_exists.1 h1
  unfold X9 at h
  rw[Xf hl ho]at h
  rw[Su]
  refine⟨λh0=>(by simp_all),λj hj=>?_⟩
  have hj':=hj
  rw[h3]at hj
  obtain rfl:j=i:=by simp_all
  exact Yck ho h λa w ⟨hS',h'⟩=>⟨hS',JX hs hQ hlo l hl hlast t k _ a w (hcl.set hj') h2 hS' h'⟩
 |.d2 i t j u,k+1,listed,a,w,hcl,hB,hS,h=>by
  simp only[Wm,Tm]at hB
  obtain⟨⟨⟨⟨⟨⟨⟨b1,b2⟩,b3⟩,b4⟩,b5⟩,b6⟩,b7⟩,b8⟩:=hB
  obtain⟨o,ho⟩:=Option.isSome_iff_exists.1 b3
  obtain⟨o',ho'⟩:=Option.isSome_iff_exists.1 b4
  unfold X9 at h
  rw[Xf hl ho,Xf hl ho']at h
  rw[Su]
  refine⟨λh0=>(by simp_all),λx hx=>?_⟩
  have h5:=TK.1 b5 x hx
  simp only[RG,Nx]at h5
  rcases h5 with rfl|rfl
  ·exact Yck ho h.1 λa w ⟨hS',h'⟩=>⟨hS',JX hs hQ hlo l hl hlast t k _ a w (hcl.set hx) b7 hS' h'⟩
  ·exact Yck ho' h.2 λa w ⟨hS',h'⟩=>⟨hS',JX hs hQ hlo l hl hlast u k _ a w (hcl.set hx) b8 hS' h'⟩
structure VV(P:Program)(n:Shp)(B:Nat)(w0:World)(ops:Array Oper)(l:List Oper)(Q:Exit->Act->World->Prop)(t:OV)(env:Env)(H F:List HP):Prop where
 run:∀a,Fits n a env->∀w,St B w0 (H++F) w->X9 P ops l Q (St B w0 H) t a w
def US(P:Program)(B:Nat)(w0:World)(ops:Array Oper)(l:List Oper)(Q:Exit->Act->World->Prop)(Hc:List HP)(t:OV):Exit->Act->World->Prop
 |.normal,a,w=>St B w0 Hc w/\X9 P ops l Q (St B w0 Hc) t a w
 |_,_,_=>False
variable {l:List Oper}{t:OV}
theorem YnR:US P B w0 ops l Q H t=λe a w=>match e with|.normal=>St B w0 H w/\X9 P ops l Q (St B w0 H) t a w|_=>False:=by
 funext e a w
 cases e<;>rfl
theorem Yku(h:wpList P ops (US P B w0 ops l Q H t) [o] a w):wpD P ops (λa w=>St B w0 H w/\X9 P ops l Q (St B w0 H) t a w) o a w:=by
 have hno:¬LetsOut (US P B w0 ops l Q H t):=zc42
 unfold wpList at h
 unfold wpD
 by_cases hw:Region.wanted o (yielded ops a.tmps)=true
 ·rw[Tn hw]at h⊢
  rcases h with h|⟨_,h⟩
  ·exact Oper.wp_mono_noQ (λ_ _ _ h=>h) hno (Oper.wp_mono (λa' w' h'=>h') h)
  simp_all
 ·rw[Tf hw]at h⊢
  exact h
variable {F HF Hc:List HP}
theorem Yq7(happ:App H F HF)(h:VQ n B w0 Q .normal env HF):VV P n B w0 ops l Q .done env H F:=
 ⟨λa ha w hw=>by exact zc97⟩
theorem Ysc(ho:nthO l i=o)(h:VL P (some (some F)) n B w0 ops (US P B w0 ops l Q H t) [o] env H):VV P n B w0 ops l Q (.p1 i t) env H F:=by
 refine⟨λa ha w hw=>?_⟩
 have h1:Ys P ops (US P B w0 ops l Q H t) (St B w0 H) [o] a w:=h.run a ha w hw
 grind [X9,YnR]
theorem Ysa(ho:nthO l i=o)(happ:App H F HF)(h:VL P none n B w0 ops (US P B w0 ops l Q H t) [o] env HF):VV P n B w0 ops l Q (.d1 i t) env H F:=by
 refine⟨λa ha w hw=>?_⟩
 unfold X9
 rw[ho]
 rw[<-Yad happ]at hw
 exact Yku (h.run a ha w hw)
theorem Ysb{j:Nat}{u:OV}{o':Oper}(ho:nthO l i=o)(ho':nthO l j=o')(happ:App H F HF)(h:VL P none n B w0 ops (US P B w0 ops l Q H t) [o] env HF)
 (h':VL P none n B w0 ops (US P B w0 ops l Q H u) [o'] env HF):VV P n B w0 ops l Q (.d2 i t j u) env H F:=by
 refine⟨λa ha w hw=>?_⟩
 unfold X9
 rw[ho,ho']
 rw[<-Yad happ]at hw
 exact⟨Yku (h.run a ha w hw),Yku (h'.run a ha w hw)⟩
theorem Yg3{H':List HP}(hp:Pull Hc H' F)(h:VV P n B w0 ops l Q t env Hc F):VQ n B w0 (US P B w0 ops l Q Hc t) .normal env H':=
 ⟨λa w ha hw=>⟨(hw.perm hp).prefix_,h.run a ha w (hw.perm hp)⟩⟩
theorem YgG{id:Nat}(t:OV)(last:List Nat)(mask:List Bool)(hm:P.follows .mixedOrders=true)
 (hB:(Region.noSelect l.toArray&&decide (last.length<=l.toArray.size)&&YcS l.toArray last&&Wm l.toArray last t (Array.replicate l.toArray.size false) (l.toArray.size-last.length))=true)
 (hsp:Split mask H Hc F) {l2:List Oper}(hl2:Yd l last=l2) (h:VV P n B w0 l.toArray l (ZS P l.toArray (Only Q) l2) t env Hc F):VC P n B w0 (.region id l.toArray true) Q env H:=by
 simp only[Tm,To]at hB
 obtain⟨⟨⟨h1,h2⟩,h3⟩,h5⟩:=hB
 refine⟨λa w ha hw=>Zp (Q:=Only Q) ?_ λe a w h=>by exact zc60⟩
 have hst:St B w0 (Hc++F) w.drew:=(hw.perm (Xx hsp)).drew
 have hr:=h.run a ha w.drew hst
 rw[<-hl2]at hr
 have:=JX (S:=St B w0 Hc) h1 (λc a w h=>h) zc42 l rfl h3 t _ _ a w.drew (XG _ _) h5 hst.prefix_ hr
 exact YqH
end
end Go.Eng
namespace Go.Proofs.YtjlgijpmnfabcaaGreatDoor
open Go.RowKit Go.Eng Go.Nw
variable {l:List Flw}
theorem Ype{id:Int}(h:0<=Z3 l id):∃f∈l,f.1=id:=by
 have:=(Ve (λf:Flw=>decide (f.1=id)) l 0 (SK _)).1 h
 simp_all
theorem YeJ{nodes:Int}(h:(YE nodes l).2=0):∀f∈l,0<=f.1/\f.1<=255/\1<=f.2.2.2.1/\f.2.2.2.1<=512:=by
 intro f hf
 obtain⟨i,hi⟩:=TP.1 hf
 have hl:=(Tu.1 hi).1
 unfold YE at h
 split at h
 ·cases h
 split at h
 ·cases h
 have:=YD.1 h i (Ti _) (by omega)
 unfold Xb at this
 have e:Xp l i=f:=by grind [Xp]
 split at this
 ·omega
 ·grind [Xv]
structure Val(n:Net)(l:List Flw)(s:Sch):Prop where
 whole:Zg n l s=0
 cells:(Jz n l s).2=0
 twice:(VR s).2=0
 dist:(Yes n s).2=0
variable {n:Net}{s:Sch}
theorem Zw:(schE n l s).2=0↔Val n l s:=by
 unfold schE
 by_cases h1:Zg n l s≠0
 ·rw[Tn h1]
  exact⟨λh=>absurd h h1,λh=>absurd h.whole h1⟩
 rw[Tf h1]
 by_cases h2:(Jz n l s).2≠0
 ·rw[Tn h2]
  exact⟨λh=>absurd h h2,λh=>absurd h.cells h2⟩
 rw[Tf h2]
 by_cases h3:(VR s).2≠0
 ·rw[Tn h3]
  exact⟨λh=>absurd h h3,λh=>absurd h.twice h3⟩
 rw[Tf h3]
 exact⟨λh=>⟨Rw.1 h1,Rw.1 h2,Rw.1 h3,h⟩,λh=>h.dist⟩
theorem Ob(h:Zg n l s=0):Yo n=0/\(YE n.nodes l).2=0/\ZP s=true/\(∀f∈l,s.len.tmod f.2.2.2.1=0)/\s.cells.length<=512:=by
 unfold Zg at h
 grind
theorem Val.frm(h:Val n l s):Frm s:=by
 obtain⟨h1,h2,h3,h4,h5⟩:=Ob h.whole
 have hok:=YK h1
 have k1:=YD.1 h.cells
 have hids:=YeJ h2
 have hn:=hok.n1
 have hcell:∀i,i<s.cells.length->Zv s (Yn s i)=true/\YZ n (YB (Yn s i)) (toC (Yn s i))=true/\0<=Z3 l (Xo (Yn s i))/\(0<i->Y4 (Yn s (i-1)) (Yn s i)=true):=λi hi=>by
  have:=k1 i (Ti _) (by omega)
  unfold VZ at this
  grind
 refine⟨h3,h5,λc hc=>?_,?_⟩
 ·obtain⟨i,hi⟩:=TP.1 hc
  obtain⟨a1,a2,a3,_⟩:=hcell i (Tu.1 hi).1
  rw[XO hi]at a1 a2 a3
  have hg:=Xk hok a2
  obtain⟨f,hf,hfe⟩:=Ype a3
  grind [YB,toC,Xo,Zu,insE]
 ·refine QT (lt:=Y4) (λh1 h2=>ZZ h1 h2) λi a b ha hb=>?_
  grind [XO]
open Go.RowKit Go.Eng Go.Nw Go.Rt
abbrev Jc(A:Option Addr)(cap:Nat)(l:List Lk):HP:=sl 383 3 A l.length cap (l.flatMap lkF)
theorem Ymv(A:Option Addr)(cap:Nat)(l:List Lk)(a:Lk):sl 383 3 A (l.length+1) cap (l.flatMap lkF++#[Value.int .i64 a.1,.int .i64 a.2.1,.int .i64 a.2.2].toList)=Jc A cap (l++[a]):=by simp[Jc,List.flatMap_append,lkF]
theorem Yei(n:NetM){B:Nat}{w0:World}{H:List HP}{w:World}(hin:n.In B w0 H)(hck:Yo n.net=0)(hw:St B w0 H w):
 CX B w0 342 [n.val] w λv K=>∃A cap,v=.slice A (JP n.net).length cap/\K=Jc A cap (JP n.net)::H:=by
 have hok:=YK hck
 obtain⟨hpw,hrw,hlk,hmg,hs1,hs2,hs3,hs4⟩:=id hin
 have hk0:n.links.length<=128:=hok.k0
 refine Ya Tryz.func342 Tryz.ntmps342 rfl rfl hw ?_
 (apply Xs;apply YX;apply YT;exact rfl;exact rfl;intro g)
 refine zX8 ?_
 refine Yn8 (λ(k:Nat) (A:Option Addr) (cap:Nat)=>[(9,.int .i64 k),(8,.int .i64 n.links.length),(7,.slice n.lA n.links.length n.lcap),(3,.slice A (Zz n.net k).length cap),(1,.pointer (some ⟨g,0,none⟩))])
  (λk A cap=>Jc A cap (Zz n.net k)::netB g n::H) (λk _ _=>k<=n.links.length) (λk _ _=>n.links.length-k) 0 none 0 (Ti _) ?_ (λw hw=>hw.nilSlice _ _) ?_
 ·exact zc1
 rintro k A cap hk K hK
 have hal:=UY n.net k
 by_cases hlt:k<n.links.length
 ·have hlx:n.links[k]? =some (lnk n.net k):=QN n.net hlt
  have hus:JG n.net (k:Int)=ZL n.net k:=by
   unfold JG
   have e7:n.net.links=n.links:=rfl
   rw[Td hck,e7,Td (by omega)]
   rfl
  have hl:=hok.lk k hlt
  have h5:=hl.l0
  have h6:=hl.l1
  have hU:=λ{H:List HP}{w:World}(hin:n.In B w0 H) (hw:St B w0 H w)=>VW n (k:Int) hin hw
  rw[hus]at hU
  cases hu:ZL n.net k
  ·rw[hu]at hU
   have e2:=Yeh hu
   repeat'(first|((first|apply Yb J3|apply Yc J3);exact za;exact rfl;exactλ_ hw=>(hU (((hin.cons).cons).cons) hw))|refine zgd ?_|(refine zge ?_ ?_<;>intro _<;>try exact zo)|(refine zgh ?_;intro _)|fail)
   apply hK (k+1) A cap
   ·omega
   ·omega
   ·rw[e2];exact zc1
   ·rw[e2];exact zc57
  ·rw[hu]at hU
   have e2:=Yb9 hu
   repeat'(first|((first|apply Yb J3|apply Yc J3);exact za;exact rfl;exactλ_ hw=>(hU (((hin.cons).cons).cons) hw))|refine zgd ?_|(refine zge ?_ ?_<;>intro _<;>try exact zo)|(refine zgh ?_;intro _)|(refine zgi ?_;intro _ _)|fail)
   rename_i A3 cap3
   apply hK (k+1) A3 cap3
   ·omega
   ·omega
   ·rw[e2,Tq,TO];exact zc1
   ·rw[e2,show Jc A3 cap3 (Zz n.net k++[Yb8 n.net k])=sl 383 3 A3 ((Zz n.net k).length+1) cap3 ((Zz n.net k).flatMap lkF++#[Value.int .i64 (lnk n.net k).1,Value.int .i64 (lnk n.net k).2.1,Value.int .i64 ((lnk n.net k).2.2+1)].toList) from(Ymv A3 cap3 _ (Yb8 n.net k)).symm]
    exact zc0
 ·obtain rfl:k=n.links.length:=by omega
  clear hK
  refine zX1 ?_<;>intros
  apply Yh (Jc A cap (JP n.net)::H)
  ·exactλw hw=>(hw.perm (.cons _ (.drop _ _)))
  apply Ye;exact rfl;exact rfl
  exact⟨A,cap,rfl,rfl⟩
def cpN(n:Net)(node:Int)(d:Cel):Int:=powN n (YB d) node+powN n (toC d) node
def sumC(n:Net)(node:Int)(l:List Cel):Int:=(l.map (cpN n node)).sum
theorem YiC(n:Net)(node:Int):sumC n node []=0:=rfl
theorem Zd(n:Net)(node:Int)(d:Cel)(l:List Cel):sumC n node (d::l)=cpN n node d+sumC n node l:=by grind [sumC]
theorem Ybi(n:Net)(node:Int):∀l m:List Cel,sumC n node (l++m)=sumC n node l+sumC n node m
 |[],m=>by grind [YiC]
 |d::l,m=>by rw[TA,Zd,Zd,Ybi n node l m];omega
variable {n:Net}
theorem Yqk(h:Ok n)(node:Int){l m:List Cel}(hs:l.Sublist m):sumC n node l<=sumC n node m:=by
 induction hs with
 |slnil=>omega
 |@cons l m d _ ih=>
  rw[Zd]
  have h1:=We h (YB d) node
  have h2:=We h (toC d) node
  grind [cpN]
 |cons_cons d _ ih=>simp_all [Zd]
theorem Ycn{n:Net}{l:List Cel}(hnd:l.Nodup){j:Nat}{c:Cel}(hj:l[j]? =some c)(node:Int):∀k,k<=l.length->Yz n l j node k=sumC n node ((l.take k).filter λd=>decide (d≠c))
 |0,_=>rfl
 |k+1,hk=>by
  obtain⟨d,hd⟩:∃d,l[k]? =some d:=⟨_,Ta hk⟩
  have hc:celL l k=d:=by grind [celL]
  unfold Yz
  rw[Ycn hnd hj node k (by omega),TF,hd,SD,Ybi,hc]
  by_cases e:k=j
  ·simp_all [sumC]
  ·have hne:d≠c:=by grind [Rb]
   simp_all [Zd,YiC,cpN]
def Uz(n:Net)(l:List Cel)(c:Cel)(node:Int):Int:=sumC n node (l.filter λd=>Ze c d&&decide (d≠c))
def Vv(n:Net)(l:List Cel)(c:Cel):Bool:=ZA n (mar n (Yy n (YB c) (toC c)).toNat) (Uz n l c (toC c))&&ZA n (mar n (Yy n (toC c) (YB c)).toNat) (Uz n l c (YB c))
variable {s:Sch}
theorem Ycl(hck:Yo n=0)(hf:Fine n s)(ho:Ord s.cells){i:Nat}(hi:i<s.cells.length):ZF n s i=!(Vv n s.cells (Yn s i)):=by
 rw[YoU hck hf hi]
 have hnd:=Ye2 ho
 have hat:=Ydr hi
 have hsub:(YG s i).Sublist s.cells:=SZ
 have hnds:=hnd.sublist hsub
 have hc:celL (YG s i) (YJ s i)=Yn s i:=by grind [celL]
 have hd:∀node,Yz n (YG s i) (YJ s i) node (YG s i).length=Uz n s.cells (Yn s i) node:=by simp_all [Ycn,Uz,YG,Bool.and_comm]
 have hg:=hf.good _ (ZY hi)
 have hto:((List.range (YG s i).length).any λk=>decide (k≠YJ s i)&&YC (celL (YG s i) (YJ s i)) (celL (YG s i) k))=false:=by
  have hpw:(YG s i).Pairwise λa b=>YC a b=false:=zc38
  rw[RJ]
  intro k hk
  have hk:=T8.1 hk
  by_cases e:k=YJ s i
  ·simp_all
  ·have hpk:=Rb.1 hpw
   have e1:celL (YG s i) k=(YG s i)[k]:=by grind [celL]
   grind [JE]
 grind [Ygj,Vv]
structure Sem(n:Net)(l:List Flw)(s:Sch):Prop where
 ck:Yo n=0
 fl:(YE n.nodes l).2=0
 per:∀f∈l,s.len.tmod f.2.2.2.1=0
 frm:Frm s
 good:∀c∈s.cells,YZ n (YB c) (toC c)=true/\0<=Z3 l (Xo c)
 once:s.cells.Pairwise λa b=>a.1=b.1->YC a b=false
 clear:∀c∈s.cells,Vv n s.cells c=true
variable {l:List Flw}
theorem Yks(h1:Yo n=0)(h2:(YE n.nodes l).2=0)(h3:ZP s=true)(h4:∀f∈l,s.len.tmod f.2.2.2.1=0)(h5:s.cells.length<=512):Zg n l s=0:=by
 unfold Zg
 grind
theorem Yji(hf:Frm s)(hg:∀c∈s.cells,YZ n (YB c) (toC c)=true/\0<=Z3 l (Xo c)):(Jz n l s).2=0:=by
 refine YD.2 λk _ hk=>?_
 have hk:k<s.cells.length:=by omega
 have hm:=ZY hk
 have hfo:=hf.formed _ hm
 unfold Zu at hfo
 simp only[Tm]at hfo
 obtain⟨g1,g2⟩:=hg _ hm
 unfold VZ
 rw[hfo.1.1.1,Tf (by decide),g1,Tf (by simp_all),Tf]
 rintro⟨h1,h2⟩
 have:=YfJ (TK.2 λi hi=>by
  have h:=Xw.2 hf
  unfold Y1 at h
  simp only[Tm]at h
  exact TK.1 h.2 i hi) hk
 simp_all [J1]
theorem Ykr(h:s.cells.Pairwise λa b=>a.1=b.1->YC a b=false):(VR s).2=0:=by
 refine YD.2 λk _ hk=>?_
 have hk:k<s.cells.length:=by omega
 have hb:ZR s k=false:=by
  unfold ZR
  rw[RJ]
  intro i hi
  have hi:=T8.1 hi
  have e1:Yn s i=s.cells[i]'(by omega):=XO (Ta _)
  have e2:Yn s k=s.cells[k]:=XO (Ta hk)
  have:=Rb.1 h i k (by omega) hk hi
  simp_all [JE]
 simp_all
theorem JM:Val n l s↔Sem n l s:=by
 constructor
 ·intro h
  obtain⟨h1,h2,h3,h4,h5⟩:=Ob h.whole
  have hf:=h.frm
  have hfine:=Yrk h.cells h.twice
  have k1:=YD.1 h.cells
  have k3:=YD.1 h.dist
  refine⟨h1,h2,h4,hf,λc hc=>⟨hfine.good c hc,?_⟩,hfine.once,λc hc=>?_⟩
  ·obtain⟨i,hi⟩:=TP.1 hc
   grind [VZ,XO]
  ·obtain⟨i,hi⟩:=TP.1 hc
   have hl:=(Tu.1 hi).1
   have:=k3 i (Ti _) (by omega)
   simp_all [Ycl,Go.Proofs.YtjlgijpmnfabcaaGreatDoor.Frm.ord,XO]
 ·intro h
  refine⟨Yks h.ck h.fl h.frm.sized h.per h.frm.few,Yji h.frm h.good,Ykr h.once,YD.2 λk _ hk=>?_⟩
  have hk:k<s.cells.length:=by omega
  simp only[Ycl h.ck ⟨λc hc=>(h.good c hc).1,h.once⟩ h.frm.ord hk,h.clear _ (ZY hk)]
  rfl
theorem YcI(h:Ok n){s d e:Int}(he:e<=d)(hd:ZA n s d=true):ZA n s e=true:=by
 unfold ZA at hd⊢
 have h2:=h.t0
 have h3:n.thr*(n.noise+e)<=n.thr*(n.noise+d):=SI (by omega) (by omega)
 grind
theorem Sem.sub{t:Sch}(h:Sem n l s)(h1:t.len=s.len)(h2:t.off=s.off)(hs:t.cells.Sublist s.cells):Sem n l t:=by
 have hok:=YK h.ck
 have hlen:=hs.length_le
 have hfew:=h.frm.few
 refine⟨h.ck,h.fl,by rw[h1];exact h.per,⟨?_,by omega,λc hc=>?_,h.frm.ord.sublist hs⟩,λc hc=>h.good c (hs.subset hc),h.once.sublist hs,λc hc=>?_⟩
 ·have:=h.frm.sized
  grind [ZP]
 ·have:=h.frm.formed c (hs.subset hc)
  grind [Zu,Zv]
 ·have:=h.clear c (hs.subset hc)
  unfold Vv at this⊢
  simp only[Tm]at this⊢
  have hd:∀node,Uz n t.cells c node<=Uz n s.cells c node:=λnode=>Yqk hok node (hs.filter _)
  exact⟨YcI hok (hd _) this.1,YcI hok (hd _) this.2⟩
variable {B:Nat}{w0 w:World}{H:List HP}
theorem Vh(n:NetM)(s t:Int)(hin:n.In B w0 H)(hw:St B w0 H w):
 CX B w0 339 [n.val,.int .i64 s,.int .i64 t] w λv K=>v=.int .i64 (Z2 n.net s t)/\K=H:=by
 refine Ya Tryz.func339 Tryz.ntmps339 rfl rfl hw ?_
 have e7:n.net.nodes=n.nodes:=rfl
 unfold Z2 offE
 rw[e7]
 by_cases h0:Yo n.net=0
 rotate_left
 ·rw[Tn h0]
  refine zX47 ?_<;>intros
  all_goals((repeat apply Ym);exact zc4)
 rw[Tf (λh=>h h0)]
 have hck:=λ{H:List HP}{w:World}(hin:n.In B w0 H) (hw:St B w0 H w)=>YV n hin hw
 rw[h0]at hck
 simp only[To]
 by_cases h1:(s<0\/n.nodes<=s)\/(t<0\/n.nodes<=t)\/s=t
 ·rw[Tn h1]
  repeat'(first|((first|apply Yb en68|apply Yc en68);exact za;exact rfl;exactλ_ hw=>(hck hin.cons hw))|refine zgc ?_|(refine zgf ?_ ?_<;>intro _<;>try exact zo)|(refine zgh ?_;intro _)|fail)
  all_goals((repeat apply Ym);apply Ye;exact rfl;exact rfl;exact⟨rfl,rfl⟩)
 ·rw[Tf h1]
  repeat'(first|((first|apply Yb en68|apply Yc en68);exact za;exact rfl;exactλ_ hw=>(hck hin.cons hw))|refine zgc ?_|(refine zgf ?_ ?_<;>intro _<;>try exact zo)|(refine zgh ?_;intro _)|fail)
  all_goals((repeat apply Ym);apply Ye;exact rfl;exact rfl;exact⟨rfl,rfl⟩)
theorem Wh(k:Nat){A:Option Addr}{cap:Nat}(hk:k<=9223372036854775807)(hw:St B w0 H w):
 CX B w0 341 [.slice A k cap] w λv K=>v=.int .i64 (if 9<k then 21 else 0)/\K=H:=by
 refine Ya Tryz.func341 Tryz.ntmps341 rfl rfl hw ?_
 by_cases h:9<k
 ·rw[Tn h]
  refine zX3 ?_<;>intros
  exact zc27
 ·rw[Tf h]
  refine zX3 ?_<;>intros
  exact zc27
theorem Yht(n:NetM)(a:Int)(g:Nat)(hm:netB g n∈H)(hw:St B w0 H w):
 CX B w0 278 [.int .i64 a,.pointer (some ⟨g,0,none⟩)] w λv K=>v=.bool (offE n.net a)/\K=H:=by
 refine Ya Tryz.func278 Tryz.ntmps278 rfl rfl hw ?_
 have e7:n.net.nodes=n.nodes:=rfl
 unfold offE
 rw[e7]
 by_cases h:a<0\/n.nodes<=a
 ·rw[Td h]
  repeat'(first|refine zgc ?_|(refine zgf ?_ ?_<;>intro _<;>try exact zo)|fail)
  all_goals(apply Ye;exact rfl;exact rfl;simp_all)
 ·rw[Tj h]
  repeat'(first|refine zgc ?_|(refine zgf ?_ ?_<;>intro _<;>try exact zo)|fail)
  all_goals(apply Ye;exact rfl;exact rfl;exact⟨rfl,rfl⟩)
def OutS(H:List HP)(R:Sch×Int)(v:Value)(K:List HP):Prop:=∃A cap,v=.tuple #[.agg #[.int .i64 R.1.len,.int .i64 R.1.off,.slice A R.1.cells.length cap],.int .i64 R.2]/\K=cels A cap R.1.cells::H
variable {H:List HP}
theorem Ub{R:Sch×Int}{v:Value}(e:Int)(hR:R=(XI,e))(hv:v=.tuple #[.agg #[.int .i64 0,.int .i64 0,.slice none 0 0],.int .i64 e]):OutS H R v (cels none 0 []::H):=⟨none,0,by rw[hR];exact hv,by rw[hR];rfl⟩
theorem Z0(l:List Cel)(hlen:l.length<=1000000){A:Option Addr}{cap B:Nat}{w0:World}{w:World}(hr:Rd B w0 H A (l.flatMap celF))(hw:St B w0 H w):
 CX B w0 177 [.slice A l.length cap] w λv K=>∃A' cap',v=.slice A' l.length cap'/\K=cels A' cap' l::H:=by
 cases A with
 |none=>
  have hl:l=[]:=by
   cases l with
   |nil=>rfl
   |cons x l=>
    exact zc36
  subst hl
  refine Ya Tryz.func177 Tryz.ntmps177 rfl rfl hw ?_
  refine zX7 ?_
  apply XW 48 5;exact zc39
 |some a=>
  refine Ya Tryz.func177 Tryz.ntmps177 rfl rfl hw ?_
  repeat'(first|(apply Zq;(iterate 3 exact rfl))|(apply Xt T;exact rfl;exact rfl;intro g2)|refine zgb ?_|fail)
  apply XE T (f:=celF) (l2:=l) (e:=48) (size:=5) (xs:=[]);(iterate 3 exact rfl);exact hr.cons;exact(λ_=>rfl);exact(λ_=>rfl);exact rfl;(intro _ _;exact zd);omega;intro A' cap'
  exact zc61
variable {A:Option Addr}{cap B:Nat}{w0 w:World}{H:List HP}
theorem YhN(l:List Int)(v:Int)(hlen:l.length<=9223372036854775807)(hr:Rd B w0 H A (l.flatMap numF))(hw:St B w0 H w):
 CX B w0 361 [.slice A l.length cap,.int .i64 v] w λu K=>u=.int .i64 (Yl (λx=>decide (v=x)) l 0)/\K=H:=by
 refine Ya Tryz.func361 Tryz.ntmps361 rfl rfl hw ?_
 refine zX8 ?_
 refine Yg (λ(k:Nat)=>[(8,.int .i64 k),(7,.int .i64 l.length),(0,.slice A l.length cap),(1,.int .i64 v)]) (λ_=>H) (λk=>k<=l.length/\Yl (λx=>decide (v=x)) l 0=Yl (λx=>decide (v=x)) (l.drop k) k) (λk=>l.length-k) 0 ⟨Ti _,by simp⟩ ?_ (λw hw=>hw) ?_
 ·exact zc1
 rintro k ⟨hk,hi⟩ K hK
 by_cases hlt:k<l.length
 ·obtain⟨a,ha⟩:∃a,l[k]? =some a:=⟨_,Ta hlt⟩
  rw[Ji _ l ha]at hi
  repeat'(first|refine zgd ?_|(refine zgf ?_ ?_<;>intro _<;>try exact zo)|fail)
  ·rename_i h
   rw[Tn (Td h)]at hi
   exact zc64
  ·rename_i h
   rw[Tf (by simp[h])]at hi
   refine zX9 ?_
   apply hK (k+1)
   ·grind
   ·omega
   ·exact zc1
   exact zc20
 exact zc29
theorem Je(l:List Int)(v:Int)(hlen:l.length<=9223372036854775807)(hr:Rd B w0 H A (l.flatMap numF))(hw:St B w0 H w):
 CX B w0 279 [.slice A l.length cap,.int .i64 v] w λu K=>u=.bool (decide (v∈l))/\K=H:=by
 refine Ya Tryz.func279 Tryz.ntmps279 rfl rfl hw ?_
 have hia:=Ve (λx=>decide (v=x)) l 0 (by omega)
 have hmm:l.any (λx=>decide (v=x))=true↔v∈l:=by simp[List.any_eq_true]
 repeat'(first|((first|apply Yb YsI|apply Yc YsI);exact za;exact rfl;exactλ_ hw=>(YhN l v hlen hr hw))|refine zga ?_|(refine zgf ?_ ?_<;>intro _<;>try exact zo)|fail)
 all_goals(apply Ye;exact rfl;exact rfl)
 ·rename_i h;exact⟨by rw[Td (hmm.1 (hia.1 h))],rfl⟩
 ·rename_i h
  exact⟨by rw[Tj λe=>by have:=hia.2 (hmm.2 e);omega],rfl⟩
theorem YaU(l m:List Int)(hlen:l.length<=9223372036854775807)(_hlen2:m.length<=9223372036854775807){A2:Option Addr}{cap2:Nat}(hr:Rd B w0 H A (l.flatMap numF))(hr2:Rd B w0 H A2 (m.flatMap numF))(hw:St B w0 H w):
 CX B w0 193 [.slice A l.length cap,.slice A2 m.length cap2] w λu K=>u=.bool (decide (l=m))/\K=H:=by
 refine Ya Tryz.func193 Tryz.ntmps193 rfl rfl hw ?_
 by_cases hll:l.length=m.length
 rotate_left
 ·exact zc11
 refine zX3 ?_<;>intros
 refine Yg (λ(k:Nat)=>[(13,.int .i64 k),(12,.int .i64 l.length),(0,.slice A l.length cap),(1,.slice A2 m.length cap2)]) (λ_=>H) (λk=>k<=l.length/\l.take k=m.take k) (λk=>l.length-k) 0 ⟨Ti _,by simp⟩ ?_ (λw hw=>hw) ?_
 ·exact zc1
 rintro k ⟨hk,hi⟩ K hK
 by_cases hlt:k<l.length
 ·obtain⟨a,ha⟩:∃a,l[k]? =some a:=⟨_,Ta hlt⟩
  obtain⟨b,hb⟩:∃b,m[k]? =some b:=⟨_,Ta (by omega)⟩
  repeat'(first|refine zgd ?_|(refine zge ?_ ?_<;>intro _<;>try exact zo)|fail)
  ·exact zc56
  ·rename_i h
   apply hK (k+1)
   ·exact YqK
   ·omega
   ·exact zc1
   exact zc20
 exact zc8
theorem YcK{α:Type}(p:α->Bool):∀(l:List α) (k:Int),(l.filter (λa=>!p a)=l/\Yl p l k= -1)\/∃j,j<l.length/\Yl p l k=k+j/\(l.take j).filter (λa=>!p a)=l.take j/\∃a,l[j]? =some a/\p a=true
 |[],_=>.inl ⟨rfl,rfl⟩
 |a::l,k=>by
  unfold Yl
  cases h:p a with
  |true=>exact .inr ⟨0,by simp,by simp,rfl,a,rfl,h⟩
  |false=>
   rw[Tf (by decide)]
   have hn:(!p a)=true:=by simp_all
   rcases YcK p l (k+1)with⟨h1,h2⟩|⟨j,h1,h2,h3,b,h4,h5⟩
   ·simp_all
   exact YtG
variable {A:Option Addr}{cap B:Nat}{w0 w:World}{H:List HP}
theorem YcN(p:Cel->Bool)(l:List Cel)(f:Nat)(cs:List Value)(hen:∀xs w,(callFunc f xs).run Tryz.prog w=.ok (.enter f xs) w)(hlen:l.length<=1000)(hr:Rd B w0 H A (l.flatMap celF))
 (hp:∀a∈l,∀w,St B w0 H w->Calls Tryz.prog f ([celV a]++cs).toArray w (Post B w0 λv K=>v=.bool (p a)/\K=H)) (hw:St B w0 H w):
 CX B w0 271 [.slice A l.length cap,.func (.func f) #[] cs.toArray] w λv K=>v=.int .i64 (Yl p l 0)/\K=H:=by
 refine Ya Tryz.func271 Tryz.ntmps271 rfl rfl hw ?_
 refine zX8 ?_
 refine Yg (λ(k:Nat)=>[(8,.int .i64 k),(7,.int .i64 l.length),(0,.slice A l.length cap),(1,.func (.func f) #[] cs.toArray)]) (λ_=>H) (λk=>k<=l.length/\Yl p l 0=Yl p (l.drop k) k) (λk=>l.length-k) 0 ⟨Ti _,by simp⟩ ?_ (λw hw=>hw) ?_
 ·exact zc1
 rintro k ⟨hk,hi⟩ K hK
 by_cases hlt:k<l.length
 ·obtain⟨a,ha⟩:∃a,l[k]? =some a:=⟨_,Ta hlt⟩
  have hpa:=hp a (Tc ha)
  rw[Ji p l ha]at hi
  refine zX10 ?_<;>intros
  cases hpv:p a
  ·rw[hpv]at hi
   refine zX11 ?_
   apply hK (k+1)
   ·grind
   ·omega
   ·exact zc1
   exact zc20
  exact zc9
 exact zc7
structure Kc where
 i:Nat
 j:Nat
 M:List Cel
theorem V0(p:Cel->Bool)(l:List Cel)(f:Nat)(cs:List Value)(hen:∀xs w,(callFunc f xs).run Tryz.prog w=.ok (.enter f xs) w)(hlen:l.length<=1000)
 (hp:∀a∈l,∀(X:List HP) w,St B w0 (X++H) w->Calls Tryz.prog f ([celV a]++cs).toArray w (Post B w0 λv K=>v=.bool (p a)/\K=X++H)) (hw:St B w0 (cels A cap l::H) w):
 CX B w0 176 [.slice A l.length cap,.func (.func f) #[] cs.toArray] w λv K=>v=.slice A (l.filter λa=>!p a).length cap/\K=cels A cap (l.filter λa=>!p a)::H:=by
 refine Ya Tryz.func176 Tryz.ntmps176 rfl rfl hw ?_
 refine Oc (e:=48) (size:=5) (A:=A) (xs:=l.flatMap celF) (k:=l.length) (cap:=cap) TB λhcap=>?_
 have hif:=λ{w:World}(hw:St B w0 (cels A cap l::H) w)=>YcN p l f cs hen hlen (cap:=cap) (.sl TB) (λa ha w hw=>hp a ha [cels A cap l] w hw) hw
 rcases YcK p l 0 with⟨h1,h2⟩|⟨i0,h1,h2,h3,a0,h4,h5⟩
 ·rw[h2]at hif
  rw[h1]
  repeat'(first|((first|apply Yb YeA|apply Yc YeA);exact za;exact rfl;exactλ_ hw=>(hif hw))|refine zgb ?_|(refine zgf ?_ ?_<;>intro _<;>try exact zo)|fail)
  exact zc4
 rw[h2,Int.zero_add]at hif
 repeat'(first|((first|apply Yb YeA|apply Yc YeA);exact za;exact rfl;exactλ_ hw=>(hif hw))|refine zgc ?_|(refine zgf ?_ ?_<;>intro _<;>try exact zo)|fail)
 refine Yg (λ(z:Kc)=>[(6,.int .i64 z.j),(5,.int .i64 z.i),(0,.slice A z.M.length cap),(1,.func (.func f) #[] cs.toArray)]) (λz=>cels A cap z.M::H) (λz=>z.M.length=l.length/\z.i<z.j/\z.j<=l.length/\z.M.take z.i=(l.take z.j).filter (λa=>!p a)/\z.M.drop z.j=l.drop z.j) (λz=>l.length-z.j) ⟨i0,i0+1,l⟩ ⟨rfl,by exact zc34,by exact zc34,?_,rfl⟩ ?_ (λw hw=>hw) ?_
 ·exact YtM
 ·exact zc1
 rintro⟨i,j,M⟩ ⟨hM,hij,hj,ht,hd⟩ K hK
 simp only at hM hij hj ht hd⊢
 unfold cels
 by_cases hlt:j<l.length
 ·obtain⟨a,ha⟩:∃a,l[j]? =some a:=⟨_,Ta hlt⟩
  have hMa:M[j]? =some a:=zc94
  have hpa:=λ{X1 X2:HP}{w:World}(hw:St B w0 (X1::X2::H) w)=>hp a (Tc ha) [X1,X2] w hw
  have hft:(l.take (j+1)).filter (λa=>!p a)=M.take i++(if p a=true then []else [a]):=Ytx
  obtain⟨b,hb⟩:∃b,p a=b:=⟨_,rfl⟩
  rw[hb]at hft hpa
  have hd1:∀x:Cel,(M.set i x).drop (j+1)=l.drop (j+1):=λx=>by
   exact YtB
  cases b with
  |true=>
   rw[Tn rfl,Rr]at hft
   refine zX35 ?_<;>intros
   apply hK ⟨i,j+1,M⟩
   ·exact⟨hM,by exact zc34,by exact zc34,hft.symm,by exact YtV⟩
   ·exact zc34
   ·exact zc1
   ·exact zc57
  |false=>
   rw[Tf (by decide)]at hft
   have hMl:(M.set i a).length=M.length:=TQ
   repeat'(first|((first|apply YY (cs:=cs));exact rfl;exact hen;exact za;exact rfl;exactλ_ hw=>hpa hw)|(apply XJ T (f:=celF) (l:=M) (i:=i) (a:=a);(iterate 3 exact rfl);exact zd;exactλ_=>rfl;(iterate 3 exact rfl);omega)|refine zgd ?_|(refine zge ?_ ?_<;>intro _<;>try exact zo)|(refine zgh ?_;intro _)|fail)
   apply hK ⟨i+1,j+1,M.set i a⟩
   ·refine⟨by exact zc34,by exact zc34,by exact zc34,?_,hd1 a⟩
    exact Yti
   ·exact zc34
   ·dsimp only
    rw[hMl]
    exact zc1
   ·unfold cels
    dsimp only
    rw[hMl]
    exact zc57
 ·obtain rfl:j=l.length:=by omega
  clear hK
  rw[TM]at ht
  have hil:(l.filter λa=>!p a).length=i:=by rw[<-ht,TT];omega
  have hfl:(M.flatMap celF).take (i*5)=(l.filter λa=>!p a).flatMap celF:=by rw[<-Xr (q:=5) (λ_=>rfl),ht]
  refine zX37 ?_<;>intros
  rw[Rx]
  apply Xy (sl 48 5 A i cap ((l.filter λa=>!p a).flatMap celF)::H)
  ·exact zc73
  apply Ql T T2 (e:=48) (size:=5) (k:=i) (xs:=(l.filter λa=>!p a).flatMap celF);exact rfl;exact TB;(iterate 3 exact rfl);omega
  refine zX38 ?_
  exact Yth
def Yn0(n:Net)(l:List Flw)(s:Sch):Prop:=∀c∈s.cells,YZ n (YB c) (toC c)=true/\0<=Z3 l (Xo c)
def Yn2(s:Sch):Prop:=s.cells.Pairwise λa b=>a.1=b.1->YC a b=false
def Yi0(n:Net)(s:Sch):Prop:=∀c∈s.cells,Vv n s.cells c=true
theorem Yp4(s:Sch)(k:Nat):repC s (k+1)=repC s k++s.cells.map (movC ((k:Int)*s.len)):=by
 grind [repC,Rq]
variable {s t:Sch}{k i j:Nat}
theorem YbI{x:Cel}:x∈repC s k↔∃i,i<k/\∃c∈s.cells,x=movC ((i:Int)*s.len) c:=by
 unfold repC
 grind
theorem Yh6{L:Int}(hL:0<=L)(h:i<j):(i:Int)*L+L<=(j:Int)*L:=by
 have h1:((i:Int)+1)*L<=(j:Int)*L:=RO (by omega) hL
 grind
variable {c:Cel}
theorem YlR(hf:Frm s)(hc:c∈s.cells):0<=c.1/\c.1<s.len:=by
 have:=hf.formed c hc
 simp_all [Zu,Zv,insE]
theorem Yfe(hf:Frm s){d:Cel}(hc:c∈s.cells)(hd:d∈s.cells)(h:c.1+(i:Int)*s.len=d.1+(j:Int)*s.len):i=j/\c.1=d.1:=by
 have h1:=YlR hf hc
 have h2:=YlR hf hd
 rcases ND i j with h3|h3|h3
 ·have:=Yh6 (L:=s.len) (by omega) h3;omega
 ·simp_all
 ·have:=Yh6 (L:=s.len) (by omega) h3;omega
structure Rep(s t:Sch)(k:Nat):Prop where
 k1:1<=k
 frm:Frm s
 len:t.len=s.len*k
 off:t.off=s.off
 cells:t.cells=repC s k
 l512:s.len*k<=512
 c512:s.cells.length*k<=512
theorem Yda{s:Sch}{p q:Cel->Bool}{j0:Nat}(hq:∀d∈s.cells,p (movC ((j0:Int)*s.len) d)=q d):∀{m:Nat},(∀j,j<m->j≠j0->∀d∈s.cells,p (movC ((j:Int)*s.len) d)=false)->(repC s m).filter p=if j0<m then(s.cells.filter q).map (movC ((j0:Int)*s.len))else []
 |0,_=>by simp[repC]
 |m+1,h=>by
  rw[Yp4,SD,Yda hq λj hj=>h j (by omega),List.filter_map]
  by_cases e:m=j0
  ·simp_all [List.filter_congr]
  ·have hz:s.cells.filter (p∘movC ((m:Int)*s.len))=[]:=by
    simp_all
   grind
theorem YrZ(n:Net)(node d:Int)(l:List Cel):sumC n node (l.map (movC d))=sumC n node l:=by
 unfold sumC
 rw[Nq]
 rfl
theorem Rep.dist(h:Rep s t k)(n:Net)(hi:i<k)(hc:c∈s.cells)(node:Int):Uz n t.cells (movC ((i:Int)*s.len) c) node=Uz n s.cells c node:=by
 unfold Uz
 rw[h.cells,Yda (j0:=i) (q:=λd=>Ze c d&&decide (d≠c)),Tn hi,YrZ]
 ·intro d hd
  have h2:(movC ((i:Int)*s.len) d≠movC ((i:Int)*s.len) c)↔d≠c:=by
   grind [movC]
  simp_all [Ze,movC]
 ·intro j hj hne d hd
  have:Ze (movC ((i:Int)*s.len) c) (movC ((j:Int)*s.len) d)=false:=by
   refine Tj ?_
   rintro⟨h3,_⟩
   exact hne (Yfe h.frm hd hc h3).1
  simp_all
theorem Rep.good(h:Rep s t k)(n:Net)(l:List Flw):Yn0 n l t↔Yn0 n l s:=by
 unfold Yn0
 rw[h.cells]
 constructor
 ·intro hg c hc
  exact hg (movC (((0:Nat):Int)*s.len) c) (YbI.2 ⟨0,h.k1,c,hc,rfl⟩)
 ·intro hg x hx
  obtain⟨i,_,c,hc,rfl⟩:=YbI.1 hx
  exact hg c hc
theorem Rep.once(h:Rep s t k):Yn2 t↔Yn2 s:=by
 unfold Yn2
 rw[h.cells]
 unfold repC
 rw[List.pairwise_flatMap]
 constructor
 ·rintro⟨h1,_⟩
  have:=h1 0 (T8.2 h.k1)
  rw[NE]at this
  exact this.imp λ{a b} hab e=>hab (by grind [movC])
 ·intro ho
  refine⟨λi _=>?_,?_⟩
  ·rw[NE]
   exact ho.imp λ{a b} hab e=>hab (by grind [movC])
  ·refine List.pairwise_lt_range.imp λ{i j} hij x hx y hy e=>?_
   obtain⟨a,ha,rfl⟩:=TC.1 hx
   obtain⟨b,hb,rfl⟩:=TC.1 hy
   have:=(Yfe h.frm ha hb e).1
   omega
theorem Rep.clear(h:Rep s t k)(n:Net):Yi0 n t↔Yi0 n s:=by
 have hc:∀i,i<k->∀c∈s.cells,Vv n t.cells (movC ((i:Int)*s.len) c)=Vv n s.cells c:=λi hi c hc=>by
  unfold Vv
  have e1:YB (movC ((i:Int)*s.len) c)=YB c:=rfl
  have e2:toC (movC ((i:Int)*s.len) c)=toC c:=rfl
  rw[e1,e2,h.dist n hi hc,h.dist n hi hc]
 unfold Yi0
 constructor
 ·intro hg c hcm
  rw[<-hc 0 h.k1 c hcm]
  exact hg _ (by rw[h.cells];exact YbI.2 ⟨0,h.k1,c,hcm,rfl⟩)
 ·intro hg x hx
  rw[h.cells]at hx
  grind [YbI]
end Go.Proofs.YtjlgijpmnfabcaaGreatDoor
