/- Lemmas. -/
import Derived.Lib.OthersKept
import Derived.Lib.AppendStr
import Derived.Laws.Externs
import Derived.Laws.CopyRow
import Derived.Lib.AppendZerosOnto
import Derived.Lib.Overlaps
import Derived.Sort.OwnSortedInts
import Derived.Lib.AppendIntMem
import Derived.WideLaws
import Derived.Lib.SmallJoins
import Derived.Lib.Builder
import Derived.Test.YtjommdkgfbhbdaaGreatDoorQ6
import Derived.Test.YtjommdkgfbhbdaaGreatDoorQ7
set_option maxRecDepth 100000
set_option maxHeartbeats 8000000
set_option linter.all false
namespace Go.Proofs.YtjommdkgfbhbdaaGreatDoor
open Go.RowKit Go.Eng Go.Nw
def ltB(c:Cel)(x:Cel):Bool:=Xg x c
def posE(l:List Cel)(c:Cel):Nat:=(l.takeWhile (ltB c)).length
structure Pos(l:List Cel)(c:Cel)(k:Nat):Prop where
 le:k<=l.length
 lo:∀i x,i<k->l[i]? =some x->Xg x c=true
 hi:∀i x,k<=i->l[i]? =some x->Xg x c=false
abbrev Ord(l:List Cel):Prop:=l.Pairwise λa b=>Xg a b=true
variable {l:List Cel}{x c:Cel}
theorem Ygz(h:Ord l){i j:Nat}{y:Cel}(hx:l[i]? =some x)(hy:l[j]? =some y)(hij:i<j):Xg x y=true:=by
 grind [Rn]
theorem Yat{α:Type}{p:α->Bool}:∀{l:List α}{i:Nat}{x:α},i<(l.takeWhile p).length->l[i]? =some x->p x=true
 |[],_,_,h,_=>by simp at h
 |a::l,i,x,h,hx=>by
  cases hp:p a with
  |false=>simp_all
  |true=>
   cases i with
   |zero=>simp_all
   |succ i=>exact Yat (l:=l) (i:=i) (by simp_all) (by simp_all)
theorem Yar{α:Type}{p:α->Bool}:∀{l:List α}{x:α},l[(l.takeWhile p).length]? =some x->p x=false
 |[],_,h=>by simp at h
 |a::l,x,h=>by
  cases hp:p a with
  |false=>simp_all
  |true=>
   exact Yar (l:=l) (by simp_all)
theorem Yas{α:Type}{p:α->Bool}:∀l:List α,(l.takeWhile p).length<=l.length
 |[]=>TK _
 |a::l=>by
  rw[List.takeWhile_cons]
  split
  ·have:=Yas (p:=p) l;simp_all
  ·simp
theorem YgG(h:Ord l)(c:Cel):Pos l c (posE l c):=by
 refine⟨Yas l,λi x hi hx=>show ltB c x=true from Yat hi hx,λi x hi hx=>?_⟩
 unfold posE at hi
 obtain⟨y,hy⟩:∃y,l[(l.takeWhile (ltB c)).length]? =some y:=⟨_,Ta (Nat.lt_of_le_of_lt hi (Tu.1 hx).1)⟩
 have h1:Xg y c=false:=by grind [ltB,Yar]
 rcases Nat.eq_or_lt_of_le hi with e|hlt
 ·simp_all
 ·have h2:=Ygz h hy hx hlt
  grind [Ju]
variable {k:Nat}
theorem Pos.eq{m:Nat}(h1:Pos l c k)(h2:Pos l c m):k=m:=by
 rcases NE k m with h|h|h
 ·obtain⟨x,hx⟩:∃x,l[k]? =some x:=⟨_,Ta (by have:=h2.le;omega)⟩
  have:=h1.hi k x (TK _) hx
  rw[h2.lo k x h hx]at this;simp_all
 ·exact h
 ·obtain⟨x,hx⟩:∃x,l[m]? =some x:=⟨_,Ta (by have:=h1.le;omega)⟩
  have:=h2.hi m x (TK _) hx
  rw[h1.lo m x h hx]at this;simp_all
theorem Pos.posE(h:Ord l)(hk:Pos l c k):k=posE l c:=hk.eq (YgG h c)
theorem Yr9(h:Ord l)(hk:Pos l c k):l[k]? =some c↔c∈l:=by
 constructor
 ·grind
 ·intro hm
  obtain⟨i,hi⟩:=TP.1 hm
  rcases NE i k with h1|h1|h1
  ·have:=hk.lo i c h1 hi
   grind [VS]
  ·simp_all
  ·obtain⟨x,hx⟩:∃x,l[k]? =some x:=⟨_,Ta (by grind)⟩
   have h2:=hk.hi k x (TK _) hx
   grind [Ygz]
def insC(l:List Cel)(c:Cel):List Cel:=l.take (posE l c)++c::l.drop (posE l c)
def ZC:Sch:=⟨0,0,[]⟩
def atE(s:Sch)(slot:Int):List Cel:=if Xd s=false\/slot<0 then []else s.cells.filter λc=>decide (c.1=slot.tmod s.len)
def movC(d:Int)(c:Cel):Cel:=(c.1+d,c.2)
def repC(s:Sch)(k:Nat):List Cel:=(List.range k).flatMap λi:Nat=>s.cells.map (movC ((i:Int)*s.len))
theorem Yie(l:List Cel)(c:Cel):(insC l c).Perm (c::l):=by
 refine List.perm_middle.trans ?_
 rw[RV]
theorem OM:x∈insC l c↔x=c\/x∈l:=by
 grind [Yie]
theorem YrO(h:Ord l)(hc:c∉l):Ord (insC l c):=by
 have hp:=YgG h c
 have hsp:Ord (l.take (posE l c)++l.drop (posE l c)):=by simp_all
 obtain⟨h1,h2,h3⟩:=List.pairwise_append.1 hsp
 have hlo:∀x∈l.take (posE l c),Xg x c=true:=λx hx=>by
  obtain⟨i,hi⟩:=TP.1 hx
  have hil:=(Tu.1 hi).1
  rw[TU]at hil
  rw[S9 (by omega)]at hi
  exact hp.lo i x (by omega) hi
 have hhi:∀x∈l.drop (posE l c),Xg c x=true:=λx hx=>by
  obtain⟨i,hi⟩:=TP.1 hx
  rw[RS]at hi
  have h4:=hp.hi _ x (Nat.le_add_right _ _) hi
  grind [Yb4]
 refine List.pairwise_append.2 ⟨h1,.cons hhi h2,λx hx y hy=>?_⟩
 grind
theorem YfA(h:Ord l):l.Nodup:=h.imp λ{a b} hab e=>by grind [VS]
end Go.Proofs.YtjommdkgfbhbdaaGreatDoor
namespace Go.Eng
open Go.RowKit
section
variable {P:Program}{m:Mode}{n:Shp}{B:Nat}{w0:World}{ops:Array Oper}{Q:Exit->Act->World->Prop}{rest:List Oper}{env:Env}{H:List HP}{d:Nat}{ty:TypeId}{pos:String}{after:Array Edge}
theorem Vt(T:Tab P){t g o k e size:Nat}{x:Operand}(hx:evo env x=some (.pointer (some ⟨g,o,none⟩)))(ht:look T.ar t=some (k,e,size))(hn:Nat.ble (d+1) n.k=true)
 (h:VL P m n B w0 ops Q rest ((d,.slice (some ⟨g,o,none⟩) k k)::env) H):
 VL P m n B w0 ops Q (⟨some d,.slice t x none none none,ty,pos,after,none⟩::rest) env H:=by
 obtain⟨inf,hu,hinf,hs⟩:=Jt (T.arra ht)
 refine Yt rfl rfl hn rfl (λa w ha hw=>?_) h
 simp[execOp,ha.eval hx,Instr.sliceAt,Instr.sliceBounds,Instr.sureAddr,run_underlying hu,sizeOf,typeInfo,hinf,Addr.add_lit]
theorem Yhu:∀(L:List HP),App L [] L
 |[]=>rfl
 |_::L=>⟨rfl,Yhu L⟩
theorem YV{id:Nat}{l:List Oper}(o1 last:List Nat)(hm:P.follows .mixedOrders=true)
 (hB:(Region.noSelect l.toArray&&decide ((o1++last).length=l.toArray.size)&&Yfr l.toArray last&&(o1.all λj=>!last.contains j)&&Wn l.toArray (o1++last) (Array.replicate l.toArray.size false))=true)
 {l1 l2:List Oper}(hl1:Yc l o1=l1) (hl2:Yc l last=l2) (h:VL P (some (some [])) n B w0 l.toArray (Jp P l.toArray (Only Q) l2) l1 env H):VC P n B w0 (.region id l.toArray true) Q env H:=by
 simp only[Tq,Tm]at hB
 obtain⟨⟨⟨⟨h1,h2⟩,h3⟩,h4⟩,h5⟩:=hB
 refine⟨λa w ha hw=>ZX (Q:=Only Q) ?_ λe a w h=>by exact zc72⟩
 have hst:St B w0 (H++[]) w.drew:=by rw[Rr];exact hw.drew
 have hr:Yv P l.toArray (Jp P l.toArray (Only Q) l2) (St B w0 H) l1 a w.drew:=h.run a ha w.drew hst
 rw[<-hl1,<-hl2]at hr
 have:=V2 (S:=St B w0 H) h1 (λc a w h=>h) zc54 l rfl h3 o1 _ a w.drew (X5 _ _) (λj hj=>by simp_all) h5 hst.prefix_ hr
 exact Ymv
end
section
variable {P:Program}{B:Nat}{w0 w:World}{H:List HP}
variable {f:Nat}{xs:Array Value}
theorem WW{Φ:Value->Prop}(hw:St B w0 H w)(h:Calls P f xs w (Post w.heap.size w λu _=>Φ u)):Calls P f xs w (Post B w0 λu K=>Φ u/\K=H):=
 h.mono λ_ _ ⟨u,_,e1,hst,hΦ⟩=>⟨u,H,e1,hw.grow hst.below,hΦ,rfl⟩
theorem YjT{u:Value}(hw:St B w0 H w)(h:Calls P f xs w λe w'=>e=.returned u/\Below w.heap.size w w'):Calls P f xs w (Post B w0 λv K=>v=u/\K=H):=
 h.mono λ_ _ ⟨e1,hb⟩=>⟨u,H,e1,hw.grow hb,rfl,rfl⟩
variable {A:Option Addr}
theorem Rd.here{xs:List Value}(hr:Rd B w0 H A xs)(hw:St B w0 H w):Rd w.heap.size w [] A xs:=Rd.old λj v hv=>by
 obtain⟨g,o,e1,hc⟩:=hr w hw j v hv
 refine⟨g,o,e1,?_,hc⟩
 rcases Nh g w.heap.size with h|h
 ·exact h
 ·simp[World.cell?,Array.getElem?_eq_none h]at hc
theorem Perm.openT(H:List HP):Perm [many H] H:=by
 have:=Perm.open_ H []
 simp_all
theorem Perm.closeT(H:List HP):Perm H [many H]:=by
 have:=Perm.close H []
 simp_all
theorem Rd.tail{xs:List Value}(h:Rd B w0 H A xs):Rd B w0 [many H] A xs:=h.mono λ_ hw=>hw.perm (.openT _)
end
end Go.Eng
namespace Go.Proofs.YtjommdkgfbhbdaaGreatDoor
open Go.RowKit Go.Eng Go.Nw
def celF(c:Cel):List Value:=[.int .i64 c.1,.int .i64 c.2.1,.int .i64 c.2.2.1,.int .i64 c.2.2.2.1,.int .i64 c.2.2.2.2]
def celV(c:Cel):Value:=.agg #[.int .i64 c.1,.int .i64 c.2.1,.int .i64 c.2.2.1,.int .i64 c.2.2.2.1,.int .i64 c.2.2.2.2]
structure SchM where
 len:Int
 off:Int
 A:Option Addr
 cap:Nat
 cells:List Cel
def SchM.sch(s:SchM):Sch:=⟨s.len,s.off,s.cells⟩
def SchM.val(s:SchM):Value:=.agg #[.int .i64 s.len,.int .i64 s.off,.slice s.A s.cells.length s.cap]
theorem YaG(a b:Cel):cmpV (nums a) (nums b)<0↔Xg a b=true:=by
 unfold cmpV Xg
 grind
theorem Yo5(a b:Cel):cmpV (nums a) (nums b)=0↔a=b:=by
 unfold cmpV
 constructor
 ·intro h
  split at h
  ·cases h
  ·split at h
   ·cases h
   ·exact Yb4 (by grind [Xg]) (by grind [Xg])
 simp_all [Ydw]
variable {B:Nat}{w0 w:World}{H:List HP}
theorem Yae(c:Cel)(hw:St B w0 H w):
 CX B w0 169 [celV c] w λv K=>v=celV c/\K=H:=by
 refine Ya Tryz.func169 Tryz.ntmps169 rfl rfl hw ?_
 refine zX26 ?_<;>intros
 (apply ZA T (H2:=H);exact rfl;exact rfl;(focus exact zc2);exact rfl;exact rfl;(intro w hw;refine hw.perm ?_;focus exact zc4);exact Qg)
theorem YkG(a b:Cel)(hw:St B w0 H w):
 CX B w0 319 [celV a,celV b,.func (.func 169) #[] #[]] w λv K=>v=.int .i64 (cmpV (nums a) (nums b))/\K=H:=by
 refine Ya Tryz.func319 Tryz.ntmps319 rfl rfl hw ?_
 apply Xc
 iterate 5 (first|refine zga ?_|(refine zgh ?_;intro _)|fail)
 apply YbZ
 apply Xc
 refine Zs (λ(z:Nat×Nat)=>[(7,.pointer (some ⟨z.1,0,none⟩)),(8,.pointer (some ⟨z.2,0,none⟩))]) (λz=>blk z.1 (.cells (celF a).toArray 203 (0,0))::blk z.2 (.cells (celF b).toArray 203 (0,0))::H) ?_ ?_
 ·intro K hK
  apply UC (.n1 0 (.n1 1 (.n1 3 (.n1 4 (.n3 2 (.n3 5 (.n2 6 (.n1 7 .done) 7 (.n1 6 .done)) 6 (.n2 5 (.n1 7 .done) 7 (.n1 5 .done)) 7 (.n2 5 (.n1 6 .done) 6 (.n1 5 .done))) 6 (.n2 2 (.n2 5 (.n1 7 .done) 7 (.n1 5 .done)) 7 (.n1 2 (.n1 5 .done))) 7 (.n2 2 (.n2 5 (.n1 6 .done) 6 (.n1 5 .done)) 6 (.n1 2 (.n1 5 .done)))))))) [8,9] [true,true]
  kernel_rfl
  kernel_rfl
  exact zy
  (simp only[Yc,nthO];rfl)
  repeat'(first|((apply Zg (cs:=[]));exact rfl;exact YsG;exact za;exact rfl;exactλ_ hw=>(Yae _ hw))|(apply YoT;(simp only[nthO];rfl);(simp only[nthO];rfl);(simp only[nthO];rfl))|(apply YeZ;(simp only[nthO];rfl);(simp only[nthO];rfl))|(apply YeY;(simp only[nthO];rfl))|(apply UE;try exact zl)|(apply Yh;try exact zl)|refine zgd ?_|(refine zgh ?_;intro _)|fail)
  all_goals(
   rename_i ga gb
   first
    |(refine hK (ga,gb) _ _ zu ?_;dsimp only[celF];exact zk;done)
    |(refine hK (gb,ga) _ _ zu ?_;dsimp only[celF];exact zk;done))
 rintro⟨g1,g2⟩
 dsimp only
 have hA:Rd B w0 (blk g1 (.cells (celF a).toArray 203 (0,0))::blk g2 (.cells (celF b).toArray 203 (0,0))::H) (some ⟨g1,0,none⟩) ((nums a).flatMap numF):=Rd.blk (cs:=(celF a).toArray) (.head _)
 have hB:Rd B w0 (blk g1 (.cells (celF a).toArray 203 (0,0))::blk g2 (.cells (celF b).toArray 203 (0,0))::H) (some ⟨g2,0,none⟩) ((nums b).flatMap numF):=Rd.blk (cs:=(celF b).toArray) (.tail _ (.head _))
 repeat'(first|(apply Vt T (e:=3);(iterate 3 exact rfl))|((apply Yn Yw2);exact za;exact rfl;exactλ_ hw=>(Yex (nums a) (nums b) (by simp[nums]) (by simp[nums]) hA hB hw))|(apply zg28;refine zs84 ?_)|refine zgd ?_|fail)
 apply Yf H
 ·exact zc0
 exact zc24
theorem O2(a b:Cel)(hw:St B w0 H w):
 CX B w0 250 [celV a,celV b] w λv K=>v=.int .i64 (cmpV (nums a) (nums b))/\K=H:=by
 refine Ya Tryz.func250 Tryz.ntmps250 rfl rfl hw ?_
 repeat'(first|((apply Yb YwE);exact za;exact rfl;exactλ_ hw=>(YkG a b hw))|refine zgb ?_|(refine zgh ?_;intro _)|fail)
 apply Yf H
 ·exact zk
 apply Yd;exact rfl;exact rfl
 exact⟨rfl,rfl⟩
theorem Ybs(x n:Int)(hw:St B w0 H w):
 CX B w0 318 [.int .i64 x,.int .i64 n] w λv K=>v=.bool (insE x n)/\K=H:=by
 refine Ya Tryz.func318 Tryz.ntmps318 rfl rfl hw ?_
 repeat'(first|refine zgd ?_|(refine zgf ?_ ?_<;>intro _<;>try exact zo)|fail)
 all_goals(
  apply Yd;exact rfl;exact rfl
  first
   |exact⟨by rw[show insE x n=true from Tf (by omega)],rfl⟩
   |exact⟨by rw[show insE x n=false from Ti (by omega)],rfl⟩)
theorem Yby(s:SchM)(c:Cel)(hw:St B w0 H w):
 CX B w0 317 [s.val,celV c] w λv K=>v=.bool (XK s.sch c)/\K=H:=by
 refine Ya Tryz.func317 Tryz.ntmps317 rfl rfl hw ?_
 repeat'(first|((apply YS Yte);exact za;exact rfl;exactλ_ hw=>(Ybs _ _ hw);all_goals(intro hB;(try simp only[Tm,Tv]at hB);try exact zo))|refine zgd ?_|(refine zgh ?_;intro _)|fail)
 all_goals(
  apply Yf H
  ·exact zk
  apply Yd;exact rfl;exact rfl
  exact⟨by simp[XK,SchM.sch, *],rfl⟩)
theorem Ybp(s:SchM)(c:Cel)(hw:St B w0 H w):
 CX B w0 249 [s.val,celV c] w λv K=>v=.bool (XJ s.sch c)/\K=H:=by
 refine Ya Tryz.func249 Tryz.ntmps249 rfl rfl hw ?_
 repeat'(first|((apply YS YhM);exact za;exact rfl;exactλ_ hw=>(Yby s c hw);all_goals(intro hB;(try simp only[Tm,Tv]at hB);try exact zo))|((apply YS Yte);exact za;exact rfl;exactλ_ hw=>(Ybs _ _ hw);all_goals(intro hB;(try simp only[Tm,Tv]at hB);try exact zo))|refine zgd ?_|(refine zgh ?_;intro _)|fail)
 all_goals(
  apply Yf H
  ·exact zk
  apply Yd;exact rfl;exact rfl
  exact⟨by simp[XJ, *],rfl⟩)
theorem Yd3(s:SchM)(hw:St B w0 H w):
 CX B w0 248 [s.val] w λv K=>v=.bool (Zw s.sch)/\K=H:=by
 refine Ya Tryz.func248 Tryz.ntmps248 rfl rfl hw ?_
 have e1:s.sch.len=s.len:=rfl
 have e2:s.sch.off=s.off:=rfl
 repeat'(first|refine zgd ?_|(refine zgf ?_ ?_<;>intro _<;>try exact zo)|(refine zgh ?_;intro _)|fail)
 all_goals(
  apply Yf H
  ·exact zk
  apply Yd;exact rfl;exact rfl
  first
   |exact⟨by rw[show Zw s.sch=true from Tf (by omega)],rfl⟩
   |exact⟨by rw[show Zw s.sch=false from Ti (by omega)],rfl⟩)
end Go.Proofs.YtjommdkgfbhbdaaGreatDoor
namespace Go.Eng
open Go.RowKit
theorem Yet{P:Program}(w:World)(t u ty e:TypeId)(i:TypeInfo)(ht:P.underlying t=some (.slice e))(hu:P.underlying u=some .string)(hi:P.info? e=some i)(hz:i.zero=some (.int .u8 0))
 (hsize:i.size=1) (hby:i.bytes=1) (v:Value) (n:Nat) (xs:List Value) (hown:w.ownsRow 0 e 1 v n xs) (s:ByteArray) (hb:n+s.size<=1000000000):
 ∃v' w',(Builtin.append_ #[t,u] ty #[v,.string s]).run P w=.ok v' w'/\w'.ownsRow 0 e 1 v' (n+s.size) (xs++Lib.strCells s)/\w.grownBy w' v.ownBlock/\∀b,v'.ownBlock=some b->v.ownBlock=some b\/w.heap.size<=b:=by
 have hm:n+s.size<=maxLen:=by grind [maxLen]
 obtain⟨v',w',h1,h2,h3,_⟩:=Lib.run_append_own_string (P:=P) w 0 t u ty e i ht hu hi hz hsize hby v n xs hown s hm (by omega) (Td _)
 refine⟨v',w',h1,h2,h3,λb hbb=>?_⟩
 rcases hown.2 with⟨rfl,rfl⟩|⟨g,cap,cur,rfl,hbg,hg,hnc,hcm,hcs,htake⟩
 ·right
  obtain⟨v2,w2,k1,k2,_⟩:=Lib.run_append_own_string (P:=P) w w.heap.size t u ty e i ht hu hi hz hsize hby (.slice none 0 0) 0 xs ⟨hown.1,.inl ⟨rfl,rfl⟩⟩ s hm (by omega) (TK _)
  rw[h1]at k1
  obtain⟨rfl,rfl⟩:v'=v2/\w'=w2:=by simp_all
  rcases k2.2 with⟨e1,_⟩|⟨g',_,_,e1,e2,_⟩
  all_goals grind [Go.Value.ownBlock]
 ·have hcs':cur.size=cap:=by omega
  have hxl:xs.length=n:=by grind
  by_cases hroom:n+s.size<=cap
  ·have k1:=Lib.run_append_room_string (P:=P) w t u ty e i ht hu hi hsize g n cap cur hg s hroom (by omega)
   rw[h1]at k1
   obtain⟨rfl,_⟩:=(Result.ok.injEq _ _ _ _).mp k1
   exact .inl hbb
  ·have holds:∀j u,xs[j]? =some u->w.cell? ((⟨g,0,none⟩:Addr).add j)=some u:=hown.cells (g:=g) rfl
   have k1:=Lib.run_append_grow_string (P:=P) w t u ty e i (.int .u8 0) ht hu hi hz ⟨g,0,none⟩ n cap xs (by simp_all) holds s (by omega) (by omega) (by rw[hby];exact growslice_fits (by omega) (by omega))
   exact Ymx
section
variable {P:Program}{m:Mode}{n:Shp}{B d:Nat}{w0:World}{ops:Array Oper}{Q:Exit->Act->World->Prop}{rest:List Oper}{env:Env}{H:List HP}{ty:TypeId}{pos:String}{after:Array Edge}{x y:Operand}
def YcE(P:Program)(e:TypeId):Bool:=match P.info? e with|some i=>(match i.zero with|some (.int .u8 0)=>true|_=>false)&&i.size==1&&i.bytes==1|none=>false
theorem Yeu{e:TypeId}(h:YcE P e=true):∃i,P.info? e=some i/\i.zero=some (.int .u8 0)/\i.size=1/\i.bytes=1:=by
 unfold YcE at h
 grind
theorem QA(T:Tab P){t tt k cap e bytes:Nat}{A:Option Addr}{s:ByteArray}{xs:List Value}{K:Option Addr->Nat->List HP}(hx:evo env x=some (.slice A k cap))(hy:evo env y=some (.string s))(ht:look T.sl t=some (e,1,bytes))(hbi:YcE P e=true)(htt:look T.st tt=some ())
 (hn:Nat.ble (d+1) n.k=true) (hu:∀A' cap',Upd (sl e 1 A k cap xs) (sl e 1 A' (k+s.size) cap' (xs++Lib.strCells s)) H (K A' cap')) (hb:k+s.size<=1000000000)
 (h:∀A' cap',VL P none n B w0 ops Q rest ((d,.slice A' (k+s.size) cap')::env) (K A' cap')):
 VL P none n B w0 ops Q (⟨some d,.call ⟨.builtin .append,#[x,y],#[t,tt]⟩,ty,pos,after,none⟩::rest) env H:=by
 obtain⟨hut,_⟩:=YG (T.slic ht)
 obtain⟨i,hi,hz,hs1,hb1⟩:=Yeu hbi
 have hst:P.underlying tt=some .string:=T.strs htt
 refine XA (λv K'=>∃A' cap',v=.slice A' (k+s.size) cap'/\K'=K A' cap') rfl rfl hn (λa w ha hw=>?_) YqT
 have hmem:sl e 1 A k cap xs∈H:=YqY
 have hown:=hw.sl hmem
 obtain⟨v',w',hrun,hown',hgrow,hat⟩:=Yet (P:=P) w t tt ty e i hut hst hi hz hs1 hb1 (.slice A k cap) k xs hown s hb
 have hshape:∃A' cap',v'=.slice A' (k+s.size) cap':=Yuo
 obtain⟨A',cap',rfl⟩:=hshape
 refine⟨_,K A' cap',w',by exact YqO,?_,A',cap',rfl,rfl⟩
 refine hw.updN (hu A' cap') hgrow.os hgrow.tape hgrow.output hgrow.size λS1 ⟨_,hS⟩=>⟨⟨λb=>Value.ownBlock (.slice A' (k+s.size) cap')=some b,⟨hown',?_⟩,λb hb=>?_⟩,λb hb hlt=>hgrow.block b hlt (λe=>hb ?_)⟩
 ·rintro a rfl;rfl
 ·rcases hat b hb with e|e
  ·cases A with
   |none=>cases e
   |some a=>exact Ymx
  ·right
   refine⟨e,?_⟩
   rcases hown'.2 with⟨e1,_⟩|⟨g',_,_,e1,_,e3,_⟩
   all_goals grind [Go.Value.ownBlock]
 ·cases A with
  |none=>cases e
  |some a=>exact Ymx
end
section
variable {P:Program}{m:Mode}{n:Shp}{B d:Nat}{w0:World}{ops:Array Oper}{Q:Exit->Act->World->Prop}{rest:List Oper}{env:Env}{H:List HP}{ty:TypeId}{pos:String}{after:Array Edge}{x y hi:Operand}
theorem YeO(w:World)(dT sT ty elem:TypeId)(g o dLen dCap size:Nat)(a:Addr)(sLen sCap:Nat)(cur:Array Value)(t:TypeId)(cs:List Value)
 (hu:P.underlying dT=some (.slice elem)) (hs:(P.info? elem).map (·.size)=some size)
 (hg:w.heap[g]? =some (.cells cur t (0,0))) (hn:cs.length=Nat.min sLen dLen*size)
 (hsrc:∀j v,cs[j]? =some v->w.cell? (a.add j)=some v) (hfit:o+cs.length<=cur.size) (h1:∀v∈cs,v.oneCell'=true):
 (Builtin.copy_ #[dT,sT] ty #[.slice (some ⟨g,o,none⟩) dLen dCap,.slice (some a) sLen sCap]).run P w=
  .ok (goInt (Nat.min sLen dLen)) (w.setRow g (cur.toList.take o++cs++cur.toList.drop (o+cs.length)).toArray):=by
 have hl:=run_firstCells_some (P:=P) w size (Nat.min sLen dLen) a sLen sCap cs hn hsrc
 have hst:=run_storeCells_at P g o t cs 0 cur w hg (by omega) h1
 cases hq:P.info? elem with
 |none=>simp_all
 |some i=>
  simp_all [Go.Builtin.copy_,Go.Builtin.lenOf,sizeOf,typeInfo,run_underlying]
variable {α:Type}
theorem Ysf(l cs:List α)(o k k':Nat)(hk:k<=l.length)(ho:o<=k)(hfit:o+cs.length<=l.length)(hk':k'=max k (o+cs.length)):
 (l.take o++cs++l.drop (o+cs.length)).take k'=(l.take k).take o++cs++(l.take k).drop (o+cs.length):=by
 have hA:(l.take o++cs).length=o+cs.length:=by grind
 by_cases h:o+cs.length<=k
 ·grind [Nat.max_eq_left,Yi6]
 ·rw[hk',Nat.max_eq_right (by omega),SH,hA,Nl,Ns,Rr,TM (by omega),List.take_take,S8 (by omega),Rb (by grind),Rr]
variable {t e size bytes o k cap kd cd mm c2:Nat}{A A2:Option Addr}{xs:List Value}{K:List HP}
theorem YoA(T:Tab P){k':Nat}{ys:List Value}(hx:evo env x=some (.slice (subA A o cap size) kd cd))(hy:evo env y=some (.slice A2 mm c2))(hr:Rd B w0 H A2 ys)
 (hu:Upd (sl e size A k cap xs) (sl e size A k' cap (xs.take (o*size)++ys.take (min mm kd*size)++xs.drop (o*size+min mm kd*size))) H K) (ht:look T.sl t=some (e,size,bytes)) (hn:Nat.ble (d+1) n.k=true) (h1:∀v∈ys,v.oneCell'=true)
 (hA:∃g,A=some ⟨g,0,none⟩) (hb:o+kd<=cap/\0<min mm kd/\o<=k/\k'=max k (o+min mm kd)) (hyl:min mm kd*size<=ys.length)
 (h:VL P none n B w0 ops Q rest ((d,.int .i64 (min mm kd:Nat))::env) K):
 VL P none n B w0 ops Q (⟨some d,.call ⟨.builtin .copy,#[x,y],#[t,t]⟩,ty,pos,after,none⟩::rest) env H:=by
 obtain⟨hut,inf,z,hi,hz,hzs,hsi,hbi,hs0,hb0⟩:=YG (T.slic ht)
 refine XA (λv K'=>v=.int .i64 (min mm kd:Nat)/\K'=K) rfl rfl hn (λa w ha hw=>?_) zc63
 have hmem:sl e size A k cap xs∈H:=Yjv
 obtain⟨hb1,hb2,hb3,hb5⟩:=hb
 rcases Jf (hw.sl hmem)with⟨rfl,_⟩|⟨g,cur,rfl,g1,g2,g3,g4,g5,g6⟩
 ·obtain⟨_,hA⟩:=hA;cases hA
 have hsub:subA (some ⟨g,0,none⟩) o cap size=some ⟨g,o*size,none⟩:=Yuk
 obtain⟨c,hc⟩:∃c,min mm kd=c:=⟨_,rfl⟩
 rw[hc]at hu hb2 hb5 hyl
 have hcs:(ys.take (c*size)).length=c*size:=Yem
 have hpos:0<c*size:=Nat.mul_pos hb2 hs0
 have hsome:∃a2,A2=some a2/\∀j v,(ys.take (c*size))[j]? =some v->w.cell? (a2.add j)=some v:=by
  have h0:ys[0]? =some (ys[0]'(by omega)):=Ta (by omega)
  obtain⟨g2',o2,rfl,_⟩:=hr w hw 0 _ h0
  refine⟨_,rfl,λj v hj=>?_⟩
  rw[SA]at hj
  by_cases hjm:j<c*size
  ·rw[Tn hjm]at hj
   obtain⟨g3',o3,e3,hc⟩:=hr w hw j v hj
   injection e3 with e3
   injection e3 with e3 e4
   subst e3 e4
   rw[Addr.add_lit];exact hc
  ·rw[Tj hjm]at hj;cases hj
 obtain⟨a2,rfl,hsrc⟩:=hsome
 have hoc:o+c<=cap:=by
  have:c<=kd:=by rw[<-hc];exact Nat.min_le_right _ _
  omega
 have hfit:o*size+c*size<=cur.size:=by rw[g4,<-SL];exact T8 _ hoc
 have hrun:=YeO (P:=P) w t t ty e g (o*size) kd cd size a2 mm c2 cur e (ys.take (c*size)) hut (by rw[hi];simp[hsi]) g1 (by rw[hcs];show c*size=min mm kd*size;rw[hc]) hsrc (by rw[hcs];exact hfit) (λv hv=>h1 v (RY hv))
 have hkl:k*size<=cur.toList.length:=by rw[Array.length_toList,g4];exact T8 _ g2
 have hok:o*size<=k*size:=T8 _ hb3
 have hmax:k'*size=max (k*size) (o*size+c*size):=by
  rw[hb5,<-SL]
  rcases Nat.le_total k (o+c)with h|h
  ·rw[Nat.max_eq_right h,Nat.max_eq_right (T8 _ h)]
  ·rw[Nat.max_eq_left h,Nat.max_eq_left (T8 _ h)]
 refine⟨_,K,_,?_,hw.storeRow (k':=k') (o:=o*size) (vs:=ys.take (c*size)) hu rfl g1 g4 (by rw[hb5];exact Nat.max_le.2 ⟨g2,hoc⟩) g3 (by rw[hcs];exact hfit) ?_ ?_,rfl,rfl⟩
 ·simp only[execOp,resolve,invoke,builtin]
  have hmap:#[x,y].map a.eval=#[.slice (some ⟨g,o*size,none⟩) kd cd,.slice (some a2) mm c2]:=by simp[ha.eval hx,ha.eval hy,hsub]
  simp only[hmap,Sem.run_bind,Sem.run_pure,Result.andThen_ok]
  rw[hrun]
  simp[goInt]
 ·have:=Ysf cur.toList (ys.take (c*size)) (o*size) (k*size) (k'*size) hkl hok (by rw[hcs,Array.length_toList];exact hfit) (by rw[hcs];exact hmax)
  rw[hcs]at this⊢
  rw[this,g5]
 ·rw[Tt,Tt,hcs,TU,TY,g6,hmax]
  omega
theorem Vd(T:Tab P){f:α->List Value}(L M R:List α)(hx:evo env x=some (.slice (subA A o cap size) kd cd))(hy:evo env y=some (.slice A2 mm c2))(hr:Rd B w0 H A2 (M.flatMap f))(hq:∀a,(f a).length=size)(h1:∀a,Ji (f a)=true)
 (ht:look T.sl t=some (e,size,bytes)) (hn:Nat.ble (d+1) n.k=true) (hA:∃g,A=some ⟨g,0,none⟩) (hb:o+kd<=cap/\0<min mm kd/\o<=L.length/\min mm kd<=M.length) (hR:L.take o++M.take (min mm kd)++L.drop (o+min mm kd)=R)
 (hu:Upd (sl e size A L.length cap (L.flatMap f)) (sl e size A R.length cap (R.flatMap f)) H K)
 (h:VL P none n B w0 ops Q rest ((d,.int .i64 (min mm kd:Nat))::env) K):
 VL P none n B w0 ops Q (⟨some d,.call ⟨.builtin .copy,#[x,y],#[t,t]⟩,ty,pos,after,none⟩::rest) env H:=by
 have hlen:∀l:List α,(l.flatMap f).length=l.length*size:=λl=>by
  induction l with
  |nil=>simp
  |cons a l ih=>grind
 have hRl:R.length=max L.length (o+min mm kd):=by
  grind
 have hRf:R.flatMap f=(L.flatMap f).take (o*size)++(M.flatMap f).take (min mm kd*size)++(L.flatMap f).drop (o*size+min mm kd*size):=by
  rw[<-hR,RB,RB,X0 hq,X0 hq,UT hq,SL]
 rw[hRf]at hu
 refine YoA T hx hy hr hu ht hn (λv hv=>?_) hA ⟨hb.1,hb.2.1,hb.2.2.1,hRl⟩ (by grind [T8]) h
 grind [ZR]
theorem Ya8(T:Tab P){tn i j:Nat}(hx:evo env x=some (.slice A i cap))(hy:evo env y=some (.int .i64 (j:Int)))(hm:sl e size A k cap xs∈H)(ht:look T.sl t=some (e,size,bytes))(htn:Yko P tn=true)(hn:Nat.ble (d+1) n.k=true)(hb:Nat.ble bytes 1000=true)
 (hk:i<=k/\0<k/\0<j/\cap<i+j/\i+j<=1000000)
 (h:∀g c,i+j<=c->VL P none n B w0 ops Q rest ((d,.slice (some ⟨g,0,none⟩) (i+j) c)::env) (sl e size (some ⟨g,0,none⟩) i c (xs.take (i*size))::H)):VL P none n B w0 ops Q (⟨some d,.call ⟨.builtin .append,#[x,y],#[t,tn]⟩,ty,pos,after,none⟩::rest) env H:=by
 obtain⟨hu,inf,z,hi,hz,hzs,hsi,hbi,hs0,hb0⟩:=YG (T.slic ht)
 obtain⟨kn,hkn⟩:=Yif htn
 have hb':=TR hb
 refine XA (λv K=>∃g c,v=.slice (some ⟨g,0,none⟩) (i+j) c/\K=sl e size (some ⟨g,0,none⟩) i c (xs.take (i*size))::H/\i+j<=c) rfl rfl hn (λa w ha hw=>?_) (by rintro _ _ ⟨g,c,rfl,rfl,hc⟩;exact h g c hc)
 obtain⟨hk1,hk2,hk3,hk4,hk5⟩:=hk
 have hown:=hw.sl hm
 rcases Jf hown with⟨_,e0,_⟩|⟨g,cur,rfl,g1,g2,g3,g4,g5,g6⟩
 ·omega
 have hik:i*size<=k*size:=T8 _ hk1
 have hxl:(xs.take (i*size)).length=i*size:=Yem
 have hbj:(i+j)*inf.bytes<=1000000*1000:=Nat.mul_le_mul hk5 (by omega)
 have hbj2:j*inf.bytes<=(i+j)*inf.bytes:=T8 _ (by omega)
 have hold:(Builtin.firstCells inf.size i (.slice (some ⟨g,0,none⟩) i cap)).run P w.drew=.ok (xs.take (i*size)).toArray w.drew:=by
  rw[hsi]
  refine run_firstCells_some (P:=P) w.drew size i ⟨g,0,none⟩ i cap _ hxl λq v hq=>?_
  rw[SA]at hq
  split at hq
  ·obtain⟨g',e5,hc,_⟩:=OW hown hq
   injection e5 with e5
   injection e5 with e5
   subst e5
   rw[Addr.add_lit,Ri];exact hc
  ·cases hq
 have hrun:=Lib.run_append_grow_zeros (P:=P) w t tn ty e inf z .i64 kn hu hkn hi hz (some ⟨g,0,none⟩) i cap (xs.take (i*size)) hold j hk3 (by omega) hk4 (by omega) (by omega) (growslice_fits hk4 (by omega))
 have hge:=grownCap_ge w (i+j) cap e
 have hcm:grownCap w (i+j) cap e<=maxLen:=grownCap_le_maxLen w (i+j) cap e (by simp only[maxLen];omega)
 refine⟨_,_,_,by simp only[execOp,resolve,invoke,builtin,ha.eval hx,ha.eval hy,List.map_toArray,Rx,List.map_nil,Sem.run_bind,Sem.run_pure,hrun,Result.andThen_ok];rfl,?_,w.heap.size,grownCap w (i+j) cap e,rfl,rfl,hge⟩
 have h2:=hw.drew.alloc (.cells ((xs.take (i*size)).toArray++Builtin.zeroCells z.cells j++Builtin.zeroCells z.cells (grownCap w (i+j) cap e-(i+j))) e)
 refine h2.upd (Upd.here _) rfl rfl rfl (TK _) λS1 ⟨h3,h4⟩=>⟨⟨⟨hxl,.inr ⟨w.heap.size,grownCap w (i+j) cap e,_,rfl,Td _,h4,by omega,hcm,?_,?_⟩⟩,λa ha=>by cases ha;exact h3⟩,λ_ _ _=>rfl⟩
 ·rw[Array.size_append,Array.size_append,size_zeroCells,size_zeroCells,hzs,List.size_toArray,hxl,<-SL,<-SL]
  congr 1
  omega
 ·rw[Array.toList_append,Array.toList_append,TV,SH,TM (by simp[hxl]),List.toList_toArray,hxl,Nl,Ns,Rr]
theorem Vu(T:Tab P){n':Nat}{ki:IntKind}{z:Int}(hx:evo env x=some (.slice A k cap))(hl:evo env hi=some (.int ki z))(ht:look T.sl t=some (e,size,bytes))(hn:Nat.ble (d+1) n.k=true)(hb:0<=z/\z<=cap)(hn':z.toNat=n')(hA:∃g,A=some ⟨g,0,none⟩)
 (h:VL P m n B w0 ops Q rest ((d,.slice A n' cap)::env) H):VL P m n B w0 ops Q (⟨some d,.slice t x none (some hi) none,ty,pos,after,none⟩::rest) env H:=by
 subst hn'
 obtain⟨g,rfl⟩:=hA
 refine Yt rfl rfl hn rfl (λf w ha hw=>?_) h
 have hA:(if cap=0 then(some ⟨g,0,none⟩:Option Addr)else(some ⟨g,0,none⟩:Option Addr).map (·.add (0*size)))=some ⟨g,0,none⟩:=by
  simp[Addr.add_lit]
 have hb2:(Instr.sliceBounds true k cap none (some (.int ki z)) none).run P w=.ok (0,z.toNat,cap) w:=zc65
 have hr:=JK T (A:=some ⟨g,0,none⟩) ht hb2
 exact Yt5
theorem Ye3{w:World}{gv g:Nat}{o:Obj}{R:List HP}(h:St B w0 (Eng.blk gv o::sl e size (some ⟨g,0,none⟩) k cap xs::R) w):gv≠g:=by
 obtain⟨S1,S2,_,_,hd,h4,h5⟩:=h.sep
 obtain⟨S3,S4,h6,_,_,h9,_⟩:=h5
 rintro rfl
 exact hd gv h4.1 (h6 _ (h9.2 _ rfl))
end
end Go.Eng
namespace Go.Proofs.YtjommdkgfbhbdaaGreatDoor
open Go.RowKit Go.Eng Go.Nw
theorem Yo1{s:Sch}{i:Nat}(hi:i<s.cells.length)(h:Zn s i=false):Xd s=false:=by
 unfold Xd
 grind
theorem Yfl(s:SchM){B:Nat}{w0:World}{H:List HP}{w:World}(hr:Rd B w0 H s.A (s.cells.flatMap celF))(hl:s.cells.length<=1000000000000)(hw:St B w0 H w):
 CX B w0 167 [s.val] w λv K=>v=.bool (Xd s.sch)/\K=H:=by
 refine Ya Tryz.func167 Tryz.ntmps167 rfl rfl hw ?_
 have e1:s.sch.cells=s.cells:=rfl
 repeat'(first|((apply YS YlK);exact za;exact rfl;exactλ_ hw=>(Yd3 s hw);all_goals(intro hB;(try simp only[Tm,Tv]at hB);try exact zo))|refine zgd ?_|(refine zge ?_ ?_<;>intro _<;>try exact zo)|(refine zgh ?_;intro _)|fail)
 ·apply Yf H
  ·exact zc0
  apply Yd;exact rfl;exact rfl
  exact⟨by rw[show Xd s.sch=false by unfold Xd;grind],rfl⟩
 rotate_left
 ·apply Yf H
  ·exact zc0
  apply Yd;exact rfl;exact rfl
  exact⟨by simp[Xd, *],rfl⟩
 rename_i g _
 refine Ye (λ(i:Nat)=>[(17,.int .i64 i),(16,.int .i64 s.cells.length),(15,.slice s.A s.cells.length s.cap),(1,.pointer (some ⟨g,0,none⟩))]) (λ_=>blk g (.cells #[.int .i64 s.len,.int .i64 s.off,.slice s.A s.cells.length s.cap] 33 (0,0))::H) (λi=>i<=s.cells.length/\(List.range i).all (Zn s.sch)=true) (λi=>s.cells.length-i) 0 ⟨Td _,rfl⟩ ?_ (λw hw=>hw) ?_
 ·exact zc1
 rintro i ⟨hi,hall⟩ K hK
 have hr:=hr.cons (X:=blk g (.cells #[.int .i64 s.len,.int .i64 s.off,.slice s.A s.cells.length s.cap] 33 (0,0)))
 by_cases hlt:i<s.cells.length
 ·have hget:s.cells[i]? =some (Yj s.sch i):=YM (s:=s.sch) hlt
  have hgo:Zn s.sch i=false->Xd s.sch=false:=Yo1 (s:=s.sch) hlt
  have hst:Zn s.sch i=true->(List.range (i+1)).all (Zn s.sch)=true:=λh=>by rw[WU,hall,h];rfl
  rcases Su i with h0|h0
  ·subst h0
   repeat'(first|((apply ZY YsY);exact za;exact rfl;exactλ_ hw=>(Ybp s _ hw);all_goals(intro hB;(try simp only[Tm,Tv]at hB);try exact zo))|(apply zg28;refine zs84 ?_)|refine zgd ?_|(refine zge ?_ ?_<;>intro _<;>try exact zo)|(refine zgh ?_;intro _)|fail)
   ·apply hK (0+1)
    ·exact⟨by omega,hst (by simp[Zn, *])⟩
    ·omega
    ·exact zc1
    ·exact zc0
   ·apply Yf H
    ·exact zc0
    apply Yd;exact rfl;exact rfl
    exact⟨by rw[hgo (by simp[Zn, *])],rfl⟩
  ·have hget2:s.cells[((i:Int)-1).toNat]? =some (Yj s.sch (i-1)):=zc64
   repeat'(first|((apply ZY YsY);exact za;exact rfl;exactλ_ hw=>(Ybp s _ hw);all_goals(intro hB;(try simp only[Tm,Tv]at hB);try exact zo))|((apply Yn YsZ);exact za;exact rfl;exactλ_ hw=>(O2 _ _ hw))|(apply zg28;refine zs84 ?_)|refine zgd ?_|(refine zgf ?_ ?_<;>intro _<;>try exact zo)|(refine zgh ?_;intro _)|fail)
   all_goals first
    |(apply hK (i+1)
      ·refine⟨by omega,hst ?_⟩
       have hc:cmpV (nums (Yj s.sch (i-1))) (nums (Yj s.sch i))<0:=by omega
       simp[Zn,(YaG _ _).1 hc, *]
      ·omega
      ·exact zu
      ·exact zk
      done)
    |(apply Yf H
      ·exact zk
      apply Yd;exact rfl;exact rfl
      refine⟨?_,rfl⟩
      rw[hgo]
      first
       |(simp[Zn, *];done)
       |(have hc:¬cmpV (nums (Yj s.sch (i-1))) (nums (Yj s.sch i))<0:=by omega
         have hd:Xg (Yj s.sch (i-1)) (Yj s.sch i)=false:=by
          rw[YaG]at hc
          simpa using hc
         simp[Zn,hd]
         omega))
 ·refine zX0 ?_<;>intros
  apply Yf H
  ·exact zc0
  apply Yd;exact rfl;exact rfl
  refine⟨?_,rfl⟩
  rw[show i=s.cells.length by omega]at hall
  rw[show Xd s.sch=true by unfold Xd;rw[e1,hall,Tf (by omega)];simp[*]]
def inI(s:Sch)(slot:Int)(k:Nat):List Nat:=(List.range k).filter λi=>decide ((Yj s i).1=slot)
def inXs(s:Sch)(slot:Int):List (List Value):=(inI s slot s.cells.length).map λ(i:Nat)=>[Value.int .i64 (i:Int)]
variable {s:Sch}{slot:Int}{k B:Nat}
theorem Yl1(h:(Yj s k).1=slot):inI s slot (k+1)=inI s slot k++[k]:=by
 grind [inI,Rq]
theorem YpK(h:(Yj s k).1≠slot):inI s slot (k+1)=inI s slot k:=by
 grind [inI,Rq]
theorem YrI{n:Nat}(h:(Yj s k).1=slot)(hk:k<n):(inI s slot n)[(inI s slot k).length]? =some k:=by
 obtain⟨m,rfl⟩:∃m,n=k+(m+1):=⟨n-k-1,by omega⟩
 have e:inI s slot (k+(m+1))=inI s slot k++((List.range (m+1)).map (k+·)).filter λi=>decide ((Yj s i).1=slot):=by
  grind [inI,List.range_add]
 simp_all [List.range_succ_eq_map]
theorem OL{i:Nat}:i∈inI s slot k↔i<k/\(Yj s i).1=slot:=by
 grind [inI]
def schB(g:Nat)(s:SchM):HP:=blk g (.cells #[.int .i64 s.len,.int .i64 s.off,.slice s.A s.cells.length s.cap] 33 (0,0))
def intB(g:Nat)(x:Int):HP:=blk g (.cells #[.int .i64 x] 3 (0,0))
variable {w0:World}
theorem Yib(s:SchM)(slot:Int)(gs gt:Nat){HI:List HP}(hr:Rd B w0 HI s.A (s.cells.flatMap celF))(hl:s.cells.length<=1000000000000)
 (hms:blk gs (.cells #[.int .i64 s.len,.int .i64 s.off,.slice s.A s.cells.length s.cap] 33 (0,0))∈HI) (hmt:blk gt (.cells #[.int .i64 slot] 3 (0,0))∈HI):
 Ycg Tryz.prog 385 [.pointer (some ⟨gs,0,none⟩),.pointer (some ⟨gt,0,none⟩)] (inXs s.sch slot) B w0 HI:=by
 refine Ych Tryz.func385 Tryz.ntmps385 rfl rfl ?_
 intro l SS X hy L0 h0
 refine zX7 ?_
 refine Ye (λ(x:Nat×List HP)=>[(9,.int .i64 x.1),(8,.int .i64 s.cells.length),(7,.slice s.A s.cells.length s.cap),(0,.func (.yield l) #[] #[]),(1,.pointer (some ⟨gs,0,none⟩)),(2,.pointer (some ⟨gt,0,none⟩))]) (λx=>many x.2::HI) (λx=>x.1<=s.cells.length/\SS (inI s.sch slot x.1).length x.2) (λx=>s.cells.length-x.1) (0,L0) ⟨Td _,h0⟩ ?_ (λw hw=>hw) ?_
 ·exact zc1
 rintro⟨i,L⟩ ⟨hi,hS⟩ K hK
 dsimp only at hi hS⊢
 have hr:=hr.cons (X:=many L)
 by_cases hlt:i<s.cells.length
 ·have hget:s.cells[i]? =some (Yj s.sch i):=YM (s:=s.sch) hlt
  have hlt2:i<s.sch.cells.length:=hlt
  iterate 22 (first|refine zgd ?_|(refine zge ?_ ?_<;>intro _<;>try exact zo)|(refine zgh ?_;intro _)|fail)
  refine Ycj 7 rfl rfl Yjw ?_
  repeat'(first|refine zgd ?_|(refine zgf ?_ ?_<;>intro _<;>try exact zo)|fail)
  ·rename_i g5 hs
   have hx:(inXs s.sch slot)[(inI s.sch slot i).length]? =some [.int .i64 (i:Int)]:=by
    rw[inXs,TN,YrI hs hlt2];rfl
   have hY:=hy _ _ hx [blk g5 (.cells (celF (Yj s.sch i)).toArray 162 (0,0))] L hS
   apply Ycw _ _ (hy:=hY)
   ·exact YbJ (j:=4) (s:=18) rfl rfl rfl
   ·exact rfl
   ·exact YqP
   ·exact rfl
   ·exact Yjw
   ·rintro _ ⟨L',hS',rfl⟩
    refine zX10 ?_
    apply hK (i+1,L')
    ·exact⟨by omega,by rw[Yl1 hs,Tt];exact hS'⟩
    ·exact zc50
    ·exact zc1
    ·exact Yax
   ·rintro _ ⟨L',hX',rfl⟩
    refine zX3 ?_
    apply Yf (many L'::HI)
    ·exact Yax
    apply U9;exact rfl
    exact .inr ⟨L',hX',rfl⟩
  ·rename_i hs
   apply Yhr Yjw
   refine zX3 ?_
   apply hK (i+1,L)
   ·exact⟨by omega,by rw[YpK hs];exact hS⟩
   ·exact zc50
   ·exact zc1
   ·exact Yax
 ·refine zX0 ?_<;>intros
  apply JB;exact rfl
  rw[show i=s.cells.length by omega]at hS
  exact .inl ⟨L,by rw[inXs,To];exact hS,rfl⟩
theorem Yic(s:SchM)(slot:Int){H:List HP}{w:World}(hw:St B w0 H w):
 CX B w0 329 [s.val,.int .i64 slot] w λv K=>∃gs gt,v=.func (.func 385) #[] #[.pointer (some ⟨gs,0,none⟩),.pointer (some ⟨gt,0,none⟩)]/\K=intB gt slot::schB gs s::H:=by
 refine Ya Tryz.func329 Tryz.ntmps329 rfl rfl hw ?_
 refine zX28 ?_<;>intros
 apply Yd;exact rfl;exact rfl
 exact⟨_,_,rfl,rfl⟩
abbrev ints(A:Option Addr)(cap:Nat)(l:List Int):HP:=sl 3 1 A l.length cap (l.flatMap numF)
theorem Yny(A:Option Addr)(cap:Nat)(l:List Int)(z:Int):sl 3 1 A (l.length+1) cap (l.flatMap numF++#[Value.int .i64 z].toList)=ints A cap (l++[z]):=by simp_all [ints,numF]
variable {A:Option Addr}{cap B:Nat}{w0 w:World}{H:List HP}
theorem Ykm(l:List Int)(v:Int)(hlen:l.length<=9223372036854775807)(hr:Rd B w0 H A (l.flatMap numF))(hw:St B w0 H w):
 CX B w0 215 [.slice A l.length cap,.int .i64 v] w λu K=>u=.int .i64 (Ym (λx=>decide (v=x)) l 0)/\K=H:=by
 refine Ya Tryz.func215 Tryz.ntmps215 rfl rfl hw ?_
 refine zX7 ?_
 refine Ye (λ(k:Nat)=>[(8,.int .i64 k),(7,.int .i64 l.length),(0,.slice A l.length cap),(1,.int .i64 v)]) (λ_=>H) (λk=>k<=l.length/\Ym (λx=>decide (v=x)) l 0=Ym (λx=>decide (v=x)) (l.drop k) k) (λk=>l.length-k) 0 ⟨Td _,by simp⟩ ?_ (λw hw=>hw) ?_
 ·exact zc1
 rintro k ⟨hk,hi⟩ K hK
 by_cases hlt:k<l.length
 ·obtain⟨a,ha⟩:∃a,l[k]? =some a:=⟨_,Ta hlt⟩
  rw[Z9 _ l ha]at hi
  repeat'(first|refine zgd ?_|(refine zgf ?_ ?_<;>intro _<;>try exact zo)|fail)
  ·rename_i h
   rw[Tn (Tf h)]at hi
   exact zc47
  ·rename_i h
   rw[Tj (by simp[h])]at hi
   refine zX8 ?_
   apply hK (k+1)
   ·grind
   ·omega
   ·exact zc1
   exact zc21
 exact zc32
theorem Yey(l:List Int)(v:Int)(hlen:l.length<=9223372036854775807)(hr:Rd B w0 H A (l.flatMap numF))(hw:St B w0 H w):
 CX B w0 122 [.slice A l.length cap,.int .i64 v] w λu K=>u=.bool (decide (v∈l))/\K=H:=by
 refine Ya Tryz.func122 Tryz.ntmps122 rfl rfl hw ?_
 have hia:=Vz (λx=>decide (v=x)) l 0 (by omega)
 have hmm:l.any (λx=>decide (v=x))=true↔v∈l:=by simp[List.any_eq_true]
 repeat'(first|((apply Yb Ywc);exact za;exact rfl;exactλ_ hw=>(Ykm l v hlen hr hw))|refine zga ?_|(refine zgf ?_ ?_<;>intro _<;>try exact zo)|fail)
 all_goals(apply Yd;exact rfl;exact rfl)
 ·rename_i h;exact⟨by rw[Tf (hmm.1 (hia.1 h))],rfl⟩
 ·rename_i h
  exact⟨by rw[Ti λe=>by have:=hia.2 (hmm.2 e);omega],rfl⟩
theorem Yoc{l:List Int}{k:Nat}{a:Int}(h:l[k]? =some a):l.take (k+1)=l.take k++[a]:=zc76
end Go.Proofs.YtjommdkgfbhbdaaGreatDoor
namespace Go.Eng
open Go.RowKit
variable {B cap:Nat}{w0:World}{H:List HP}{A:Option Addr}
theorem OA{P:Program}{n:Shp}{Q:Exit->Act->World->Prop}{env:Env}{c:Code}{e size k:Nat}{xs:List Value}(hm:sl e size A k cap xs∈H)(h:k<=cap->VC P n B w0 c Q env H):VC P n B w0 c Q env H:=by
 refine⟨λa w ha hw=>?_⟩
 have hown:=hw.sl hm
 have hkc:k<=cap:=zc89
 exact(h hkc).run a w ha hw
end Go.Eng
namespace Go.Proofs.YtjommdkgfbhbdaaGreatDoor
open Go.RowKit Go.Eng Go.Nw
theorem Yd8(A:Option Addr)(cap size:Nat):subA A 0 cap size=A:=by
 simp_all [subA,Go.Addr.add]
theorem Ybm{α:Type}{f:α->List Value}{q:Nat}(hq:∀a,(f a).length=q):∀(l:List α) (i:Nat),i<l.length->(l.flatMap f).take (i*q)++(l.flatMap f).drop ((i+1)*q)=(l.eraseIdx i).flatMap f
 |x::l,0,_=>by
  simp_all
 |x::l,i+1,h=>by
  rw[Ro]at h
  have ih:=Ybm hq l i (by omega)
  have e1:(i+1)*q=(f x).length+i*q:=by grind
  have e2:(i+1+1)*q=(f x).length+(i+1)*q:=by grind
  rw[Re,List.eraseIdx_cons_succ,Re,e2,List.drop_length_add_append,<-ih,<-TV]
  grind
def cels(A:Option Addr)(cap:Nat)(l:List Cel):HP:=sl 162 5 A l.length cap (l.flatMap celF)
theorem Ym6(A:Option Addr)(cap:Nat)(l:List Cel)(c:Cel):sl 162 5 A (l.length+1) cap (l.flatMap celF++celF c)=cels A cap (l++[c]):=by
 grind [cels]
theorem JU(A:Option Addr)(cap:Nat)(l:List Cel)(c:Cel):sl 162 5 A (l.length+1) cap (l.flatMap celF++#[Value.int .i64 c.1,.int .i64 c.2.1,.int .i64 c.2.2.1,.int .i64 c.2.2.2.1,.int .i64 c.2.2.2.2].toList)=cels A cap (l++[c]):=Ym6 A cap l c
theorem Yil(l:List Cel)(c:Cel):l.length+1=(l++[c]).length:=by simp
variable {B cap:Nat}{w0:World}{H:List HP}{A:Option Addr}
theorem Rd.cels{l:List Cel}(h:cels A cap l∈H):Rd B w0 H A (l.flatMap celF):=.sl h
theorem Yhz{a b:Cel}(h:celF a=celF b):a=b:=by
 obtain⟨a1,a2,a3,a4,a5⟩:=a
 simp_all [celF]
section
variable {m:Eng.Mode}{n:Shp}{B d:Nat}{w0:World}{ops:Array Oper}{Q:Exit->Act->World->Prop}{rest:List Oper}{env:Env}{H:List HP}{ty:TypeId}{pos:String}{after:Array Edge}
variable {x y:Operand}
theorem Yq8(a b:Cel)(hx:evo env x=some (.agg (celF a).toArray))(hy:evo env y=some (.agg (celF b).toArray))(hn:Nat.ble (d+1) n.k=true)
 (h1:a=b->VL Tryz.prog m n B w0 ops Q rest ((d,.bool true)::env) H) (h2:a≠b->VL Tryz.prog m n B w0 ops Q rest ((d,.bool false)::env) H):
 VL Tryz.prog m n B w0 ops Q (⟨some d,.binOp .eql 162 x y 162,ty,pos,after,none⟩::rest) env H:=
 Yq6 (xs:=celF a) (ys:=celF b) hx hy hn (by kernel_rfl) (by kernel_rfl) (λe=>h1 (Yhz e)) (λe=>h2 λh=>e (by rw[h]))
theorem Yq9(a b:Cel)(hx:evo env x=some (.agg (celF a).toArray))(hy:evo env y=some (.agg (celF b).toArray))(hn:Nat.ble (d+1) n.k=true)
 (h1:a≠b->VL Tryz.prog m n B w0 ops Q rest ((d,.bool true)::env) H) (h2:a=b->VL Tryz.prog m n B w0 ops Q rest ((d,.bool false)::env) H):
 VL Tryz.prog m n B w0 ops Q (⟨some d,.binOp .neq 162 x y 162,ty,pos,after,none⟩::rest) env H:=
 Yq7 (xs:=celF a) (ys:=celF b) hx hy hn (by kernel_rfl) (by kernel_rfl) (λe=>h1 λh=>e (by rw[h])) (λe=>h2 (Yhz e))
end
def wordS:List UInt8:=[115,99,104,101,100,117,108,101]
def wordC:List UInt8:=[99,101,108,108]
def XW(w:List UInt8)(l:List Int):List UInt8:=w++l.flatMap λn=>32::Lib.itoa n
def Y0(w:List UInt8)(l:List Int):List UInt8:=XW w l++[10]
def Yea(s:Sch):List UInt8:=Y0 wordS [s.len,s.off]++s.cells.flatMap λc=>Y0 wordC (nums c)
def Xq(s:Sch):List UInt8×Int:=if Xd s=false then([],1)else(Yea s,0)
theorem Ydr{n:Int}(h:0<=n):Lib.itoa n=Lib.decDigits n.toNat:=by simp_all [Go.Lib.itoa,if_neg]
theorem OJ{s:Sch}(h:Frm s):(∀n∈[s.len,s.off],0<=n/\n<10000)/\∀c∈s.cells,∀n∈nums c,0<=n/\n<10000:=by
 have h1:=h.sized
 unfold Zw at h1
 constructor
 ·grind
 ·intro c hc n hn
  have h3:=h.formed c hc
  unfold XJ XK insE at h3
  unfold nums at hn
  grind
variable {B:Nat}{w0:World}{H:List HP}
theorem NetM.In.mono{K:List HP}{n:NetM}(h:n.In B w0 H)(hH:∀w,St B w0 K w->St B w0 H w):n.In B w0 K:=
 ⟨h.pw.mono hH,λr hr=>(h.rw_ r hr).mono hH,h.lk.mono hH,h.mg.mono hH,h.s1,h.s2,h.s3,h.s4⟩
def fewE(n:Net):Bool:=decide ((∀r∈n.power,r.length<=40)/\n.power.length<=8/\n.links.length<=60/\n.margin.length<=60)
theorem YhV(n:NetM){w:World}(hin:n.In B w0 H)(hw:St B w0 H w):
 CX B w0 37 [n.val] w λv K=>v=.bool (fewE n.net)/\K=H:=by
 refine Ya Tryz.func37 Tryz.ntmps37 rfl rfl hw ?_
 obtain⟨hpw,hrw,hlk,hmg,hs1,hs2,hs3,hs4⟩:=id hin
 have e1:(∀r∈n.net.power,r.length<=40)↔∀r∈n.rows,r.xs.length<=40:=by simp[NetM.net]
 have e2:n.net.power.length=n.rows.length:=by simp[NetM.net]
 have e3:n.net.links=n.links:=rfl
 have e4:n.net.margin=n.margin:=rfl
 unfold fewE
 rw[e2,e3,e4]
 (apply Xc;apply YW;apply YR;exact rfl;exact rfl;intro g)
 refine zX7 ?_
 refine Ye (λ(a:Nat)=>[(3,.int .i64 a),(1,.pointer (some ⟨g,0,none⟩))]) (λ_=>netB g n::H) (λa=>a<=n.rows.length/\∀j r,j<a->n.rows[j]? =some r->r.xs.length<=40) (λa=>n.rows.length-a) 0 ⟨Td _,by intro j r hj;omega⟩ ?_ (λw hw=>hw) ?_
 ·exact zc1
 rintro a ⟨ha,hai⟩ K hK
 by_cases hlt:a<n.rows.length
 ·obtain⟨r,hr⟩:∃r,n.rows[a]? =some r:=⟨_,Ta hlt⟩
  have hs2r:=hs2 r (Tc hr)
  repeat'(first|refine zgd ?_|(refine zge ?_ ?_<;>intro _<;>try exact zo)|fail)
  ·rename_i h
   apply Yi;apply Yd;exact rfl;exact rfl
   exact⟨by rw[Ti λhc=>by have:=e1.1 hc.1 r (Tc hr);omega],rfl⟩
  ·rename_i h
   apply hK (a+1)
   ·refine⟨by omega,λj q hj hq=>?_⟩
    by_cases e:j=a
    ·subst e;rw[hr]at hq;rw[<-TJ hq];omega
    ·exact hai j q (by omega) hq
   ·omega
   ·exact zc1
   exact zc21
 obtain rfl:a=n.rows.length:=by omega
 have hall:∀r∈n.rows,r.xs.length<=40:=λr hr=>by
  obtain⟨j,hj⟩:=List.getElem?_of_mem hr
  exact hai j r (Tu.1 hj).1 hj
 repeat'(first|refine zgd ?_|(refine zgf ?_ ?_<;>intro _<;>try exact zo)|fail)
 ·apply Yi;apply Yd;exact rfl;exact rfl
  exact⟨by rw[Tf ⟨e1.2 hall,by omega,by omega,by omega⟩],rfl⟩
 all_goals(apply Yi;apply Yd;exact rfl;exact rfl;exact⟨by rw[Ti λhc=>by omega],rfl⟩)
structure Tabs(w:World):Prop where
 pow:Lib.TabIs Tryz.prog w "internal/strconv.uint64pow10" .u64 Lib.pow10Tab
def TabsB(B:Nat)(w0:World):Prop:=∀w,Below B w0 w->Tabs w
variable {B:Nat}{w0 w:World}{H:List HP}
theorem TabsB.here(h:TabsB B w0)(hw:St B w0 H w):TabsB w.heap.size w:=λw1 h1=>h w1 (hw.below.trans (h1.mono hw.le))
abbrev strV(l:List UInt8):Value:=.string ⟨l.toArray⟩
theorem Yfo(n:Int)(h0: -9223372036854775808<=n)(h1:n<=9223372036854775807)(ht:TabsB B w0)(hw:St B w0 H w):
 CX B w0 166 [.int .i64 n] w λv K=>v=strV (Lib.itoa n)/\K=H:=
 YjT hw ((Tryz.strconv_Itoa n h0 h1 w (ht w hw.below).pow).mono λe w' ⟨h1,k,os,h2⟩=>⟨h1,by simp_all [Go.Lib.below_grow]⟩)
theorem Q6{s:Sch}{slot:Int}{k:Nat}{args:List Value}(h:(inXs s slot)[k]? =some args):∃i,(inI s slot s.cells.length)[k]? =some i/\i<s.cells.length/\args=[.int .i64 (i:Int)]:=by
 unfold inXs at h
 rw[TN]at h
 cases hi:(inI s slot s.cells.length)[k]? with
 |none=>simp_all
 |some i=>
  rw[hi]at h
  cases h
  exact⟨i,rfl,(OL.1 (Tc hi)).1,rfl⟩
section
variable {m:Eng.Mode}{n:Shp}{B d:Nat}{w0:World}{ops:Array Oper}{Q:Exit->Act->World->Prop}{rest:List Oper}{env:Env}{H:List HP}{ty:TypeId}{pos:String}{after:Array Edge}{x y:Operand}
theorem XY(a b:List UInt8)(hx:evo env x=some (strV a))(hy:evo env y=some (strV b))(hn:Nat.ble (d+1) n.k=true)(hb:a.length+b.length<=1000000)(h:VL Tryz.prog m n B w0 ops Q rest ((d,strV (a++b))::env) H):
 VL Tryz.prog m n B w0 ops Q (⟨some d,.binOp .add 9 x y 9,ty,pos,after,none⟩::rest) env H:=by
 have hs:∀l:List UInt8,(⟨l.toArray⟩:ByteArray).size=l.length:=by grind [ByteArray.size]
 refine Yrk hx hy hn (by grind) ?_
 have e:(⟨a.toArray⟩:ByteArray)++⟨b.toArray⟩=⟨(a++b).toArray⟩:=by
  apply ByteArray.ext
  simp
 simp_all
variable {g:Nat}{cs:Array Value}{fr:Nat×Nat}
theorem YoO(hx:evo env x=some (.pointer (some ⟨g,0,none⟩)))(hm:blk g (.cells cs 121 fr)∈H)(hc:cs.size=2)(hn:Nat.ble (d+1) n.k=true)
 (h:VL Tryz.prog none n B w0 ops Q rest ((d,.pointer (some ⟨g,0,none⟩))::env) H):VL Tryz.prog none n B w0 ops Q (⟨some d,.convert 118 274 x,ty,pos,after,none⟩::rest) env H:=by
 refine XA (λv K'=>v=.pointer (some ⟨g,0,none⟩)/\K'=H) rfl rfl hn (λa w ha hw=>?_) (by rintro _ _ ⟨rfl,rfl⟩;exact h)
 have hb:=(hw.blk hm).1
 obtain⟨j,hj,hjs⟩:=Nk.1 (show(Tryz.prog.info? 121).map (·.size)=some 2 by kernel_rfl)
 have hr:=Lib.run_to_unsafe (P:=Tryz.prog) w ⟨g,0,none⟩ Tryz.underlying118 Tryz.underlying274 hj (by rw[hjs];decide) (show w.shape? g=some (121,2) by simp[World.shape?,hb,hc]) (Nat.zero_lt_succ 1)
 exact⟨_,H,w,by simp[execOp,ha.eval hx,hr],hw,rfl,rfl⟩
theorem YoG(hx:evo env x=some (.pointer (some ⟨g,0,none⟩)))(hm:blk g (.cells cs 121 fr)∈H)(hc:cs.size=2)(hn:Nat.ble (d+1) n.k=true)
 (h:VL Tryz.prog none n B w0 ops Q rest ((d,.pointer (some ⟨g,0,none⟩))::env) H):VL Tryz.prog none n B w0 ops Q (⟨some d,.convert 274 118 x,ty,pos,after,none⟩::rest) env H:=by
 refine XA (λv K'=>v=.pointer (some ⟨g,0,none⟩)/\K'=H) rfl rfl hn (λa w ha hw=>?_) zc63
 have hb:=(hw.blk hm).1
 obtain⟨j,hj,hjs⟩:=Nk.1 (show(Tryz.prog.info? 121).map (·.size)=some 2 by kernel_rfl)
 have hr:=Lib.run_from_unsafe (P:=Tryz.prog) w ⟨g,0,none⟩ Tryz.underlying274 Tryz.underlying118 hj (show w.shape? g=some (121,2) by simp[World.shape?,hb,hc]) (by kernel_rfl)
 exact⟨_,H,w,by simp[execOp,ha.eval hx,hr],hw,rfl,rfl⟩
theorem YoE{v:Value}{tys:Array TypeId}(hx:evo env x=some v)(hn:Nat.ble (d+1) n.k=true)(h:VL Tryz.prog none n B w0 ops Q rest ((d,v)::env) H):
 VL Tryz.prog none n B w0 ops Q (⟨some d,.call ⟨.value (.func 246),#[x],tys⟩,ty,pos,after,none⟩::rest) env H:=by
 refine XA (λu K'=>u=v/\K'=H) rfl rfl hn (λa w ha hw=>⟨v,H,w,?_,hw,rfl,rfl⟩) zc63
 have hr:=run_callFunc_extern (P:=Tryz.prog) Tryz.func246 (by kernel_rfl) (by kernel_rfl) (by kernel_rfl) (e:=Extern.AbiNoEscape.same) (by kernel_rfl) #[v] w
 have he:a.eval (.func 246)=.func (.func 246) #[] #[]:=rfl
 simp[execOp,resolve,invoke,ha.eval hx,he,Deferred.ofValue,hr,Lib.run_noEscape,Result.andThen]
theorem Yhi{g:Addr}(hx:evo env x=some (.pointer (some g)))(hy:evo env y=some (.pointer (some g)))(hn:Nat.ble (d+1) n.k=true)(h:VL Tryz.prog m n B w0 ops Q rest ((d,.bool false)::env) H):
 VL Tryz.prog m n B w0 ops Q (⟨some d,.binOp .neq 118 x y 118,ty,pos,after,none⟩::rest) env H:=by
 obtain⟨j,hj,hjs⟩:=Nk.1 (show(Tryz.prog.info? 121).map (·.size)=some 2 by kernel_rfl)
 exact Y3 hx hy hn (λ_=>rfl) (λw=>Lib.run_neq_ptr_same w g Tryz.underlying118 hj) h
end
variable {B b cap:Nat}{w0 w:World}{H:List HP}
theorem YcO(b:Nat)(p v:Value)(hp:p=.pointer none\/p=.pointer (some ⟨b,0,none⟩))(hw:St B w0 (blk b (.cells #[p,v] 121 (0,0))::H) w):
 CX B w0 165 [.pointer (some ⟨b,0,none⟩)] w λu K=>u=.tuple #[]/\K=blk b (.cells #[.pointer (some ⟨b,0,none⟩),v] 121 (0,0))::H:=by
 refine Ya Tryz.func165 Tryz.ntmps165 rfl rfl hw ?_
 rcases hp with rfl|rfl
 ·skip
  repeat'(first|(apply Yhh;exact rfl;exact rfl;kernel_rfl)|(apply YoO;exact rfl;exact zm;exact rfl;exact rfl)|(apply YoG;exact rfl;exact zm;exact rfl;exact rfl)|(apply YoE;exact rfl;exact rfl)|(apply Yhi;(iterate 3 exact rfl))|refine zgd ?_|fail)
  exact Yjx
 ·skip
  repeat'(first|(apply Yhh;exact rfl;exact rfl;kernel_rfl)|(apply Yhi;(iterate 3 exact rfl))|refine zgd ?_|fail)
  exact Yjx
def bdP(b:Nat)(p:Value)(A:Option Addr)(cap:Nat)(l:List UInt8)(H:List HP):List HP:=blk b (.cells #[p,.slice A l.length cap] 121 (0,0))::sl 5 1 A l.length cap (Lib.byteCells l)::H
theorem J4(b:Nat)(p:Value)(hp:p=.pointer none\/p=.pointer (some ⟨b,0,none⟩))(A:Option Addr)(cap:Nat)(l s:List UInt8)(hl:l.length+s.length<=1000000)(hw:St B w0 (bdP b p A cap l H) w):
 CX B w0 80 [.pointer (some ⟨b,0,none⟩),strV s] w λu K=>u=.tuple #[.int .i64 s.length,.nilIface]/\∃A' cap',K=bdP b (.pointer (some ⟨b,0,none⟩)) A' cap' (l++s) H:=by
 have hs:(⟨s.toArray⟩:ByteArray).size=s.length:=by simp[ByteArray.size]
 refine Ya Tryz.func80 Tryz.ntmps80 rfl rfl hw ?_
 unfold bdP
 refine zX2 ?_
 apply Yg _ YvZ
 exact za
 exact rfl
 exactλ_ hw=>(YcO b p _ hp (hw))
 rintro _ _ ⟨rfl,rfl⟩
 repeat'(first|(apply QA T (e:=5);(iterate 3 exact rfl);kernel_rfl;exact rfl;exact rfl;(intro _ _;exact zd);(rw[hs];omega);intro A' cap')|refine zgd ?_|fail)
 have e1:Lib.byteCells l++Lib.strCells ⟨s.toArray⟩=Lib.byteCells (l++s):=by
  grind [Go.Lib.byteCells,Go.Lib.strCells]
 have e2:l.length+(⟨s.toArray⟩:ByteArray).size=(l++s).length:=by simp_all
 apply YH;(iterate 3 exact rfl)
 refine⟨by rw[hs],A',cap',?_⟩
 simp_all
variable {p:Value}{A:Option Addr}{l:List UInt8}
theorem Yu1(hp:p=.pointer none\/p=.pointer (some ⟨b,0,none⟩))(hw:St B w0 (bdP b p A cap l H) w):Lib.IsBuilder 121 5 B b (Lib.byteCells l) w:=by
 obtain⟨_,_,S1,S2,k1,k2,k3,⟨k4,k5⟩,S3,S4,j1,j2,j3,⟨⟨j4,j5⟩,j6⟩,j7⟩:=hw
 have hl:(Lib.byteCells l).length=l.length:=by omega
 have hat:Lib.BuilderAt 121 5 B b p (Lib.byteCells l) w:=by
  refine⟨(k1 b k4).1,.slice A l.length cap,k5,⟨by omega,?_⟩,?_⟩
  ·rw[hl]
   rcases j5 with j5|⟨g,c,cur,e1,e2,e3⟩
   ·simp_all
   ·refine .inr ⟨g,c,cur,e1,?_,e3⟩
    simp_all
  exact Ymx
 rcases hp with rfl|rfl
 ·exact .inl hat
 ·exact .inr hat
theorem Oq(hp:p=.pointer none\/p=.pointer (some ⟨b,0,none⟩))(hw:St B w0 (bdP b p A cap l H) w):
 CX B w0 84 [.pointer (some ⟨b,0,none⟩)] w λv K=>v=strV l/\K=[]:=by
 refine(Tryz.Builder_String_any B b l w (Yu1 hp hw) hw.le).mono ?_
 rintro e w' ⟨rfl,hb⟩
 exact⟨_,[],rfl,⟨hw.below.trans hb,TX hw.le hb.size,trivial⟩,rfl,rfl⟩
theorem Ob{n:Int}(h:0<=n/\n<10000):(Lib.itoa n).length<=4:=by
 grind [Ydr,YlD]
theorem UJ{w:List UInt8}:∀{l:List Int},(∀n∈l,0<=n/\n<10000)->(XW w l).length<=w.length+5*l.length
 |[],_=>by simp[XW]
 |n::l,h=>by
  have ih:=UJ (w:=w) (l:=l) λm hm=>h m (TO _ hm)
  grind [Ob,XW]
theorem OD(w:List UInt8)(l:List Int)(n:Int):XW w (l++[n])=XW w l++([32]++Lib.itoa n):=by
 grind [XW]
theorem Yft(word:List UInt8)(l:List Int)(h:∀n∈l,0<=n/\n<10000)(h5:l.length<=100)(hwd:word.length<=100)(ht:TabsB B w0)(hr:Rd B w0 H A (l.flatMap numF))(hw:St B w0 H w):
 CX B w0 168 [strV word,.slice A l.length cap] w λv K=>v=strV (Y0 word l)/\K=H:=by
 refine Ya Tryz.func168 Tryz.ntmps168 rfl rfl hw ?_
 refine zX7 ?_
 refine Ye (λ(i:Nat)=>[(9,.int .i64 i),(8,.int .i64 l.length),(7,.slice A l.length cap),(0,strV (XW word (l.take i)))]) (λ_=>H) (λi=>i<=l.length) (λi=>l.length-i) 0 (Td _) ?_ (λw hw=>hw) ?_
 ·have e0:XW word (l.take 0)=word:=by simp[XW]
  rw[e0]
  exact zc1
 intro i hi K hK
 have hbl:=UJ (w:=word) (l:=l.take i) λn hn=>h n (RY hn)
 have hlt0:(l.take i).length<=100:=by grind
 by_cases hlt:i<l.length
 ·obtain⟨n,hn⟩:∃n,l[i]? =some n:=⟨_,Ta hlt⟩
  have hnb:=h n (Tc hn)
  have hil:=Ob hnb
  refine zX31 ?_<;>intros
  apply hK (i+1)
  ·show i+1<=l.length
   omega
  ·omega
  ·rw[TB,hn,RN,OD]
   exact zc1
  exact zc21
 exact zc13
def X9(s:Sch)(i:Nat):List UInt8:=Y0 wordS [s.len,s.off]++(s.cells.take i).flatMap λc=>Y0 wordC (nums c)
theorem Ot{s:Sch}{i:Nat}(h:i<s.cells.length):X9 s (i+1)=X9 s i++Y0 wordC (nums (Yj s i)):=by
 grind [X9,TB,YM]
theorem XR{w:List UInt8}{l:List Int}(h:∀n∈l,0<=n/\n<10000):(Y0 w l).length<=w.length+5*l.length+1:=by
 grind [Y0,UJ]
theorem Wy{s:Sch}(h:Frm s):∀i,i<=s.cells.length->(X9 s i).length<=100+40*i
 |0,_=>by
  have h1:=XR (w:=wordS) (OJ h).1
  grind [X9,wordS,Ro]
 |i+1,hi=>by
  have ih:=Wy h i (by omega)
  have h1:=XR (w:=wordC) ((OJ h).2 _ (Z0 (s:=s) (i:=i) (by omega)))
  rw[Ot (by omega),Tt]
  have:wordC.length=4:=rfl
  have h2:(nums (Yj s i)).length=5:=rfl
  omega
theorem Yqh(s:SchM)(ht:TabsB B w0)(hr:Rd B w0 [] s.A (s.cells.flatMap celF))(hl:s.cells.length<=1000000000000)(hw:St B w0 [] w):
 CX B w0 82 [s.val] w λv _=>v=.tuple #[strV (Xq s.sch).1,.int .i64 (Xq s.sch).2]:=by
 refine Ya Tryz.func82 Tryz.ntmps82 rfl rfl hw ?_
 have e1:s.sch.cells=s.cells:=rfl
 cases hf:Xd s.sch with
 |false=>
  repeat'(first|((apply Yb YsE);exact za;exact rfl;exactλ_ hw=>(OE (TF Value.bool hf) (λ_ hw=>Yfl s hr.cons hl hw) hw))|refine zgd ?_|(refine zgh ?_;intro _)|fail)
  apply YH;(iterate 3 exact rfl)
  simp_all [Xq]
 |true=>
  have hfr:=XF.1 hf
  have hle:s.cells.length<=512:=hfr.few
  have hnm:=OJ hfr
  have hln1:=XR (w:=wordS) hnm.1
  repeat'(first|((apply Yb YsE);exact za;exact rfl;exactλ_ hw=>(OE (TF Value.bool hf) (λ_ hw=>Yfl s hr.cons hl hw) hw))|refine zgc ?_|(refine zgh ?_;intro _)|fail)
  rename_i gs gb gl
  have hrl:Rd B w0 [blk gl (.cells #[.int .i64 s.len,.int .i64 s.off] 3 (0,0)),blk gb (.cells (Value.agg #[.pointer none,.slice none 0 0]).cells 121 (0,0)),blk gs (.cells #[.int .i64 s.len,.int .i64 s.off,.slice s.A s.cells.length s.cap] 33 (0,0))] (some ⟨gl,0,none⟩) ([s.sch.len,s.sch.off].flatMap numF):=Rd.blk (cs:=#[.int .i64 s.len,.int .i64 s.off]) (.head _)
  apply Yb YsF
  exact za
  exact rfl
  exactλ_ hw=>(Yft wordS [s.sch.len,s.sch.off] hnm.1 (by show 2<=100;decide) (by decide) ht hrl hw)
  apply Zh (bdP gb (.pointer none) none 0 [] [blk gs (.cells #[.int .i64 s.len,.int .i64 s.off,.slice s.A s.cells.length s.cap] 33 (0,0))])
  ·unfold bdP
   intro w hw
   have h5:St B w0 [blk gb (.cells (Value.agg #[.pointer none,.slice none 0 0]).cells 121 (0,0)),blk gs (.cells #[.int .i64 s.len,.int .i64 s.off,.slice s.A s.cells.length s.cap] 33 (0,0))] w:=by
    revert w
    exact zc0
   exact(h5.nilSlice _ _).perm (.swap _ _ _)
  apply Yg _ en80
  exact za
  exact rfl
  exactλ_ hw=>(J4 gb _ (.inl rfl) none 0 [] (Y0 wordS [s.sch.len,s.sch.off]) (by simp only[Sr];have:wordS.length=8:=rfl;simp only[Ro,Sr]at hln1;omega) (hw))
  rintro _ _ ⟨rfl,A1,cap1,rfl⟩
  unfold bdP
  refine zX7 ?_
  refine Ye (λ(z:Nat×Option Addr×Nat)=>[(21,.int .i64 z.1),(20,.int .i64 s.cells.length),(19,.slice s.A s.cells.length s.cap),(4,.pointer (some ⟨gb,0,none⟩))]) (λz=>bdP gb (.pointer (some ⟨gb,0,none⟩)) z.2.1 z.2.2 (X9 s.sch z.1) [blk gs (.cells #[.int .i64 s.len,.int .i64 s.off,.slice s.A s.cells.length s.cap] 33 (0,0))]) (λz=>z.1<=s.cells.length) (λz=>s.cells.length-z.1) (0,A1,cap1) (Td _) ?_ ?_ ?_
  ·exact zc1
  ·have e0:X9 s.sch 0=[]++Y0 wordS [s.sch.len,s.sch.off]:=by unfold X9;simp
   rw[e0]
   unfold bdP
   exact YbM
  rintro⟨i,A2,cap2⟩ hi K hK
  dsimp only at hi⊢
  have htl:=Wy hfr i hi
  by_cases hlt:i<s.cells.length
  ·have hget:s.cells[i]? =some (Yj s.sch i):=YM (s:=s.sch) hlt
   have hnc:=hnm.2 _ (Z0 (s:=s.sch) hlt)
   have hln:=XR (w:=wordC) hnc
   have hr':Rd B w0 (bdP gb (.pointer (some ⟨gb,0,none⟩)) A2 cap2 (X9 s.sch i) [blk gs (.cells #[.int .i64 s.len,.int .i64 s.off,.slice s.A s.cells.length s.cap] 33 (0,0))]) s.A (s.cells.flatMap celF):=hr.cons.cons.cons
   repeat'(first|((apply Yb YsG);exact za;exact rfl;exactλ_ hw=>(Yae _ hw))|(apply Vt T (e:=3);(iterate 3 exact rfl))|refine zgd ?_|(refine zge ?_ ?_<;>intro _<;>try exact zo)|(refine zgh ?_;intro _)|fail)
   rename_i gc ga
   have hra:∀X,Rd B w0 (blk ga (.cells (celF (Yj s.sch i)).toArray 203 (0,0))::X) (some ⟨ga,0,none⟩) ((nums (Yj s.sch i)).flatMap numF):=λX=>Rd.blk (cs:=(celF (Yj s.sch i)).toArray) (.head _)
   apply Yb YsF
   exact za
   exact rfl
   exactλ_ hw=>(Yft wordC (nums (Yj s.sch i)) hnc (by show 5<=100;decide) (by decide) ht (hra _) hw)
   apply Zh (bdP gb (.pointer (some ⟨gb,0,none⟩)) A2 cap2 (X9 s.sch i) [blk gs (.cells #[.int .i64 s.len,.int .i64 s.off,.slice s.A s.cells.length s.cap] 33 (0,0))])
   ·exactλw hw=>hw.tail.tail
   have h5n:(nums (Yj s.sch i)).length=5:=rfl
   have h4w:wordC.length=4:=rfl
   apply Yg _ en80
   exact za
   exact rfl
   exactλ_ hw=>(J4 gb _ (.inr rfl) A2 cap2 (X9 s.sch i) (Y0 wordC (nums (Yj s.sch i))) (by omega) (hw))
   rintro _ _ ⟨rfl,A3,cap3,rfl⟩
   rw[<-Ot hlt]
   refine zX10 ?_
   apply hK (i+1,A3,cap3)
   ·show i+1<=s.cells.length
    omega
   ·exact zc50
   ·exact zc1
   exact zc21
  ·refine zX0 ?_<;>intros
   apply Yg _ en84
   exact za
   exact rfl
   exactλ_ hw=>(Oq (l:=X9 s.sch i) (.inr rfl) (hw))
   rintro _ _ ⟨rfl,rfl⟩
   refine zX2 ?_
   apply YH;(iterate 3 exact rfl)
   rw[Xq,Tj (by simp[hf])]
   rw[show i=s.sch.cells.length from(by have:s.sch.cells.length=s.cells.length:=rfl;omega),show X9 s.sch s.sch.cells.length=Yea s.sch from(by unfold X9 Yea;rw[TI])]
theorem Wp(s:SchM)(ht:TabsB B w0)(hr:Rd B w0 H s.A (s.cells.flatMap celF))(hl:s.cells.length<=1000000000000)(hw:St B w0 H w):
 CX B w0 82 [s.val] w λv K=>v=.tuple #[strV (Xq s.sch).1,.int .i64 (Xq s.sch).2]/\K=H:=
 WW hw (Yqh s (ht.here hw) (hr.here hw) hl (St.start w))
open Go.RowKit Go.Eng Go.Nw Go.Rt
variable {n:Net}
theorem YgX(h:Yl n=0)(a b:Int):J5 n (Zj n a b)=YX n a b:=by
 have hok:=YO h
 unfold J5 Zj
 rw[Tj (by simp[h]),Tf h,RD]
 by_cases h1:0<=Yq n a b
 ·have h2:=XV h1
  rw[Tf ⟨h1,by omega⟩,RD,YbH hok h2]
  grind [Oa]
 simp_all [decide_eq_false,YX]
def YcA(n:Net)(i:Nat):Lk:=((lnk n i).1,(lnk n i).2.1,(lnk n i).2.2+1)
def Z2(n:Net)(k:Nat):List Lk:=(List.range k).flatMap λi=>if Jg n i=true then [YcA n i]else []
def JO(n:Net):List Lk:=Z2 n n.links.length
variable {k:Nat}
theorem YcC(h:Jg n k=true):Z2 n (k+1)=Z2 n k++[YcA n k]:=by
 grind [Z2,Rq]
theorem Ye1(h:Jg n k=false):Z2 n (k+1)=Z2 n k:=by
 grind [Z2,Rq]
theorem Wb(n:Net):∀k,(Z2 n k).length<=k
 |0=>by simp[Z2]
 |k+1=>by
  have:=Wb n k
  grind [Jg,Ye1,YcC]
theorem Yir{a:Lk}:a∈Z2 n k↔∃i,i<k/\Jg n i=true/\YcA n i=a:=by
 unfold Z2
 grind
theorem Ylw(h:Ok n){nodes:Nat}(hn:n.nodes=nodes):ArcsOk nodes (JO n):=by
 intro a ha
 obtain⟨i,hi,_,rfl⟩:=Yir.1 ha
 have hl:=h.lk i hi
 have h1:=hl.f0;have h2:=hl.f1;have h3:=hl.t0;have h4:=hl.t1;have h5:=hl.l0;have h6:=hl.l1
 grind [YcA]
def offE(n:Net)(a:Int):Bool:=decide (a<0\/n.nodes<=a)
def Zp(n:Net)(s t:Int):Int:=if Yl n≠0 then 1 else if offE n s=true\/offE n t=true\/s=t then 2 else 0
def Ov(r:List Int):Bool:=(List.range r.length).any λi=>(r.take i).contains (r.getD i 0)
def J8(n:Net)(r:List Int):Bool:=(List.range (r.length-1)).any λi=>!YX n (r.getD i 0) (r.getD (i+1) 0)
def JD(n:Net)(s t:Int)(r:List Int):Int:=
 if r.length<2 then 9 else if 9<r.length then 8 else if r.any (offE n)=true then 2 else if r.getD 0 0≠s\/r.getD (r.length-1) 0≠t then 11
 else if Ov r=true then 6 else if J8 n r=true then 17 else 0
def Q9(n:Net)(a b:Int):Int:=(lnk n (Yq n a b).toNat).2.2
def Wf(n:Net)(r:List Int):Nat->Int
 |0=>0
 |k+1=>Wf n r k+(Q9 n (r.getD k 0) (r.getD (k+1) 0)+1)
def Yo6(n:Net)(r:List Int):Int:=Wf n r (r.length-1)
def YgZ(n:Net)(r:List Int):Int×Int:=
 if Yl n≠0 then(0,1)else
  let e:=JD n (r.getD 0 0) (r.getD (r.length-1) 0) r
  if e≠0 then(0,e)else(Yo6 n r,0)
def Xu(n:Net)(s t:Int)(r:List Int):Int:=if Zp n s t≠0 then Zp n s t else JD n s t r
theorem Xl{l:List Int}{i:Nat}(h:i<l.length):l[i]? =some (l.getD i 0):=by
 simp_all
theorem Yb6(h:Ok n)(a b:Int):0<=Q9 n a b/\Q9 n a b<=7:=by
 unfold Q9
 by_cases hi:(Yq n a b).toNat<n.links.length
 ·have:=h.lk _ hi
  exact⟨this.l0,this.l1⟩
 grind [lnk]
theorem Ye8{n:Net}(h:Ok n)(r:List Int):∀k,0<=Wf n r k/\Wf n r k<=8*k
 |0=>by simp[Wf]
 |k+1=>by
  have h1:=Ye8 h r k
  have h2:=Yb6 h (r.getD k 0) (r.getD (k+1) 0)
  grind [Wf]
end Go.Proofs.YtjommdkgfbhbdaaGreatDoor
namespace Go.Eng
open Go.RowKit
inductive OV where
 |done
 |p1 (i:Nat) (t:OV)
 |d1 (i:Nat) (t:OV)
 |d2 (i:Nat) (t:OV) (j:Nat) (u:OV)
section
variable {P:Program}{n:Shp}{B:Nat}{w0:World}{Q:Exit->Act->World->Prop}{env:Env}{H:List HP}{ops:Array Oper}
def wpD(P:Program)(ops:Array Oper)(K:Act->World->Prop)(o:Oper)(a:Act)(w:World):Prop:=
 if Region.wanted o (yielded ops a.tmps)then o.wp P a w K (λ_ _ _=>False)else K (a.put o.dst undef) w
def Zz(P:Program)(ops:Array Oper)(l:List Oper)(Q:Exit->Act->World->Prop)(S:World->Prop):OV->Act->World->Prop
 |.done,a,w=>Q .normal a w
 |.p1 i t,a,w=>Yv P ops (λe a w=>match e with|.normal=>S w/\Zz P ops l Q S t a w|_=>False) S [nthO l i] a w
 |.d1 i t,a,w=>wpD P ops (λa w=>S w/\Zz P ops l Q S t a w) (nthO l i) a w
 |.d2 i t j u,a,w=>wpD P ops (λa w=>S w/\Zz P ops l Q S t a w) (nthO l i) a w/\wpD P ops (λa w=>S w/\Zz P ops l Q S u a w) (nthO l j) a w
def Wz(ops:Array Oper)(last:List Nat):OV->Array Bool->Nat->Bool
 |.done,listed,0=>Vq ops last listed
 |.done,_,_+1=>false
 |.p1 i t,listed,k+1=>!last.contains i&&(match ops[i]? with
  |some o=>!eff o&&((Region.ready .any ops listed).contains i&&Region.free .any ops listed i)
  |none=>false)&&Wz ops last t (listed.setIfInBounds i true) k
 |.d1 i t,listed,k+1=>!last.contains i&&(ops[i]?).isSome&&decide (Region.ready .any ops listed=[i])&&Wz ops last t (listed.setIfInBounds i true) k
 |.d2 i t j u,listed,k+1=>!last.contains i&&!last.contains j&&(ops[i]?).isSome&&(ops[j]?).isSome&&((Region.ready .any ops listed).all λx=>x==i||x==j)&&!(Region.ready .any ops listed).isEmpty&&Wz ops last t (listed.setIfInBounds i true) k&&Wz ops last u (listed.setIfInBounds j true) k
 |.p1 _ _,_,0=>false
 |.d1 _ _,_,0=>false
 |.d2 _ _ _ _,_,0=>false
variable {i:Nat}{o:Oper}{a:Act}{w:World}
theorem YcP{S:World->Prop}{K:Act->World->Prop}{last:List Nat}{k:Nat}{listed:Array Bool}(ho:ops[i]? =some o)
 (h:wpD P ops K o a w) (hk:∀a w,K a w->S w/\Zl P ops Q S last k (listed.setIfInBounds i true) a w):
 wpOp P ops Q i (λa' w'=>(last.contains i=false->S w')/\Zl P ops Q S last k (listed.setIfInBounds i true) a' w') a w:=by
 unfold wpD at h
 unfold wpOp
 simp only[ho]
 by_cases hw:Region.wanted o (yielded ops a.tmps)=true
 ·rw[Tn hw]at h⊢
  exact .inl (Oper.wp_mono_noQ (λ_ _ _ h=>h) zc54 (Oper.wp_mono (λa' w' h'=>⟨λ_=>(hk a' w' h').1,(hk a' w' h').2⟩) h))
 grind
theorem Vp{S:World->Prop}{last:List Nat}(hs:Region.noSelect ops=true)(hQ:∀c (a:Act) (w:World),¬Q (.panic c) a w)(hlo:¬LetsOut Q)(l:List Oper)(hl:ops=l.toArray)(hlast:Ydt ops last=true):
 ∀(t:OV) (k:Nat) (listed:Array Bool) (a:Act) (w:World),Closed ops listed->Wz ops last t listed k=true->S w->Zz P ops l (Jp P ops Q (Yc l last)) S t a w->
  Zl P ops Q S last (k+last.length) listed a w
 |.done,0,listed,a,w,_,hB,_,h=>by
  exact Yt1
 |.done,_+1,_,_,_,_,hB,_,_=>by cases hB
 |.p1 _ _,0,_,_,_,_,hB,_,_=>by cases hB
 |.d1 _ _,0,_,_,_,_,hB,_,_=>by cases hB
 |.d2 _ _ _ _,0,_,_,_,_,hB,_,_=>by cases hB
 |.p1 i t,k+1,listed,a,w,hcl,hB,hS,h=>by
  simp only[Wz,Tq]at hB
  obtain⟨⟨h0,h1⟩,h2⟩:=hB
  have hno:last.contains i=false:=by simp_all
  cases ho:ops[i]? with
  |none=>simp_all
  |some o=>
   rw[ho]at h1
   have hget:=Xx hl ho
   unfold Zz at h
   rw[hget]at h
   rw[Sv]
   simp only[Tq,R9]at h1
   obtain⟨he,h3,h4⟩:=h1
   unfold Yv at h
   rw[Tj (by simp_all)]at h
   obtain⟨v,hy,h5⟩:=h
   have hr:i∈Region.ready .any ops listed:=by simp_all
   exact JN ho (Region.noSelect_spec hs) hQ ((V3 hlast).2 i o ho he hno) hno _ listed a w hcl (Region.free_spec ho h4) hr hy hS (Vp hs hQ hlo l hl hlast t k _ _ w (hcl.set hr) h2 hS h5.2)
 |.d1 i t,k+1,listed,a,w,hcl,hB,hS,h=>by
  simp only[Wz,Tq,Tm]at hB
  obtain⟨⟨⟨h0,h1⟩,h3⟩,h2⟩:=hB
  obtain⟨o,ho⟩:=Option.isSome_iff_exists.1 h1
  unfold Zz at h
  rw[Xx hl ho]at h
  rw[Sv]
  refine⟨λh0=>(by simp_all),λj hj=>?_⟩
  have hj':=hj
  rw[h3]at hj
  obtain rfl:j=i:=by simp_all
  exact YcP ho h λa w ⟨hS',h'⟩=>⟨hS',Vp hs hQ hlo l hl hlast t k _ a w (hcl.set hj') h2 hS' h'⟩
 |.d2 i t j u,k+1,listed,a,w,hcl,hB,hS,h=>by
  simp only[Wz,Tq]at hB
  obtain⟨⟨⟨⟨⟨⟨⟨b1,b2⟩,b3⟩,b4⟩,b5⟩,b6⟩,b7⟩,b8⟩:=hB
  obtain⟨o,ho⟩:=Option.isSome_iff_exists.1 b3
  obtain⟨o',ho'⟩:=Option.isSome_iff_exists.1 b4
  unfold Zz at h
  rw[Xx hl ho,Xx hl ho']at h
  rw[Sv]
  refine⟨λh0=>(by simp_all),λx hx=>?_⟩
  have h5:=TL.1 b5 x hx
  simp only[RH,NB]at h5
  rcases h5 with rfl|rfl
  ·exact YcP ho h.1 λa w ⟨hS',h'⟩=>⟨hS',Vp hs hQ hlo l hl hlast t k _ a w (hcl.set hx) b7 hS' h'⟩
  ·exact YcP ho' h.2 λa w ⟨hS',h'⟩=>⟨hS',Vp hs hQ hlo l hl hlast u k _ a w (hcl.set hx) b8 hS' h'⟩
structure VV(P:Program)(n:Shp)(B:Nat)(w0:World)(ops:Array Oper)(l:List Oper)(Q:Exit->Act->World->Prop)(t:OV)(env:Env)(H F:List HP):Prop where
 run:∀a,Fits n a env->∀w,St B w0 (H++F) w->Zz P ops l Q (St B w0 H) t a w
def U7(P:Program)(B:Nat)(w0:World)(ops:Array Oper)(l:List Oper)(Q:Exit->Act->World->Prop)(Hc:List HP)(t:OV):Exit->Act->World->Prop
 |.normal,a,w=>St B w0 Hc w/\Zz P ops l Q (St B w0 Hc) t a w
 |_,_,_=>False
variable {l:List Oper}{t:OV}
theorem Yod:U7 P B w0 ops l Q H t=λe a w=>match e with|.normal=>St B w0 H w/\Zz P ops l Q (St B w0 H) t a w|_=>False:=by
 funext e a w
 cases e<;>rfl
theorem Yld(h:wpList P ops (U7 P B w0 ops l Q H t) [o] a w):wpD P ops (λa w=>St B w0 H w/\Zz P ops l Q (St B w0 H) t a w) o a w:=by
 have hno:¬LetsOut (U7 P B w0 ops l Q H t):=zc54
 unfold wpList at h
 unfold wpD
 by_cases hw:Region.wanted o (yielded ops a.tmps)=true
 ·rw[Tn hw]at h⊢
  rcases h with h|⟨_,h⟩
  ·exact Oper.wp_mono_noQ (λ_ _ _ h=>h) hno (Oper.wp_mono (λa' w' h'=>h') h)
  simp_all
 ·rw[Tj hw]at h⊢
  exact h
variable {F HF Hc:List HP}
theorem Yrr(happ:App H F HF)(h:VQ n B w0 Q .normal env HF):VV P n B w0 ops l Q .done env H F:=
 ⟨λa ha w hw=>by exact Ymq⟩
theorem Ylu(ho:nthO l i=o)(h:VL P (some (some F)) n B w0 ops (U7 P B w0 ops l Q H t) [o] env H):VV P n B w0 ops l Q (.p1 i t) env H F:=by
 refine⟨λa ha w hw=>?_⟩
 have h1:Yv P ops (U7 P B w0 ops l Q H t) (St B w0 H) [o] a w:=h.run a ha w hw
 grind [Zz,Yod]
theorem Yls(ho:nthO l i=o)(happ:App H F HF)(h:VL P none n B w0 ops (U7 P B w0 ops l Q H t) [o] env HF):VV P n B w0 ops l Q (.d1 i t) env H F:=by
 refine⟨λa ha w hw=>?_⟩
 unfold Zz
 rw[ho]
 rw[<-YaA happ]at hw
 exact Yld (h.run a ha w hw)
theorem Ylt{j:Nat}{u:OV}{o':Oper}(ho:nthO l i=o)(ho':nthO l j=o')(happ:App H F HF)(h:VL P none n B w0 ops (U7 P B w0 ops l Q H t) [o] env HF)
 (h':VL P none n B w0 ops (U7 P B w0 ops l Q H u) [o'] env HF):VV P n B w0 ops l Q (.d2 i t j u) env H F:=by
 refine⟨λa ha w hw=>?_⟩
 unfold Zz
 rw[ho,ho']
 rw[<-YaA happ]at hw
 exact⟨Yld (h.run a ha w hw),Yld (h'.run a ha w hw)⟩
theorem QF{H':List HP}(hp:Pull Hc H' F)(h:VV P n B w0 ops l Q t env Hc F):VQ n B w0 (U7 P B w0 ops l Q Hc t) .normal env H':=
 ⟨λa w ha hw=>⟨(hw.perm hp).prefix_,h.run a ha w (hw.perm hp)⟩⟩
theorem Qz{id:Nat}(t:OV)(last:List Nat)(mask:List Bool)(hm:P.follows .mixedOrders=true)
 (hB:(Region.noSelect l.toArray&&decide (last.length<=l.toArray.size)&&Ydt l.toArray last&&Wz l.toArray last t (Array.replicate l.toArray.size false) (l.toArray.size-last.length))=true)
 (hsp:Split mask H Hc F) {l2:List Oper}(hl2:Yc l last=l2) (h:VV P n B w0 l.toArray l (Jp P l.toArray (Only Q) l2) t env Hc F):VC P n B w0 (.region id l.toArray true) Q env H:=by
 simp only[Tq,Tm]at hB
 obtain⟨⟨⟨h1,h2⟩,h3⟩,h5⟩:=hB
 refine⟨λa w ha hw=>ZX (Q:=Only Q) ?_ λe a w h=>by exact zc72⟩
 have hst:St B w0 (Hc++F) w.drew:=(hw.perm (XU hsp)).drew
 have hr:=h.run a ha w.drew hst
 rw[<-hl2]at hr
 have:=Vp (S:=St B w0 Hc) h1 (λc a w h=>h) zc54 l rfl h3 t _ _ a w.drew (X5 _ _) h5 hst.prefix_ hr
 exact YqW
end
end Go.Eng
namespace Go.Proofs.YtjommdkgfbhbdaaGreatDoor
open Go.RowKit Go.Eng Go.Nw
variable {l:List Flw}
theorem YpB{id:Int}(h:0<=ZB l id):∃f∈l,f.1=id:=by
 have:=(Vz (λf:Flw=>decide (f.1=id)) l 0 (SK _)).1 h
 simp_all
theorem YaL{nodes:Int}(h:(YB nodes l).2=0):∀f∈l,0<=f.1/\f.1<=255/\1<=f.2.2.2.1/\f.2.2.2.1<=512:=by
 intro f hf
 obtain⟨i,hi⟩:=TP.1 hf
 have hl:=(Tu.1 hi).1
 unfold YB at h
 split at h
 ·cases h
 split at h
 ·cases h
 have:=YI.1 h i (Td _) (by omega)
 unfold YP at this
 have e:Xa l i=f:=by grind [Xa]
 split at this
 ·omega
 ·grind [Xi]
structure Val(n:Net)(l:List Flw)(s:Sch):Prop where
 whole:XC n l s=0
 cells:(X8 n l s).2=0
 twice:(Zy s).2=0
 dist:(YcQ n s).2=0
variable {n:Net}{s:Sch}
theorem Jh:(schE n l s).2=0↔Val n l s:=by
 unfold schE
 by_cases h1:XC n l s≠0
 ·rw[Tn h1]
  exact⟨λh=>absurd h h1,λh=>absurd h.whole h1⟩
 rw[Tj h1]
 by_cases h2:(X8 n l s).2≠0
 ·rw[Tn h2]
  exact⟨λh=>absurd h h2,λh=>absurd h.cells h2⟩
 rw[Tj h2]
 by_cases h3:(Zy s).2≠0
 ·rw[Tn h3]
  exact⟨λh=>absurd h h3,λh=>absurd h.twice h3⟩
 rw[Tj h3]
 exact⟨λh=>⟨Rw.1 h1,Rw.1 h2,Rw.1 h3,h⟩,λh=>h.dist⟩
theorem Ox(h:XC n l s=0):Yl n=0/\(YB n.nodes l).2=0/\Zw s=true/\(∀f∈l,s.len.tmod f.2.2.2.1=0)/\s.cells.length<=512:=by
 unfold XC at h
 grind
theorem Val.frm(h:Val n l s):Frm s:=by
 obtain⟨h1,h2,h3,h4,h5⟩:=Ox h.whole
 have hok:=YO h1
 have k1:=YI.1 h.cells
 have hids:=YaL h2
 have hn:=hok.n1
 have hcell:∀i,i<s.cells.length->XK s (Yj s i)=true/\YX n (YF (Yj s i)) (toC (Yj s i))=true/\0<=ZB l (XE (Yj s i))/\(0<i->Xg (Yj s (i-1)) (Yj s i)=true):=λi hi=>by
  have:=k1 i (Td _) (by omega)
  unfold ZJ at this
  grind
 refine⟨h3,h5,λc hc=>?_,?_⟩
 ·obtain⟨i,hi⟩:=TP.1 hc
  obtain⟨a1,a2,a3,_⟩:=hcell i (Tu.1 hi).1
  rw[Zi hi]at a1 a2 a3
  have hg:=Xo hok a2
  obtain⟨f,hf,hfe⟩:=YpB a3
  grind [YF,toC,XE,XJ,insE]
 ·refine Yaf (lt:=Xg) (λh1 h2=>Ju h1 h2) λi a b ha hb=>?_
  grind [Zi]
open Go.RowKit Go.Eng Go.Nw Go.Rt
abbrev YcB(A:Option Addr)(cap:Nat)(l:List Lk):HP:=sl 268 3 A l.length cap (l.flatMap lkF)
theorem Ym1(A:Option Addr)(cap:Nat)(l:List Lk)(a:Lk):sl 268 3 A (l.length+1) cap (l.flatMap lkF++#[Value.int .i64 a.1,.int .i64 a.2.1,.int .i64 a.2.2].toList)=YcB A cap (l++[a]):=by simp[YcB,List.flatMap_append,lkF]
theorem Ye2(n:NetM){B:Nat}{w0:World}{H:List HP}{w:World}(hin:n.In B w0 H)(hck:Yl n.net=0)(hw:St B w0 H w):
 CX B w0 237 [n.val] w λv K=>∃A cap,v=.slice A (JO n.net).length cap/\K=YcB A cap (JO n.net)::H:=by
 have hok:=YO hck
 obtain⟨hpw,hrw,hlk,hmg,hs1,hs2,hs3,hs4⟩:=id hin
 have hk0:n.links.length<=128:=hok.k0
 refine Ya Tryz.func237 Tryz.ntmps237 rfl rfl hw ?_
 (apply Xc;apply YW;apply YR;exact rfl;exact rfl;intro g)
 refine zX7 ?_
 refine You (λ(k:Nat) (A:Option Addr) (cap:Nat)=>[(9,.int .i64 k),(8,.int .i64 n.links.length),(7,.slice n.lA n.links.length n.lcap),(3,.slice A (Z2 n.net k).length cap),(1,.pointer (some ⟨g,0,none⟩))])
  (λk A cap=>YcB A cap (Z2 n.net k)::netB g n::H) (λk _ _=>k<=n.links.length) (λk _ _=>n.links.length-k) 0 none 0 (Td _) ?_ (λw hw=>hw.nilSlice _ _) ?_
 ·exact zc1
 rintro k A cap hk K hK
 have hal:=Wb n.net k
 by_cases hlt:k<n.links.length
 ·have hlx:n.links[k]? =some (lnk n.net k):=Oe n.net hlt
  have hus:J5 n.net (k:Int)=Jg n.net k:=by
   unfold J5
   have e7:n.net.links=n.links:=rfl
   rw[Tf hck,e7,Tf (by omega)]
   rfl
  have hl:=hok.lk k hlt
  have h5:=hl.l0
  have h6:=hl.l1
  have hU:=λ{H:List HP}{w:World}(hin:n.In B w0 H) (hw:St B w0 H w)=>Uf n (k:Int) hin hw
  rw[hus]at hU
  cases hu:Jg n.net k
  ·rw[hu]at hU
   have e2:=Ye1 hu
   repeat'(first|((apply Yb Ybi);exact za;exact rfl;exactλ_ hw=>(hU (((hin.cons).cons).cons) hw))|refine zgd ?_|(refine zge ?_ ?_<;>intro _<;>try exact zo)|(refine zgh ?_;intro _)|fail)
   apply hK (k+1) A cap
   ·omega
   ·omega
   ·rw[e2];exact zc1
   ·rw[e2];exact Yax
  ·rw[hu]at hU
   have e2:=YcC hu
   repeat'(first|((apply Yb Ybi);exact za;exact rfl;exactλ_ hw=>(hU (((hin.cons).cons).cons) hw))|refine zgd ?_|(refine zge ?_ ?_<;>intro _<;>try exact zo)|(refine zgh ?_;intro _)|(refine zgi ?_;intro _ _)|fail)
   rename_i A3 cap3
   apply hK (k+1) A3 cap3
   ·omega
   ·omega
   ·rw[e2,Tt,T9];exact zc1
   ·rw[e2,show YcB A3 cap3 (Z2 n.net k++[YcA n.net k])=sl 268 3 A3 ((Z2 n.net k).length+1) cap3 ((Z2 n.net k).flatMap lkF++#[Value.int .i64 (lnk n.net k).1,Value.int .i64 (lnk n.net k).2.1,Value.int .i64 ((lnk n.net k).2.2+1)].toList) from(Ym1 A3 cap3 _ (YcA n.net k)).symm]
    exact zc0
 ·obtain rfl:k=n.links.length:=by omega
  clear hK
  refine zX0 ?_<;>intros
  apply Yf (YcB A cap (JO n.net)::H)
  ·exactλw hw=>(hw.perm (.cons _ (.drop _ _)))
  apply Yd;exact rfl;exact rfl
  exact⟨A,cap,rfl,rfl⟩
def cpN(n:Net)(node:Int)(d:Cel):Int:=powN n (YF d) node+powN n (toC d) node
def sumC(n:Net)(node:Int)(l:List Cel):Int:=(l.map (cpN n node)).sum
theorem Yjd(n:Net)(node:Int):sumC n node []=0:=rfl
theorem ZG(n:Net)(node:Int)(d:Cel)(l:List Cel):sumC n node (d::l)=cpN n node d+sumC n node l:=by grind [sumC]
theorem YbG(n:Net)(node:Int):∀l m:List Cel,sumC n node (l++m)=sumC n node l+sumC n node m
 |[],m=>by grind [Yjd]
 |d::l,m=>by rw[TA,ZG,ZG,YbG n node l m];omega
variable {n:Net}
theorem Yqy(h:Ok n)(node:Int){l m:List Cel}(hs:l.Sublist m):sumC n node l<=sumC n node m:=by
 induction hs with
 |slnil=>omega
 |@cons l m d _ ih=>
  rw[ZG]
  have h1:=JH h (YF d) node
  have h2:=JH h (toC d) node
  grind [cpN]
 |cons_cons d _ ih=>simp_all [ZG]
theorem YcT{n:Net}{l:List Cel}(hnd:l.Nodup){j:Nat}{c:Cel}(hj:l[j]? =some c)(node:Int):∀k,k<=l.length->Yu n l j node k=sumC n node ((l.take k).filter λd=>decide (d≠c))
 |0,_=>rfl
 |k+1,hk=>by
  obtain⟨d,hd⟩:∃d,l[k]? =some d:=⟨_,Ta hk⟩
  have hc:celL l k=d:=by grind [celL]
  unfold Yu
  rw[YcT hnd hj node k (by omega),TB,hd,SI,YbG,hc]
  by_cases e:k=j
  ·simp_all [sumC]
  ·have hne:d≠c:=by grind [Rn]
   simp_all [ZG,Yjd,cpN]
def UP(n:Net)(l:List Cel)(c:Cel)(node:Int):Int:=sumC n node (l.filter λd=>Y9 c d&&decide (d≠c))
def VW(n:Net)(l:List Cel)(c:Cel):Bool:=XQ n (mar n (Yq n (YF c) (toC c)).toNat) (UP n l c (toC c))&&XQ n (mar n (Yq n (toC c) (YF c)).toNat) (UP n l c (YF c))
variable {s:Sch}
theorem YcR(hck:Yl n=0)(hf:Fine n s)(ho:Ord s.cells){i:Nat}(hi:i<s.cells.length):Z8 n s i=!(VW n s.cells (Yj s i)):=by
 rw[YhI hck hf hi]
 have hnd:=YfA ho
 have hat:=On hi
 have hsub:(Yz s i).Sublist s.cells:=SO
 have hnds:=hnd.sublist hsub
 have hc:celL (Yz s i) (YC s i)=Yj s i:=by grind [celL]
 have hd:∀node,Yu n (Yz s i) (YC s i) node (Yz s i).length=UP n s.cells (Yj s i) node:=by simp_all [YcT,UP,Yz,Bool.and_comm]
 have hg:=hf.good _ (Z0 hi)
 have hto:((List.range (Yz s i).length).any λk=>decide (k≠YC s i)&&Yx (celL (Yz s i) (YC s i)) (celL (Yz s i) k))=false:=by
  have hpw:(Yz s i).Pairwise λa b=>Yx a b=false:=zc43
  rw[RE]
  intro k hk
  have hk:=TQ.1 hk
  by_cases e:k=YC s i
  ·simp_all
  ·have hpk:=Rn.1 hpw
   have e1:celL (Yz s i) k=(Yz s i)[k]:=by grind [celL]
   grind [Jn]
 grind [VA,VW]
structure Sem(n:Net)(l:List Flw)(s:Sch):Prop where
 ck:Yl n=0
 fl:(YB n.nodes l).2=0
 per:∀f∈l,s.len.tmod f.2.2.2.1=0
 frm:Frm s
 good:∀c∈s.cells,YX n (YF c) (toC c)=true/\0<=ZB l (XE c)
 once:s.cells.Pairwise λa b=>a.1=b.1->Yx a b=false
 clear:∀c∈s.cells,VW n s.cells c=true
variable {l:List Flw}
theorem Ylc(h1:Yl n=0)(h2:(YB n.nodes l).2=0)(h3:Zw s=true)(h4:∀f∈l,s.len.tmod f.2.2.2.1=0)(h5:s.cells.length<=512):XC n l s=0:=by
 unfold XC
 grind
theorem YjW(hf:Frm s)(hg:∀c∈s.cells,YX n (YF c) (toC c)=true/\0<=ZB l (XE c)):(X8 n l s).2=0:=by
 refine YI.2 λk _ hk=>?_
 have hk:k<s.cells.length:=by omega
 have hm:=Z0 hk
 have hfo:=hf.formed _ hm
 unfold XJ at hfo
 simp only[Tq]at hfo
 obtain⟨g1,g2⟩:=hg _ hm
 unfold ZJ
 rw[hfo.1.1.1,Tj (by decide),g1,Tj (by simp_all),Tj]
 rintro⟨h1,h2⟩
 have:=Yf8 (TL.2 λi hi=>by
  have h:=XF.2 hf
  unfold Xd at h
  simp only[Tq]at h
  exact TL.1 h.2 i hi) hk
 simp_all [Zn]
theorem Yla(h:s.cells.Pairwise λa b=>a.1=b.1->Yx a b=false):(Zy s).2=0:=by
 refine YI.2 λk _ hk=>?_
 have hk:k<s.cells.length:=by omega
 have hb:Za s k=false:=by
  unfold Za
  rw[RE]
  intro i hi
  have hi:=TQ.1 hi
  have e1:Yj s i=s.cells[i]'(by omega):=Zi (Ta _)
  have e2:Yj s k=s.cells[k]:=Zi (Ta hk)
  have:=Rn.1 h i k (by omega) hk hi
  simp_all [Jn]
 simp_all
theorem Vb:Val n l s↔Sem n l s:=by
 constructor
 ·intro h
  obtain⟨h1,h2,h3,h4,h5⟩:=Ox h.whole
  have hf:=h.frm
  have hfine:=Ygm h.cells h.twice
  have k1:=YI.1 h.cells
  have k3:=YI.1 h.dist
  refine⟨h1,h2,h4,hf,λc hc=>⟨hfine.good c hc,?_⟩,hfine.once,λc hc=>?_⟩
  ·obtain⟨i,hi⟩:=TP.1 hc
   grind [ZJ,Zi]
  ·obtain⟨i,hi⟩:=TP.1 hc
   have hl:=(Tu.1 hi).1
   have:=k3 i (Td _) (by omega)
   simp_all [YcR,Go.Proofs.YtjommdkgfbhbdaaGreatDoor.Frm.ord,Zi]
 ·intro h
  refine⟨Ylc h.ck h.fl h.frm.sized h.per h.frm.few,YjW h.frm h.good,Yla h.once,YI.2 λk _ hk=>?_⟩
  have hk:k<s.cells.length:=by omega
  simp only[YcR h.ck ⟨λc hc=>(h.good c hc).1,h.once⟩ h.frm.ord hk,h.clear _ (Z0 hk)]
  rfl
theorem Ydh(h:Ok n){s d e:Int}(he:e<=d)(hd:XQ n s d=true):XQ n s e=true:=by
 unfold XQ at hd⊢
 have h2:=h.t0
 have h3:n.thr*(n.noise+e)<=n.thr*(n.noise+d):=SN (by omega) (by omega)
 grind
theorem Sem.sub{t:Sch}(h:Sem n l s)(h1:t.len=s.len)(h2:t.off=s.off)(hs:t.cells.Sublist s.cells):Sem n l t:=by
 have hok:=YO h.ck
 have hlen:=hs.length_le
 have hfew:=h.frm.few
 refine⟨h.ck,h.fl,by rw[h1];exact h.per,⟨?_,by omega,λc hc=>?_,h.frm.ord.sublist hs⟩,λc hc=>h.good c (hs.subset hc),h.once.sublist hs,λc hc=>?_⟩
 ·have:=h.frm.sized
  grind [Zw]
 ·have:=h.frm.formed c (hs.subset hc)
  grind [XJ,XK]
 ·have:=h.clear c (hs.subset hc)
  unfold VW at this⊢
  simp only[Tq]at this⊢
  have hd:∀node,UP n t.cells c node<=UP n s.cells c node:=λnode=>Yqy hok node (hs.filter _)
  exact⟨Ydh hok (hd _) this.1,Ydh hok (hd _) this.2⟩
variable {B:Nat}{w0 w:World}{H:List HP}
theorem US(n:NetM)(s t:Int)(hin:n.In B w0 H)(hw:St B w0 H w):
 CX B w0 236 [n.val,.int .i64 s,.int .i64 t] w λv K=>v=.int .i64 (Zp n.net s t)/\K=H:=by
 refine Ya Tryz.func236 Tryz.ntmps236 rfl rfl hw ?_
 have e7:n.net.nodes=n.nodes:=rfl
 unfold Zp offE
 rw[e7]
 by_cases h0:Yl n.net=0
 rotate_left
 ·rw[Tn h0]
  refine zX49 ?_<;>intros
  all_goals((repeat apply Yi);exact zc3)
 rw[Tj (λh=>h h0)]
 have hck:=λ{H:List HP}{w:World}(hin:n.In B w0 H) (hw:St B w0 H w)=>Y4 n hin hw
 rw[h0]at hck
 simp only[Tm]
 by_cases h1:(s<0\/n.nodes<=s)\/(t<0\/n.nodes<=t)\/s=t
 ·rw[Tn h1]
  repeat'(first|((apply Yb XM);exact za;exact rfl;exactλ_ hw=>(hck hin.cons hw))|refine zgd ?_|(refine zgf ?_ ?_<;>intro _<;>try exact zo)|(refine zgh ?_;intro _)|fail)
  all_goals((repeat apply Yi);apply Yd;exact rfl;exact rfl;exact⟨rfl,rfl⟩)
 ·rw[Tj h1]
  repeat'(first|((apply Yb XM);exact za;exact rfl;exactλ_ hw=>(hck hin.cons hw))|refine zgc ?_|(refine zgf ?_ ?_<;>intro _<;>try exact zo)|(refine zgh ?_;intro _)|fail)
  all_goals((repeat apply Yi);apply Yd;exact rfl;exact rfl;exact⟨rfl,rfl⟩)
theorem Yd2(k:Nat){A:Option Addr}{cap:Nat}(hk:k<=9223372036854775807)(hw:St B w0 H w):
 CX B w0 239 [.slice A k cap] w λv K=>v=.int .i64 (if 9<k then 21 else 0)/\K=H:=by
 refine Ya Tryz.func239 Tryz.ntmps239 rfl rfl hw ?_
 by_cases h:9<k
 ·rw[Tn h]
  refine zX1 ?_<;>intros
  exact zc24
 ·rw[Tj h]
  refine zX1 ?_<;>intros
  exact zc24
theorem YhT(n:NetM)(a:Int)(g:Nat)(hm:netB g n∈H)(hw:St B w0 H w):
 CX B w0 284 [.int .i64 a,.pointer (some ⟨g,0,none⟩)] w λv K=>v=.bool (offE n.net a)/\K=H:=by
 refine Ya Tryz.func284 Tryz.ntmps284 rfl rfl hw ?_
 have e7:n.net.nodes=n.nodes:=rfl
 unfold offE
 rw[e7]
 by_cases h:a<0\/n.nodes<=a
 ·rw[Tf h]
  repeat'(first|refine zgd ?_|(refine zgf ?_ ?_<;>intro _<;>try exact zo)|fail)
  all_goals(apply Yd;exact rfl;exact rfl;simp_all)
 ·rw[Ti h]
  repeat'(first|refine zgc ?_|(refine zgf ?_ ?_<;>intro _<;>try exact zo)|fail)
  all_goals(apply Yd;exact rfl;exact rfl;exact⟨rfl,rfl⟩)
def OutS(H:List HP)(R:Sch×Int)(v:Value)(K:List HP):Prop:=∃A cap,v=.tuple #[.agg #[.int .i64 R.1.len,.int .i64 R.1.off,.slice A R.1.cells.length cap],.int .i64 R.2]/\K=cels A cap R.1.cells::H
variable {H:List HP}
theorem Ur{R:Sch×Int}{v:Value}(e:Int)(hR:R=(ZC,e))(hv:v=.tuple #[.agg #[.int .i64 0,.int .i64 0,.slice none 0 0],.int .i64 e]):OutS H R v (cels none 0 []::H):=⟨none,0,by rw[hR];exact hv,by rw[hR];rfl⟩
theorem Jv(l:List Cel)(hlen:l.length<=1000000){A:Option Addr}{cap B:Nat}{w0:World}{w:World}(hr:Rd B w0 H A (l.flatMap celF))(hw:St B w0 H w):
 CX B w0 155 [.slice A l.length cap] w λv K=>∃A' cap',v=.slice A' l.length cap'/\K=cels A' cap' l::H:=by
 cases A with
 |none=>
  have hl:l=[]:=by
   cases l with
   |nil=>rfl
   |cons x l=>
    exact zc46
  subst hl
  refine Ya Tryz.func155 Tryz.ntmps155 rfl rfl hw ?_
  refine zX6 ?_
  apply ZQ 162 5;exact zc59
 |some a=>
  refine Ya Tryz.func155 Tryz.ntmps155 rfl rfl hw ?_
  repeat'(first|(apply Js;(iterate 3 exact rfl))|(apply YK T;exact rfl;exact rfl;intro g2)|refine zgb ?_|fail)
  apply Xt T (f:=celF) (l2:=l) (e:=162) (size:=5) (xs:=[]);(iterate 3 exact rfl);exact hr.cons;exact(λ_=>rfl);exact(λ_=>rfl);exact rfl;(intro _ _;exact zd);omega;intro A' cap'
  exact zc73
end Go.Proofs.YtjommdkgfbhbdaaGreatDoor
