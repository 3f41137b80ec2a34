/- Lemmas for the claim, part 13. -/
import Derived.Lib.OthersKept
import Derived.Lib.AppendStr
import Derived.Laws.Externs
import Derived.Laws.CopyRow
import Derived.Lib.AppendZerosOnto
import Derived.Lib.Overlaps
import Derived.Sort.OwnSortedInts
import Derived.Lib.AppendIntMem
import Derived.WideLaws
import Derived.Lib.SmallJoins
import Derived.Lib.Builder
import Derived.Test.YtaholidehobiiaaGreatDoorQ11
import Derived.Test.YtaholidehobiiaaGreatDoorQ12
set_option maxRecDepth 100000
set_option maxHeartbeats 8000000
set_option linter.all false
namespace Go.Eng
open Go.RowKit
section
variable {P:Program}{m:Mode}{n:Shp}{B:Nat}{w0:World}{ops:Array Oper}{Q:Exit->Act->World->Prop}{rest:List Oper}{env:Env}{H:List HP}{d:Nat}{ty:TypeId}{pos:String}{after:Array Edge}
theorem Yan(T:Tab P){t g o k e size:Nat}{x:Operand}(hx:evo env x=some (.pointer (some ⟨g,o,none⟩)))(ht:look T.ar t=some (k,e,size))(hn:Nat.ble (d+1) n.k=true)
 (h:VL P m n B w0 ops Q rest ((d,.slice (some ⟨g,o,none⟩) k k)::env) H):
 VL P m n B w0 ops Q (⟨some d,.slice t x none none none,ty,pos,after,none⟩::rest) env H:=by
 obtain⟨inf,hu,hinf,hs⟩:=YiQ (T.arra ht)
 refine YF rfl rfl hn rfl (λa w ha hw=>?_) h
 simp[execOp,ha.eval hx,Instr.sliceAt,Instr.sliceBounds,Instr.sureAddr,run_underlying hu,sizeOf,typeInfo,hinf,Addr.add_lit]
theorem YiN:∀(L:List HP),App L [] L
 |[]=>rfl
 |_::L=>⟨rfl,YiN L⟩
theorem XA{id:Nat}{l:List Oper}(o1 last:List Nat)(hm:P.follows .mixedOrders=true)
 (hB:(Region.noSelect l.toArray&&decide ((o1++last).length=l.toArray.size)&&Ygo l.toArray last&&(o1.all λj=>!last.contains j)&&WU l.toArray (o1++last) (Array.replicate l.toArray.size false))=true)
 {l1 l2:List Oper}(hl1:Yh l o1=l1) (hl2:Yh l last=l2) (h:VL P (some (some [])) n B w0 l.toArray (Jx P l.toArray (Only Q) l2) l1 env H):VC P n B w0 (.region id l.toArray true) Q env H:=by
 simp only[Tq,Tt]at hB
 obtain⟨⟨⟨⟨h1,h2⟩,h3⟩,h4⟩,h5⟩:=hB
 refine⟨λa w ha hw=>Ja (Q:=Only Q) ?_ λe a w h=>by cases e<;>first|exact h|cases h⟩
 have hst:St B w0 (H++[]) w.drew:=by rw[Ro];exact hw.drew
 have hr:Yv P l.toArray (Jx P l.toArray (Only Q) l2) (St B w0 H) l1 a w.drew:=h.run a ha w.drew hst
 rw[<-hl1,<-hl2]at hr
 have:=Un (S:=St B w0 H) h1 (λc a w h=>h) (by rintro⟨_,_,h⟩;exact h) l rfl h3 o1 _ a w.drew (Za _ _) (λj hj=>by simpa using TF.1 h4 j hj) h5 hst.prefix_ hr
 rw[h2]at this
 exact V3 hm (Z9 _ _ _ _ this)
end
section
variable {P:Program}{B:Nat}{w0 w:World}{H:List HP}
variable {f:Nat}{xs:Array Value}
theorem OA{Φ:Value->Prop}(hw:St B w0 H w)(h:Calls P f xs w (Post w.heap.size w λu _=>Φ u)):Calls P f xs w (Post B w0 λu K=>Φ u/\K=H):=
 h.mono λ_ _ ⟨u,_,e1,hst,hΦ⟩=>⟨u,H,e1,hw.grow hst.below,hΦ,rfl⟩
theorem Yk4{u:Value}(hw:St B w0 H w)(h:Calls P f xs w λe w'=>e=.returned u/\Below w.heap.size w w'):Calls P f xs w (Post B w0 λv K=>v=u/\K=H):=
 h.mono λ_ _ ⟨e1,hb⟩=>⟨u,H,e1,hw.grow hb,rfl,rfl⟩
variable {A:Option Addr}
theorem Rd.here{xs:List Value}(hr:Rd B w0 H A xs)(hw:St B w0 H w):Rd w.heap.size w [] A xs:=Rd.old λj v hv=>by
 obtain⟨g,o,e1,hc⟩:=hr w hw j v hv
 refine⟨g,o,e1,?_,hc⟩
 rcases Su g w.heap.size with h|h
 ·exact h
 ·simp[World.cell?,Array.getElem?_eq_none h]at hc
theorem Perm.openT(H:List HP):Perm [many H] H:=by
 have:=Perm.open_ H []
 rwa [Ro]at this
theorem Perm.closeT(H:List HP):Perm H [many H]:=by
 have:=Perm.close H []
 rwa [Ro]at this
theorem Rd.tail{xs:List Value}(h:Rd B w0 H A xs):Rd B w0 [many H] A xs:=h.mono λ_ hw=>hw.perm (.openT _)
end
theorem Yfd{P:Program}(w:World)(t u ty e:TypeId)(i:TypeInfo)(ht:P.underlying t=some (.slice e))(hu:P.underlying u=some .string)(hi:P.info? e=some i)(hz:i.zero=some (.int .u8 0))
 (hsize:i.size=1) (hby:i.bytes=1) (v:Value) (n:Nat) (xs:List Value) (hown:w.ownsRow 0 e 1 v n xs) (s:ByteArray) (hb:n+s.size<=1000000000):
 ∃v' w',(Builtin.append_ #[t,u] ty #[v,.string s]).run P w=.ok v' w'/\w'.ownsRow 0 e 1 v' (n+s.size) (xs++Lib.strCells s)/\w.grownBy w' v.ownBlock/\∀b,v'.ownBlock=some b->v.ownBlock=some b\/w.heap.size<=b:=by
 have hm:n+s.size<=maxLen:=by simp only[maxLen];omega
 obtain⟨v',w',h1,h2,h3,_⟩:=Lib.run_append_own_string (P:=P) w 0 t u ty e i ht hu hi hz hsize hby v n xs hown s hm (by omega) (Tm _)
 refine⟨v',w',h1,h2,h3,λb hbb=>?_⟩
 rcases hown.2 with⟨rfl,rfl⟩|⟨g,cap,cur,rfl,hbg,hg,hnc,hcm,hcs,htake⟩
 ·right
  obtain⟨v2,w2,k1,k2,_⟩:=Lib.run_append_own_string (P:=P) w w.heap.size t u ty e i ht hu hi hz hsize hby (.slice none 0 0) 0 xs ⟨hown.1,.inl ⟨rfl,rfl⟩⟩ s hm (by omega) (TJ _)
  rw[h1]at k1
  obtain⟨rfl,rfl⟩:v'=v2/\w'=w2:=by simpa using k1
  rcases k2.2 with⟨e1,_⟩|⟨g',_,_,e1,e2,_⟩
  ·rw[e1]at hbb;cases hbb
  ·rw[e1]at hbb
   simp only[Value.ownBlock,Rw]at hbb
   omega
 ·have hcs':cur.size=cap:=by simpa using hcs
  have hxl:xs.length=n:=by simpa using hown.1
  by_cases hroom:n+s.size<=cap
  ·have k1:=Lib.run_append_room_string (P:=P) w t u ty e i ht hu hi hsize g n cap cur hg s hroom (by omega)
   rw[h1]at k1
   obtain⟨rfl,_⟩:=(Result.ok.injEq _ _ _ _).mp k1
   exact .inl hbb
  ·have holds:∀j u,xs[j]? =some u->w.cell? ((⟨g,0,none⟩:Addr).add j)=some u:=hown.cells (g:=g) rfl
   have k1:=Lib.run_append_grow_string (P:=P) w t u ty e i (.int .u8 0) ht hu hi hz ⟨g,0,none⟩ n cap xs (by rw[hsize];simpa using hxl) holds s (by omega) (by omega) (by rw[hby];exact growslice_fits (by omega) (by omega))
   rw[h1]at k1
   obtain⟨rfl,_⟩:=(Result.ok.injEq _ _ _ _).mp k1
   right
   simp only[Value.ownBlock,Rw]at hbb
   omega
section
variable {P:Program}{m:Mode}{n:Shp}{B d:Nat}{w0:World}{ops:Array Oper}{Q:Exit->Act->World->Prop}{rest:List Oper}{env:Env}{H:List HP}{ty:TypeId}{pos:String}{after:Array Edge}{x y:Operand}
def Ydi(P:Program)(e:TypeId):Bool:=match P.info? e with|some i=>(match i.zero with|some (.int .u8 0)=>true|_=>false)&&i.size==1&&i.bytes==1|none=>false
theorem Yfe{e:TypeId}(h:Ydi P e=true):∃i,P.info? e=some i/\i.zero=some (.int .u8 0)/\i.size=1/\i.bytes=1:=by
 unfold Ydi at h
 split at h
 ·rename_i i hi
  simp only[Tq,S5]at h
  refine⟨i,hi,?_,h.1.2,h.2⟩
  have h1:=h.1.1
  split at h1
  ·assumption
  ·cases h1
 ·cases h
theorem Yg1(T:Tab P){t tt k cap e bytes:Nat}{A:Option Addr}{s:ByteArray}{xs:List Value}{K:Option Addr->Nat->List HP}(hx:evo env x=some (.slice A k cap))(hy:evo env y=some (.string s))(ht:look T.sl t=some (e,1,bytes))(hbi:Ydi P e=true)(htt:look T.st tt=some ())
 (hn:Nat.ble (d+1) n.k=true) (hu:∀A' cap',Upd (sl e 1 A k cap xs) (sl e 1 A' (k+s.size) cap' (xs++Lib.strCells s)) H (K A' cap')) (hb:k+s.size<=1000000000)
 (h:∀A' cap',VL P none n B w0 ops Q rest ((d,.slice A' (k+s.size) cap')::env) (K A' cap')):
 VL P none n B w0 ops Q (⟨some d,.call ⟨.builtin .append,#[x,y],#[t,tt]⟩,ty,pos,after,none⟩::rest) env H:=by
 obtain⟨hut,_⟩:=YJ (T.slic ht)
 obtain⟨i,hi,hz,hs1,hb1⟩:=Yfe hbi
 have hst:P.underlying tt=some .string:=T.strs htt
 refine XO (λv K'=>∃A' cap',v=.slice A' (k+s.size) cap'/\K'=K A' cap') rfl rfl hn (λa w ha hw=>?_) (by rintro _ _ ⟨A',cap',rfl,rfl⟩;exact h A' cap')
 have hmem:sl e 1 A k cap xs∈H:=by
  obtain⟨L1,L2,rfl,_⟩:=hu none 0
  simp
 have hown:=hw.sl hmem
 obtain⟨v',w',hrun,hown',hgrow,hat⟩:=Yfd (P:=P) w t tt ty e i hut hst hi hz hs1 hb1 (.slice A k cap) k xs hown s hb
 have hshape:∃A' cap',v'=.slice A' (k+s.size) cap':=by
  rcases hown'.2 with⟨e1,e2⟩|⟨g',c',_,e1,_⟩
  ·exact⟨none,0,by rw[e1,e2]⟩
  ·exact⟨_,_,e1⟩
 obtain⟨A',cap',rfl⟩:=hshape
 refine⟨_,K A' cap',w',by simp[execOp,resolve,invoke,builtin,ha.eval hx,ha.eval hy,hrun],?_,A',cap',rfl,rfl⟩
 refine hw.updN (hu A' cap') hgrow.os hgrow.tape hgrow.output hgrow.size λS1 ⟨_,hS⟩=>⟨⟨λb=>Value.ownBlock (.slice A' (k+s.size) cap')=some b,⟨hown',?_⟩,λb hb=>?_⟩,λb hb hlt=>hgrow.block b hlt (λe=>hb ?_)⟩
 ·rintro a rfl;rfl
 ·rcases hat b hb with e|e
  ·cases A with
   |none=>cases e
   |some a=>left;simp only[Value.ownBlock,Rw]at e;rw[<-e];exact hS a rfl
  ·right
   refine⟨e,?_⟩
   rcases hown'.2 with⟨e1,_⟩|⟨g',_,_,e1,_,e3,_⟩
   ·rw[e1]at hb;cases hb
   ·rw[e1]at hb
    simp only[Value.ownBlock,Rw]at hb
    subst hb
    exact(Si.1 e3).1
 ·cases A with
  |none=>cases e
  |some a=>simp only[Value.ownBlock,Rw]at e;rw[e];exact hS a rfl
end
end Go.Eng
namespace Go.Proofs.YtaholidehobiiaaGreatDoor
open Go.RowKit Go.Eng Go.Nw
def celF(c:Cel):List Value:=[.int .i64 c.1,.int .i64 c.2.1,.int .i64 c.2.2.1,.int .i64 c.2.2.2.1,.int .i64 c.2.2.2.2]
def celV(c:Cel):Value:=.agg #[.int .i64 c.1,.int .i64 c.2.1,.int .i64 c.2.2.1,.int .i64 c.2.2.2.1,.int .i64 c.2.2.2.2]
structure SchM where
 len:Int
 off:Int
 A:Option Addr
 cap:Nat
 cells:List Cel
def SchM.sch(s:SchM):Sch:=⟨s.len,s.off,s.cells⟩
def SchM.val(s:SchM):Value:=.agg #[.int .i64 s.len,.int .i64 s.off,.slice s.A s.cells.length s.cap]
theorem Ybi(a b:Cel):cmpV (nums a) (nums b)<0↔Xi a b=true:=by
 unfold cmpV Xi
 grind
theorem YqP(a b:Cel):cmpV (nums a) (nums b)=0↔a=b:=by
 unfold cmpV
 constructor
 ·intro h
  split at h
  ·cases h
  ·split at h
   ·cases h
   ·exact Yav (by grind [Xi]) (by grind [Xi])
 simp_all [Uo]
variable {B:Nat}{w0 w:World}{H:List HP}
theorem YaR(c:Cel)(hw:St B w0 H w):
 CX B w0 128 [celV c] w λv K=>v=celV c/\K=H:=by
 refine Yc Tryz.func128 Tryz.ntmps128 rfl rfl hw ?_
 refine zX26 ?_<;>intros
 (apply Yqz T (H2:=H);exact rfl;exact rfl;(focus exact zc2);exact rfl;exact rfl;(intro w hw;refine hw.perm ?_;focus exact zc3);exact⟨rfl,rfl⟩)
theorem YlT(a b:Cel)(hw:St B w0 H w):
 CX B w0 264 [celV a,celV b,.func (.func 128) #[] #[]] w λv K=>v=.int .i64 (cmpV (nums a) (nums b))/\K=H:=by
 refine Yc Tryz.func264 Tryz.ntmps264 rfl rfl hw ?_
 apply YY
 iterate 5 (first|refine zga ?_|(refine zgh ?_;intro _)|fail)
 apply Yhe
 apply YY
 refine Zf (λ(z:Nat×Nat)=>[(7,.pointer (some ⟨z.1,0,none⟩)),(8,.pointer (some ⟨z.2,0,none⟩))]) (λz=>blk z.1 (.cells (celF a).toArray 173 (0,0))::blk z.2 (.cells (celF b).toArray 173 (0,0))::H) ?_ ?_
 ·intro K hK
  apply Yak (.n1 0 (.n1 1 (.n1 3 (.n1 4 (.n3 2 (.n3 5 (.n2 6 (.n1 7 .done) 7 (.n1 6 .done)) 6 (.n2 5 (.n1 7 .done) 7 (.n1 5 .done)) 7 (.n2 5 (.n1 6 .done) 6 (.n1 5 .done))) 6 (.n2 2 (.n2 5 (.n1 7 .done) 7 (.n1 5 .done)) 7 (.n1 2 (.n1 5 .done))) 7 (.n2 2 (.n2 5 (.n1 6 .done) 6 (.n1 5 .done)) 6 (.n1 2 (.n1 5 .done)))))))) [8,9] [true,true]
  kernel_rfl
  kernel_rfl
  exact zy
  (simp only[Yh,nthO];rfl)
  repeat'(first|((first|apply Y3 (cs:=[])|apply Xo (cs:=[]));exact rfl;exact YqZ;exact za;exact rfl;exactλ_ hw=>(YaR _ hw))|(apply Yup;(simp only[nthO];rfl);(simp only[nthO];rfl);(simp only[nthO];rfl))|(apply YmK;(simp only[nthO];rfl);(simp only[nthO];rfl))|(apply YmJ;(simp only[nthO];rfl))|(apply Yap;try exact zl)|(apply Yl;try exact zl)|refine zgd ?_|(refine zgh ?_;intro _)|fail)
  all_goals(
   rename_i ga gb
   first
    |(refine hK (ga,gb) _ _ zu ?_;dsimp only[celF];exact zk;done)
    |(refine hK (gb,ga) _ _ zu ?_;dsimp only[celF];exact zk;done))
 rintro⟨g1,g2⟩
 dsimp only
 have hA:Rd B w0 (blk g1 (.cells (celF a).toArray 173 (0,0))::blk g2 (.cells (celF b).toArray 173 (0,0))::H) (some ⟨g1,0,none⟩) ((nums a).flatMap numF):=Rd.blk (cs:=(celF a).toArray) (.head _)
 have hB:Rd B w0 (blk g1 (.cells (celF a).toArray 173 (0,0))::blk g2 (.cells (celF b).toArray 173 (0,0))::H) (some ⟨g2,0,none⟩) ((nums b).flatMap numF):=Rd.blk (cs:=(celF b).toArray) (.tail _ (.head _))
 repeat'(first|(apply Yan T (e:=3);(iterate 3 exact rfl))|((first|apply Ya Yu3|apply Yb Yu3);exact za;exact rfl;exactλ_ hw=>(Yfh (nums a) (nums b) (by simp[nums]) (by simp[nums]) hA hB hw))|(apply zg28;refine zs84 ?_)|refine zgd ?_|fail)
 apply Yi H
 ·exact zc0
 exact zc24
theorem QA(a b:Cel)(hw:St B w0 H w):
 CX B w0 188 [celV a,celV b] w λv K=>v=.int .i64 (cmpV (nums a) (nums b))/\K=H:=by
 refine Yc Tryz.func188 Tryz.ntmps188 rfl rfl hw ?_
 repeat'(first|((first|apply Ya YuO|apply Yb YuO);exact za;exact rfl;exactλ_ hw=>(YlT a b hw))|(refine zs8 ?_)|((refine zs52 ?_;intro _))|refine zga ?_|fail)
 apply Yi H
 ·exact zc20
 exact zc24
theorem Ycd(x n:Int)(hw:St B w0 H w):
 CX B w0 262 [.int .i64 x,.int .i64 n] w λv K=>v=.bool (insE x n)/\K=H:=by
 refine Yc Tryz.func262 Tryz.ntmps262 rfl rfl hw ?_
 repeat'(first|refine zgd ?_|(refine zgf ?_ ?_<;>intro _<;>try exact zo)|fail)
 all_goals(
  apply Yd;exact rfl;exact rfl
  first
   |exact⟨by rw[show insE x n=true from Td (by omega)],rfl⟩
   |exact⟨by rw[show insE x n=false from Ti (by omega)],rfl⟩)
theorem Yci(s:SchM)(c:Cel)(hw:St B w0 H w):
 CX B w0 186 [s.val,celV c] w λv K=>v=.bool (ZT s.sch c)/\K=H:=by
 refine Yc Tryz.func186 Tryz.ntmps186 rfl rfl hw ?_
 repeat'(first|((first|apply Y9 Ynh|apply Y8 Ynh);exact za;exact rfl;exactλ_ hw=>(Ycd _ _ hw);all_goals(intro hB;(try simp only[Tt,TP]at hB);try exact zo))|refine zgd ?_|(refine zgh ?_;intro _)|fail)
 all_goals(
  apply Yi H
  ·exact zk
  apply Yd;exact rfl;exact rfl
  exact⟨by simp[ZT,SchM.sch, *],rfl⟩)
theorem Yb9(s:SchM)(c:Cel)(hw:St B w0 H w):
 CX B w0 224 [s.val,celV c] w λv K=>v=.bool (Jf s.sch c)/\K=H:=by
 refine Yc Tryz.func224 Tryz.ntmps224 rfl rfl hw ?_
 repeat'(first|((first|apply Y9 Oe|apply Y8 Oe);exact za;exact rfl;exactλ_ hw=>(Yci s c hw);all_goals(intro hB;(try simp only[Tt,TP]at hB);try exact zo))|((first|apply Y9 Ynh|apply Y8 Ynh);exact za;exact rfl;exactλ_ hw=>(Ycd _ _ hw);all_goals(intro hB;(try simp only[Tt,TP]at hB);try exact zo))|refine zgd ?_|(refine zgh ?_;intro _)|fail)
 all_goals(
  apply Yi H
  ·exact zk
  apply Yd;exact rfl;exact rfl
  exact⟨by simp[Jf, *],rfl⟩)
theorem YeF(s:SchM)(hw:St B w0 H w):
 CX B w0 83 [s.val] w λv K=>v=.bool (Jo s.sch)/\K=H:=by
 refine Yc Tryz.func83 Tryz.ntmps83 rfl rfl hw ?_
 have e1:s.sch.len=s.len:=rfl
 have e2:s.sch.off=s.off:=rfl
 repeat'(first|refine zgd ?_|(refine zgf ?_ ?_<;>intro _<;>try exact zo)|(refine zgh ?_;intro _)|fail)
 all_goals(
  apply Yi H
  ·exact zk
  apply Yd;exact rfl;exact rfl
  first
   |exact⟨by rw[show Jo s.sch=true from Td (by omega)],rfl⟩
   |exact⟨by rw[show Jo s.sch=false from Ti (by omega)],rfl⟩)
end Go.Proofs.YtaholidehobiiaaGreatDoor
namespace Go.Eng
open Go.RowKit
section
variable {P:Program}{m:Mode}{n:Shp}{B d:Nat}{w0:World}{ops:Array Oper}{Q:Exit->Act->World->Prop}{rest:List Oper}{env:Env}{H:List HP}{ty:TypeId}{pos:String}{after:Array Edge}{x y hi:Operand}
theorem Yft(w:World)(dT sT ty elem:TypeId)(g o dLen dCap size:Nat)(a:Addr)(sLen sCap:Nat)(cur:Array Value)(t:TypeId)(cs:List Value)
 (hu:P.underlying dT=some (.slice elem)) (hs:(P.info? elem).map (·.size)=some size)
 (hg:w.heap[g]? =some (.cells cur t (0,0))) (hn:cs.length=Nat.min sLen dLen*size)
 (hsrc:∀j v,cs[j]? =some v->w.cell? (a.add j)=some v) (hfit:o+cs.length<=cur.size) (h1:∀v∈cs,v.oneCell'=true):
 (Builtin.copy_ #[dT,sT] ty #[.slice (some ⟨g,o,none⟩) dLen dCap,.slice (some a) sLen sCap]).run P w=
  .ok (goInt (Nat.min sLen dLen)) (w.setRow g (cur.toList.take o++cs++cur.toList.drop (o+cs.length)).toArray):=by
 have hl:=run_firstCells_some (P:=P) w size (Nat.min sLen dLen) a sLen sCap cs hn hsrc
 have hst:=run_storeCells_at P g o t cs 0 cur w hg (by simpa using hfit) h1
 cases hq:P.info? elem with
 |none=>simp[hq]at hs
 |some i=>
  have hi:i.size=size:=by simpa [hq]using hs
  simp[Builtin.copy_,run_underlying hu,Builtin.lenOf,sizeOf,typeInfo,hq,hi,hl,hst]
variable {α:Type}
theorem Yua(l cs:List α)(o k k':Nat)(hk:k<=l.length)(ho:o<=k)(hfit:o+cs.length<=l.length)(hk':k'=max k (o+cs.length)):
 (l.take o++cs++l.drop (o+cs.length)).take k'=(l.take k).take o++cs++(l.take k).drop (o+cs.length):=by
 have hA:(l.take o++cs).length=o+cs.length:=by rw[To,TT];omega
 by_cases h:o+cs.length<=k
 ·rw[hk',Nat.max_eq_left h]
  exact Ykv l cs o k h hk
 ·rw[hk',Nat.max_eq_right (by omega),Nl,hA,NH,Nq,Ro,T0 (by omega),List.take_take,SO (by omega),Ru (by rw[TT];omega),Ro]
variable {t e size bytes o k cap kd cd mm c2:Nat}{A A2:Option Addr}{xs:List Value}{K:List HP}
theorem Yqk(T:Tab P){k':Nat}{ys:List Value}(hx:evo env x=some (.slice (subA A o cap size) kd cd))(hy:evo env y=some (.slice A2 mm c2))(hr:Rd B w0 H A2 ys)
 (hu:Upd (sl e size A k cap xs) (sl e size A k' cap (xs.take (o*size)++ys.take (min mm kd*size)++xs.drop (o*size+min mm kd*size))) H K) (ht:look T.sl t=some (e,size,bytes)) (hn:Nat.ble (d+1) n.k=true) (h1:∀v∈ys,v.oneCell'=true)
 (hA:∃g,A=some ⟨g,0,none⟩) (hb:o+kd<=cap/\0<min mm kd/\o<=k/\k'=max k (o+min mm kd)) (hyl:min mm kd*size<=ys.length)
 (h:VL P none n B w0 ops Q rest ((d,.int .i64 (min mm kd:Nat))::env) K):
 VL P none n B w0 ops Q (⟨some d,.call ⟨.builtin .copy,#[x,y],#[t,t]⟩,ty,pos,after,none⟩::rest) env H:=by
 obtain⟨hut,inf,z,hi,hz,hzs,hsi,hbi,hs0,hb0⟩:=YJ (T.slic ht)
 refine XO (λv K'=>v=.int .i64 (min mm kd:Nat)/\K'=K) rfl rfl hn (λa w ha hw=>?_) (by rintro _ _ ⟨rfl,rfl⟩;exact h)
 have hmem:sl e size A k cap xs∈H:=by
  obtain⟨L1,L2,rfl,_⟩:=hu
  simp
 obtain⟨hb1,hb2,hb3,hb5⟩:=hb
 rcases Ji (hw.sl hmem)with⟨rfl,_⟩|⟨g,cur,rfl,g1,g2,g3,g4,g5,g6⟩
 ·obtain⟨_,hA⟩:=hA;cases hA
 have hsub:subA (some ⟨g,0,none⟩) o cap size=some ⟨g,o*size,none⟩:=by
  unfold subA
  rw[Tf (by omega),Ss,Addr.add_lit,RH]
 obtain⟨c,hc⟩:∃c,min mm kd=c:=⟨_,rfl⟩
 rw[hc]at hu hb2 hb5 hyl
 have hcs:(ys.take (c*size)).length=c*size:=by rw[TT];omega
 have hpos:0<c*size:=Nat.mul_pos hb2 hs0
 have hsome:∃a2,A2=some a2/\∀j v,(ys.take (c*size))[j]? =some v->w.cell? (a2.add j)=some v:=by
  have h0:ys[0]? =some (ys[0]'(by omega)):=Ta (by omega)
  obtain⟨g2',o2,rfl,_⟩:=hr w hw 0 _ h0
  refine⟨_,rfl,λj v hj=>?_⟩
  rw[SE]at hj
  by_cases hjm:j<c*size
  ·rw[Tn hjm]at hj
   obtain⟨g3',o3,e3,hc⟩:=hr w hw j v hj
   injection e3 with e3
   injection e3 with e3 e4
   subst e3 e4
   rw[Addr.add_lit];exact hc
  ·rw[Tf hjm]at hj;cases hj
 obtain⟨a2,rfl,hsrc⟩:=hsome
 have hoc:o+c<=cap:=by
  have:c<=kd:=by rw[<-hc];exact Nat.min_le_right _ _
  omega
 have hfit:o*size+c*size<=cur.size:=by rw[g4,<-Sl];exact Ri _ hoc
 have hrun:=Yft (P:=P) w t t ty e g (o*size) kd cd size a2 mm c2 cur e (ys.take (c*size)) hut (by rw[hi];simp[hsi]) g1 (by rw[hcs];show c*size=min mm kd*size;rw[hc]) hsrc (by rw[hcs];exact hfit) (λv hv=>h1 v (SB hv))
 have hkl:k*size<=cur.toList.length:=by rw[Nv,g4];exact Ri _ g2
 have hok:o*size<=k*size:=Ri _ hb3
 have hmax:k'*size=max (k*size) (o*size+c*size):=by
  rw[hb5,<-Sl]
  rcases Nat.le_total k (o+c)with h|h
  ·rw[Nat.max_eq_right h,Nat.max_eq_right (Ri _ h)]
  ·rw[Nat.max_eq_left h,Nat.max_eq_left (Ri _ h)]
 refine⟨_,K,_,?_,hw.storeRow (k':=k') (o:=o*size) (vs:=ys.take (c*size)) hu rfl g1 g4 (by rw[hb5];exact Nat.max_le.2 ⟨g2,hoc⟩) g3 (by rw[hcs];exact hfit) ?_ ?_,rfl,rfl⟩
 ·simp only[execOp,resolve,invoke,builtin]
  have hmap:#[x,y].map a.eval=#[.slice (some ⟨g,o*size,none⟩) kd cd,.slice (some a2) mm c2]:=by simp[ha.eval hx,ha.eval hy,hsub]
  simp only[hmap,Sem.run_bind,Sem.run_pure,Result.andThen_ok]
  rw[hrun]
  simp[goInt]
 ·have:=Yua cur.toList (ys.take (c*size)) (o*size) (k*size) (k'*size) hkl hok (by rw[hcs,Nv];exact hfit) (by rw[hcs];exact hmax)
  rw[hcs]at this⊢
  rw[this,g5]
 ·rw[To,To,hcs,TT,Rq,g6,hmax]
  omega
theorem Zz(T:Tab P){f:α->List Value}(L M R:List α)(hx:evo env x=some (.slice (subA A o cap size) kd cd))(hy:evo env y=some (.slice A2 mm c2))(hr:Rd B w0 H A2 (M.flatMap f))(hq:∀a,(f a).length=size)(h1:∀a,Ju (f a)=true)
 (ht:look T.sl t=some (e,size,bytes)) (hn:Nat.ble (d+1) n.k=true) (hA:∃g,A=some ⟨g,0,none⟩) (hb:o+kd<=cap/\0<min mm kd/\o<=L.length/\min mm kd<=M.length) (hR:L.take o++M.take (min mm kd)++L.drop (o+min mm kd)=R)
 (hu:Upd (sl e size A L.length cap (L.flatMap f)) (sl e size A R.length cap (R.flatMap f)) H K)
 (h:VL P none n B w0 ops Q rest ((d,.int .i64 (min mm kd:Nat))::env) K):
 VL P none n B w0 ops Q (⟨some d,.call ⟨.builtin .copy,#[x,y],#[t,t]⟩,ty,pos,after,none⟩::rest) env H:=by
 have hlen:∀l:List α,(l.flatMap f).length=l.length*size:=λl=>by
  induction l with
  |nil=>simp
  |cons a l ih=>rw[TZ,To,ih,hq,TM,Nat.succ_mul,Nat.add_comm]
 have hRl:R.length=max L.length (o+min mm kd):=by
  rw[<-hR]
  simp only[To,TT,Rq]
  omega
 have hRf:R.flatMap f=(L.flatMap f).take (o*size)++(M.flatMap f).take (min mm kd*size)++(L.flatMap f).drop (o*size+min mm kd*size):=by
  rw[<-hR,RB,RB,XG hq,XG hq,Wp hq,Sl]
 rw[hRf]at hu
 refine Yqk T hx hy hr hu ht hn (λv hv=>?_) hA ⟨hb.1,hb.2.1,hb.2.2.1,hRl⟩ (by rw[hlen];exact Ri _ hb.2.2.2) h
 obtain⟨a,_,ha⟩:=RJ.1 hv
 exact Z0 (h1 a) v ha
theorem Ot(T:Tab P){tn i j:Nat}(hx:evo env x=some (.slice A i cap))(hy:evo env y=some (.int .i64 (j:Int)))(hm:sl e size A k cap xs∈H)(ht:look T.sl t=some (e,size,bytes))(htn:YlB P tn=true)(hn:Nat.ble (d+1) n.k=true)(hb:Nat.ble bytes 1000=true)
 (hk:i<=k/\0<k/\0<j/\cap<i+j/\i+j<=1000000)
 (h:∀g c,i+j<=c->VL P none n B w0 ops Q rest ((d,.slice (some ⟨g,0,none⟩) (i+j) c)::env) (sl e size (some ⟨g,0,none⟩) i c (xs.take (i*size))::H)):VL P none n B w0 ops Q (⟨some d,.call ⟨.builtin .append,#[x,y],#[t,tn]⟩,ty,pos,after,none⟩::rest) env H:=by
 obtain⟨hu,inf,z,hi,hz,hzs,hsi,hbi,hs0,hb0⟩:=YJ (T.slic ht)
 obtain⟨kn,hkn⟩:=YjF htn
 have hb':=TX hb
 refine XO (λv K=>∃g c,v=.slice (some ⟨g,0,none⟩) (i+j) c/\K=sl e size (some ⟨g,0,none⟩) i c (xs.take (i*size))::H/\i+j<=c) rfl rfl hn (λa w ha hw=>?_) (by rintro _ _ ⟨g,c,rfl,rfl,hc⟩;exact h g c hc)
 obtain⟨hk1,hk2,hk3,hk4,hk5⟩:=hk
 have hown:=hw.sl hm
 rcases Ji hown with⟨_,e0,_⟩|⟨g,cur,rfl,g1,g2,g3,g4,g5,g6⟩
 ·omega
 have hik:i*size<=k*size:=Ri _ hk1
 have hxl:(xs.take (i*size)).length=i*size:=by rw[TT];omega
 have hbj:(i+j)*inf.bytes<=1000000*1000:=Nat.mul_le_mul hk5 (by omega)
 have hbj2:j*inf.bytes<=(i+j)*inf.bytes:=Ri _ (by omega)
 have hold:(Builtin.firstCells inf.size i (.slice (some ⟨g,0,none⟩) i cap)).run P w.drew=.ok (xs.take (i*size)).toArray w.drew:=by
  rw[hsi]
  refine run_firstCells_some (P:=P) w.drew size i ⟨g,0,none⟩ i cap _ hxl λq v hq=>?_
  rw[SE]at hq
  split at hq
  ·obtain⟨g',e5,hc,_⟩:=Ya3 hown hq
   injection e5 with e5
   injection e5 with e5
   subst e5
   rw[Addr.add_lit,RH];exact hc
  ·cases hq
 have hrun:=Lib.run_append_grow_zeros (P:=P) w t tn ty e inf z .i64 kn hu hkn hi hz (some ⟨g,0,none⟩) i cap (xs.take (i*size)) hold j hk3 (by omega) hk4 (by omega) (by omega) (growslice_fits hk4 (by omega))
 have hge:=grownCap_ge w (i+j) cap e
 have hcm:grownCap w (i+j) cap e<=maxLen:=grownCap_le_maxLen w (i+j) cap e (by simp only[maxLen];omega)
 refine⟨_,_,_,by simp only[execOp,resolve,invoke,builtin,ha.eval hx,ha.eval hy,NA,Rh,Mc,Sem.run_bind,Sem.run_pure,hrun,Result.andThen_ok];rfl,?_,w.heap.size,grownCap w (i+j) cap e,rfl,rfl,hge⟩
 have h2:=hw.drew.alloc (.cells ((xs.take (i*size)).toArray++Builtin.zeroCells z.cells j++Builtin.zeroCells z.cells (grownCap w (i+j) cap e-(i+j))) e)
 refine h2.upd (Upd.here _) rfl rfl rfl (TJ _) λS1 ⟨h3,h4⟩=>⟨⟨⟨hxl,.inr ⟨w.heap.size,grownCap w (i+j) cap e,_,rfl,Tm _,h4,by omega,hcm,?_,?_⟩⟩,λa ha=>by cases ha;exact h3⟩,λ_ _ _=>rfl⟩
 ·rw[Array.size_append,Array.size_append,size_zeroCells,size_zeroCells,hzs,List.size_toArray,hxl,<-Sl,<-Sl]
  congr 1
  omega
 ·rw[Array.toList_append,Array.toList_append,TY,Nl,T0 (by simp[hxl]),List.toList_toArray,hxl,NH,Nq,Ro]
theorem Jb(T:Tab P){n':Nat}{ki:IntKind}{z:Int}(hx:evo env x=some (.slice A k cap))(hl:evo env hi=some (.int ki z))(ht:look T.sl t=some (e,size,bytes))(hn:Nat.ble (d+1) n.k=true)(hb:0<=z/\z<=cap)(hn':z.toNat=n')(hA:∃g,A=some ⟨g,0,none⟩)
 (h:VL P m n B w0 ops Q rest ((d,.slice A n' cap)::env) H):VL P m n B w0 ops Q (⟨some d,.slice t x none (some hi) none,ty,pos,after,none⟩::rest) env H:=by
 subst hn'
 obtain⟨g,rfl⟩:=hA
 refine YF rfl rfl hn rfl (λf w ha hw=>?_) h
 have hA:(if cap=0 then(some ⟨g,0,none⟩:Option Addr)else(some ⟨g,0,none⟩:Option Addr).map (·.add (0*size)))=some ⟨g,0,none⟩:=by
  simp[Addr.add_lit]
 have hb2:(Instr.sliceBounds true k cap none (some (.int ki z)) none).run P w=.ok (0,z.toNat,cap) w:=by
  simp[Instr.sliceBounds,Instr.sliceBound,asIntOf,hb.1,hb.2]
 have hr:=JZ T (A:=some ⟨g,0,none⟩) ht hb2
 rw[hA]at hr
 simp only[execOp,ha.eval hx,Ss,ha.eval hl,Option.map_none]
 simp[hr]
theorem Ybd{w:World}{gv g:Nat}{o:Obj}{R:List HP}(h:St B w0 (Eng.blk gv o::sl e size (some ⟨g,0,none⟩) k cap xs::R) w):gv≠g:=by
 obtain⟨S1,S2,_,_,hd,h4,h5⟩:=h.sep
 obtain⟨S3,S4,h6,_,_,h9,_⟩:=h5
 rintro rfl
 exact hd gv h4.1 (h6 _ (h9.2 _ rfl))
end
end Go.Eng
namespace Go.Proofs.YtaholidehobiiaaGreatDoor
open Go.RowKit Go.Eng Go.Nw
theorem YqK{s:Sch}{i:Nat}(hi:i<s.cells.length)(h:VN s i=false):XH s=false:=by
 unfold XH
 grind
theorem Yo1(s:SchM){B:Nat}{w0:World}{H:List HP}{w:World}(hr:Rd B w0 H s.A (s.cells.flatMap celF))(hl:s.cells.length<=1000000000000)(hw:St B w0 H w):
 CX B w0 126 [s.val] w λv K=>v=.bool (XH s.sch)/\K=H:=by
 refine Yc Tryz.func126 Tryz.ntmps126 rfl rfl hw ?_
 have e1:s.sch.cells=s.cells:=rfl
 repeat'(first|((first|apply Y9 en83|apply Y8 en83);exact za;exact rfl;exactλ_ hw=>(YeF s hw);all_goals(intro hB;(try simp only[Tt,TP]at hB);try exact zo))|refine zgd ?_|(refine zgf ?_ ?_<;>intro _<;>try exact zo)|(refine zgh ?_;intro _)|fail)
 ·apply Yi H
  ·exact zc0
  apply Yd;exact rfl;exact rfl
  exact⟨by rw[show XH s.sch=false by unfold XH;grind],rfl⟩
 rotate_left
 ·apply Yi H
  ·exact zc0
  apply Yd;exact rfl;exact rfl
  exact⟨by simp[XH, *],rfl⟩
 rename_i g _
 refine Yg (λ(i:Nat)=>[(17,.int .i64 i),(16,.int .i64 s.cells.length),(15,.slice s.A s.cells.length s.cap),(1,.pointer (some ⟨g,0,none⟩))]) (λ_=>blk g (.cells #[.int .i64 s.len,.int .i64 s.off,.slice s.A s.cells.length s.cap] 37 (0,0))::H) (λi=>i<=s.cells.length/\(List.range i).all (VN s.sch)=true) (λi=>s.cells.length-i) 0 ⟨Tm _,rfl⟩ ?_ (λw hw=>hw) ?_
 ·exact zc1
 rintro i ⟨hi,hall⟩ K hK
 have hr:=hr.cons (X:=blk g (.cells #[.int .i64 s.len,.int .i64 s.off,.slice s.A s.cells.length s.cap] 37 (0,0)))
 by_cases hlt:i<s.cells.length
 ·have hget:s.cells[i]? =some (Yn s.sch i):=Xg (s:=s.sch) hlt
  have hgo:VN s.sch i=false->XH s.sch=false:=YqK (s:=s.sch) hlt
  have hst:VN s.sch i=true->(List.range (i+1)).all (VN s.sch)=true:=λh=>by rw[Ydb,hall,h];rfl
  rcases Nj i with h0|h0
  ·subst h0
   repeat'(first|((first|apply Y9 Ync|apply Y8 Ync);exact za;exact rfl;exactλ_ hw=>(Yb9 s _ hw);all_goals(intro hB;(try simp only[Tt,TP]at hB);try exact zo))|(apply zg28;refine zs84 ?_)|refine zgd ?_|(refine zgf ?_ ?_<;>intro _<;>try exact zo)|(refine zgh ?_;intro _)|fail)
   ·apply hK (0+1)
    ·exact⟨by omega,hst (by simp[VN, *])⟩
    ·omega
    ·exact zc1
    ·exact zc0
   ·apply Yi H
    ·exact zc0
    apply Yd;exact rfl;exact rfl
    exact⟨by rw[hgo (by simp[VN, *])],rfl⟩
  ·have hget2:s.cells[((i:Int)-1).toNat]? =some (Yn s.sch (i-1)):=Yvv
   repeat'(first|((first|apply Y9 Ync|apply Y8 Ync);exact za;exact rfl;exactλ_ hw=>(Yb9 s _ hw);all_goals(intro hB;(try simp only[Tt,TP]at hB);try exact zo))|((first|apply Ya Ym8|apply Yb Ym8);exact za;exact rfl;exactλ_ hw=>(QA _ _ hw))|(apply zg28;refine zs84 ?_)|refine zgd ?_|(refine zgf ?_ ?_<;>intro _<;>try exact zo)|(refine zgh ?_;intro _)|fail)
   all_goals first
    |(apply hK (i+1)
      ·refine⟨by omega,hst ?_⟩
       have hc:cmpV (nums (Yn s.sch (i-1))) (nums (Yn s.sch i))<0:=by omega
       simp[VN,(Ybi _ _).1 hc, *]
      ·omega
      ·exact zu
      ·exact zk
      done)
    |(apply Yi H
      ·exact zk
      apply Yd;exact rfl;exact rfl
      refine⟨?_,rfl⟩
      rw[hgo]
      first
       |(simp[VN, *];done)
       |(have hc:¬cmpV (nums (Yn s.sch (i-1))) (nums (Yn s.sch i))<0:=by omega
         have hd:Xi (Yn s.sch (i-1)) (Yn s.sch i)=false:=by
          rw[Ybi]at hc
          simpa using hc
         simp[VN,hd]
         omega))
 ·refine zX1 ?_<;>intros
  apply Yi H
  ·exact zc0
  apply Yd;exact rfl;exact rfl
  refine⟨?_,rfl⟩
  rw[show i=s.cells.length by omega]at hall
  rw[show XH s.sch=true by unfold XH;rw[e1,hall,Td (by omega)];simp[*]]
abbrev ints(A:Option Addr)(cap:Nat)(l:List Int):HP:=sl 3 1 A l.length cap (l.flatMap numF)
theorem Yo9(A:Option Addr)(cap:Nat)(l:List Int)(z:Int):sl 3 1 A (l.length+1) cap (l.flatMap numF++#[Value.int .i64 z].toList)=ints A cap (l++[z]):=by simp_all [ints,numF]
variable {A:Option Addr}{cap B:Nat}{w0 w:World}{H:List HP}
theorem Ylz(l:List Int)(v:Int)(hlen:l.length<=9223372036854775807)(hr:Rd B w0 H A (l.flatMap numF))(hw:St B w0 H w):
 CX B w0 247 [.slice A l.length cap,.int .i64 v] w λu K=>u=.int .i64 (Ym (λx=>decide (v=x)) l 0)/\K=H:=by
 refine Yc Tryz.func247 Tryz.ntmps247 rfl rfl hw ?_
 refine zX8 ?_
 refine Yg (λ(k:Nat)=>[(8,.int .i64 k),(7,.int .i64 l.length),(0,.slice A l.length cap),(1,.int .i64 v)]) (λ_=>H) (λk=>k<=l.length/\Ym (λx=>decide (v=x)) l 0=Ym (λx=>decide (v=x)) (l.drop k) k) (λk=>l.length-k) 0 ⟨Tm _,by simp⟩ ?_ (λw hw=>hw) ?_
 ·exact zc1
 rintro k ⟨hk,hi⟩ K hK
 by_cases hlt:k<l.length
 ·obtain⟨a,ha⟩:∃a,l[k]? =some a:=⟨_,Ta hlt⟩
  rw[Z3 _ l ha]at hi
  repeat'(first|refine zgd ?_|(refine zge ?_ ?_<;>intro _<;>try exact zo)|fail)
  ·rename_i h
   rw[Tn (Td h)]at hi
   exact zc34
  ·rename_i h
   rw[Tf (by simp[h])]at hi
   refine zX9 ?_
   apply hK (k+1)
   ·grind
   ·omega
   ·exact zc1
   exact zc17
 ·refine zX1 ?_<;>intros
  exact zc27
theorem Yfj(l:List Int)(v:Int)(hlen:l.length<=9223372036854775807)(hr:Rd B w0 H A (l.flatMap numF))(hw:St B w0 H w):
 CX B w0 157 [.slice A l.length cap,.int .i64 v] w λu K=>u=.bool (decide (v∈l))/\K=H:=by
 refine Yc Tryz.func157 Tryz.ntmps157 rfl rfl hw ?_
 have hia:=JT (λx=>decide (v=x)) l 0 (by omega)
 repeat'(first|((first|apply Ya YuK|apply Yb YuK);exact za;exact rfl;exactλ_ hw=>(Ylz l v hlen hr hw))|(apply(zs20 ?_ ?_)<;>intro _<;>try(omega))|refine zga ?_|fail)
 all_goals(apply Yd;exact rfl;exact rfl)
 all_goals grind
theorem YpT{l:List Int}{k:Nat}{a:Int}(h:l[k]? =some a):l.take (k+1)=l.take k++[a]:=zc90
def inI(s:Sch)(slot:Int)(k:Nat):List Nat:=(List.range k).filter λi=>decide ((Yn s i).1=slot)
def inXs(s:Sch)(slot:Int):List (List Value):=(inI s slot s.cells.length).map λ(i:Nat)=>[Value.int .i64 (i:Int)]
variable {s:Sch}{slot:Int}{k B:Nat}
theorem YnB(h:(Yn s k).1=slot):inI s slot (k+1)=inI s slot k++[k]:=by
 grind [inI,Rx]
theorem Yrn(h:(Yn s k).1≠slot):inI s slot (k+1)=inI s slot k:=by
 grind [inI,Rx]
theorem Ytw{n:Nat}(h:(Yn s k).1=slot)(hk:k<n):(inI s slot n)[(inI s slot k).length]? =some k:=by
 obtain⟨m,rfl⟩:∃m,n=k+(m+1):=⟨n-k-1,by omega⟩
 have e:inI s slot (k+(m+1))=inI s slot k++((List.range (m+1)).map (k+·)).filter λi=>decide ((Yn s i).1=slot):=by
  grind [inI,List.range_add]
 simp_all [List.range_succ_eq_map]
theorem Qk{i:Nat}:i∈inI s slot k↔i<k/\(Yn s i).1=slot:=by
 grind [inI]
def schB(g:Nat)(s:SchM):HP:=blk g (.cells #[.int .i64 s.len,.int .i64 s.off,.slice s.A s.cells.length s.cap] 37 (0,0))
def intB(g:Nat)(x:Int):HP:=blk g (.cells #[.int .i64 x] 3 (0,0))
variable {w0:World}
theorem YjA(s:SchM)(slot:Int)(gs gt:Nat){HI:List HP}(hr:Rd B w0 HI s.A (s.cells.flatMap celF))(hl:s.cells.length<=1000000000000)
 (hms:blk gs (.cells #[.int .i64 s.len,.int .i64 s.off,.slice s.A s.cells.length s.cap] 37 (0,0))∈HI) (hmt:blk gt (.cells #[.int .i64 slot] 3 (0,0))∈HI):
 YcZ Tryz.prog 265 [.pointer (some ⟨gs,0,none⟩),.pointer (some ⟨gt,0,none⟩)] (inXs s.sch slot) B w0 HI:=by
 refine Yc0 Tryz.func265 Tryz.ntmps265 rfl rfl ?_
 intro l SS X hy L0 h0
 refine zX8 ?_
 refine Yg (λ(x:Nat×List HP)=>[(9,.int .i64 x.1),(8,.int .i64 s.cells.length),(7,.slice s.A s.cells.length s.cap),(0,.func (.yield l) #[] #[]),(1,.pointer (some ⟨gs,0,none⟩)),(2,.pointer (some ⟨gt,0,none⟩))]) (λx=>many x.2::HI) (λx=>x.1<=s.cells.length/\SS (inI s.sch slot x.1).length x.2) (λx=>s.cells.length-x.1) (0,L0) ⟨Tm _,h0⟩ ?_ (λw hw=>hw) ?_
 ·exact zc1
 rintro⟨i,L⟩ ⟨hi,hS⟩ K hK
 dsimp only at hi hS⊢
 have hr:=hr.cons (X:=many L)
 by_cases hlt:i<s.cells.length
 ·have hget:s.cells[i]? =some (Yn s.sch i):=Xg (s:=s.sch) hlt
  have hlt2:i<s.sch.cells.length:=hlt
  iterate 22 (first|refine zgd ?_|(refine zge ?_ ?_<;>intro _<;>try exact zo)|(refine zgh ?_;intro _)|fail)
  refine Yc1 7 rfl rfl zc96 ?_
  repeat'(first|refine zgd ?_|(refine zge ?_ ?_<;>intro _<;>try exact zo)|fail)
  ·rename_i g5 hs
   have hx:(inXs s.sch slot)[(inI s.sch slot i).length]? =some [.int .i64 (i:Int)]:=by
    rw[inXs,TR,Ytw hs hlt2];rfl
   have hY:=hy _ _ hx [blk g5 (.cells (celF (Yn s.sch i)).toArray 64 (0,0))] L hS
   apply Yc8 _ _ (hy:=hY)
   ·exact Ycv (j:=4) (s:=18) rfl rfl rfl
   ·exact rfl
   ·exact YsE
   ·exact rfl
   ·exact zc96
   ·rintro _ ⟨L',hS',rfl⟩
    refine zX2 ?_
    apply hK (i+1,L')
    ·exact⟨by omega,by rw[YnB hs,To];exact hS'⟩
    ·exact zc39
    ·exact zc1
    ·exact zc51
   ·rintro _ ⟨L',hX',rfl⟩
    refine zX2 ?_
    apply Yi (many L'::HI)
    ·exact zc51
    apply WH;exact rfl
    exact .inr ⟨L',hX',rfl⟩
  ·rename_i hs
   apply YiL zc96
   refine zX2 ?_
   apply hK (i+1,L)
   ·exact⟨by omega,by rw[Yrn hs];exact hS⟩
   ·exact zc39
   ·exact zc1
   ·exact zc51
 ·refine zX1 ?_<;>intros
  apply Vq;exact rfl
  rw[show i=s.cells.length by omega]at hS
  exact .inl ⟨L,by rw[inXs,TB];exact hS,rfl⟩
theorem YjB(s:SchM)(slot:Int){H:List HP}{w:World}(hw:St B w0 H w):
 CX B w0 189 [s.val,.int .i64 slot] w λv K=>∃gs gt,v=.func (.func 265) #[] #[.pointer (some ⟨gs,0,none⟩),.pointer (some ⟨gt,0,none⟩)]/\K=intB gt slot::schB gs s::H:=by
 refine Yc Tryz.func189 Tryz.ntmps189 rfl rfl hw ?_
 refine zX29 ?_<;>intros
 apply Yd;exact rfl;exact rfl
 exact⟨_,_,rfl,rfl⟩
end Go.Proofs.YtaholidehobiiaaGreatDoor
namespace Go.Eng
open Go.RowKit
variable {B cap:Nat}{w0:World}{H:List HP}{A:Option Addr}
theorem Qb{P:Program}{n:Shp}{Q:Exit->Act->World->Prop}{env:Env}{c:Code}{e size k:Nat}{xs:List Value}(hm:sl e size A k cap xs∈H)(h:k<=cap->VC P n B w0 c Q env H):VC P n B w0 c Q env H:=by
 refine⟨λa w ha hw=>?_⟩
 have hown:=hw.sl hm
 have hkc:k<=cap:=zc44
 exact(h hkc).run a w ha hw
end Go.Eng
namespace Go.Proofs.YtaholidehobiiaaGreatDoor
open Go.RowKit Go.Eng Go.Nw
theorem YeK(A:Option Addr)(cap size:Nat):subA A 0 cap size=A:=by
 simp_all [subA,Go.Addr.add]
theorem Yb5{α:Type}{f:α->List Value}{q:Nat}(hq:∀a,(f a).length=q):∀(l:List α) (i:Nat),i<l.length->(l.flatMap f).take (i*q)++(l.flatMap f).drop ((i+1)*q)=(l.eraseIdx i).flatMap f
 |x::l,0,_=>by
  simp_all
 |x::l,i+1,h=>by
  rw[TM]at h
  have ih:=Yb5 hq l i (by omega)
  have e1:(i+1)*q=(f x).length+i*q:=by grind
  have e2:(i+1+1)*q=(f x).length+(i+1)*q:=by grind
  rw[TZ,List.eraseIdx_cons_succ,TZ,e2,List.drop_length_add_append,<-ih,<-TY]
  grind
def cels(A:Option Addr)(cap:Nat)(l:List Cel):HP:=sl 64 5 A l.length cap (l.flatMap celF)
theorem YoC(A:Option Addr)(cap:Nat)(l:List Cel)(c:Cel):sl 64 5 A (l.length+1) cap (l.flatMap celF++celF c)=cels A cap (l++[c]):=by
 grind [cels]
theorem WK(A:Option Addr)(cap:Nat)(l:List Cel)(c:Cel):sl 64 5 A (l.length+1) cap (l.flatMap celF++#[Value.int .i64 c.1,.int .i64 c.2.1,.int .i64 c.2.2.1,.int .i64 c.2.2.2.1,.int .i64 c.2.2.2.2].toList)=cels A cap (l++[c]):=YoC A cap l c
theorem YjL(l:List Cel)(c:Cel):l.length+1=(l++[c]).length:=by simp
variable {B cap:Nat}{w0:World}{H:List HP}{A:Option Addr}
theorem Rd.cels{l:List Cel}(h:cels A cap l∈H):Rd B w0 H A (l.flatMap celF):=.sl h
theorem YiX{a b:Cel}(h:celF a=celF b):a=b:=by
 obtain⟨a1,a2,a3,a4,a5⟩:=a
 simp_all [celF]
section
variable {m:Eng.Mode}{n:Shp}{B d:Nat}{w0:World}{ops:Array Oper}{Q:Exit->Act->World->Prop}{rest:List Oper}{env:Env}{H:List HP}{ty:TypeId}{pos:String}{after:Array Edge}
variable {x y:Operand}
theorem YmB(a b:Cel)(hx:evo env x=some (.agg (celF a).toArray))(hy:evo env y=some (.agg (celF b).toArray))(hn:Nat.ble (d+1) n.k=true)
 (h1:a=b->VL Tryz.prog m n B w0 ops Q rest ((d,.bool true)::env) H) (h2:a≠b->VL Tryz.prog m n B w0 ops Q rest ((d,.bool false)::env) H):
 VL Tryz.prog m n B w0 ops Q (⟨some d,.binOp .eql 64 x y 64,ty,pos,after,none⟩::rest) env H:=
 YsX (xs:=celF a) (ys:=celF b) hx hy hn (by kernel_rfl) (by kernel_rfl) (λe=>h1 (YiX e)) (λe=>h2 λh=>e (by rw[h]))
theorem YmC(a b:Cel)(hx:evo env x=some (.agg (celF a).toArray))(hy:evo env y=some (.agg (celF b).toArray))(hn:Nat.ble (d+1) n.k=true)
 (h1:a≠b->VL Tryz.prog m n B w0 ops Q rest ((d,.bool true)::env) H) (h2:a=b->VL Tryz.prog m n B w0 ops Q rest ((d,.bool false)::env) H):
 VL Tryz.prog m n B w0 ops Q (⟨some d,.binOp .neq 64 x y 64,ty,pos,after,none⟩::rest) env H:=
 Yg0 (xs:=celF a) (ys:=celF b) hx hy hn (by kernel_rfl) (by kernel_rfl) (λe=>h1 λh=>e (by rw[h])) (λe=>h2 (YiX e))
end
variable {B:Nat}{w0:World}{H:List HP}
theorem NetM.In.mono{K:List HP}{n:NetM}(h:n.In B w0 H)(hH:∀w,St B w0 K w->St B w0 H w):n.In B w0 K:=
 ⟨h.pw.mono hH,λr hr=>(h.rw_ r hr).mono hH,h.lk.mono hH,h.mg.mono hH,h.s1,h.s2,h.s3,h.s4⟩
def fewE(n:Net):Bool:=decide ((∀r∈n.power,r.length<=40)/\n.power.length<=8/\n.links.length<=60/\n.margin.length<=60)
theorem YdH(n:NetM){w:World}(hin:n.In B w0 H)(hw:St B w0 H w):
 CX B w0 57 [n.val] w λv K=>v=.bool (fewE n.net)/\K=H:=by
 refine Yc Tryz.func57 Tryz.ntmps57 rfl rfl hw ?_
 obtain⟨hpw,hrw,hlk,hmg,hs1,hs2,hs3,hs4⟩:=id hin
 have e1:(∀r∈n.net.power,r.length<=40)↔∀r∈n.rows,r.xs.length<=40:=by simp[NetM.net]
 have e2:n.net.power.length=n.rows.length:=by simp[NetM.net]
 have e3:n.net.links=n.links:=rfl
 have e4:n.net.margin=n.margin:=rfl
 unfold fewE
 rw[e2,e3,e4]
 (apply YY;apply Yx;apply Yr;exact rfl;exact rfl;intro g)
 refine zX8 ?_
 refine Yg (λ(a:Nat)=>[(3,.int .i64 a),(1,.pointer (some ⟨g,0,none⟩))]) (λ_=>netB g n::H) (λa=>a<=n.rows.length/\∀j r,j<a->n.rows[j]? =some r->r.xs.length<=40) (λa=>n.rows.length-a) 0 ⟨Tm _,by intro j r hj;omega⟩ ?_ (λw hw=>hw) ?_
 ·exact zc1
 rintro a ⟨ha,hai⟩ K hK
 by_cases hlt:a<n.rows.length
 ·obtain⟨r,hr⟩:∃r,n.rows[a]? =some r:=⟨_,Ta hlt⟩
  have hs2r:=hs2 r (Tc hr)
  repeat'(first|refine zgd ?_|(refine zgf ?_ ?_<;>intro _<;>try exact zo)|fail)
  ·rename_i h
   apply Yj;apply Yd;exact rfl;exact rfl
   exact⟨by rw[Ti λhc=>by have:=e1.1 hc.1 r (Tc hr);omega],rfl⟩
  ·rename_i h
   apply hK (a+1)
   ·refine⟨by omega,λj q hj hq=>?_⟩
    by_cases e:j=a
    ·subst e;rw[hr]at hq;rw[<-Tv hq];omega
    ·exact hai j q (by omega) hq
   ·omega
   ·exact zc1
   exact zc17
 obtain rfl:a=n.rows.length:=by omega
 have hall:∀r∈n.rows,r.xs.length<=40:=λr hr=>by
  obtain⟨j,hj⟩:=List.getElem?_of_mem hr
  exact hai j r (Tj.1 hj).1 hj
 repeat'(first|refine zgd ?_|(refine zgf ?_ ?_<;>intro _<;>try exact zo)|fail)
 ·apply Yj;apply Yd;exact rfl;exact rfl
  exact⟨by rw[Td ⟨e1.2 hall,by omega,by omega,by omega⟩],rfl⟩
 all_goals(apply Yj;apply Yd;exact rfl;exact rfl;exact⟨by rw[Ti λhc=>by omega],rfl⟩)
def wordS:List UInt8:=[115,99,104,101,100,117,108,101]
def wordC:List UInt8:=[99,101,108,108]
def ZO(w:List UInt8)(l:List Int):List UInt8:=w++l.flatMap λn=>32::Lib.itoa n
def X0(w:List UInt8)(l:List Int):List UInt8:=ZO w l++[10]
def YkF(s:Sch):List UInt8:=X0 wordS [s.len,s.off]++s.cells.flatMap λc=>X0 wordC (nums c)
def X5(s:Sch):List UInt8×Int:=if XH s=false then([],1)else(YkF s,0)
theorem YjG{n:Int}(h:0<=n):Lib.itoa n=Lib.decDigits n.toNat:=by unfold Lib.itoa;rw[Tf (by omega)]
theorem Ybs{s:Sch}(h:Frm s):(∀n∈[s.len,s.off],0<=n/\n<10000)/\∀c∈s.cells,∀n∈nums c,0<=n/\n<10000:=by
 have h1:=h.sized
 unfold Jo at h1
 have h2:=Rj h1
 constructor
 ·intro n hn
  simp only[TL,RV,N3]at hn
  omega
 ·intro c hc n hn
  have h3:=h.formed c hc
  unfold Jf ZT insE at h3
  simp only[Tq,Tt]at h3
  unfold nums at hn
  simp only[TL,RV,N3]at hn
  omega
variable {l:List Flw}
theorem Yrg{id:Int}(h:0<=Z1 l id):∃f∈l,f.1=id:=by
 unfold Z1 at h
 have:=(JT (λf:Flw=>decide (f.1=id)) l 0 (R7 _)).1 h
 obtain⟨f,hf,hp⟩:=T8.1 this
 exact⟨f,hf,Rj hp⟩
theorem Yge{nodes:Int}(h:(Yu nodes l).2=0):∀f∈l,0<=f.1/\f.1<=255/\1<=f.2.2.2.1/\f.2.2.2.1<=512:=by
 intro f hf
 obtain⟨i,hi⟩:=TS.1 hf
 have hl:=(Tj.1 hi).1
 unfold Yu at h
 split at h
 ·cases h
 split at h
 ·cases h
 have:=YK.1 h i (Tm _) (by omega)
 unfold YT at this
 have e:Xj l i=f:=by unfold Xj;rw[Tu,hi];rfl
 rw[e]at this
 split at this
 ·rename_i h1;exact absurd this h1
 ·rename_i h1
  have h2:Xx nodes f=0:=Rn.1 h1
  unfold Xx at h2
  split at h2
  ·cases h2
  split at h2
  ·cases h2
  omega
structure Val(n:Net)(l:List Flw)(s:Sch):Prop where
 whole:ZM n l s=0
 cells:(Vb n l s).2=0
 twice:(Uw s).2=0
 dist:(YfW n s).2=0
variable {n:Net}{s:Sch}
theorem XT:(schE n l s).2=0↔Val n l s:=by
 unfold schE
 by_cases h1:ZM n l s≠0
 ·rw[Tn h1]
  exact⟨λh=>absurd h h1,λh=>absurd h.whole h1⟩
 rw[Tf h1]
 by_cases h2:(Vb n l s).2≠0
 ·rw[Tn h2]
  exact⟨λh=>absurd h h2,λh=>absurd h.cells h2⟩
 rw[Tf h2]
 by_cases h3:(Uw s).2≠0
 ·rw[Tn h3]
  exact⟨λh=>absurd h h3,λh=>absurd h.twice h3⟩
 rw[Tf h3]
 exact⟨λh=>⟨Rn.1 h1,Rn.1 h2,Rn.1 h3,h⟩,λh=>h.dist⟩
theorem Uy(h:ZM n l s=0):Yo n=0/\(Yu n.nodes l).2=0/\Jo s=true/\(∀f∈l,s.len.tmod f.2.2.2.1=0)/\s.cells.length<=512:=by
 unfold ZM at h
 by_cases h1:Yo n=0
 rotate_left
 ·rw[Tn h1]at h;cases h
 rw[Tf (λe=>e h1)]at h
 by_cases h2:(Yu n.nodes l).2=0
 rotate_left
 ·rw[Tn h2]at h;cases h
 rw[Tf (λe=>e h2)]at h
 cases h3:Jo s with
 |false=>rw[h3,Tn rfl]at h;cases h
 |true=>
  rw[h3,Tf (by decide)]at h
  split at h
  ·cases h
  rename_i h4
  split at h
  ·cases h
  refine⟨h1,h2,rfl,λf hf=>?_,by omega⟩
  have:=RD.1 (NG.2 h4) f hf
  simpa using this
theorem Val.frm(h:Val n l s):Frm s:=by
 obtain⟨h1,h2,h3,h4,h5⟩:=Uy h.whole
 have hok:=YC h1
 have k1:=YK.1 h.cells
 have hids:=Yge h2
 have hn:=hok.n1
 have hcell:∀i,i<s.cells.length->ZT s (Yn s i)=true/\Yz n (YE (Yn s i)) (toC (Yn s i))=true/\0<=Z1 l (Xf (Yn s i))/\(0<i->Xi (Yn s (i-1)) (Yn s i)=true):=λi hi=>by
  have:=k1 i (Tm _) (by omega)
  unfold Ug at this
  cases hp:ZT s (Yn s i)with
  |false=>rw[hp,Tn rfl]at this;cases this
  |true=>
   rw[hp,Tf (by decide)]at this
   split at this
   ·cases this
   rename_i h6
   split at this
   ·cases this
   rename_i h7
   refine⟨rfl,?_,?_,λh0=>?_⟩
   ·cases hg:Yz n (YE (Yn s i)) (toC (Yn s i))with
    |true=>rfl
    |false=>exact absurd (.inl hg) h6
   ·exact Int.not_lt.1 λhlt=>h6 (.inr hlt)
   ·cases hc:Xi (Yn s (i-1)) (Yn s i)with
    |true=>rfl
    |false=>exact absurd ⟨h0,hc⟩ h7
 refine⟨h3,h5,λc hc=>?_,?_⟩
 ·obtain⟨i,hi⟩:=TS.1 hc
  obtain⟨a1,a2,a3,_⟩:=hcell i (Tj.1 hi).1
  rw[XV hi]at a1 a2 a3
  have hg:=XL hok a2
  obtain⟨f,hf,hfe⟩:=Yrg a3
  have hid:=hids f hf
  unfold YE toC Xf at*
  unfold Jf insE
  rw[a1,Td (by omega),Td (by omega),Td (by omega)]
  rfl
 ·refine YaS (lt:=Xi) (λh1 h2=>JB h1 h2) λi a b ha hb=>?_
  have:=(hcell (i+1) (Tj.1 hb).1).2.2.2 (by omega)
  rw[SK,XV ha,XV hb]at this
  exact this
structure Tabs(w:World):Prop where
 pow:Lib.TabIs Tryz.prog w "internal/strconv.uint64pow10" .u64 Lib.pow10Tab
def TabsB(B:Nat)(w0:World):Prop:=∀w,Below B w0 w->Tabs w
variable {B:Nat}{w0 w:World}{H:List HP}
theorem TabsB.here(h:TabsB B w0)(hw:St B w0 H w):TabsB w.heap.size w:=λw1 h1=>h w1 (hw.below.trans (h1.mono hw.le))
abbrev strV(l:List UInt8):Value:=.string ⟨l.toArray⟩
theorem Ygl(n:Int)(h0: -9223372036854775808<=n)(h1:n<=9223372036854775807)(ht:TabsB B w0)(hw:St B w0 H w):
 CX B w0 211 [.int .i64 n] w λv K=>v=strV (Lib.itoa n)/\K=H:=
 Yk4 hw ((Tryz.strconv_Itoa n h0 h1 w (ht w hw.below).pow).mono λe w' ⟨h1,k,os,h2⟩=>⟨h1,by rw[h2];exact Lib.below_grow _ w (TJ _) k os⟩)
theorem YaH{s:Sch}{slot:Int}{k:Nat}{args:List Value}(h:(inXs s slot)[k]? =some args):∃i,(inI s slot s.cells.length)[k]? =some i/\i<s.cells.length/\args=[.int .i64 (i:Int)]:=by
 unfold inXs at h
 rw[TR]at h
 cases hi:(inI s slot s.cells.length)[k]? with
 |none=>simp_all
 |some i=>
  rw[hi]at h
  cases h
  exact⟨i,rfl,(Qk.1 (Tc hi)).1,rfl⟩
open Go.RowKit Go.Eng Go.Nw Go.Rt
variable {n:Net}
theorem Yig(h:Yo n=0)(a b:Int):Vo n (Zn n a b)=Yz n a b:=by
 have hok:=YC h
 unfold Vo Zn
 rw[Tf (by simp[h]),Td h,RO]
 by_cases h1:0<=Yt n a b
 ·have h2:=XR h1
  rw[Td ⟨h1,by omega⟩,RO,JM hok h2]
  obtain⟨e1,e2⟩:=Vv h1
  rw[e1,e2]
 ·rw[Ti (λh=>h1 h.1),SX]
  unfold Yz
  rw[Ti h1,SX]
def Wd(n:Net)(i:Nat):Lk:=((lnk n i).1,(lnk n i).2.1,(lnk n i).2.2+1)
def ZI(n:Net)(k:Nat):List Lk:=(List.range k).flatMap λi=>if ZU n i=true then [Wd n i]else []
def YI(n:Net):List Lk:=ZI n n.links.length
variable {k:Nat}
theorem QR(h:ZU n k=true):ZI n (k+1)=ZI n k++[Wd n k]:=by
 simp[ZI,List.range_succ,List.flatMap_append,h]
theorem Ybc(h:ZU n k=false):ZI n (k+1)=ZI n k:=by
 simp[ZI,List.range_succ,List.flatMap_append,h]
theorem WJ(n:Net):∀k,(ZI n k).length<=k
 |0=>by simp[ZI]
 |k+1=>by
  have:=WJ n k
  cases h:ZU n k
  ·rw[Ybc h];omega
  ·rw[QR h,To,TO];omega
theorem Wv{a:Lk}:a∈ZI n k↔∃i,i<k/\ZU n i=true/\Wd n i=a:=by
 unfold ZI
 rw[RJ]
 constructor
 ·rintro⟨i,hi,h⟩
  cases hu:ZU n i
  ·rw[hu]at h;simp at h
  ·rw[hu]at h
   rw[Tn rfl,TG]at h
   exact⟨i,TQ.1 hi,hu,h.symm⟩
 ·rintro⟨i,hi,hu,rfl⟩
  exact⟨i,TQ.2 hi,by simp[hu]⟩
theorem YmM(h:Ok n){nodes:Nat}(hn:n.nodes=nodes):ArcsOk nodes (YI n):=by
 intro a ha
 obtain⟨i,hi,_,rfl⟩:=Wv.1 ha
 have hl:=h.lk i hi
 have h1:=hl.f0;have h2:=hl.f1;have h3:=hl.t0;have h4:=hl.t1;have h5:=hl.l0;have h6:=hl.l1
 unfold Wd
 simp only
 omega
def offE(n:Net)(a:Int):Bool:=decide (a<0\/n.nodes<=a)
def XW(n:Net)(s t:Int):Int:=if Yo n≠0 then 1 else if offE n s=true\/offE n t=true\/s=t then 2 else 0
def YbM(r:List Int):Bool:=(List.range r.length).any λi=>(r.take i).contains (r.getD i 0)
def Jd(n:Net)(r:List Int):Bool:=(List.range (r.length-1)).any λi=>!Yz n (r.getD i 0) (r.getD (i+1) 0)
def Um(n:Net)(s t:Int)(r:List Int):Int:=
 if r.length<2 then 9 else if 9<r.length then 8 else if r.any (offE n)=true then 2 else if r.getD 0 0≠s\/r.getD (r.length-1) 0≠t then 11
 else if YbM r=true then 6 else if Jd n r=true then 17 else 0
def Jq(n:Net)(a b:Int):Int:=(lnk n (Yt n a b).toNat).2.2
def Zc(n:Net)(r:List Int):Nat->Int
 |0=>0
 |k+1=>Zc n r k+(Jq n (r.getD k 0) (r.getD (k+1) 0)+1)
def JQ(n:Net)(r:List Int):Int:=Zc n r (r.length-1)
def Yik(n:Net)(r:List Int):Int×Int:=
 if Yo n≠0 then(0,1)else
  let e:=Um n (r.getD 0 0) (r.getD (r.length-1) 0) r
  if e≠0 then(0,e)else(JQ n r,0)
def ZH(n:Net)(s t:Int)(r:List Int):Int:=if XW n s t≠0 then XW n s t else Um n s t r
theorem Xa{l:List Int}{i:Nat}(h:i<l.length):l[i]? =some (l.getD i 0):=by
 rw[Tu,Ta h];rfl
theorem US(h:Ok n)(a b:Int):0<=Jq n a b/\Jq n a b<=7:=by
 unfold Jq
 by_cases hi:(Yt n a b).toNat<n.links.length
 ·have:=h.lk _ hi
  exact⟨this.l0,this.l1⟩
 ·rw[show lnk n (Yt n a b).toNat=(0,0,0) by simp[lnk,List.getD,List.getElem?_eq_none (Nat.le_of_not_lt hi)]]
  decide
theorem Ybj{n:Net}(h:Ok n)(r:List Int):∀k,0<=Zc n r k/\Zc n r k<=8*k
 |0=>by simp[Zc]
 |k+1=>by
  have h1:=Ybj h r k
  have h2:=US h (r.getD k 0) (r.getD (k+1) 0)
  unfold Zc
  omega
section
variable {m:Eng.Mode}{n:Shp}{B d:Nat}{w0:World}{ops:Array Oper}{Q:Exit->Act->World->Prop}{rest:List Oper}{env:Env}{H:List HP}{ty:TypeId}{pos:String}{after:Array Edge}{x y:Operand}
theorem WF(a b:List UInt8)(hx:evo env x=some (strV a))(hy:evo env y=some (strV b))(hn:Nat.ble (d+1) n.k=true)(hb:a.length+b.length<=1000000)(h:VL Tryz.prog m n B w0 ops Q rest ((d,strV (a++b))::env) H):
 VL Tryz.prog m n B w0 ops Q (⟨some d,.binOp .add 9 x y 9,ty,pos,after,none⟩::rest) env H:=by
 have hs:∀l:List UInt8,(⟨l.toArray⟩:ByteArray).size=l.length:=by grind [ByteArray.size]
 refine Ys8 hx hy hn (by grind) ?_
 have e:(⟨a.toArray⟩:ByteArray)++⟨b.toArray⟩=⟨(a++b).toArray⟩:=by
  apply ByteArray.ext
  simp
 simp_all
variable {g:Nat}{cs:Array Value}{fr:Nat×Nat}
theorem Yqx(hx:evo env x=some (.pointer (some ⟨g,0,none⟩)))(hm:blk g (.cells cs 163 fr)∈H)(hc:cs.size=2)(hn:Nat.ble (d+1) n.k=true)
 (h:VL Tryz.prog none n B w0 ops Q rest ((d,.pointer (some ⟨g,0,none⟩))::env) H):VL Tryz.prog none n B w0 ops Q (⟨some d,.convert 160 302 x,ty,pos,after,none⟩::rest) env H:=by
 refine XO (λv K'=>v=.pointer (some ⟨g,0,none⟩)/\K'=H) rfl rfl hn (λa w ha hw=>?_) zc70
 have hb:=(hw.blk hm).1
 obtain⟨j,hj,hjs⟩:=Nx.1 (show(Tryz.prog.info? 163).map (·.size)=some 2 by kernel_rfl)
 have hr:=Lib.run_to_unsafe (P:=Tryz.prog) w ⟨g,0,none⟩ Tryz.underlying160 Tryz.underlying302 hj (by omega) (show w.shape? g=some (163,2) by simp[World.shape?,hb,hc]) (Nat.zero_lt_succ 1)
 exact YvU
theorem Yqq(hx:evo env x=some (.pointer (some ⟨g,0,none⟩)))(hm:blk g (.cells cs 163 fr)∈H)(hc:cs.size=2)(hn:Nat.ble (d+1) n.k=true)
 (h:VL Tryz.prog none n B w0 ops Q rest ((d,.pointer (some ⟨g,0,none⟩))::env) H):VL Tryz.prog none n B w0 ops Q (⟨some d,.convert 302 160 x,ty,pos,after,none⟩::rest) env H:=by
 refine XO (λv K'=>v=.pointer (some ⟨g,0,none⟩)/\K'=H) rfl rfl hn (λa w ha hw=>?_) zc70
 have hb:=(hw.blk hm).1
 obtain⟨j,hj,hjs⟩:=Nx.1 (show(Tryz.prog.info? 163).map (·.size)=some 2 by kernel_rfl)
 have hr:=Lib.run_from_unsafe (P:=Tryz.prog) w ⟨g,0,none⟩ Tryz.underlying302 Tryz.underlying160 hj (show w.shape? g=some (163,2) by simp[World.shape?,hb,hc]) (by kernel_rfl)
 exact YvU
theorem Yqo{v:Value}{tys:Array TypeId}(hx:evo env x=some v)(hn:Nat.ble (d+1) n.k=true)(h:VL Tryz.prog none n B w0 ops Q rest ((d,v)::env) H):
 VL Tryz.prog none n B w0 ops Q (⟨some d,.call ⟨.value (.func 281),#[x],tys⟩,ty,pos,after,none⟩::rest) env H:=by
 refine XO (λu K'=>u=v/\K'=H) rfl rfl hn (λa w ha hw=>⟨v,H,w,?_,hw,rfl,rfl⟩) zc70
 have hr:=run_callFunc_extern (P:=Tryz.prog) Tryz.func281 (by kernel_rfl) (by kernel_rfl) (by kernel_rfl) (e:=Extern.AbiNoEscape.same) (by kernel_rfl) #[v] w
 have he:a.eval (.func 281)=.func (.func 281) #[] #[]:=rfl
 simp[execOp,resolve,invoke,ha.eval hx,he,Deferred.ofValue,hr,Lib.run_noEscape,Result.andThen]
theorem YiD{g:Addr}(hx:evo env x=some (.pointer (some g)))(hy:evo env y=some (.pointer (some g)))(hn:Nat.ble (d+1) n.k=true)(h:VL Tryz.prog m n B w0 ops Q rest ((d,.bool false)::env) H):
 VL Tryz.prog m n B w0 ops Q (⟨some d,.binOp .neq 160 x y 160,ty,pos,after,none⟩::rest) env H:=by
 obtain⟨j,hj,hjs⟩:=Nx.1 (show(Tryz.prog.info? 163).map (·.size)=some 2 by kernel_rfl)
 exact Xc hx hy hn (λ_=>rfl) (λw=>Lib.run_neq_ptr_same w g Tryz.underlying160 hj) h
end
variable {B b cap:Nat}{w0 w:World}{H:List HP}
theorem Yds(b:Nat)(p v:Value)(hp:p=.pointer none\/p=.pointer (some ⟨b,0,none⟩))(hw:St B w0 (blk b (.cells #[p,v] 163 (0,0))::H) w):
 CX B w0 210 [.pointer (some ⟨b,0,none⟩)] w λu K=>u=.tuple #[]/\K=blk b (.cells #[.pointer (some ⟨b,0,none⟩),v] 163 (0,0))::H:=by
 refine Yc Tryz.func210 Tryz.ntmps210 rfl rfl hw ?_
 rcases hp with rfl|rfl
 ·skip
  repeat'(first|(apply YiC;exact rfl;exact rfl;kernel_rfl)|(apply Yqx;exact rfl;exact zm;exact rfl;exact rfl)|(apply Yqq;exact rfl;exact zm;exact rfl;exact rfl)|(apply Yqo;exact rfl;exact rfl)|(apply YiD;(iterate 3 exact rfl))|refine zgd ?_|fail)
  exact YkO
 ·skip
  repeat'(first|(apply YiC;exact rfl;exact rfl;kernel_rfl)|(apply YiD;(iterate 3 exact rfl))|refine zgd ?_|fail)
  exact YkO
def bdP(b:Nat)(p:Value)(A:Option Addr)(cap:Nat)(l:List UInt8)(H:List HP):List HP:=blk b (.cells #[p,.slice A l.length cap] 163 (0,0))::sl 5 1 A l.length cap (Lib.byteCells l)::H
theorem Vn(b:Nat)(p:Value)(hp:p=.pointer none\/p=.pointer (some ⟨b,0,none⟩))(A:Option Addr)(cap:Nat)(l s:List UInt8)(hl:l.length+s.length<=1000000)(hw:St B w0 (bdP b p A cap l H) w):
 CX B w0 115 [.pointer (some ⟨b,0,none⟩),strV s] w λu K=>u=.tuple #[.int .i64 s.length,.nilIface]/\∃A' cap',K=bdP b (.pointer (some ⟨b,0,none⟩)) A' cap' (l++s) H:=by
 have hs:(⟨s.toArray⟩:ByteArray).size=s.length:=by simp[ByteArray.size]
 refine Yc Tryz.func115 Tryz.ntmps115 rfl rfl hw ?_
 unfold bdP
 refine zX4 ?_
 apply Ye _ Yxo
 exact za
 exact rfl
 exactλ_ hw=>(Yds b p _ hp (hw))
 rintro _ _ ⟨rfl,rfl⟩
 repeat'(first|(apply Yg1 T (e:=5);(iterate 3 exact rfl);kernel_rfl;exact rfl;exact rfl;(intro _ _;exact zd);(rw[hs];omega);intro A' cap')|refine zgd ?_|fail)
 have e1:Lib.byteCells l++Lib.strCells ⟨s.toArray⟩=Lib.byteCells (l++s):=by
  grind [Go.Lib.byteCells,Go.Lib.strCells]
 have e2:l.length+(⟨s.toArray⟩:ByteArray).size=(l++s).length:=by simp_all
 apply YM;(iterate 3 exact rfl)
 refine⟨by rw[hs],A',cap',?_⟩
 simp_all
variable {p:Value}{A:Option Addr}{l:List UInt8}
theorem Ywp(hp:p=.pointer none\/p=.pointer (some ⟨b,0,none⟩))(hw:St B w0 (bdP b p A cap l H) w):Lib.IsBuilder 163 5 B b (Lib.byteCells l) w:=by
 obtain⟨_,_,S1,S2,k1,k2,k3,⟨k4,k5⟩,S3,S4,j1,j2,j3,⟨⟨j4,j5⟩,j6⟩,j7⟩:=hw
 have hl:(Lib.byteCells l).length=l.length:=by omega
 have hat:Lib.BuilderAt 163 5 B b p (Lib.byteCells l) w:=by
  refine⟨(k1 b k4).1,.slice A l.length cap,k5,⟨by omega,?_⟩,?_⟩
  ·rw[hl]
   rcases j5 with j5|⟨g,c,cur,e1,e2,e3⟩
   ·simp_all
   ·refine .inr ⟨g,c,cur,e1,?_,e3⟩
    simp_all
  grind [Go.Value.ownBlock]
 rcases hp with rfl|rfl
 ·exact .inl hat
 ·exact .inr hat
theorem O2(hp:p=.pointer none\/p=.pointer (some ⟨b,0,none⟩))(hw:St B w0 (bdP b p A cap l H) w):
 CX B w0 117 [.pointer (some ⟨b,0,none⟩)] w λv K=>v=strV l/\K=[]:=by
 refine(Tryz.Builder_String_any B b l w (Ywp hp hw) hw.le).mono ?_
 rintro e w' ⟨rfl,hb⟩
 exact⟨_,[],rfl,⟨hw.below.trans hb,T9 hw.le hb.size,trivial⟩,rfl,rfl⟩
theorem YaK{n:Int}(h:0<=n/\n<10000):(Lib.itoa n).length<=4:=by
 grind [YjG,Ytn]
theorem Ox{w:List UInt8}:∀{l:List Int},(∀n∈l,0<=n/\n<10000)->(ZO w l).length<=w.length+5*l.length
 |[],_=>by simp[ZO]
 |n::l,h=>by
  have ih:=Ox (w:=w) (l:=l) λm hm=>h m (TA _ hm)
  grind [YaK,ZO]
theorem Ybe(w:List UInt8)(l:List Int)(n:Int):ZO w (l++[n])=ZO w l++([32]++Lib.itoa n):=by
 grind [ZO]
theorem Ygr(word:List UInt8)(l:List Int)(h:∀n∈l,0<=n/\n<10000)(h5:l.length<=100)(hwd:word.length<=100)(ht:TabsB B w0)(hr:Rd B w0 H A (l.flatMap numF))(hw:St B w0 H w):
 CX B w0 127 [strV word,.slice A l.length cap] w λv K=>v=strV (X0 word l)/\K=H:=by
 refine Yc Tryz.func127 Tryz.ntmps127 rfl rfl hw ?_
 refine zX8 ?_
 refine Yg (λ(i:Nat)=>[(9,.int .i64 i),(8,.int .i64 l.length),(7,.slice A l.length cap),(0,strV (ZO word (l.take i)))]) (λ_=>H) (λi=>i<=l.length) (λi=>l.length-i) 0 (Tm _) ?_ (λw hw=>hw) ?_
 ·have e0:ZO word (l.take 0)=word:=by simp[ZO]
  rw[e0]
  exact zc1
 intro i hi K hK
 have hbl:=Ox (w:=word) (l:=l.take i) λn hn=>h n (SB hn)
 have hlt0:(l.take i).length<=100:=by grind
 by_cases hlt:i<l.length
 ·obtain⟨n,hn⟩:∃n,l[i]? =some n:=⟨_,Ta hlt⟩
  have hnb:=h n (Tc hn)
  have hil:=YaK hnb
  refine zX32 ?_<;>intros
  apply hK (i+1)
  ·show i+1<=l.length
   omega
  ·omega
  ·rw[TN,hn,SL,Ybe]
   exact zc1
  exact zc17
 exact zc14
def Jv(s:Sch)(i:Nat):List UInt8:=X0 wordS [s.len,s.off]++(s.cells.take i).flatMap λc=>X0 wordC (nums c)
theorem Ycr{s:Sch}{i:Nat}(h:i<s.cells.length):Jv s (i+1)=Jv s i++X0 wordC (nums (Yn s i)):=by
 grind [Jv,TN,Xg]
theorem ZB{w:List UInt8}{l:List Int}(h:∀n∈l,0<=n/\n<10000):(X0 w l).length<=w.length+5*l.length+1:=by
 grind [X0,Ox]
theorem Yag{s:Sch}(h:Frm s):∀i,i<=s.cells.length->(Jv s i).length<=100+40*i
 |0,_=>by
  have h1:=ZB (w:=wordS) (Ybs h).1
  grind [Jv,wordS,TM]
 |i+1,hi=>by
  have ih:=Yag h i (by omega)
  have h1:=ZB (w:=wordC) ((Ybs h).2 _ (J8 (s:=s) (i:=i) (by omega)))
  rw[Ycr (by omega),To]
  have:wordC.length=4:=rfl
  have h2:(nums (Yn s i)).length=5:=rfl
  omega
theorem YrY(s:SchM)(ht:TabsB B w0)(hr:Rd B w0 [] s.A (s.cells.flatMap celF))(hl:s.cells.length<=1000000000000)(hw:St B w0 [] w):
 CX B w0 40 [s.val] w λv _=>v=.tuple #[strV (X5 s.sch).1,.int .i64 (X5 s.sch).2]:=by
 refine Yc Tryz.func40 Tryz.ntmps40 rfl rfl hw ?_
 have e1:s.sch.cells=s.cells:=rfl
 cases hf:XH s.sch with
 |false=>
  refine zX33 ?_<;>intros
  apply YM;(iterate 3 exact rfl)
  simp_all [X5]
 |true=>
  have hfr:=ZA.1 hf
  have hle:s.cells.length<=512:=hfr.few
  have hnm:=Ybs hfr
  have hln1:=ZB (w:=wordS) hnm.1
  refine zX33 ?_<;>intros
  rename_i gs gb gl
  have hrl:Rd B w0 [blk gl (.cells #[.int .i64 s.len,.int .i64 s.off] 3 (0,0)),blk gb (.cells (Value.agg #[.pointer none,.slice none 0 0]).cells 163 (0,0)),blk gs (.cells #[.int .i64 s.len,.int .i64 s.off,.slice s.A s.cells.length s.cap] 37 (0,0))] (some ⟨gl,0,none⟩) ([s.sch.len,s.sch.off].flatMap numF):=Rd.blk (cs:=#[.int .i64 s.len,.int .i64 s.off]) (.head _)
  first|apply Ya YmY|apply Yb YmY
  exact za
  exact rfl
  exactλ_ hw=>(Ygr wordS [s.sch.len,s.sch.off] hnm.1 (by show 2<=100;decide) (by decide) ht hrl hw)
  apply XU (bdP gb (.pointer none) none 0 [] [blk gs (.cells #[.int .i64 s.len,.int .i64 s.off,.slice s.A s.cells.length s.cap] 37 (0,0))])
  ·unfold bdP
   intro w hw
   have h5:St B w0 [blk gb (.cells (Value.agg #[.pointer none,.slice none 0 0]).cells 163 (0,0)),blk gs (.cells #[.int .i64 s.len,.int .i64 s.off,.slice s.A s.cells.length s.cap] 37 (0,0))] w:=by
    revert w
    exact zc0
   exact(h5.nilSlice _ _).perm (.swap _ _ _)
  apply Ye _ YfZ
  exact za
  exact rfl
  exactλ_ hw=>(Vn gb _ (.inl rfl) none 0 [] (X0 wordS [s.sch.len,s.sch.off]) (by simp only[Ry];have:wordS.length=8:=rfl;simp only[TM,Ry]at hln1;omega) (hw))
  rintro _ _ ⟨rfl,A1,cap1,rfl⟩
  unfold bdP
  refine zX8 ?_
  refine Yg (λ(z:Nat×Option Addr×Nat)=>[(21,.int .i64 z.1),(20,.int .i64 s.cells.length),(19,.slice s.A s.cells.length s.cap),(4,.pointer (some ⟨gb,0,none⟩))]) (λz=>bdP gb (.pointer (some ⟨gb,0,none⟩)) z.2.1 z.2.2 (Jv s.sch z.1) [blk gs (.cells #[.int .i64 s.len,.int .i64 s.off,.slice s.A s.cells.length s.cap] 37 (0,0))]) (λz=>z.1<=s.cells.length) (λz=>s.cells.length-z.1) (0,A1,cap1) (Tm _) ?_ ?_ ?_
  ·exact zc1
  ·have e0:Jv s.sch 0=[]++X0 wordS [s.sch.len,s.sch.off]:=by unfold Jv;simp
   rw[e0]
   unfold bdP
   exact YgV
  rintro⟨i,A2,cap2⟩ hi K hK
  dsimp only at hi⊢
  have htl:=Yag hfr i hi
  by_cases hlt:i<s.cells.length
  ·have hget:s.cells[i]? =some (Yn s.sch i):=Xg (s:=s.sch) hlt
   have hnc:=hnm.2 _ (J8 (s:=s.sch) hlt)
   have hln:=ZB (w:=wordC) hnc
   have hr':Rd B w0 (bdP gb (.pointer (some ⟨gb,0,none⟩)) A2 cap2 (Jv s.sch i) [blk gs (.cells #[.int .i64 s.len,.int .i64 s.off,.slice s.A s.cells.length s.cap] 37 (0,0))]) s.A (s.cells.flatMap celF):=hr.cons.cons.cons
   repeat'(first|((first|apply Ya YqZ|apply Yb YqZ);exact za;exact rfl;exactλ_ hw=>(YaR _ hw))|(apply Yan T (e:=3);(iterate 3 exact rfl))|refine zgd ?_|(refine zge ?_ ?_<;>intro _<;>try exact zo)|(refine zgh ?_;intro _)|fail)
   rename_i gc ga
   have hra:∀X,Rd B w0 (blk ga (.cells (celF (Yn s.sch i)).toArray 173 (0,0))::X) (some ⟨ga,0,none⟩) ((nums (Yn s.sch i)).flatMap numF):=λX=>Rd.blk (cs:=(celF (Yn s.sch i)).toArray) (.head _)
   first|apply Ya YmY|apply Yb YmY
   exact za
   exact rfl
   exactλ_ hw=>(Ygr wordC (nums (Yn s.sch i)) hnc (by show 5<=100;decide) (by decide) ht (hra _) hw)
   apply XU (bdP gb (.pointer (some ⟨gb,0,none⟩)) A2 cap2 (Jv s.sch i) [blk gs (.cells #[.int .i64 s.len,.int .i64 s.off,.slice s.A s.cells.length s.cap] 37 (0,0))])
   ·exactλw hw=>hw.tail.tail
   have h5n:(nums (Yn s.sch i)).length=5:=rfl
   have h4w:wordC.length=4:=rfl
   apply Ye _ YfZ
   exact za
   exact rfl
   exactλ_ hw=>(Vn gb _ (.inr rfl) A2 cap2 (Jv s.sch i) (X0 wordC (nums (Yn s.sch i))) (by omega) (hw))
   rintro _ _ ⟨rfl,A3,cap3,rfl⟩
   rw[<-Ycr hlt]
   refine zX11 ?_
   apply hK (i+1,A3,cap3)
   ·show i+1<=s.cells.length
    omega
   ·exact zc39
   ·exact zc1
   exact zc17
  ·refine zX1 ?_<;>intros
   apply Ye _ YqY
   exact za
   exact rfl
   exactλ_ hw=>(O2 (l:=Jv s.sch i) (.inr rfl) (hw))
   rintro _ _ ⟨rfl,rfl⟩
   refine zX4 ?_
   apply YM;(iterate 3 exact rfl)
   rw[X5,Tf (by simp[hf])]
   rw[show i=s.sch.cells.length from(by have:s.sch.cells.length=s.cells.length:=rfl;omega),show Jv s.sch s.sch.cells.length=YkF s.sch from(by unfold Jv YkF;rw[TV])]
theorem WY(s:SchM)(ht:TabsB B w0)(hr:Rd B w0 H s.A (s.cells.flatMap celF))(hl:s.cells.length<=1000000000000)(hw:St B w0 H w):
 CX B w0 40 [s.val] w λv K=>v=.tuple #[strV (X5 s.sch).1,.int .i64 (X5 s.sch).2]/\K=H:=
 OA hw (YrY s (ht.here hw) (hr.here hw) hl (St.start w))
end Go.Proofs.YtaholidehobiiaaGreatDoor
