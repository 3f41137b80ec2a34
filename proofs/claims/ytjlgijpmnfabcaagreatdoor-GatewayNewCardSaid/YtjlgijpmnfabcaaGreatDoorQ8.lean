/- Lemmas. -/
import Derived.Lib.OthersKept
import Derived.Lib.AppendStr
import Derived.Laws.Externs
import Derived.Laws.CopyRow
import Derived.Lib.AppendZerosOnto
import Derived.Lib.Overlaps
import Derived.Sort.OwnSortedInts
import Derived.Lib.AppendIntMem
import Derived.WideLaws
import Derived.Lib.SmallJoins
import Derived.Lib.Builder
import Derived.Test.YtjlgijpmnfabcaaGreatDoorQ6
set_option maxRecDepth 100000
set_option maxHeartbeats 8000000
set_option linter.all false
namespace Go.Eng
open Go.RowKit
section
variable {P:Program}{B:Nat}{w0 w:World}{H:List HP}
variable {f:Nat}{xs:Array Value}
theorem Yg9{Φ:Value->Prop}(hw:St B w0 H w)(h:Calls P f xs w (Post w.heap.size w λu _=>Φ u)):Calls P f xs w (Post B w0 λu K=>Φ u/\K=H):=
 h.mono λ_ _ ⟨u,_,e1,hst,hΦ⟩=>⟨u,H,e1,hw.grow hst.below,hΦ,rfl⟩
theorem Yjg{u:Value}(hw:St B w0 H w)(h:Calls P f xs w λe w'=>e=.returned u/\Below w.heap.size w w'):Calls P f xs w (Post B w0 λv K=>v=u/\K=H):=
 h.mono λ_ _ ⟨e1,hb⟩=>⟨u,H,e1,hw.grow hb,rfl,rfl⟩
variable {A:Option Addr}
theorem Rd.here{xs:List Value}(hr:Rd B w0 H A xs)(hw:St B w0 H w):Rd w.heap.size w [] A xs:=Rd.old λj v hv=>by
 obtain⟨g,o,e1,hc⟩:=hr w hw j v hv
 refine⟨g,o,e1,?_,hc⟩
 rcases SE g w.heap.size with h|h
 ·exact h
 ·simp[World.cell?,Array.getElem?_eq_none h]at hc
theorem Perm.openT(H:List HP):Perm [many H] H:=by
 have:=Perm.open_ H []
 simp_all
theorem Perm.closeT(H:List HP):Perm H [many H]:=by
 have:=Perm.close H []
 simp_all
theorem Rd.tail{xs:List Value}(h:Rd B w0 H A xs):Rd B w0 [many H] A xs:=h.mono λ_ hw=>hw.perm (.openT _)
end
end Go.Eng
namespace Go.Proofs.YtjlgijpmnfabcaaGreatDoor
open Go.RowKit Go.Eng Go.Nw
def celF(c:Cel):List Value:=[.int .i64 c.1,.int .i64 c.2.1,.int .i64 c.2.2.1,.int .i64 c.2.2.2.1,.int .i64 c.2.2.2.2]
def celV(c:Cel):Value:=.agg #[.int .i64 c.1,.int .i64 c.2.1,.int .i64 c.2.2.1,.int .i64 c.2.2.2.1,.int .i64 c.2.2.2.2]
structure SchM where
 len:Int
 off:Int
 A:Option Addr
 cap:Nat
 cells:List Cel
def SchM.sch(s:SchM):Sch:=⟨s.len,s.off,s.cells⟩
def SchM.val(s:SchM):Value:=.agg #[.int .i64 s.len,.int .i64 s.off,.slice s.A s.cells.length s.cap]
theorem Yb9(a b:Cel):cmpV (nums a) (nums b)<0↔Xn a b=true:=by
 unfold cmpV Xn
 grind
theorem Yn7(a b:Cel):cmpV (nums a) (nums b)=0↔a=b:=by
 unfold cmpV
 constructor
 ·intro h
  split at h
  ·cases h
  ·split at h
   ·cases h
   ·exact YkF (by grind [Xn]) (by grind [Xn])
 simp_all [YcO]
variable {B:Nat}{w0 w:World}{H:List HP}
theorem QO(c:Cel)(hw:St B w0 H w):
 CX B w0 45 [celV c] w λv K=>v=celV c/\K=H:=by
 refine Yc Tryz.func45 Tryz.ntmps45 rfl rfl hw ?_
 refine zX25 ?_<;>intros
 (apply Qh T (H2:=H);exact rfl;exact rfl;(focus exact zc2);exact rfl;exact rfl;(intro w hw;refine hw.perm ?_;focus exact zc6);exact OX)
theorem YjY(a b:Cel)(hw:St B w0 H w):
 CX B w0 200 [celV a,celV b,.func (.func 45) #[] #[]] w λv K=>v=.int .i64 (cmpV (nums a) (nums b))/\K=H:=by
 refine Yc Tryz.func200 Tryz.ntmps200 rfl rfl hw ?_
 apply Y0
 iterate 5 (first|refine zga ?_|(refine zgh ?_;intro _)|fail)
 apply Ybq
 apply Y0
 refine Zt (λ(z:Nat×Nat)=>[(7,.pointer (some ⟨z.1,0,none⟩)),(8,.pointer (some ⟨z.2,0,none⟩))]) (λz=>blk z.1 (.cells (celF a).toArray 113 (0,0))::blk z.2 (.cells (celF b).toArray 113 (0,0))::H) ?_ ?_
 ·intro K hK
  apply Ud (.n1 0 (.n1 1 (.n1 3 (.n1 4 (.n3 2 (.n3 5 (.n2 6 (.n1 7 .done) 7 (.n1 6 .done)) 6 (.n2 5 (.n1 7 .done) 7 (.n1 5 .done)) 7 (.n2 5 (.n1 6 .done) 6 (.n1 5 .done))) 6 (.n2 2 (.n2 5 (.n1 7 .done) 7 (.n1 5 .done)) 7 (.n1 2 (.n1 5 .done))) 7 (.n2 2 (.n2 5 (.n1 6 .done) 6 (.n1 5 .done)) 6 (.n1 2 (.n1 5 .done)))))))) [8,9] [true,true]
  kernel_rfl
  kernel_rfl
  exact zy
  (simp only[Yh,nthO];rfl)
  repeat'(first|((first|apply YV (cs:=[])|apply Y2 (cs:=[]));exact rfl;exact en45;exact za;exact rfl;exactλ_ hw=>(QO _ hw))|(apply YnR;(simp only[nthO];rfl);(simp only[nthO];rfl);(simp only[nthO];rfl))|(apply Yej;(simp only[nthO];rfl);(simp only[nthO];rfl))|(apply Yei;(simp only[nthO];rfl))|(apply Ue;try exact zl)|(apply Yj;try exact zl)|refine zgd ?_|(refine zgh ?_;intro _)|fail)
  all_goals(
   rename_i ga gb
   first
    |(refine hK (ga,gb) _ _ zu ?_;dsimp only[celF];exact zk;done)
    |(refine hK (gb,ga) _ _ zu ?_;dsimp only[celF];exact zk;done))
 rintro⟨g1,g2⟩
 dsimp only
 have hA:Rd B w0 (blk g1 (.cells (celF a).toArray 113 (0,0))::blk g2 (.cells (celF b).toArray 113 (0,0))::H) (some ⟨g1,0,none⟩) ((nums a).flatMap numF):=Rd.blk (cs:=(celF a).toArray) (.head _)
 have hB:Rd B w0 (blk g1 (.cells (celF a).toArray 113 (0,0))::blk g2 (.cells (celF b).toArray 113 (0,0))::H) (some ⟨g2,0,none⟩) ((nums b).flatMap numF):=Rd.blk (cs:=(celF b).toArray) (.tail _ (.head _))
 repeat'(first|(apply Qf T (e:=3);(iterate 3 exact rfl))|((first|apply Ya Ysf|apply Yb Ysf);exact za;exact rfl;exactλ_ hw=>(YdI (nums a) (nums b) (by simp[nums]) (by simp[nums]) hA hB hw))|(apply zg28;refine zs84 ?_)|refine zgd ?_|fail)
 apply Yg H
 ·exact zc0
 exact zc26
theorem OC(a b:Cel)(hw:St B w0 H w):
 CX B w0 108 [celV a,celV b] w λv K=>v=.int .i64 (cmpV (nums a) (nums b))/\K=H:=by
 refine Yc Tryz.func108 Tryz.ntmps108 rfl rfl hw ?_
 repeat'(first|((first|apply Ya YrZ|apply Yb YrZ);exact za;exact rfl;exactλ_ hw=>(YjY a b hw))|refine zgb ?_|(refine zgh ?_;intro _)|fail)
 apply Yg H
 ·exact zk
 apply Yd;exact rfl;exact rfl
 exact⟨rfl,rfl⟩
theorem YaV(x n:Int)(hw:St B w0 H w):
 CX B w0 199 [.int .i64 x,.int .i64 n] w λv K=>v=.bool (insE x n)/\K=H:=by
 refine Yc Tryz.func199 Tryz.ntmps199 rfl rfl hw ?_
 repeat'(first|refine zgc ?_|(refine zgf ?_ ?_<;>intro _<;>try exact zo)|fail)
 all_goals(
  apply Yd;exact rfl;exact rfl
  first
   |exact⟨by rw[show insE x n=true from Ti (by omega)],rfl⟩
   |exact⟨by rw[show insE x n=false from Tj (by omega)],rfl⟩)
theorem Ya4(s:SchM)(c:Cel)(hw:St B w0 H w):
 CX B w0 198 [s.val,celV c] w λv K=>v=.bool (XE s.sch c)/\K=H:=by
 refine Yc Tryz.func198 Tryz.ntmps198 rfl rfl hw ?_
 repeat'(first|((first|apply Yx YkX|apply Yw YkX);exact za;exact rfl;exactλ_ hw=>(YaV _ _ hw);all_goals(intro hB;(try simp only[To,Tv]at hB);try exact zo))|refine zgc ?_|(refine zgh ?_;intro _)|fail)
 all_goals(
  apply Yg H
  ·exact zk
  apply Yd;exact rfl;exact rfl
  exact⟨by simp[XE,SchM.sch, *],rfl⟩)
theorem YaR(s:SchM)(c:Cel)(hw:St B w0 H w):
 CX B w0 107 [s.val,celV c] w λv K=>v=.bool (XC s.sch c)/\K=H:=by
 refine Yc Tryz.func107 Tryz.ntmps107 rfl rfl hw ?_
 repeat'(first|((first|apply Yx Wk|apply Yw Wk);exact za;exact rfl;exactλ_ hw=>(Ya4 s c hw);all_goals(intro hB;(try simp only[To,Tv]at hB);try exact zo))|((first|apply Yx YkX|apply Yw YkX);exact za;exact rfl;exactλ_ hw=>(YaV _ _ hw);all_goals(intro hB;(try simp only[To,Tv]at hB);try exact zo))|refine zgc ?_|(refine zgh ?_;intro _)|fail)
 all_goals(
  apply Yg H
  ·exact zk
  apply Yd;exact rfl;exact rfl
  exact⟨by simp[XC, *],rfl⟩)
theorem Ydh(s:SchM)(hw:St B w0 H w):
 CX B w0 106 [s.val] w λv K=>v=.bool (XU s.sch)/\K=H:=by
 refine Yc Tryz.func106 Tryz.ntmps106 rfl rfl hw ?_
 have e1:s.sch.len=s.len:=rfl
 have e2:s.sch.off=s.off:=rfl
 repeat'(first|refine zgc ?_|(refine zgf ?_ ?_<;>intro _<;>try exact zo)|(refine zgh ?_;intro _)|fail)
 all_goals(
  apply Yg H
  ·exact zk
  apply Yd;exact rfl;exact rfl
  first
   |exact⟨by rw[show XU s.sch=true from Ti (by omega)],rfl⟩
   |exact⟨by rw[show XU s.sch=false from Tj (by omega)],rfl⟩)
end Go.Proofs.YtjlgijpmnfabcaaGreatDoor
namespace Go.Eng
open Go.RowKit
theorem YdF{P:Program}(w:World)(t u ty e:TypeId)(i:TypeInfo)(ht:P.underlying t=some (.slice e))(hu:P.underlying u=some .string)(hi:P.info? e=some i)(hz:i.zero=some (.int .u8 0))
 (hsize:i.size=1) (hby:i.bytes=1) (v:Value) (n:Nat) (xs:List Value) (hown:w.ownsRow 0 e 1 v n xs) (s:ByteArray) (hb:n+s.size<=1000000000):
 ∃v' w',(Builtin.append_ #[t,u] ty #[v,.string s]).run P w=.ok v' w'/\w'.ownsRow 0 e 1 v' (n+s.size) (xs++Lib.strCells s)/\w.grownBy w' v.ownBlock/\∀b,v'.ownBlock=some b->v.ownBlock=some b\/w.heap.size<=b:=by
 have hm:n+s.size<=maxLen:=by grind [maxLen]
 obtain⟨v',w',h1,h2,h3,_⟩:=Lib.run_append_own_string (P:=P) w 0 t u ty e i ht hu hi hz hsize hby v n xs hown s hm (by omega) (Tc _)
 refine⟨v',w',h1,h2,h3,λb hbb=>?_⟩
 rcases hown.2 with⟨rfl,rfl⟩|⟨g,cap,cur,rfl,hbg,hg,hnc,hcm,hcs,htake⟩
 ·right
  obtain⟨v2,w2,k1,k2,_⟩:=Lib.run_append_own_string (P:=P) w w.heap.size t u ty e i ht hu hi hz hsize hby (.slice none 0 0) 0 xs ⟨hown.1,.inl ⟨rfl,rfl⟩⟩ s hm (by omega) (TQ _)
  rw[h1]at k1
  obtain⟨rfl,rfl⟩:v'=v2/\w'=w2:=by simp_all
  rcases k2.2 with⟨e1,_⟩|⟨g',_,_,e1,e2,_⟩
  all_goals grind [Go.Value.ownBlock]
 ·have hcs':cur.size=cap:=by omega
  have hxl:xs.length=n:=by grind
  by_cases hroom:n+s.size<=cap
  ·have k1:=Lib.run_append_room_string (P:=P) w t u ty e i ht hu hi hsize g n cap cur hg s hroom (by omega)
   rw[h1]at k1
   obtain⟨rfl,_⟩:=(Result.ok.injEq _ _ _ _).mp k1
   exact .inl hbb
  ·have holds:∀j u,xs[j]? =some u->w.cell? ((⟨g,0,none⟩:Addr).add j)=some u:=hown.cells (g:=g) rfl
   have k1:=Lib.run_append_grow_string (P:=P) w t u ty e i (.int .u8 0) ht hu hi hz ⟨g,0,none⟩ n cap xs (by simp_all) holds s (by omega) (by omega) (by rw[hby];exact growslice_fits (by omega) (by omega))
   exact YlJ
section
variable {P:Program}{m:Mode}{n:Shp}{B d:Nat}{w0:World}{ops:Array Oper}{Q:Exit->Act->World->Prop}{rest:List Oper}{env:Env}{H:List HP}{ty:TypeId}{pos:String}{after:Array Edge}{x y:Operand}
def Yb2(P:Program)(e:TypeId):Bool:=match P.info? e with|some i=>(match i.zero with|some (.int .u8 0)=>true|_=>false)&&i.size==1&&i.bytes==1|none=>false
theorem YdG{e:TypeId}(h:Yb2 P e=true):∃i,P.info? e=some i/\i.zero=some (.int .u8 0)/\i.size=1/\i.bytes=1:=by
 unfold Yb2 at h
 grind
theorem Yfx(T:Tab P){t tt k cap e bytes:Nat}{A:Option Addr}{s:ByteArray}{xs:List Value}{K:Option Addr->Nat->List HP}(hx:evo env x=some (.slice A k cap))(hy:evo env y=some (.string s))(ht:look T.sl t=some (e,1,bytes))(hbi:Yb2 P e=true)(htt:look T.st tt=some ())
 (hn:Nat.ble (d+1) n.k=true) (hu:∀A' cap',Upd (sl e 1 A k cap xs) (sl e 1 A' (k+s.size) cap' (xs++Lib.strCells s)) H (K A' cap')) (hb:k+s.size<=1000000000)
 (h:∀A' cap',VL P none n B w0 ops Q rest ((d,.slice A' (k+s.size) cap')::env) (K A' cap')):
 VL P none n B w0 ops Q (⟨some d,.call ⟨.builtin .append,#[x,y],#[t,tt]⟩,ty,pos,after,none⟩::rest) env H:=by
 obtain⟨hut,_⟩:=YR (T.slic ht)
 obtain⟨i,hi,hz,hs1,hb1⟩:=YdG hbi
 have hst:P.underlying tt=some .string:=T.strs htt
 refine XH (λv K'=>∃A' cap',v=.slice A' (k+s.size) cap'/\K'=K A' cap') rfl rfl hn (λa w ha hw=>?_) YpW
 have hmem:sl e 1 A k cap xs∈H:=Yp2
 have hown:=hw.sl hmem
 obtain⟨v',w',hrun,hown',hgrow,hat⟩:=YdF (P:=P) w t tt ty e i hut hst hi hz hs1 hb1 (.slice A k cap) k xs hown s hb
 have hshape:∃A' cap',v'=.slice A' (k+s.size) cap':=Ytn
 obtain⟨A',cap',rfl⟩:=hshape
 refine⟨_,K A' cap',w',by exact YpT,?_,A',cap',rfl,rfl⟩
 refine hw.updN (hu A' cap') hgrow.os hgrow.tape hgrow.output hgrow.size λS1 ⟨_,hS⟩=>⟨⟨λb=>Value.ownBlock (.slice A' (k+s.size) cap')=some b,⟨hown',?_⟩,λb hb=>?_⟩,λb hb hlt=>hgrow.block b hlt (λe=>hb ?_)⟩
 ·rintro a rfl;rfl
 ·rcases hat b hb with e|e
  ·cases A with
   |none=>cases e
   |some a=>exact YlJ
  ·right
   refine⟨e,?_⟩
   rcases hown'.2 with⟨e1,_⟩|⟨g',_,_,e1,_,e3,_⟩
   all_goals grind [Go.Value.ownBlock]
 ·cases A with
  |none=>cases e
  |some a=>exact YlJ
end
end Go.Eng
namespace Go.Proofs.YtjlgijpmnfabcaaGreatDoor
open Go.RowKit Go.Eng Go.Nw
theorem Yn2{s:Sch}{i:Nat}(hi:i<s.cells.length)(h:Zg s i=false):Xw s=false:=by
 unfold Xw
 grind
theorem Ymv(s:SchM){B:Nat}{w0:World}{H:List HP}{w:World}(hr:Rd B w0 H s.A (s.cells.flatMap celF))(hl:s.cells.length<=1000000000000)(hw:St B w0 H w):
 CX B w0 43 [s.val] w λv K=>v=.bool (Xw s.sch)/\K=H:=by
 refine Yc Tryz.func43 Tryz.ntmps43 rfl rfl hw ?_
 have e1:s.sch.cells=s.cells:=rfl
 repeat'(first|((first|apply Yx OD|apply Yw OD);exact za;exact rfl;exactλ_ hw=>(Ydh s hw);all_goals(intro hB;(try simp only[To,Tv]at hB);try exact zo))|refine zgd ?_|(refine zgf ?_ ?_<;>intro _<;>try exact zo)|(refine zgh ?_;intro _)|fail)
 ·apply Yg H
  ·exact zc0
  apply Yd;exact rfl;exact rfl
  exact⟨by rw[show Xw s.sch=false by unfold Xw;grind],rfl⟩
 rotate_left
 ·apply Yg H
  ·exact zc0
  apply Yd;exact rfl;exact rfl
  exact⟨by simp[Xw, *],rfl⟩
 rename_i g _
 refine Yf (λ(i:Nat)=>[(17,.int .i64 i),(16,.int .i64 s.cells.length),(15,.slice s.A s.cells.length s.cap),(1,.pointer (some ⟨g,0,none⟩))]) (λ_=>blk g (.cells #[.int .i64 s.len,.int .i64 s.off,.slice s.A s.cells.length s.cap] 30 (0,0))::H) (λi=>i<=s.cells.length/\(List.range i).all (Zg s.sch)=true) (λi=>s.cells.length-i) 0 ⟨Tc _,rfl⟩ ?_ (λw hw=>hw) ?_
 ·exact zc1
 rintro i ⟨hi,hall⟩ K hK
 have hr:=hr.cons (X:=blk g (.cells #[.int .i64 s.len,.int .i64 s.off,.slice s.A s.cells.length s.cap] 30 (0,0)))
 by_cases hlt:i<s.cells.length
 ·have hget:s.cells[i]? =some (Yn s.sch i):=YS (s:=s.sch) hlt
  have hgo:Zg s.sch i=false->Xw s.sch=false:=Yn2 (s:=s.sch) hlt
  have hst:Zg s.sch i=true->(List.range (i+1)).all (Zg s.sch)=true:=λh=>by rw[Wx,hall,h];rfl
  rcases RE i with h0|h0
  ·subst h0
   repeat'(first|((first|apply Yx YkK|apply Yw YkK);exact za;exact rfl;exactλ_ hw=>(YaR s _ hw);all_goals(intro hB;(try simp only[To,Tv]at hB);try exact zo))|(apply zg28;refine zs84 ?_)|refine zgd ?_|(refine zgf ?_ ?_<;>intro _<;>try exact zo)|(refine zgh ?_;intro _)|fail)
   ·apply hK (0+1)
    ·exact⟨by omega,hst (by simp[Zg, *])⟩
    ·omega
    ·exact zc1
    ·exact zc0
   ·apply Yg H
    ·exact zc0
    apply Yd;exact rfl;exact rfl
    exact⟨by rw[hgo (by simp[Zg, *])],rfl⟩
  ·have hget2:s.cells[((i:Int)-1).toNat]? =some (Yn s.sch (i-1)):=zc54
   repeat'(first|((first|apply Yx YkK|apply Yw YkK);exact za;exact rfl;exactλ_ hw=>(YaR s _ hw);all_goals(intro hB;(try simp only[To,Tv]at hB);try exact zo))|((first|apply Ya YkL|apply Yb YkL);exact za;exact rfl;exactλ_ hw=>(OC _ _ hw))|(apply zg28;refine zs84 ?_)|refine zgd ?_|(refine zgf ?_ ?_<;>intro _<;>try exact zo)|(refine zgh ?_;intro _)|fail)
   all_goals first
    |(apply hK (i+1)
      ·refine⟨by omega,hst ?_⟩
       have hc:cmpV (nums (Yn s.sch (i-1))) (nums (Yn s.sch i))<0:=by omega
       simp[Zg,(Yb9 _ _).1 hc, *]
      ·omega
      ·exact zu
      ·exact zk
      done)
    |(apply Yg H
      ·exact zk
      apply Yd;exact rfl;exact rfl
      refine⟨?_,rfl⟩
      rw[hgo]
      first
       |(simp[Zg, *];done)
       |(have hc:¬cmpV (nums (Yn s.sch (i-1))) (nums (Yn s.sch i))<0:=by omega
         have hd:Xn (Yn s.sch (i-1)) (Yn s.sch i)=false:=by
          rw[Yb9]at hc
          simpa using hc
         simp[Zg,hd]
         omega))
 ·refine zX1 ?_<;>intros
  apply Yg H
  ·exact zc0
  apply Yd;exact rfl;exact rfl
  refine⟨?_,rfl⟩
  rw[show i=s.cells.length by omega]at hall
  rw[show Xw s.sch=true by unfold Xw;rw[e1,hall,Ti (by omega)];simp[*]]
end Go.Proofs.YtjlgijpmnfabcaaGreatDoor
namespace Go.Eng
open Go.RowKit
section
variable {P:Program}{m:Mode}{n:Shp}{B d:Nat}{w0:World}{ops:Array Oper}{Q:Exit->Act->World->Prop}{rest:List Oper}{env:Env}{H:List HP}{ty:TypeId}{pos:String}{after:Array Edge}{x y hi:Operand}
theorem Yd6(w:World)(dT sT ty elem:TypeId)(g o dLen dCap size:Nat)(a:Addr)(sLen sCap:Nat)(cur:Array Value)(t:TypeId)(cs:List Value)
 (hu:P.underlying dT=some (.slice elem)) (hs:(P.info? elem).map (·.size)=some size)
 (hg:w.heap[g]? =some (.cells cur t (0,0))) (hn:cs.length=Nat.min sLen dLen*size)
 (hsrc:∀j v,cs[j]? =some v->w.cell? (a.add j)=some v) (hfit:o+cs.length<=cur.size) (h1:∀v∈cs,v.oneCell'=true):
 (Builtin.copy_ #[dT,sT] ty #[.slice (some ⟨g,o,none⟩) dLen dCap,.slice (some a) sLen sCap]).run P w=
  .ok (goInt (Nat.min sLen dLen)) (w.setRow g (cur.toList.take o++cs++cur.toList.drop (o+cs.length)).toArray):=by
 have hl:=run_firstCells_some (P:=P) w size (Nat.min sLen dLen) a sLen sCap cs hn hsrc
 have hst:=run_storeCells_at P g o t cs 0 cur w hg (by omega) h1
 cases hq:P.info? elem with
 |none=>simp_all
 |some i=>
  simp_all [Go.Builtin.copy_,Go.Builtin.lenOf,sizeOf,typeInfo,run_underlying]
variable {α:Type}
theorem Yrm(l cs:List α)(o k k':Nat)(hk:k<=l.length)(ho:o<=k)(hfit:o+cs.length<=l.length)(hk':k'=max k (o+cs.length)):
 (l.take o++cs++l.drop (o+cs.length)).take k'=(l.take k).take o++cs++(l.take k).drop (o+cs.length):=by
 have hA:(l.take o++cs).length=o+cs.length:=by grind
 by_cases h:o+cs.length<=k
 ·grind [Nat.max_eq_left,YiA]
 ·rw[hk',Nat.max_eq_right (by omega),SA,hA,Nr,S8,Rw,TE (by omega),List.take_take,Sr (by omega),Rm (by grind),Rw]
variable {t e size bytes o k cap kd cd mm c2:Nat}{A A2:Option Addr}{xs:List Value}{K:List HP}
theorem Ynx(T:Tab P){k':Nat}{ys:List Value}(hx:evo env x=some (.slice (subA A o cap size) kd cd))(hy:evo env y=some (.slice A2 mm c2))(hr:Rd B w0 H A2 ys)
 (hu:Upd (sl e size A k cap xs) (sl e size A k' cap (xs.take (o*size)++ys.take (min mm kd*size)++xs.drop (o*size+min mm kd*size))) H K) (ht:look T.sl t=some (e,size,bytes)) (hn:Nat.ble (d+1) n.k=true) (h1:∀v∈ys,v.oneCell'=true)
 (hA:∃g,A=some ⟨g,0,none⟩) (hb:o+kd<=cap/\0<min mm kd/\o<=k/\k'=max k (o+min mm kd)) (hyl:min mm kd*size<=ys.length)
 (h:VL P none n B w0 ops Q rest ((d,.int .i64 (min mm kd:Nat))::env) K):
 VL P none n B w0 ops Q (⟨some d,.call ⟨.builtin .copy,#[x,y],#[t,t]⟩,ty,pos,after,none⟩::rest) env H:=by
 obtain⟨hut,inf,z,hi,hz,hzs,hsi,hbi,hs0,hb0⟩:=YR (T.slic ht)
 refine XH (λv K'=>v=.int .i64 (min mm kd:Nat)/\K'=K) rfl rfl hn (λa w ha hw=>?_) zc64
 have hmem:sl e size A k cap xs∈H:=YlD
 obtain⟨hb1,hb2,hb3,hb5⟩:=hb
 rcases Z2 (hw.sl hmem)with⟨rfl,_⟩|⟨g,cur,rfl,g1,g2,g3,g4,g5,g6⟩
 ·obtain⟨_,hA⟩:=hA;cases hA
 have hsub:subA (some ⟨g,0,none⟩) o cap size=some ⟨g,o*size,none⟩:=Ytk
 obtain⟨c,hc⟩:∃c,min mm kd=c:=⟨_,rfl⟩
 rw[hc]at hu hb2 hb5 hyl
 have hcs:(ys.take (c*size)).length=c*size:=Ydx
 have hpos:0<c*size:=Nat.mul_pos hb2 hs0
 have hsome:∃a2,A2=some a2/\∀j v,(ys.take (c*size))[j]? =some v->w.cell? (a2.add j)=some v:=by
  have h0:ys[0]? =some (ys[0]'(by omega)):=Ta (by omega)
  obtain⟨g2',o2,rfl,_⟩:=hr w hw 0 _ h0
  refine⟨_,rfl,λj v hj=>?_⟩
  rw[SB]at hj
  by_cases hjm:j<c*size
  ·rw[Tm hjm]at hj
   obtain⟨g3',o3,e3,hc⟩:=hr w hw j v hj
   injection e3 with e3
   injection e3 with e3 e4
   subst e3 e4
   rw[Addr.add_lit];exact hc
  ·rw[Tf hjm]at hj;cases hj
 obtain⟨a2,rfl,hsrc⟩:=hsome
 have hoc:o+c<=cap:=by
  have:c<=kd:=by rw[<-hc];exact Nat.min_le_right _ _
  omega
 have hfit:o*size+c*size<=cur.size:=by rw[g4,<-SI];exact Rn _ hoc
 have hrun:=Yd6 (P:=P) w t t ty e g (o*size) kd cd size a2 mm c2 cur e (ys.take (c*size)) hut (by rw[hi];simp[hsi]) g1 (by rw[hcs];show c*size=min mm kd*size;rw[hc]) hsrc (by rw[hcs];exact hfit) (λv hv=>h1 v (SC hv))
 have hkl:k*size<=cur.toList.length:=by rw[Array.length_toList,g4];exact Rn _ g2
 have hok:o*size<=k*size:=Rn _ hb3
 have hmax:k'*size=max (k*size) (o*size+c*size):=by
  rw[hb5,<-SI]
  rcases Nat.le_total k (o+c)with h|h
  ·rw[Nat.max_eq_right h,Nat.max_eq_right (Rn _ h)]
  ·rw[Nat.max_eq_left h,Nat.max_eq_left (Rn _ h)]
 refine⟨_,K,_,?_,hw.storeRow (k':=k') (o:=o*size) (vs:=ys.take (c*size)) hu rfl g1 g4 (by rw[hb5];exact Nat.max_le.2 ⟨g2,hoc⟩) g3 (by rw[hcs];exact hfit) ?_ ?_,rfl,rfl⟩
 ·simp only[execOp,resolve,invoke,builtin]
  have hmap:#[x,y].map a.eval=#[.slice (some ⟨g,o*size,none⟩) kd cd,.slice (some a2) mm c2]:=by simp[ha.eval hx,ha.eval hy,hsub]
  simp only[hmap,Sem.run_bind,Sem.run_pure,Result.andThen_ok]
  rw[hrun]
  simp[goInt]
 ·have:=Yrm cur.toList (ys.take (c*size)) (o*size) (k*size) (k'*size) hkl hok (by rw[hcs,Array.length_toList];exact hfit) (by rw[hcs];exact hmax)
  rw[hcs]at this⊢
  rw[this,g5]
 ·rw[Tq,Tq,hcs,TJ,Rh,g6,hmax]
  omega
theorem Zl(T:Tab P){f:α->List Value}(L M R:List α)(hx:evo env x=some (.slice (subA A o cap size) kd cd))(hy:evo env y=some (.slice A2 mm c2))(hr:Rd B w0 H A2 (M.flatMap f))(hq:∀a,(f a).length=size)(h1:∀a,Z4 (f a)=true)
 (ht:look T.sl t=some (e,size,bytes)) (hn:Nat.ble (d+1) n.k=true) (hA:∃g,A=some ⟨g,0,none⟩) (hb:o+kd<=cap/\0<min mm kd/\o<=L.length/\min mm kd<=M.length) (hR:L.take o++M.take (min mm kd)++L.drop (o+min mm kd)=R)
 (hu:Upd (sl e size A L.length cap (L.flatMap f)) (sl e size A R.length cap (R.flatMap f)) H K)
 (h:VL P none n B w0 ops Q rest ((d,.int .i64 (min mm kd:Nat))::env) K):
 VL P none n B w0 ops Q (⟨some d,.call ⟨.builtin .copy,#[x,y],#[t,t]⟩,ty,pos,after,none⟩::rest) env H:=by
 have hlen:∀l:List α,(l.flatMap f).length=l.length*size:=λl=>by
  induction l with
  |nil=>simp
  |cons a l ih=>grind
 have hRl:R.length=max L.length (o+min mm kd):=by
  grind
 have hRf:R.flatMap f=(L.flatMap f).take (o*size)++(M.flatMap f).take (min mm kd*size)++(L.flatMap f).drop (o*size+min mm kd*size):=by
  rw[<-hR,Ri,Ri,XO hq,XO hq,Og hq,SI]
 rw[hRf]at hu
 refine Ynx T hx hy hr hu ht hn (λv hv=>?_) hA ⟨hb.1,hb.2.1,hb.2.2.1,hRl⟩ (by grind [Rn]) h
 grind [ZA]
theorem Wv(T:Tab P){tn i j:Nat}(hx:evo env x=some (.slice A i cap))(hy:evo env y=some (.int .i64 (j:Int)))(hm:sl e size A k cap xs∈H)(ht:look T.sl t=some (e,size,bytes))(htn:Yf1 P tn=true)(hn:Nat.ble (d+1) n.k=true)(hb:Nat.ble bytes 1000=true)
 (hk:i<=k/\0<k/\0<j/\cap<i+j/\i+j<=1000000)
 (h:∀g c,i+j<=c->VL P none n B w0 ops Q rest ((d,.slice (some ⟨g,0,none⟩) (i+j) c)::env) (sl e size (some ⟨g,0,none⟩) i c (xs.take (i*size))::H)):VL P none n B w0 ops Q (⟨some d,.call ⟨.builtin .append,#[x,y],#[t,tn]⟩,ty,pos,after,none⟩::rest) env H:=by
 obtain⟨hu,inf,z,hi,hz,hzs,hsi,hbi,hs0,hb0⟩:=YR (T.slic ht)
 obtain⟨kn,hkn⟩:=YaW htn
 have hb':=TV hb
 refine XH (λv K=>∃g c,v=.slice (some ⟨g,0,none⟩) (i+j) c/\K=sl e size (some ⟨g,0,none⟩) i c (xs.take (i*size))::H/\i+j<=c) rfl rfl hn (λa w ha hw=>?_) (by rintro _ _ ⟨g,c,rfl,rfl,hc⟩;exact h g c hc)
 obtain⟨hk1,hk2,hk3,hk4,hk5⟩:=hk
 have hown:=hw.sl hm
 rcases Z2 hown with⟨_,e0,_⟩|⟨g,cur,rfl,g1,g2,g3,g4,g5,g6⟩
 ·omega
 have hik:i*size<=k*size:=Rn _ hk1
 have hxl:(xs.take (i*size)).length=i*size:=Ydx
 have hbj:(i+j)*inf.bytes<=1000000*1000:=Nat.mul_le_mul hk5 (by omega)
 have hbj2:j*inf.bytes<=(i+j)*inf.bytes:=Rn _ (by omega)
 have hold:(Builtin.firstCells inf.size i (.slice (some ⟨g,0,none⟩) i cap)).run P w.drew=.ok (xs.take (i*size)).toArray w.drew:=by
  rw[hsi]
  refine run_firstCells_some (P:=P) w.drew size i ⟨g,0,none⟩ i cap _ hxl λq v hq=>?_
  rw[SB]at hq
  split at hq
  ·obtain⟨g',e5,hc,_⟩:=QX hown hq
   injection e5 with e5
   injection e5 with e5
   subst e5
   rw[Addr.add_lit,Ry];exact hc
  ·cases hq
 have hrun:=Lib.run_append_grow_zeros (P:=P) w t tn ty e inf z .i64 kn hu hkn hi hz (some ⟨g,0,none⟩) i cap (xs.take (i*size)) hold j hk3 (by omega) hk4 (by omega) (by omega) (growslice_fits hk4 (by omega))
 have hge:=grownCap_ge w (i+j) cap e
 have hcm:grownCap w (i+j) cap e<=maxLen:=grownCap_le_maxLen w (i+j) cap e (by simp only[maxLen];omega)
 refine⟨_,_,_,by simp only[execOp,resolve,invoke,builtin,ha.eval hx,ha.eval hy,List.map_toArray,RP,RY,Sem.run_bind,Sem.run_pure,hrun,Result.andThen_ok];rfl,?_,w.heap.size,grownCap w (i+j) cap e,rfl,rfl,hge⟩
 have h2:=hw.drew.alloc (.cells ((xs.take (i*size)).toArray++Builtin.zeroCells z.cells j++Builtin.zeroCells z.cells (grownCap w (i+j) cap e-(i+j))) e)
 refine h2.upd (Upd.here _) rfl rfl rfl (TQ _) λS1 ⟨h3,h4⟩=>⟨⟨⟨hxl,.inr ⟨w.heap.size,grownCap w (i+j) cap e,_,rfl,Tc _,h4,by omega,hcm,?_,?_⟩⟩,λa ha=>by cases ha;exact h3⟩,λ_ _ _=>rfl⟩
 ·rw[Array.size_append,Array.size_append,size_zeroCells,size_zeroCells,hzs,List.size_toArray,hxl,<-SI,<-SI]
  congr 1
  omega
 ·rw[Array.toList_append,Array.toList_append,Rq,SA,TE (by simp[hxl]),List.toList_toArray,hxl,Nr,S8,Rw]
theorem ZJ(T:Tab P){n':Nat}{ki:IntKind}{z:Int}(hx:evo env x=some (.slice A k cap))(hl:evo env hi=some (.int ki z))(ht:look T.sl t=some (e,size,bytes))(hn:Nat.ble (d+1) n.k=true)(hb:0<=z/\z<=cap)(hn':z.toNat=n')(hA:∃g,A=some ⟨g,0,none⟩)
 (h:VL P m n B w0 ops Q rest ((d,.slice A n' cap)::env) H):VL P m n B w0 ops Q (⟨some d,.slice t x none (some hi) none,ty,pos,after,none⟩::rest) env H:=by
 subst hn'
 obtain⟨g,rfl⟩:=hA
 refine YP rfl rfl hn rfl (λf w ha hw=>?_) h
 have hA:(if cap=0 then(some ⟨g,0,none⟩:Option Addr)else(some ⟨g,0,none⟩:Option Addr).map (·.add (0*size)))=some ⟨g,0,none⟩:=by
  simp[Addr.add_lit]
 have hb2:(Instr.sliceBounds true k cap none (some (.int ki z)) none).run P w=.ok (0,z.toNat,cap) w:=zc79
 have hr:=Vi T (A:=some ⟨g,0,none⟩) ht hb2
 exact Ys6
theorem Yab{w:World}{gv g:Nat}{o:Obj}{R:List HP}(h:St B w0 (Eng.blk gv o::sl e size (some ⟨g,0,none⟩) k cap xs::R) w):gv≠g:=by
 obtain⟨S1,S2,_,_,hd,h4,h5⟩:=h.sep
 obtain⟨S3,S4,h6,_,_,h9,_⟩:=h5
 rintro rfl
 exact hd gv h4.1 (h6 _ (h9.2 _ rfl))
end
variable {B cap:Nat}{w0:World}{H:List HP}{A:Option Addr}
theorem Oa{P:Program}{n:Shp}{Q:Exit->Act->World->Prop}{env:Env}{c:Code}{e size k:Nat}{xs:List Value}(hm:sl e size A k cap xs∈H)(h:k<=cap->VC P n B w0 c Q env H):VC P n B w0 c Q env H:=by
 refine⟨λa w ha hw=>?_⟩
 have hown:=hw.sl hm
 have hkc:k<=cap:=zc50
 exact(h hkc).run a w ha hw
end Go.Eng
namespace Go.Proofs.YtjlgijpmnfabcaaGreatDoor
open Go.RowKit Go.Eng Go.Nw
theorem Z6(A:Option Addr)(cap size:Nat):subA A 0 cap size=A:=by
 simp_all [subA,Go.Addr.add]
def cels(A:Option Addr)(cap:Nat)(l:List Cel):HP:=sl 48 5 A l.length cap (l.flatMap celF)
theorem Ymg(A:Option Addr)(cap:Nat)(l:List Cel)(c:Cel):sl 48 5 A (l.length+1) cap (l.flatMap celF++celF c)=cels A cap (l++[c]):=by
 grind [cels]
theorem JE(A:Option Addr)(cap:Nat)(l:List Cel)(c:Cel):sl 48 5 A (l.length+1) cap (l.flatMap celF++#[Value.int .i64 c.1,.int .i64 c.2.1,.int .i64 c.2.2.1,.int .i64 c.2.2.2.1,.int .i64 c.2.2.2.2].toList)=cels A cap (l++[c]):=Ymg A cap l c
theorem YhR(l:List Cel)(c:Cel):l.length+1=(l++[c]).length:=by simp
variable {B cap:Nat}{w0 w:World}{H:List HP}{A:Option Addr}
theorem Rd.cels{l:List Cel}(h:cels A cap l∈H):Rd B w0 H A (l.flatMap celF):=.sl h
theorem Yn3{a b:Cel}(h:celF a=celF b):a=b:=by
 obtain⟨a1,a2,a3,a4,a5⟩:=a
 simp_all [celF]
section
variable {m:Eng.Mode}{n:Shp}{B d:Nat}{w0:World}{ops:Array Oper}{Q:Exit->Act->World->Prop}{rest:List Oper}{env:Env}{H:List HP}{ty:TypeId}{pos:String}{after:Array Edge}
theorem Yqf(a b:Cel){x y:Operand}(hx:evo env x=some (.agg (celF a).toArray))(hy:evo env y=some (.agg (celF b).toArray))(hn:Nat.ble (d+1) n.k=true)
 (h1:a≠b->VL Tryz.prog m n B w0 ops Q rest ((d,.bool true)::env) H) (h2:a=b->VL Tryz.prog m n B w0 ops Q rest ((d,.bool false)::env) H):
 VL Tryz.prog m n B w0 ops Q (⟨some d,.binOp .neq 48 x y 48,ty,pos,after,none⟩::rest) env H:=
 UF (xs:=celF a) (ys:=celF b) hx hy hn (by kernel_rfl) (by kernel_rfl) (λe=>h1 λh=>e (by rw[h])) (λe=>h2 (Yn3 e))
end
theorem Yiq(l m:List Cel)(hl:l.length<=1000000000000)(hm:m.length<=1000000000000){A2:Option Addr}{cap2:Nat}(hr:Rd B w0 H A (l.flatMap celF))(hr2:Rd B w0 H A2 (m.flatMap celF))(hw:St B w0 H w):
 CX B w0 223 [.slice A l.length cap,.slice A2 m.length cap2] w λv K=>v=.bool (decide (l=m))/\K=H:=by
 refine Yc Tryz.func223 Tryz.ntmps223 rfl rfl hw ?_
 by_cases hll:l.length=m.length
 rotate_left
 ·exact zc11
 refine zX3 ?_<;>intros
 refine Yf (λ(i:Nat)=>[(5,.int .i64 i),(0,.slice A l.length cap),(1,.slice A2 m.length cap2)]) (λ_=>H) (λi=>i<=l.length/\l.take i=m.take i) (λi=>l.length-i) 0 ⟨Tc _,rfl⟩ ?_ (λw hw=>hw) ?_
 ·exact zc1
 rintro i ⟨hi,he⟩ K hK
 by_cases hlt:i<l.length
 ·obtain⟨x,hx⟩:∃x,l[i]? =some x:=⟨_,Ta hlt⟩
  obtain⟨y,hy⟩:∃y,m[i]? =some y:=⟨_,Ta (by omega)⟩
  repeat'(first|(apply Yqf x y;(iterate 3 exact rfl);all_goals intro hxy)|refine zgd ?_|(refine zge ?_ ?_<;>intro _<;>try exact zo)|fail)
  ·apply Yd;exact rfl;exact rfl
   have hne:l≠m:=by
    grind
   simp_all
  ·apply hK (i+1)
   ·exact⟨by omega,by exact zc81⟩
   ·omega
   ·exact zc1
   exact zc20
 ·obtain rfl:i=l.length:=by omega
  refine zX1 ?_<;>intros
  apply Yd;exact rfl;exact rfl
  rw[TC,hll,TC]at he
  exact⟨by rw[Ti he],rfl⟩
theorem Yka(s t:SchM)(hl:s.cells.length<=1000000000000)(hm:t.cells.length<=1000000000000)(hr:Rd B w0 H s.A (s.cells.flatMap celF))(hr2:Rd B w0 H t.A (t.cells.flatMap celF))(hw:St B w0 H w):
 CX B w0 128 [s.val,t.val] w λv K=>v=.bool (decide (s.len=t.len/\s.off=t.off/\s.cells=t.cells))/\K=H:=by
 refine Yc Tryz.func128 Tryz.ntmps128 rfl rfl hw ?_
 repeat'(first|((first|apply Yx Yr8|apply Yw Yr8);exact za;exact rfl;exactλ_ hw=>(Yiq s.cells t.cells hl hm hr.cons.cons hr2.cons.cons hw);all_goals(intro hB;(try simp only[To,Tv]at hB);try exact zo))|refine zgc ?_|(refine zge ?_ ?_<;>intro _<;>try exact zo)|(refine zgh ?_;intro _)|fail)
 all_goals(
  apply Yg H
  ·exact zk
  apply Yd;exact rfl;exact rfl
  first
   |exact⟨by rw[Ti ⟨by assumption,by assumption,by assumption⟩],rfl⟩
   |exact⟨by rw[Tj λh=>absurd h.1 (by assumption)],rfl⟩
   |exact⟨by rw[Tj λh=>absurd h.2.1 (by assumption)],rfl⟩
   |exact⟨by rw[Tj λh=>absurd h.2.2 (by assumption)],rfl⟩)
def inI(s:Sch)(slot:Int)(k:Nat):List Nat:=(List.range k).filter λi=>decide ((Yn s i).1=slot)
def inXs(s:Sch)(slot:Int):List (List Value):=(inI s slot s.cells.length).map λ(i:Nat)=>[Value.int .i64 (i:Int)]
variable {s:Sch}{slot:Int}{k B:Nat}
theorem Yll(h:(Yn s k).1=slot):inI s slot (k+1)=inI s slot k++[k]:=by
 grind [inI,RI]
theorem YoJ(h:(Yn s k).1≠slot):inI s slot (k+1)=inI s slot k:=by
 grind [inI,RI]
theorem YqM{n:Nat}(h:(Yn s k).1=slot)(hk:k<n):(inI s slot n)[(inI s slot k).length]? =some k:=by
 obtain⟨m,rfl⟩:∃m,n=k+(m+1):=⟨n-k-1,by omega⟩
 have e:inI s slot (k+(m+1))=inI s slot k++((List.range (m+1)).map (k+·)).filter λi=>decide ((Yn s i).1=slot):=by
  grind [inI,List.range_add]
 simp_all [List.range_succ_eq_map]
theorem Oi{i:Nat}:i∈inI s slot k↔i<k/\(Yn s i).1=slot:=by
 grind [inI]
def schB(g:Nat)(s:SchM):HP:=blk g (.cells #[.int .i64 s.len,.int .i64 s.off,.slice s.A s.cells.length s.cap] 30 (0,0))
def intB(g:Nat)(x:Int):HP:=blk g (.cells #[.int .i64 x] 3 (0,0))
variable {w0:World}
theorem YhI(s:SchM)(slot:Int)(gs gt:Nat){HI:List HP}(hr:Rd B w0 HI s.A (s.cells.flatMap celF))(hl:s.cells.length<=1000000000000)
 (hms:blk gs (.cells #[.int .i64 s.len,.int .i64 s.off,.slice s.A s.cells.length s.cap] 30 (0,0))∈HI) (hmt:blk gt (.cells #[.int .i64 slot] 3 (0,0))∈HI):
 YbI Tryz.prog 320 [.pointer (some ⟨gs,0,none⟩),.pointer (some ⟨gt,0,none⟩)] (inXs s.sch slot) B w0 HI:=by
 refine YbJ Tryz.func320 Tryz.ntmps320 rfl rfl ?_
 intro l SS X hy L0 h0
 refine zX7 ?_
 refine Yf (λ(x:Nat×List HP)=>[(9,.int .i64 x.1),(8,.int .i64 s.cells.length),(7,.slice s.A s.cells.length s.cap),(0,.func (.yield l) #[] #[]),(1,.pointer (some ⟨gs,0,none⟩)),(2,.pointer (some ⟨gt,0,none⟩))]) (λx=>many x.2::HI) (λx=>x.1<=s.cells.length/\SS (inI s.sch slot x.1).length x.2) (λx=>s.cells.length-x.1) (0,L0) ⟨Tc _,h0⟩ ?_ (λw hw=>hw) ?_
 ·exact zc1
 rintro⟨i,L⟩ ⟨hi,hS⟩ K hK
 dsimp only at hi hS⊢
 have hr:=hr.cons (X:=many L)
 by_cases hlt:i<s.cells.length
 ·have hget:s.cells[i]? =some (Yn s.sch i):=YS (s:=s.sch) hlt
  have hlt2:i<s.sch.cells.length:=hlt
  iterate 22 (first|refine zgd ?_|(refine zge ?_ ?_<;>intro _<;>try exact zo)|(refine zgh ?_;intro _)|fail)
  refine YbL 7 rfl rfl YiY ?_
  repeat'(first|refine zgc ?_|(refine zge ?_ ?_<;>intro _<;>try exact zo)|fail)
  ·rename_i g5 hs
   have hx:(inXs s.sch slot)[(inI s.sch slot i).length]? =some [.int .i64 (i:Int)]:=by
    rw[inXs,TU,YqM hs hlt2];rfl
   have hY:=hy _ _ hx [blk g5 (.cells (celF (Yn s.sch i)).toArray 48 (0,0))] L hS
   apply YbV _ _ (hy:=hY)
   ·exact Ybf (j:=4) (s:=18) rfl rfl rfl
   ·exact rfl
   ·exact YpU
   ·exact rfl
   ·exact YiY
   ·rintro _ ⟨L',hS',rfl⟩
    refine zX2 ?_
    apply hK (i+1,L')
    ·exact⟨by omega,by rw[Yll hs,Tq];exact hS'⟩
    ·exact zc83
    ·exact zc1
    ·exact zc62
   ·rintro _ ⟨L',hX',rfl⟩
    refine zX2 ?_
    apply Yg (many L'::HI)
    ·exact zc62
    apply Ob;exact rfl
    exact .inr ⟨L',hX',rfl⟩
  ·rename_i hs
   apply YgY YiY
   refine zX9 ?_
   apply hK (i+1,L)
   ·exact⟨by omega,by rw[YoJ hs];exact hS⟩
   ·exact zc83
   ·exact zc1
   ·exact zc62
 ·refine zX1 ?_<;>intros
  apply Vd;exact rfl
  rw[show i=s.cells.length by omega]at hS
  exact .inl ⟨L,by rw[inXs,Tu];exact hS,rfl⟩
theorem YhJ(s:SchM)(slot:Int){H:List HP}{w:World}(hw:St B w0 H w):
 CX B w0 238 [s.val,.int .i64 slot] w λv K=>∃gs gt,v=.func (.func 320) #[] #[.pointer (some ⟨gs,0,none⟩),.pointer (some ⟨gt,0,none⟩)]/\K=intB gt slot::schB gs s::H:=by
 refine Yc Tryz.func238 Tryz.ntmps238 rfl rfl hw ?_
 refine zX27 ?_<;>intros
 apply Yd;exact rfl;exact rfl
 exact⟨_,_,rfl,rfl⟩
abbrev ints(A:Option Addr)(cap:Nat)(l:List Int):HP:=sl 3 1 A l.length cap (l.flatMap numF)
theorem YmB(A:Option Addr)(cap:Nat)(l:List Int)(z:Int):sl 3 1 A (l.length+1) cap (l.flatMap numF++#[Value.int .i64 z].toList)=ints A cap (l++[z]):=by simp_all [ints,numF]
theorem Yni{l:List Int}{k:Nat}{a:Int}(h:l[k]? =some a):l.take (k+1)=l.take k++[a]:=zc81
def wordS:List UInt8:=[115,99,104,101,100,117,108,101]
def wordC:List UInt8:=[99,101,108,108]
def Wf(w:List UInt8)(l:List Int):List UInt8:=w++l.flatMap λn=>32::Lib.itoa n
def WM(w:List UInt8)(l:List Int):List UInt8:=Wf w l++[10]
def YpB(s:Sch):List UInt8:=WM wordS [s.len,s.off]++s.cells.flatMap λc=>WM wordC (nums c)
def JN(s:Sch):List UInt8×Int:=if Xw s=false then([],1)else(YpB s,0)
theorem YoO{n:Int}(h:0<=n):Lib.itoa n=Lib.decDigits n.toNat:=by simp_all [Go.Lib.itoa,if_neg]
theorem Yan{s:Sch}(h:Frm s):(∀n∈[s.len,s.off],0<=n/\n<10000)/\∀c∈s.cells,∀n∈nums c,0<=n/\n<10000:=by
 have h1:=h.sized
 unfold XU at h1
 constructor
 ·grind
 ·intro c hc n hn
  have h3:=h.formed c hc
  unfold XC XE insE at h3
  unfold nums at hn
  grind
variable {B:Nat}{w0:World}{H:List HP}
theorem NetM.In.mono{K:List HP}{n:NetM}(h:n.In B w0 H)(hH:∀w,St B w0 K w->St B w0 H w):n.In B w0 K:=
 ⟨h.pw.mono hH,λr hr=>(h.rw_ r hr).mono hH,h.lk.mono hH,h.mg.mono hH,h.s1,h.s2,h.s3,h.s4⟩
def fewE(n:Net):Bool:=decide ((∀r∈n.power,r.length<=40)/\n.power.length<=8/\n.links.length<=60/\n.margin.length<=60)
theorem Ycs(n:NetM){w:World}(hin:n.In B w0 H)(hw:St B w0 H w):
 CX B w0 18 [n.val] w λv K=>v=.bool (fewE n.net)/\K=H:=by
 refine Yc Tryz.func18 Tryz.ntmps18 rfl rfl hw ?_
 obtain⟨hpw,hrw,hlk,hmg,hs1,hs2,hs3,hs4⟩:=id hin
 have e1:(∀r∈n.net.power,r.length<=40)↔∀r∈n.rows,r.xs.length<=40:=by simp[NetM.net]
 have e2:n.net.power.length=n.rows.length:=by simp[NetM.net]
 have e3:n.net.links=n.links:=rfl
 have e4:n.net.margin=n.margin:=rfl
 unfold fewE
 rw[e2,e3,e4]
 (apply Y0;apply YL;apply Yy;exact rfl;exact rfl;intro g)
 refine zX7 ?_
 refine Yf (λ(a:Nat)=>[(3,.int .i64 a),(1,.pointer (some ⟨g,0,none⟩))]) (λ_=>netB g n::H) (λa=>a<=n.rows.length/\∀j r,j<a->n.rows[j]? =some r->r.xs.length<=40) (λa=>n.rows.length-a) 0 ⟨Tc _,by intro j r hj;omega⟩ ?_ (λw hw=>hw) ?_
 ·exact zc1
 rintro a ⟨ha,hai⟩ K hK
 by_cases hlt:a<n.rows.length
 ·obtain⟨r,hr⟩:∃r,n.rows[a]? =some r:=⟨_,Ta hlt⟩
  have hs2r:=hs2 r (Td hr)
  repeat'(first|refine zgd ?_|(refine zgf ?_ ?_<;>intro _<;>try exact zo)|fail)
  ·rename_i h
   apply Yk;apply Yd;exact rfl;exact rfl
   exact⟨by rw[Tj λhc=>by have:=e1.1 hc.1 r (Td hr);omega],rfl⟩
  ·rename_i h
   apply hK (a+1)
   ·refine⟨by omega,λj q hj hq=>?_⟩
    by_cases e:j=a
    ·subst e;rw[hr]at hq;rw[<-Tz hq];omega
    ·exact hai j q (by omega) hq
   ·omega
   ·exact zc1
   exact zc20
 obtain rfl:a=n.rows.length:=by omega
 have hall:∀r∈n.rows,r.xs.length<=40:=λr hr=>by
  obtain⟨j,hj⟩:=List.getElem?_of_mem hr
  exact hai j r (Tn.1 hj).1 hj
 repeat'(first|refine zgc ?_|(refine zgf ?_ ?_<;>intro _<;>try exact zo)|fail)
 ·apply Yk;apply Yd;exact rfl;exact rfl
  exact⟨by rw[Ti ⟨e1.2 hall,by omega,by omega,by omega⟩],rfl⟩
 all_goals(apply Yk;apply Yd;exact rfl;exact rfl;exact⟨by rw[Tj λhc=>by omega],rfl⟩)
structure Tabs(w:World):Prop where
 pow:Lib.TabIs Tryz.prog w "internal/strconv.uint64pow10" .u64 Lib.pow10Tab
def TabsB(B:Nat)(w0:World):Prop:=∀w,Below B w0 w->Tabs w
variable {B:Nat}{w0 w:World}{H:List HP}
theorem TabsB.here(h:TabsB B w0)(hw:St B w0 H w):TabsB w.heap.size w:=λw1 h1=>h w1 (hw.below.trans (h1.mono hw.le))
abbrev strV(l:List UInt8):Value:=.string ⟨l.toArray⟩
theorem YmE(n:Int)(h0: -9223372036854775808<=n)(h1:n<=9223372036854775807)(ht:TabsB B w0)(hw:St B w0 H w):
 CX B w0 94 [.int .i64 n] w λv K=>v=strV (Lib.itoa n)/\K=H:=
 Yjg hw ((Tryz.strconv_Itoa n h0 h1 w (ht w hw.below).pow).mono λe w' ⟨h1,k,os,h2⟩=>⟨h1,by simp_all [Go.Lib.below_grow]⟩)
theorem QC{s:Sch}{slot:Int}{k:Nat}{args:List Value}(h:(inXs s slot)[k]? =some args):∃i,(inI s slot s.cells.length)[k]? =some i/\i<s.cells.length/\args=[.int .i64 (i:Int)]:=by
 unfold inXs at h
 rw[TU]at h
 cases hi:(inI s slot s.cells.length)[k]? with
 |none=>simp_all
 |some i=>
  rw[hi]at h
  cases h
  exact⟨i,rfl,(Oi.1 (Td hi)).1,rfl⟩
section
variable {m:Eng.Mode}{n:Shp}{B d:Nat}{w0:World}{ops:Array Oper}{Q:Exit->Act->World->Prop}{rest:List Oper}{env:Env}{H:List HP}{ty:TypeId}{pos:String}{after:Array Edge}{x y:Operand}
theorem Yi5(a b:List UInt8)(hx:evo env x=some (strV a))(hy:evo env y=some (strV b))(hn:Nat.ble (d+1) n.k=true)(hb:a.length+b.length<=1000000)(h:VL Tryz.prog m n B w0 ops Q rest ((d,strV (a++b))::env) H):
 VL Tryz.prog m n B w0 ops Q (⟨some d,.binOp .add 9 x y 9,ty,pos,after,none⟩::rest) env H:=by
 have hs:∀l:List UInt8,(⟨l.toArray⟩:ByteArray).size=l.length:=by grind [ByteArray.size]
 refine Yqp hx hy hn (by grind) ?_
 have e:(⟨a.toArray⟩:ByteArray)++⟨b.toArray⟩=⟨(a++b).toArray⟩:=by
  apply ByteArray.ext
  simp
 simp_all
variable {g:Nat}{cs:Array Value}{fr:Nat×Nat}
theorem YnL(hx:evo env x=some (.pointer (some ⟨g,0,none⟩)))(hm:blk g (.cells cs 98 fr)∈H)(hc:cs.size=2)(hn:Nat.ble (d+1) n.k=true)
 (h:VL Tryz.prog none n B w0 ops Q rest ((d,.pointer (some ⟨g,0,none⟩))::env) H):VL Tryz.prog none n B w0 ops Q (⟨some d,.convert 95 256 x,ty,pos,after,none⟩::rest) env H:=by
 refine XH (λv K'=>v=.pointer (some ⟨g,0,none⟩)/\K'=H) rfl rfl hn (λa w ha hw=>?_) (by rintro _ _ ⟨rfl,rfl⟩;exact h)
 have hb:=(hw.blk hm).1
 obtain⟨j,hj,hjs⟩:=Option.map_eq_some_iff.1 (show(Tryz.prog.info? 98).map (·.size)=some 2 by kernel_rfl)
 have hr:=Lib.run_to_unsafe (P:=Tryz.prog) w ⟨g,0,none⟩ Tryz.underlying95 Tryz.underlying256 hj (by rw[hjs];decide) (show w.shape? g=some (98,2) by simp[World.shape?,hb,hc]) (Nat.zero_lt_succ 1)
 exact⟨_,H,w,by simp[execOp,ha.eval hx,hr],hw,rfl,rfl⟩
theorem YnE(hx:evo env x=some (.pointer (some ⟨g,0,none⟩)))(hm:blk g (.cells cs 98 fr)∈H)(hc:cs.size=2)(hn:Nat.ble (d+1) n.k=true)
 (h:VL Tryz.prog none n B w0 ops Q rest ((d,.pointer (some ⟨g,0,none⟩))::env) H):VL Tryz.prog none n B w0 ops Q (⟨some d,.convert 256 95 x,ty,pos,after,none⟩::rest) env H:=by
 refine XH (λv K'=>v=.pointer (some ⟨g,0,none⟩)/\K'=H) rfl rfl hn (λa w ha hw=>?_) zc64
 have hb:=(hw.blk hm).1
 obtain⟨j,hj,hjs⟩:=Option.map_eq_some_iff.1 (show(Tryz.prog.info? 98).map (·.size)=some 2 by kernel_rfl)
 have hr:=Lib.run_from_unsafe (P:=Tryz.prog) w ⟨g,0,none⟩ Tryz.underlying256 Tryz.underlying95 hj (show w.shape? g=some (98,2) by simp[World.shape?,hb,hc]) (by kernel_rfl)
 exact⟨_,H,w,by simp[execOp,ha.eval hx,hr],hw,rfl,rfl⟩
theorem YnC{v:Value}{tys:Array TypeId}(hx:evo env x=some v)(hn:Nat.ble (d+1) n.k=true)(h:VL Tryz.prog none n B w0 ops Q rest ((d,v)::env) H):
 VL Tryz.prog none n B w0 ops Q (⟨some d,.call ⟨.value (.func 179),#[x],tys⟩,ty,pos,after,none⟩::rest) env H:=by
 refine XH (λu K'=>u=v/\K'=H) rfl rfl hn (λa w ha hw=>⟨v,H,w,?_,hw,rfl,rfl⟩) zc64
 have hr:=run_callFunc_extern (P:=Tryz.prog) Tryz.func179 (by kernel_rfl) (by kernel_rfl) (by kernel_rfl) (e:=Extern.AbiNoEscape.same) (by kernel_rfl) #[v] w
 have he:a.eval (.func 179)=.func (.func 179) #[] #[]:=rfl
 simp[execOp,resolve,invoke,ha.eval hx,he,Deferred.ofValue,hr,Lib.run_noEscape,Result.andThen]
theorem YgU{g:Addr}(hx:evo env x=some (.pointer (some g)))(hy:evo env y=some (.pointer (some g)))(hn:Nat.ble (d+1) n.k=true)(h:VL Tryz.prog m n B w0 ops Q rest ((d,.bool false)::env) H):
 VL Tryz.prog m n B w0 ops Q (⟨some d,.binOp .neq 95 x y 95,ty,pos,after,none⟩::rest) env H:=by
 obtain⟨j,hj,hjs⟩:=Option.map_eq_some_iff.1 (show(Tryz.prog.info? 98).map (·.size)=some 2 by kernel_rfl)
 exact Xe hx hy hn (λ_=>rfl) (λw=>Lib.run_neq_ptr_same w g Tryz.underlying95 hj) h
end
variable {B b cap:Nat}{w0 w:World}{H:List HP}
theorem Yca(b:Nat)(p v:Value)(hp:p=.pointer none\/p=.pointer (some ⟨b,0,none⟩))(hw:St B w0 (blk b (.cells #[p,v] 98 (0,0))::H) w):
 CX B w0 93 [.pointer (some ⟨b,0,none⟩)] w λu K=>u=.tuple #[]/\K=blk b (.cells #[.pointer (some ⟨b,0,none⟩),v] 98 (0,0))::H:=by
 refine Yc Tryz.func93 Tryz.ntmps93 rfl rfl hw ?_
 rcases hp with rfl|rfl
 ·skip
  repeat'(first|(apply YgT;exact rfl;exact rfl;kernel_rfl)|(apply YnL;exact rfl;exact zm;exact rfl;exact rfl)|(apply YnE;exact rfl;exact zm;exact rfl;exact rfl)|(apply YnC;exact rfl;exact rfl)|(apply YgU;(iterate 3 exact rfl))|refine zgd ?_|fail)
  exact YiZ
 ·skip
  repeat'(first|(apply YgT;exact rfl;exact rfl;kernel_rfl)|(apply YgU;(iterate 3 exact rfl))|refine zgd ?_|fail)
  exact YiZ
def bdP(b:Nat)(p:Value)(A:Option Addr)(cap:Nat)(l:List UInt8)(H:List HP):List HP:=blk b (.cells #[p,.slice A l.length cap] 98 (0,0))::sl 5 1 A l.length cap (Lib.byteCells l)::H
theorem Ydw(b:Nat)(p:Value)(hp:p=.pointer none\/p=.pointer (some ⟨b,0,none⟩))(A:Option Addr)(cap:Nat)(l s:List UInt8)(hl:l.length+s.length<=1000000)(hw:St B w0 (bdP b p A cap l H) w):
 CX B w0 35 [.pointer (some ⟨b,0,none⟩),strV s] w λu K=>u=.tuple #[.int .i64 s.length,.nilIface]/\∃A' cap',K=bdP b (.pointer (some ⟨b,0,none⟩)) A' cap' (l++s) H:=by
 have hs:(⟨s.toArray⟩:ByteArray).size=s.length:=by simp[ByteArray.size]
 refine Yc Tryz.func35 Tryz.ntmps35 rfl rfl hw ?_
 unfold bdP
 refine zX4 ?_
 apply Yi _ en93
 exact za
 exact rfl
 exactλ_ hw=>(Yca b p _ hp (hw))
 rintro _ _ ⟨rfl,rfl⟩
 repeat'(first|(apply Yfx T (e:=5);(iterate 3 exact rfl);kernel_rfl;exact rfl;exact rfl;(intro _ _;exact zd);(rw[hs];omega);intro A' cap')|refine zgd ?_|fail)
 have e1:Lib.byteCells l++Lib.strCells ⟨s.toArray⟩=Lib.byteCells (l++s):=by
  grind [Go.Lib.byteCells,Go.Lib.strCells]
 have e2:l.length+(⟨s.toArray⟩:ByteArray).size=(l++s).length:=by simp_all
 apply Yo;(iterate 3 exact rfl)
 refine⟨by rw[hs],A',cap',?_⟩
 simp_all
variable {p:Value}{A:Option Addr}{l:List UInt8}
theorem Yt2(hp:p=.pointer none\/p=.pointer (some ⟨b,0,none⟩))(hw:St B w0 (bdP b p A cap l H) w):Lib.IsBuilder 98 5 B b (Lib.byteCells l) w:=by
 obtain⟨_,_,S1,S2,k1,k2,k3,⟨k4,k5⟩,S3,S4,j1,j2,j3,⟨⟨j4,j5⟩,j6⟩,j7⟩:=hw
 have hl:(Lib.byteCells l).length=l.length:=by omega
 have hat:Lib.BuilderAt 98 5 B b p (Lib.byteCells l) w:=by
  refine⟨(k1 b k4).1,.slice A l.length cap,k5,⟨by omega,?_⟩,?_⟩
  ·rw[hl]
   rcases j5 with j5|⟨g,c,cur,e1,e2,e3⟩
   ·simp_all
   ·refine .inr ⟨g,c,cur,e1,?_,e3⟩
    simp_all
  exact YlJ
 rcases hp with rfl|rfl
 ·exact .inl hat
 ·exact .inr hat
theorem YiH(hp:p=.pointer none\/p=.pointer (some ⟨b,0,none⟩))(hw:St B w0 (bdP b p A cap l H) w):
 CX B w0 37 [.pointer (some ⟨b,0,none⟩)] w λv K=>v=strV l/\K=[]:=by
 refine(Tryz.Builder_String_any B b l w (Yt2 hp hw) hw.le).mono ?_
 rintro e w' ⟨rfl,hb⟩
 exact⟨_,[],rfl,⟨hw.below.trans hb,T0 hw.le hb.size,trivial⟩,rfl,rfl⟩
theorem YhM{n:Int}(h:0<=n/\n<10000):(Lib.itoa n).length<=4:=by
 grind [YoO,YqD]
theorem Yb1{w:List UInt8}:∀{l:List Int},(∀n∈l,0<=n/\n<10000)->(Wf w l).length<=w.length+5*l.length
 |[],_=>by simp[Wf]
 |n::l,h=>by
  have ih:=Yb1 (w:=w) (l:=l) λm hm=>h m (TP _ hm)
  grind [YhM,Wf]
theorem Ymd(w:List UInt8)(l:List Int)(n:Int):Wf w (l++[n])=Wf w l++([32]++Lib.itoa n):=by
 grind [Wf]
theorem Ye0(word:List UInt8)(l:List Int)(h:∀n∈l,0<=n/\n<10000)(h5:l.length<=100)(hwd:word.length<=100)(ht:TabsB B w0)(hr:Rd B w0 H A (l.flatMap numF))(hw:St B w0 H w):
 CX B w0 44 [strV word,.slice A l.length cap] w λv K=>v=strV (WM word l)/\K=H:=by
 refine Yc Tryz.func44 Tryz.ntmps44 rfl rfl hw ?_
 refine zX7 ?_
 refine Yf (λ(i:Nat)=>[(9,.int .i64 i),(8,.int .i64 l.length),(7,.slice A l.length cap),(0,strV (Wf word (l.take i)))]) (λ_=>H) (λi=>i<=l.length) (λi=>l.length-i) 0 (Tc _) ?_ (λw hw=>hw) ?_
 ·have e0:Wf word (l.take 0)=word:=by simp[Wf]
  rw[e0]
  exact zc1
 intro i hi K hK
 have hbl:=Yb1 (w:=word) (l:=l.take i) λn hn=>h n (SC hn)
 have hlt0:(l.take i).length<=100:=by grind
 by_cases hlt:i<l.length
 ·obtain⟨n,hn⟩:∃n,l[i]? =some n:=⟨_,Ta hlt⟩
  have hnb:=h n (Td hn)
  have hil:=YhM hnb
  repeat'(first|((first|apply Ya en94|apply Yb en94);exact za;exact rfl;exactλ_ hw=>(YmE n (by omega) (by omega) ht hw))|(apply Yi5 [32] (Lib.itoa n);(iterate 3 exact rfl);(show 1+_<=_;omega))|(apply Yi5 (Wf word (l.take i)) ([32]++Lib.itoa n);(iterate 3 exact rfl);(rw[Tq];show _+(1+_)<=_;omega))|refine zgd ?_|(refine zge ?_ ?_<;>intro _<;>try exact zo)|fail)
  apply hK (i+1)
  ·show i+1<=l.length
   omega
  ·omega
  ·rw[TB,hn,Ru,Ymd]
   exact zc1
  exact zc20
 ·skip
  repeat'(first|(apply Yi5 (Wf word (l.take i)) [10];(iterate 3 exact rfl);(show _+1<=_;omega))|refine zgc ?_|(refine zge ?_ ?_<;>intro _<;>try exact zo)|fail)
  apply Yd;exact rfl;exact rfl
  rw[show i=l.length by omega,TC]
  exact OX
def Jt(s:Sch)(i:Nat):List UInt8:=WM wordS [s.len,s.off]++(s.cells.take i).flatMap λc=>WM wordC (nums c)
theorem Ybc{s:Sch}{i:Nat}(h:i<s.cells.length):Jt s (i+1)=Jt s i++WM wordC (nums (Yn s i)):=by
 grind [Jt,TB,YS]
theorem QI{w:List UInt8}{l:List Int}(h:∀n∈l,0<=n/\n<10000):(WM w l).length<=w.length+5*l.length+1:=by
 grind [WM,Yb1]
theorem Ydo{s:Sch}(h:Frm s):∀i,i<=s.cells.length->(Jt s i).length<=100+40*i
 |0,_=>by
  have h1:=QI (w:=wordS) (Yan h).1
  grind [Jt,wordS,TS]
 |i+1,hi=>by
  have ih:=Ydo h i (by omega)
  have h1:=QI (w:=wordC) ((Yan h).2 _ (Jb (s:=s) (i:=i) (by omega)))
  rw[Ybc (by omega),Tq]
  have:wordC.length=4:=rfl
  have h2:(nums (Yn s i)).length=5:=rfl
  omega
theorem Ypf(s:SchM)(ht:TabsB B w0)(hr:Rd B w0 [] s.A (s.cells.flatMap celF))(hl:s.cells.length<=1000000000000)(hw:St B w0 [] w):
 CX B w0 11 [s.val] w λv _=>v=.tuple #[strV (JN s.sch).1,.int .i64 (JN s.sch).2]:=by
 refine Yc Tryz.func11 Tryz.ntmps11 rfl rfl hw ?_
 have e1:s.sch.cells=s.cells:=rfl
 cases hf:Xw s.sch with
 |false=>
  refine zX32 ?_<;>intros
  apply Yo;(iterate 3 exact rfl)
  simp_all [JN]
 |true=>
  have hfr:=Za.1 hf
  have hle:s.cells.length<=512:=hfr.few
  have hnm:=Yan hfr
  have hln1:=QI (w:=wordS) hnm.1
  refine zX32 ?_<;>intros
  rename_i gs gb gl
  have hrl:Rd B w0 [blk gl (.cells #[.int .i64 s.len,.int .i64 s.off] 3 (0,0)),blk gb (.cells (Value.agg #[.pointer none,.slice none 0 0]).cells 98 (0,0)),blk gs (.cells #[.int .i64 s.len,.int .i64 s.off,.slice s.A s.cells.length s.cap] 30 (0,0))] (some ⟨gl,0,none⟩) ([s.sch.len,s.sch.off].flatMap numF):=Rd.blk (cs:=#[.int .i64 s.len,.int .i64 s.off]) (.head _)
  first|apply Ya en44|apply Yb en44
  exact za
  exact rfl
  exactλ_ hw=>(Ye0 wordS [s.sch.len,s.sch.off] hnm.1 (by show 2<=100;decide) (by decide) ht hrl hw)
  apply Zz (bdP gb (.pointer none) none 0 [] [blk gs (.cells #[.int .i64 s.len,.int .i64 s.off,.slice s.A s.cells.length s.cap] 30 (0,0))])
  ·unfold bdP
   intro w hw
   have h5:St B w0 [blk gb (.cells (Value.agg #[.pointer none,.slice none 0 0]).cells 98 (0,0)),blk gs (.cells #[.int .i64 s.len,.int .i64 s.off,.slice s.A s.cells.length s.cap] 30 (0,0))] w:=by
    revert w
    exact zc0
   exact(h5.nilSlice _ _).perm (.swap _ _ _)
  apply Yi _ en35
  exact za
  exact rfl
  exactλ_ hw=>(Ydw gb _ (.inl rfl) none 0 [] (WM wordS [s.sch.len,s.sch.off]) (by simp only[Rr];have:wordS.length=8:=rfl;simp only[TS,Rr]at hln1;omega) (hw))
  rintro _ _ ⟨rfl,A1,cap1,rfl⟩
  unfold bdP
  refine zX7 ?_
  refine Yf (λ(z:Nat×Option Addr×Nat)=>[(21,.int .i64 z.1),(20,.int .i64 s.cells.length),(19,.slice s.A s.cells.length s.cap),(4,.pointer (some ⟨gb,0,none⟩))]) (λz=>bdP gb (.pointer (some ⟨gb,0,none⟩)) z.2.1 z.2.2 (Jt s.sch z.1) [blk gs (.cells #[.int .i64 s.len,.int .i64 s.off,.slice s.A s.cells.length s.cap] 30 (0,0))]) (λz=>z.1<=s.cells.length) (λz=>s.cells.length-z.1) (0,A1,cap1) (Tc _) ?_ ?_ ?_
  ·exact zc1
  ·have e0:Jt s.sch 0=[]++WM wordS [s.sch.len,s.sch.off]:=by unfold Jt;simp
   rw[e0]
   unfold bdP
   exactλw hw=>hw
  rintro⟨i,A2,cap2⟩ hi K hK
  dsimp only at hi⊢
  have htl:=Ydo hfr i hi
  by_cases hlt:i<s.cells.length
  ·have hget:s.cells[i]? =some (Yn s.sch i):=YS (s:=s.sch) hlt
   have hnc:=hnm.2 _ (Jb (s:=s.sch) hlt)
   have hln:=QI (w:=wordC) hnc
   have hr':Rd B w0 (bdP gb (.pointer (some ⟨gb,0,none⟩)) A2 cap2 (Jt s.sch i) [blk gs (.cells #[.int .i64 s.len,.int .i64 s.off,.slice s.A s.cells.length s.cap] 30 (0,0))]) s.A (s.cells.flatMap celF):=hr.cons.cons.cons
   repeat'(first|((first|apply Ya en45|apply Yb en45);exact za;exact rfl;exactλ_ hw=>(QO _ hw))|(apply Qf T (e:=3);(iterate 3 exact rfl))|refine zgd ?_|(refine zge ?_ ?_<;>intro _<;>try exact zo)|(refine zgh ?_;intro _)|fail)
   rename_i gc ga
   have hra:∀X,Rd B w0 (blk ga (.cells (celF (Yn s.sch i)).toArray 113 (0,0))::X) (some ⟨ga,0,none⟩) ((nums (Yn s.sch i)).flatMap numF):=λX=>Rd.blk (cs:=(celF (Yn s.sch i)).toArray) (.head _)
   first|apply Ya en44|apply Yb en44
   exact za
   exact rfl
   exactλ_ hw=>(Ye0 wordC (nums (Yn s.sch i)) hnc (by show 5<=100;decide) (by decide) ht (hra _) hw)
   apply Zz (bdP gb (.pointer (some ⟨gb,0,none⟩)) A2 cap2 (Jt s.sch i) [blk gs (.cells #[.int .i64 s.len,.int .i64 s.off,.slice s.A s.cells.length s.cap] 30 (0,0))])
   ·exactλw hw=>hw.tail.tail
   have h5n:(nums (Yn s.sch i)).length=5:=rfl
   have h4w:wordC.length=4:=rfl
   apply Yi _ en35
   exact za
   exact rfl
   exactλ_ hw=>(Ydw gb _ (.inr rfl) A2 cap2 (Jt s.sch i) (WM wordC (nums (Yn s.sch i))) (by omega) (hw))
   rintro _ _ ⟨rfl,A3,cap3,rfl⟩
   rw[<-Ybc hlt]
   refine zX9 ?_
   apply hK (i+1,A3,cap3)
   ·show i+1<=s.cells.length
    omega
   ·exact zc83
   ·exact zc1
   exact zc20
  ·refine zX1 ?_<;>intros
   apply Yi _ en37
   exact za
   exact rfl
   exactλ_ hw=>(YiH (l:=Jt s.sch i) (.inr rfl) (hw))
   rintro _ _ ⟨rfl,rfl⟩
   refine zX4 ?_
   apply Yo;(iterate 3 exact rfl)
   rw[JN,Tf (by simp[hf])]
   rw[show i=s.sch.cells.length from(by have:s.sch.cells.length=s.cells.length:=rfl;omega),show Jt s.sch s.sch.cells.length=YpB s.sch from(by unfold Jt YpB;rw[TC])]
theorem Yc1(s:SchM)(ht:TabsB B w0)(hr:Rd B w0 H s.A (s.cells.flatMap celF))(hl:s.cells.length<=1000000000000)(hw:St B w0 H w):
 CX B w0 11 [s.val] w λv K=>v=.tuple #[strV (JN s.sch).1,.int .i64 (JN s.sch).2]/\K=H:=
 Yg9 hw (Ypf s (ht.here hw) (hr.here hw) hl (St.start w))
open Go.RowKit Go.Eng Go.Nw Go.Rt
variable {n:Net}
theorem Ygy(h:Ym n=0)(a b:Int):JQ n (Zb n a b)=YX n a b:=by
 have hok:=YN h
 unfold JQ Zb
 rw[Tf (by simp[h]),Ti h,RX]
 by_cases h1:0<=Yu n a b
 ·have h2:=XM h1
  rw[Ti ⟨h1,by omega⟩,RX,Ybd hok h2]
  grind [WJ]
 simp_all [decide_eq_false,YX]
def YbX(n:Net)(i:Nat):Lk:=((lnk n i).1,(lnk n i).2.1,(lnk n i).2.2+1)
def ZQ(n:Net)(k:Nat):List Lk:=(List.range k).flatMap λi=>if Z3 n i=true then [YbX n i]else []
def JW(n:Net):List Lk:=ZQ n n.links.length
variable {k:Nat}
theorem YbY(h:Z3 n k=true):ZQ n (k+1)=ZQ n k++[YbX n k]:=by
 grind [ZQ,RI]
theorem Yel(h:Z3 n k=false):ZQ n (k+1)=ZQ n k:=by
 grind [ZQ,RI]
theorem UM(n:Net):∀k,(ZQ n k).length<=k
 |0=>by simp[ZQ]
 |k+1=>by
  have:=UM n k
  grind [Z3,Yel,YbY]
theorem YhZ{a:Lk}:a∈ZQ n k↔∃i,i<k/\Z3 n i=true/\YbX n i=a:=by
 unfold ZQ
 grind
theorem YkD(h:Ok n){nodes:Nat}(hn:n.nodes=nodes):ArcsOk nodes (JW n):=by
 intro a ha
 obtain⟨i,hi,_,rfl⟩:=YhZ.1 ha
 have hl:=h.lk i hi
 have h1:=hl.f0;have h2:=hl.f1;have h3:=hl.t0;have h4:=hl.t1;have h5:=hl.l0;have h6:=hl.l1
 grind [YbX]
def offE(n:Net)(a:Int):Bool:=decide (a<0\/n.nodes<=a)
def Zm(n:Net)(s t:Int):Int:=if Ym n≠0 then 1 else if offE n s=true\/offE n t=true\/s=t then 2 else 0
def W8(r:List Int):Bool:=(List.range r.length).any λi=>(r.take i).contains (r.getD i 0)
def JS(n:Net)(r:List Int):Bool:=(List.range (r.length-1)).any λi=>!YX n (r.getD i 0) (r.getD (i+1) 0)
def Jj(n:Net)(s t:Int)(r:List Int):Int:=
 if r.length<2 then 9 else if 9<r.length then 8 else if r.any (offE n)=true then 2 else if r.getD 0 0≠s\/r.getD (r.length-1) 0≠t then 11
 else if W8 r=true then 6 else if JS n r=true then 17 else 0
def QJ(n:Net)(a b:Int):Int:=(lnk n (Yu n a b).toNat).2.2
def UO(n:Net)(r:List Int):Nat->Int
 |0=>0
 |k+1=>UO n r k+(QJ n (r.getD k 0) (r.getD (k+1) 0)+1)
def Yn8(n:Net)(r:List Int):Int:=UO n r (r.length-1)
def YgB(n:Net)(r:List Int):Int×Int:=
 if Ym n≠0 then(0,1)else
  let e:=Jj n (r.getD 0 0) (r.getD (r.length-1) 0) r
  if e≠0 then(0,e)else(Yn8 n r,0)
def Xu(n:Net)(s t:Int)(r:List Int):Int:=if Zm n s t≠0 then Zm n s t else Jj n s t r
theorem Xd{l:List Int}{i:Nat}(h:i<l.length):l[i]? =some (l.getD i 0):=by
 simp_all
theorem Ybx(h:Ok n)(a b:Int):0<=QJ n a b/\QJ n a b<=7:=by
 unfold QJ
 by_cases hi:(Yu n a b).toNat<n.links.length
 ·have:=h.lk _ hi
  exact⟨this.l0,this.l1⟩
 grind [lnk]
theorem Yes{n:Net}(h:Ok n)(r:List Int):∀k,0<=UO n r k/\UO n r k<=8*k
 |0=>by simp[UO]
 |k+1=>by
  have h1:=Yes h r k
  have h2:=Ybx h (r.getD k 0) (r.getD (k+1) 0)
  grind [UO]
end Go.Proofs.YtjlgijpmnfabcaaGreatDoor
namespace Go.Eng
open Go.RowKit
inductive OV where
 |done
 |p1 (i:Nat) (t:OV)
 |d1 (i:Nat) (t:OV)
 |d2 (i:Nat) (t:OV) (j:Nat) (u:OV)
section
variable {P:Program}{n:Shp}{B:Nat}{w0:World}{Q:Exit->Act->World->Prop}{env:Env}{H:List HP}{ops:Array Oper}
def wpD(P:Program)(ops:Array Oper)(K:Act->World->Prop)(o:Oper)(a:Act)(w:World):Prop:=
 if Region.wanted o (yielded ops a.tmps)then o.wp P a w K (λ_ _ _=>False)else K (a.put o.dst undef) w
def Zk(P:Program)(ops:Array Oper)(l:List Oper)(Q:Exit->Act->World->Prop)(S:World->Prop):OV->Act->World->Prop
 |.done,a,w=>Q .normal a w
 |.p1 i t,a,w=>YB P ops (λe a w=>match e with|.normal=>S w/\Zk P ops l Q S t a w|_=>False) S [nthO l i] a w
 |.d1 i t,a,w=>wpD P ops (λa w=>S w/\Zk P ops l Q S t a w) (nthO l i) a w
 |.d2 i t j u,a,w=>wpD P ops (λa w=>S w/\Zk P ops l Q S t a w) (nthO l i) a w/\wpD P ops (λa w=>S w/\Zk P ops l Q S u a w) (nthO l j) a w
def Wc(ops:Array Oper)(last:List Nat):OV->Array Bool->Nat->Bool
 |.done,listed,0=>J5 ops last listed
 |.done,_,_+1=>false
 |.p1 i t,listed,k+1=>!last.contains i&&(match ops[i]? with
  |some o=>!eff o&&((Region.ready .any ops listed).contains i&&Region.free .any ops listed i)
  |none=>false)&&Wc ops last t (listed.setIfInBounds i true) k
 |.d1 i t,listed,k+1=>!last.contains i&&(ops[i]?).isSome&&decide (Region.ready .any ops listed=[i])&&Wc ops last t (listed.setIfInBounds i true) k
 |.d2 i t j u,listed,k+1=>!last.contains i&&!last.contains j&&(ops[i]?).isSome&&(ops[j]?).isSome&&((Region.ready .any ops listed).all λx=>x==i||x==j)&&!(Region.ready .any ops listed).isEmpty&&Wc ops last t (listed.setIfInBounds i true) k&&Wc ops last u (listed.setIfInBounds j true) k
 |.p1 _ _,_,0=>false
 |.d1 _ _,_,0=>false
 |.d2 _ _ _ _,_,0=>false
variable {i:Nat}{o:Oper}{a:Act}{w:World}
theorem Ycb{S:World->Prop}{K:Act->World->Prop}{last:List Nat}{k:Nat}{listed:Array Bool}(ho:ops[i]? =some o)
 (h:wpD P ops K o a w) (hk:∀a w,K a w->S w/\Ze P ops Q S last k (listed.setIfInBounds i true) a w):
 wpOp P ops Q i (λa' w'=>(last.contains i=false->S w')/\Ze P ops Q S last k (listed.setIfInBounds i true) a' w') a w:=by
 unfold wpD at h
 unfold wpOp
 simp only[ho]
 by_cases hw:Region.wanted o (yielded ops a.tmps)=true
 ·rw[Tm hw]at h⊢
  exact .inl (Oper.wp_mono_noQ (λ_ _ _ h=>h) zc46 (Oper.wp_mono (λa' w' h'=>⟨λ_=>(hk a' w' h').1,(hk a' w' h').2⟩) h))
 grind
theorem J2{S:World->Prop}{last:List Nat}(hs:Region.noSelect ops=true)(hQ:∀c (a:Act) (w:World),¬Q (.panic c) a w)(hlo:¬LetsOut Q)(l:List Oper)(hl:ops=l.toArray)(hlast:YcM ops last=true):
 ∀(t:OV) (k:Nat) (listed:Array Bool) (a:Act) (w:World),Closed ops listed->Wc ops last t listed k=true->S w->Zk P ops l (Z8 P ops Q (Yh l last)) S t a w->
  Ze P ops Q S last (k+last.length) listed a w
 |.done,0,listed,a,w,_,hB,_,h=>by
  exact Ys3
 |.done,_+1,_,_,_,_,hB,_,_=>by cases hB
 |.p1 _ _,0,_,_,_,_,hB,_,_=>by cases hB
 |.d1 _ _,0,_,_,_,_,hB,_,_=>by cases hB
 |.d2 _ _ _ _,0,_,_,_,_,hB,_,_=>by cases hB
 |.p1 i t,k+1,listed,a,w,hcl,hB,hS,h=>by
  simp only[Wc,Tt]at hB
  obtain⟨⟨h0,h1⟩,h2⟩:=hB
  have hno:last.contains i=false:=by simp_all
  cases ho:ops[i]? with
  |none=>simp_all
  |some o=>
   rw[ho]at h1
   have hget:=Xx hl ho
   unfold Zk at h
   rw[hget]at h
   rw[R7]
   simp only[Tt,SD]at h1
   obtain⟨he,h3,h4⟩:=h1
   unfold YB at h
   rw[Tf (by simp_all)]at h
   obtain⟨v,hy,h5⟩:=h
   have hr:i∈Region.ready .any ops listed:=by simp_all
   exact Jw ho (Region.noSelect_spec hs) hQ ((VA hlast).2 i o ho he hno) hno _ listed a w hcl (Region.free_spec ho h4) hr hy hS (J2 hs hQ hlo l hl hlast t k _ _ w (hcl.set hr) h2 hS h5.2)
 |.d1 i t,k+1,listed,a,w,hcl,hB,hS,h=>by
  simp only[Wc,Tt,To]at hB
  obtain⟨⟨⟨h0,h1⟩,h3⟩,h2⟩:=hB
  obtain⟨o,ho⟩:=SK.1 h1
  unfold Zk at h
  rw[Xx hl ho]at h
  rw[R7]
  refine⟨λh0=>(by simp_all),λj hj=>?_⟩
  have hj':=hj
  rw[h3]at hj
  obtain rfl:j=i:=by simp_all
  exact Ycb ho h λa w ⟨hS',h'⟩=>⟨hS',J2 hs hQ hlo l hl hlast t k _ a w (hcl.set hj') h2 hS' h'⟩
 |.d2 i t j u,k+1,listed,a,w,hcl,hB,hS,h=>by
  simp only[Wc,Tt]at hB
  obtain⟨⟨⟨⟨⟨⟨⟨b1,b2⟩,b3⟩,b4⟩,b5⟩,b6⟩,b7⟩,b8⟩:=hB
  obtain⟨o,ho⟩:=SK.1 b3
  obtain⟨o',ho'⟩:=SK.1 b4
  unfold Zk at h
  rw[Xx hl ho,Xx hl ho']at h
  rw[R7]
  refine⟨λh0=>(by simp_all),λx hx=>?_⟩
  have h5:=Rf.1 b5 x hx
  simp only[RU,Ns]at h5
  rcases h5 with rfl|rfl
  ·exact Ycb ho h.1 λa w ⟨hS',h'⟩=>⟨hS',J2 hs hQ hlo l hl hlast t k _ a w (hcl.set hx) b7 hS' h'⟩
  ·exact Ycb ho' h.2 λa w ⟨hS',h'⟩=>⟨hS',J2 hs hQ hlo l hl hlast u k _ a w (hcl.set hx) b8 hS' h'⟩
structure VV(P:Program)(n:Shp)(B:Nat)(w0:World)(ops:Array Oper)(l:List Oper)(Q:Exit->Act->World->Prop)(t:OV)(env:Env)(H F:List HP):Prop where
 run:∀a,Fits n a env->∀w,St B w0 (H++F) w->Zk P ops l Q (St B w0 H) t a w
def UE(P:Program)(B:Nat)(w0:World)(ops:Array Oper)(l:List Oper)(Q:Exit->Act->World->Prop)(Hc:List HP)(t:OV):Exit->Act->World->Prop
 |.normal,a,w=>St B w0 Hc w/\Zk P ops l Q (St B w0 Hc) t a w
 |_,_,_=>False
variable {l:List Oper}{t:OV}
theorem Ynj:UE P B w0 ops l Q H t=λe a w=>match e with|.normal=>St B w0 H w/\Zk P ops l Q (St B w0 H) t a w|_=>False:=by
 funext e a w
 cases e<;>rfl
theorem Ykq(h:wpList P ops (UE P B w0 ops l Q H t) [o] a w):wpD P ops (λa w=>St B w0 H w/\Zk P ops l Q (St B w0 H) t a w) o a w:=by
 have hno:¬LetsOut (UE P B w0 ops l Q H t):=zc46
 unfold wpList at h
 unfold wpD
 by_cases hw:Region.wanted o (yielded ops a.tmps)=true
 ·rw[Tm hw]at h⊢
  rcases h with h|⟨_,h⟩
  ·exact Oper.wp_mono_noQ (λ_ _ _ h=>h) hno (Oper.wp_mono (λa' w' h'=>h') h)
  simp_all
 ·rw[Tf hw]at h⊢
  exact h
variable {F HF Hc:List HP}
theorem Yqv(happ:App H F HF)(h:VQ n B w0 Q .normal env HF):VV P n B w0 ops l Q .done env H F:=
 ⟨λa ha w hw=>by exact YlC⟩
theorem YnU(ho:nthO l i=o)(h:VL P (some (some F)) n B w0 ops (UE P B w0 ops l Q H t) [o] env H):VV P n B w0 ops l Q (.p1 i t) env H F:=by
 refine⟨λa ha w hw=>?_⟩
 have h1:YB P ops (UE P B w0 ops l Q H t) (St B w0 H) [o] a w:=h.run a ha w hw
 grind [Zk,Ynj]
theorem YnS(ho:nthO l i=o)(happ:App H F HF)(h:VL P none n B w0 ops (UE P B w0 ops l Q H t) [o] env HF):VV P n B w0 ops l Q (.d1 i t) env H F:=by
 refine⟨λa ha w hw=>?_⟩
 unfold Zk
 rw[ho]
 rw[<-Q9 happ]at hw
 exact Ykq (h.run a ha w hw)
theorem YnT{j:Nat}{u:OV}{o':Oper}(ho:nthO l i=o)(ho':nthO l j=o')(happ:App H F HF)(h:VL P none n B w0 ops (UE P B w0 ops l Q H t) [o] env HF)
 (h':VL P none n B w0 ops (UE P B w0 ops l Q H u) [o'] env HF):VV P n B w0 ops l Q (.d2 i t j u) env H F:=by
 refine⟨λa ha w hw=>?_⟩
 unfold Zk
 rw[ho,ho']
 rw[<-Q9 happ]at hw
 exact⟨Ykq (h.run a ha w hw),Ykq (h'.run a ha w hw)⟩
theorem YbU{H':List HP}(hp:Pull Hc H' F)(h:VV P n B w0 ops l Q t env Hc F):VQ n B w0 (UE P B w0 ops l Q Hc t) .normal env H':=
 ⟨λa w ha hw=>⟨(hw.perm hp).prefix_,h.run a ha w (hw.perm hp)⟩⟩
theorem YbM{id:Nat}(t:OV)(last:List Nat)(mask:List Bool)(hm:P.follows .mixedOrders=true)
 (hB:(Region.noSelect l.toArray&&decide (last.length<=l.toArray.size)&&YcM l.toArray last&&Wc l.toArray last t (Array.replicate l.toArray.size false) (l.toArray.size-last.length))=true)
 (hsp:Split mask H Hc F) {l2:List Oper}(hl2:Yh l last=l2) (h:VV P n B w0 l.toArray l (Z8 P l.toArray (Only Q) l2) t env Hc F):VC P n B w0 (.region id l.toArray true) Q env H:=by
 simp only[Tt,To]at hB
 obtain⟨⟨⟨h1,h2⟩,h3⟩,h5⟩:=hB
 refine⟨λa w ha hw=>ZZ (Q:=Only Q) ?_ λe a w h=>by exact zc66⟩
 have hst:St B w0 (Hc++F) w.drew:=(hw.perm (XL hsp)).drew
 have hr:=h.run a ha w.drew hst
 rw[<-hl2]at hr
 have:=J2 (S:=St B w0 Hc) h1 (λc a w h=>h) zc46 l rfl h3 t _ _ a w.drew (XQ _ _) h5 hst.prefix_ hr
 exact Yp0
end
end Go.Eng
namespace Go.Proofs.YtjlgijpmnfabcaaGreatDoor
open Go.RowKit Go.Eng Go.Nw
variable {l:List Flw}
theorem YoA{id:Int}(h:0<=Zv l id):∃f∈l,f.1=id:=by
 have:=(VY (λf:Flw=>decide (f.1=id)) l 0 (RS _)).1 h
 simp_all
theorem Yak{nodes:Int}(h:(YA nodes l).2=0):∀f∈l,0<=f.1/\f.1<=255/\1<=f.2.2.2.1/\f.2.2.2.1<=512:=by
 intro f hf
 obtain⟨i,hi⟩:=TO.1 hf
 have hl:=(Tn.1 hi).1
 unfold YA at h
 split at h
 ·cases h
 split at h
 ·cases h
 have:=YF.1 h i (Tc _) (by omega)
 unfold YT at this
 have e:Y3 l i=f:=by grind [Y3]
 split at this
 ·omega
 ·grind [Xl]
structure Val(n:Net)(l:List Flw)(s:Sch):Prop where
 whole:Xs n l s=0
 cells:(XT n l s).2=0
 twice:(Zj s).2=0
 dist:(Ycd n s).2=0
variable {n:Net}{s:Sch}
theorem Wd:(schE n l s).2=0↔Val n l s:=by
 unfold schE
 by_cases h1:Xs n l s≠0
 ·rw[Tm h1]
  exact⟨λh=>absurd h h1,λh=>absurd h.whole h1⟩
 rw[Tf h1]
 by_cases h2:(XT n l s).2≠0
 ·rw[Tm h2]
  exact⟨λh=>absurd h h2,λh=>absurd h.cells h2⟩
 rw[Tf h2]
 by_cases h3:(Zj s).2≠0
 ·rw[Tm h3]
  exact⟨λh=>absurd h h3,λh=>absurd h.twice h3⟩
 rw[Tf h3]
 exact⟨λh=>⟨TK.1 h1,TK.1 h2,TK.1 h3,h⟩,λh=>h.dist⟩
theorem UD(h:Xs n l s=0):Ym n=0/\(YA n.nodes l).2=0/\XU s=true/\(∀f∈l,s.len.tmod f.2.2.2.1=0)/\s.cells.length<=512:=by
 unfold Xs at h
 grind
theorem Val.frm(h:Val n l s):Frm s:=by
 obtain⟨h1,h2,h3,h4,h5⟩:=UD h.whole
 have hok:=YN h1
 have k1:=YF.1 h.cells
 have hids:=Yak h2
 have hn:=hok.n1
 have hcell:∀i,i<s.cells.length->XE s (Yn s i)=true/\YX n (YM (Yn s i)) (toC (Yn s i))=true/\0<=Zv l (Zw (Yn s i))/\(0<i->Xn (Yn s (i-1)) (Yn s i)=true):=λi hi=>by
  have:=k1 i (Tc _) (by omega)
  unfold Zu at this
  grind
 refine⟨h3,h5,λc hc=>?_,?_⟩
 ·obtain⟨i,hi⟩:=TO.1 hc
  obtain⟨a1,a2,a3,_⟩:=hcell i (Tn.1 hi).1
  rw[X7 hi]at a1 a2 a3
  have hg:=Xr hok a2
  obtain⟨f,hf,hfe⟩:=YoA a3
  grind [YM,toC,Zw,XC,insE]
 ·refine QP (lt:=Xn) (λh1 h2=>Ui h1 h2) λi a b ha hb=>?_
  grind [X7]
open Go.RowKit Go.Eng Go.Nw Go.Rt
abbrev Jg(A:Option Addr)(cap:Nat)(l:List Lk):HP:=sl 383 3 A l.length cap (l.flatMap lkF)
theorem Yma(A:Option Addr)(cap:Nat)(l:List Lk)(a:Lk):sl 383 3 A (l.length+1) cap (l.flatMap lkF++#[Value.int .i64 a.1,.int .i64 a.2.1,.int .i64 a.2.2].toList)=Jg A cap (l++[a]):=by simp[Jg,List.flatMap_append,lkF]
theorem Yem(n:NetM){B:Nat}{w0:World}{H:List HP}{w:World}(hin:n.In B w0 H)(hck:Ym n.net=0)(hw:St B w0 H w):
 CX B w0 342 [n.val] w λv K=>∃A cap,v=.slice A (JW n.net).length cap/\K=Jg A cap (JW n.net)::H:=by
 have hok:=YN hck
 obtain⟨hpw,hrw,hlk,hmg,hs1,hs2,hs3,hs4⟩:=id hin
 have hk0:n.links.length<=128:=hok.k0
 refine Yc Tryz.func342 Tryz.ntmps342 rfl rfl hw ?_
 (apply Y0;apply YL;apply Yy;exact rfl;exact rfl;intro g)
 refine zX7 ?_
 refine YgE (λ(k:Nat) (A:Option Addr) (cap:Nat)=>[(9,.int .i64 k),(8,.int .i64 n.links.length),(7,.slice n.lA n.links.length n.lcap),(3,.slice A (ZQ n.net k).length cap),(1,.pointer (some ⟨g,0,none⟩))])
  (λk A cap=>Jg A cap (ZQ n.net k)::netB g n::H) (λk _ _=>k<=n.links.length) (λk _ _=>n.links.length-k) 0 none 0 (Tc _) ?_ (λw hw=>hw.nilSlice _ _) ?_
 ·exact zc1
 rintro k A cap hk K hK
 have hal:=UM n.net k
 by_cases hlt:k<n.links.length
 ·have hlx:n.links[k]? =some (lnk n.net k):=WP n.net hlt
  have hus:JQ n.net (k:Int)=Z3 n.net k:=by
   unfold JQ
   have e7:n.net.links=n.links:=rfl
   rw[Ti hck,e7,Ti (by omega)]
   rfl
  have hl:=hok.lk k hlt
  have h5:=hl.l0
  have h6:=hl.l1
  have hU:=λ{H:List HP}{w:World}(hin:n.In B w0 H) (hw:St B w0 H w)=>VK n (k:Int) hin hw
  rw[hus]at hU
  cases hu:Z3 n.net k
  ·rw[hu]at hU
   have e2:=Yel hu
   repeat'(first|((first|apply Ya Jz|apply Yb Jz);exact za;exact rfl;exactλ_ hw=>(hU (((hin.cons).cons).cons) hw))|refine zgd ?_|(refine zge ?_ ?_<;>intro _<;>try exact zo)|(refine zgh ?_;intro _)|fail)
   apply hK (k+1) A cap
   ·omega
   ·omega
   ·rw[e2];exact zc1
   ·rw[e2];exact zc62
  ·rw[hu]at hU
   have e2:=YbY hu
   repeat'(first|((first|apply Ya Jz|apply Yb Jz);exact za;exact rfl;exactλ_ hw=>(hU (((hin.cons).cons).cons) hw))|refine zgd ?_|(refine zge ?_ ?_<;>intro _<;>try exact zo)|(refine zgh ?_;intro _)|(refine zgi ?_;intro _ _)|fail)
   rename_i A3 cap3
   apply hK (k+1) A3 cap3
   ·omega
   ·omega
   ·rw[e2,Tq,TL];exact zc1
   ·rw[e2,show Jg A3 cap3 (ZQ n.net k++[YbX n.net k])=sl 383 3 A3 ((ZQ n.net k).length+1) cap3 ((ZQ n.net k).flatMap lkF++#[Value.int .i64 (lnk n.net k).1,Value.int .i64 (lnk n.net k).2.1,Value.int .i64 ((lnk n.net k).2.2+1)].toList) from(Yma A3 cap3 _ (YbX n.net k)).symm]
    exact zc0
 ·obtain rfl:k=n.links.length:=by omega
  clear hK
  refine zX1 ?_<;>intros
  apply Yg (Jg A cap (JW n.net)::H)
  ·exactλw hw=>(hw.perm (.cons _ (.drop _ _)))
  apply Yd;exact rfl;exact rfl
  exact YlG
def cpN(n:Net)(node:Int)(d:Cel):Int:=powN n (YM d) node+powN n (toC d) node
def sumC(n:Net)(node:Int)(l:List Cel):Int:=(l.map (cpN n node)).sum
theorem YiJ(n:Net)(node:Int):sumC n node []=0:=rfl
theorem Zq(n:Net)(node:Int)(d:Cel)(l:List Cel):sumC n node (d::l)=cpN n node d+sumC n node l:=by grind [sumC]
theorem Ybb(n:Net)(node:Int):∀l m:List Cel,sumC n node (l++m)=sumC n node l+sumC n node m
 |[],m=>by grind [YiJ]
 |d::l,m=>by rw[TF,Zq,Zq,Ybb n node l m];omega
variable {n:Net}
theorem Ypw(h:Ok n)(node:Int){l m:List Cel}(hs:l.Sublist m):sumC n node l<=sumC n node m:=by
 induction hs with
 |slnil=>omega
 |@cons l m d _ ih=>
  rw[Zq]
  have h1:=Jq h (YM d) node
  have h2:=Jq h (toC d) node
  grind [cpN]
 |cons_cons d _ ih=>simp_all [Zq]
theorem Ycg{n:Net}{l:List Cel}(hnd:l.Nodup){j:Nat}{c:Cel}(hj:l[j]? =some c)(node:Int):∀k,k<=l.length->Yz n l j node k=sumC n node ((l.take k).filter λd=>decide (d≠c))
 |0,_=>rfl
 |k+1,hk=>by
  obtain⟨d,hd⟩:∃d,l[k]? =some d:=⟨_,Ta hk⟩
  have hc:celL l k=d:=by grind [celL]
  unfold Yz
  rw[Ycg hnd hj node k (by omega),TB,hd,Su,Ybb,hc]
  by_cases e:k=j
  ·simp_all [sumC]
  ·have hne:d≠c:=by grind [TT]
   simp_all [Zq,YiJ,cpN]
def Um(n:Net)(l:List Cel)(c:Cel)(node:Int):Int:=sumC n node (l.filter λd=>Xb c d&&decide (d≠c))
def Vt(n:Net)(l:List Cel)(c:Cel):Bool:=XJ n (mar n (Yu n (YM c) (toC c)).toNat) (Um n l c (toC c))&&XJ n (mar n (Yu n (toC c) (YM c)).toNat) (Um n l c (YM c))
variable {s:Sch}
theorem Yce(hck:Ym n=0)(hf:Fine n s)(ho:Ord s.cells){i:Nat}(hi:i<s.cells.length):ZV n s i=!(Vt n s.cells (Yn s i)):=by
 rw[Yhg hck hf hi]
 have hnd:=Ye8 ho
 have hat:=W5 hi
 have hsub:(YI s i).Sublist s.cells:=SL
 have hnds:=hnd.sublist hsub
 have hc:celL (YI s i) (YJ s i)=Yn s i:=by grind [celL]
 have hd:∀node,Yz n (YI s i) (YJ s i) node (YI s i).length=Um n s.cells (Yn s i) node:=by simp_all [Ycg,Um,YI,Bool.and_comm]
 have hg:=hf.good _ (Jb hi)
 have hto:((List.range (YI s i).length).any λk=>decide (k≠YJ s i)&&YE (celL (YI s i) (YJ s i)) (celL (YI s i) k))=false:=by
  have hpw:(YI s i).Pairwise λa b=>YE a b=false:=zc41
  rw[RL]
  intro k hk
  have hk:=Ro.1 hk
  by_cases e:k=YJ s i
  ·simp_all
  ·have hpk:=TT.1 hpw
   have e1:celL (YI s i) k=(YI s i)[k]:=by grind [celL]
   grind [Z7]
 grind [Vh,Vt]
structure Sem(n:Net)(l:List Flw)(s:Sch):Prop where
 ck:Ym n=0
 fl:(YA n.nodes l).2=0
 per:∀f∈l,s.len.tmod f.2.2.2.1=0
 frm:Frm s
 good:∀c∈s.cells,YX n (YM c) (toC c)=true/\0<=Zv l (Zw c)
 once:s.cells.Pairwise λa b=>a.1=b.1->YE a b=false
 clear:∀c∈s.cells,Vt n s.cells c=true
variable {l:List Flw}
theorem Ykp(h1:Ym n=0)(h2:(YA n.nodes l).2=0)(h3:XU s=true)(h4:∀f∈l,s.len.tmod f.2.2.2.1=0)(h5:s.cells.length<=512):Xs n l s=0:=by
 unfold Xs
 grind
theorem Yjj(hf:Frm s)(hg:∀c∈s.cells,YX n (YM c) (toC c)=true/\0<=Zv l (Zw c)):(XT n l s).2=0:=by
 refine YF.2 λk _ hk=>?_
 have hk:k<s.cells.length:=by omega
 have hm:=Jb hk
 have hfo:=hf.formed _ hm
 unfold XC at hfo
 simp only[Tt]at hfo
 obtain⟨g1,g2⟩:=hg _ hm
 unfold Zu
 rw[hfo.1.1.1,Tf (by decide),g1,Tf (by simp_all),Tf]
 rintro⟨h1,h2⟩
 have:=YfJ (Rf.2 λi hi=>by
  have h:=Za.2 hf
  unfold Xw at h
  simp only[Tt]at h
  exact Rf.1 h.2 i hi) hk
 simp_all [Zg]
theorem Yko(h:s.cells.Pairwise λa b=>a.1=b.1->YE a b=false):(Zj s).2=0:=by
 refine YF.2 λk _ hk=>?_
 have hk:k<s.cells.length:=by omega
 have hb:XV s k=false:=by
  unfold XV
  rw[RL]
  intro i hi
  have hi:=Ro.1 hi
  have e1:Yn s i=s.cells[i]'(by omega):=X7 (Ta _)
  have e2:Yn s k=s.cells[k]:=X7 (Ta hk)
  have:=TT.1 h i k (by omega) hk hi
  simp_all [Z7]
 simp_all
theorem YbE:Val n l s↔Sem n l s:=by
 constructor
 ·intro h
  obtain⟨h1,h2,h3,h4,h5⟩:=UD h.whole
  have hf:=h.frm
  have hfine:=YfU h.cells h.twice
  have k1:=YF.1 h.cells
  have k3:=YF.1 h.dist
  refine⟨h1,h2,h4,hf,λc hc=>⟨hfine.good c hc,?_⟩,hfine.once,λc hc=>?_⟩
  ·obtain⟨i,hi⟩:=TO.1 hc
   grind [Zu,X7]
  ·obtain⟨i,hi⟩:=TO.1 hc
   have hl:=(Tn.1 hi).1
   have:=k3 i (Tc _) (by omega)
   simp_all [Yce,Go.Proofs.YtjlgijpmnfabcaaGreatDoor.Frm.ord,X7]
 ·intro h
  refine⟨Ykp h.ck h.fl h.frm.sized h.per h.frm.few,Yjj h.frm h.good,Yko h.once,YF.2 λk _ hk=>?_⟩
  have hk:k<s.cells.length:=by omega
  simp only[Yce h.ck ⟨λc hc=>(h.good c hc).1,h.once⟩ h.frm.ord hk,h.clear _ (Jb hk)]
  rfl
theorem YcE(h:Ok n){s d e:Int}(he:e<=d)(hd:XJ n s d=true):XJ n s e=true:=by
 unfold XJ at hd⊢
 have h2:=h.t0
 have h3:n.thr*(n.noise+e)<=n.thr*(n.noise+d):=Int.mul_le_mul_of_nonneg_left (by omega) (by omega)
 grind
theorem Sem.sub{t:Sch}(h:Sem n l s)(h1:t.len=s.len)(h2:t.off=s.off)(hs:t.cells.Sublist s.cells):Sem n l t:=by
 have hok:=YN h.ck
 have hlen:=hs.length_le
 have hfew:=h.frm.few
 refine⟨h.ck,h.fl,by rw[h1];exact h.per,⟨?_,by omega,λc hc=>?_,h.frm.ord.sublist hs⟩,λc hc=>h.good c (hs.subset hc),h.once.sublist hs,λc hc=>?_⟩
 ·have:=h.frm.sized
  grind [XU]
 ·have:=h.frm.formed c (hs.subset hc)
  grind [XC,XE]
 ·have:=h.clear c (hs.subset hc)
  unfold Vt at this⊢
  simp only[Tt]at this⊢
  have hd:∀node,Um n t.cells c node<=Um n s.cells c node:=λnode=>Ypw hok node (hs.filter _)
  exact⟨YcE hok (hd _) this.1,YcE hok (hd _) this.2⟩
variable {B:Nat}{w0 w:World}{H:List HP}
theorem Vk(n:NetM)(s t:Int)(hin:n.In B w0 H)(hw:St B w0 H w):
 CX B w0 339 [n.val,.int .i64 s,.int .i64 t] w λv K=>v=.int .i64 (Zm n.net s t)/\K=H:=by
 refine Yc Tryz.func339 Tryz.ntmps339 rfl rfl hw ?_
 have e7:n.net.nodes=n.nodes:=rfl
 unfold Zm offE
 rw[e7]
 by_cases h0:Ym n.net=0
 rotate_left
 ·rw[Tm h0]
  refine zX47 ?_<;>intros
  all_goals((repeat apply Yk);exact zc3)
 rw[Tf (λh=>h h0)]
 have hck:=λ{H:List HP}{w:World}(hin:n.In B w0 H) (hw:St B w0 H w)=>Y8 n hin hw
 rw[h0]at hck
 simp only[To]
 by_cases h1:(s<0\/n.nodes<=s)\/(t<0\/n.nodes<=t)\/s=t
 ·rw[Tm h1]
  repeat'(first|((first|apply Ya en68|apply Yb en68);exact za;exact rfl;exactλ_ hw=>(hck hin.cons hw))|refine zgc ?_|(refine zgf ?_ ?_<;>intro _<;>try exact zo)|(refine zgh ?_;intro _)|fail)
  all_goals((repeat apply Yk);apply Yd;exact rfl;exact rfl;exact⟨rfl,rfl⟩)
 ·rw[Tf h1]
  repeat'(first|((first|apply Ya en68|apply Yb en68);exact za;exact rfl;exactλ_ hw=>(hck hin.cons hw))|refine zgc ?_|(refine zgf ?_ ?_<;>intro _<;>try exact zo)|(refine zgh ?_;intro _)|fail)
  all_goals((repeat apply Yk);apply Yd;exact rfl;exact rfl;exact⟨rfl,rfl⟩)
theorem U9(k:Nat){A:Option Addr}{cap:Nat}(hk:k<=9223372036854775807)(hw:St B w0 H w):
 CX B w0 341 [.slice A k cap] w λv K=>v=.int .i64 (if 9<k then 21 else 0)/\K=H:=by
 refine Yc Tryz.func341 Tryz.ntmps341 rfl rfl hw ?_
 by_cases h:9<k
 ·rw[Tm h]
  refine zX48 ?_<;>intros
  exact zc26
 ·rw[Tf h]
  refine zX48 ?_<;>intros
  exact zc26
theorem Yhn(n:NetM)(a:Int)(g:Nat)(hm:netB g n∈H)(hw:St B w0 H w):
 CX B w0 278 [.int .i64 a,.pointer (some ⟨g,0,none⟩)] w λv K=>v=.bool (offE n.net a)/\K=H:=by
 refine Yc Tryz.func278 Tryz.ntmps278 rfl rfl hw ?_
 have e7:n.net.nodes=n.nodes:=rfl
 unfold offE
 rw[e7]
 by_cases h:a<0\/n.nodes<=a
 ·rw[Ti h]
  repeat'(first|refine zgc ?_|(refine zgf ?_ ?_<;>intro _<;>try exact zo)|fail)
  all_goals(apply Yd;exact rfl;exact rfl;simp_all)
 ·rw[Tj h]
  repeat'(first|refine zgc ?_|(refine zgf ?_ ?_<;>intro _<;>try exact zo)|fail)
  all_goals(apply Yd;exact rfl;exact rfl;exact⟨rfl,rfl⟩)
def OutS(H:List HP)(R:Sch×Int)(v:Value)(K:List HP):Prop:=∃A cap,v=.tuple #[.agg #[.int .i64 R.1.len,.int .i64 R.1.off,.slice A R.1.cells.length cap],.int .i64 R.2]/\K=cels A cap R.1.cells::H
variable {H:List HP}
theorem On{R:Sch×Int}{v:Value}(e:Int)(hR:R=(J3,e))(hv:v=.tuple #[.agg #[.int .i64 0,.int .i64 0,.slice none 0 0],.int .i64 e]):OutS H R v (cels none 0 []::H):=⟨none,0,by rw[hR];exact hv,by rw[hR];rfl⟩
theorem VN(l:List Cel)(hlen:l.length<=1000000){A:Option Addr}{cap B:Nat}{w0:World}{w:World}(hr:Rd B w0 H A (l.flatMap celF))(hw:St B w0 H w):
 CX B w0 177 [.slice A l.length cap] w λv K=>∃A' cap',v=.slice A' l.length cap'/\K=cels A' cap' l::H:=by
 cases A with
 |none=>
  have hl:l=[]:=by
   cases l with
   |nil=>rfl
   |cons x l=>
    exact zc39
  subst hl
  refine Yc Tryz.func177 Tryz.ntmps177 rfl rfl hw ?_
  refine zX6 ?_
  apply Xk 48 5;exact zc42
 |some a=>
  refine Yc Tryz.func177 Tryz.ntmps177 rfl rfl hw ?_
  repeat'(first|(apply Zo;(iterate 3 exact rfl))|(apply Yr T;exact rfl;exact rfl;intro g2)|refine zga ?_|fail)
  apply YU T (f:=celF) (l2:=l) (e:=48) (size:=5) (xs:=[]);(iterate 3 exact rfl);exact hr.cons;exact(λ_=>rfl);exact(λ_=>rfl);exact rfl;(intro _ _;exact zd);omega;intro A' cap'
  exact zc67
variable {A:Option Addr}{cap B:Nat}{w0 w:World}{H:List HP}
theorem YhK(l:List Int)(v:Int)(hlen:l.length<=9223372036854775807)(hr:Rd B w0 H A (l.flatMap numF))(hw:St B w0 H w):
 CX B w0 361 [.slice A l.length cap,.int .i64 v] w λu K=>u=.int .i64 (Yq (λx=>decide (v=x)) l 0)/\K=H:=by
 refine Yc Tryz.func361 Tryz.ntmps361 rfl rfl hw ?_
 refine zX7 ?_
 refine Yf (λ(k:Nat)=>[(8,.int .i64 k),(7,.int .i64 l.length),(0,.slice A l.length cap),(1,.int .i64 v)]) (λ_=>H) (λk=>k<=l.length/\Yq (λx=>decide (v=x)) l 0=Yq (λx=>decide (v=x)) (l.drop k) k) (λk=>l.length-k) 0 ⟨Tc _,by simp⟩ ?_ (λw hw=>hw) ?_
 ·exact zc1
 rintro k ⟨hk,hi⟩ K hK
 by_cases hlt:k<l.length
 ·obtain⟨a,ha⟩:∃a,l[k]? =some a:=⟨_,Ta hlt⟩
  rw[ZX _ l ha]at hi
  repeat'(first|refine zgd ?_|(refine zge ?_ ?_<;>intro _<;>try exact zo)|fail)
  ·rename_i h
   rw[Tm (Ti h)]at hi
   exact zc70
  ·rename_i h
   rw[Tf (by simp[h])]at hi
   repeat'(first|fail)
   apply hK (k+1)
   ·grind
   ·omega
   ·exact zc1
   exact zc20
 ·refine zX1 ?_<;>intros
  exact zc45
theorem Ji(l:List Int)(v:Int)(hlen:l.length<=9223372036854775807)(hr:Rd B w0 H A (l.flatMap numF))(hw:St B w0 H w):
 CX B w0 279 [.slice A l.length cap,.int .i64 v] w λu K=>u=.bool (decide (v∈l))/\K=H:=by
 refine Yc Tryz.func279 Tryz.ntmps279 rfl rfl hw ?_
 have hia:=VY (λx=>decide (v=x)) l 0 (by omega)
 have hmm:l.any (λx=>decide (v=x))=true↔v∈l:=by simp[List.any_eq_true]
 repeat'(first|((first|apply Ya Yss|apply Yb Yss);exact za;exact rfl;exactλ_ hw=>(YhK l v hlen hr hw))|refine zga ?_|(refine zgf ?_ ?_<;>intro _<;>try exact zo)|fail)
 all_goals(apply Yd;exact rfl;exact rfl)
 ·rename_i h;exact⟨by rw[Ti (hmm.1 (hia.1 h))],rfl⟩
 ·rename_i h
  exact⟨by rw[Tj λe=>by have:=hia.2 (hmm.2 e);omega],rfl⟩
theorem YaM(l m:List Int)(hlen:l.length<=9223372036854775807)(_hlen2:m.length<=9223372036854775807){A2:Option Addr}{cap2:Nat}(hr:Rd B w0 H A (l.flatMap numF))(hr2:Rd B w0 H A2 (m.flatMap numF))(hw:St B w0 H w):
 CX B w0 193 [.slice A l.length cap,.slice A2 m.length cap2] w λu K=>u=.bool (decide (l=m))/\K=H:=by
 refine Yc Tryz.func193 Tryz.ntmps193 rfl rfl hw ?_
 by_cases hll:l.length=m.length
 rotate_left
 ·exact zc11
 refine zX3 ?_<;>intros
 refine Yf (λ(k:Nat)=>[(13,.int .i64 k),(12,.int .i64 l.length),(0,.slice A l.length cap),(1,.slice A2 m.length cap2)]) (λ_=>H) (λk=>k<=l.length/\l.take k=m.take k) (λk=>l.length-k) 0 ⟨Tc _,by simp⟩ ?_ (λw hw=>hw) ?_
 ·exact zc1
 rintro k ⟨hk,hi⟩ K hK
 by_cases hlt:k<l.length
 ·obtain⟨a,ha⟩:∃a,l[k]? =some a:=⟨_,Ta hlt⟩
  obtain⟨b,hb⟩:∃b,m[k]? =some b:=⟨_,Ta (by omega)⟩
  repeat'(first|refine zgd ?_|(refine zge ?_ ?_<;>intro _<;>try exact zo)|fail)
  ·exact zc61
  ·rename_i h
   apply hK (k+1)
   ·exact Yp3
   ·omega
   ·exact zc1
   exact zc20
 exact zc9
theorem YcG{α:Type}(p:α->Bool):∀(l:List α) (k:Int),(l.filter (λa=>!p a)=l/\Yq p l k= -1)\/∃j,j<l.length/\Yq p l k=k+j/\(l.take j).filter (λa=>!p a)=l.take j/\∃a,l[j]? =some a/\p a=true
 |[],_=>.inl ⟨rfl,rfl⟩
 |a::l,k=>by
  unfold Yq
  cases h:p a with
  |true=>exact .inr ⟨0,by simp,by simp,rfl,a,rfl,h⟩
  |false=>
   rw[Tf (by decide)]
   have hn:(!p a)=true:=by simp_all
   rcases YcG p l (k+1)with⟨h1,h2⟩|⟨j,h1,h2,h3,b,h4,h5⟩
   ·simp_all
   exact Ytq
variable {A:Option Addr}{cap B:Nat}{w0 w:World}{H:List HP}
theorem YcJ(p:Cel->Bool)(l:List Cel)(f:Nat)(cs:List Value)(hen:∀xs w,(callFunc f xs).run Tryz.prog w=.ok (.enter f xs) w)(hlen:l.length<=1000)(hr:Rd B w0 H A (l.flatMap celF))
 (hp:∀a∈l,∀w,St B w0 H w->Calls Tryz.prog f ([celV a]++cs).toArray w (Post B w0 λv K=>v=.bool (p a)/\K=H)) (hw:St B w0 H w):
 CX B w0 271 [.slice A l.length cap,.func (.func f) #[] cs.toArray] w λv K=>v=.int .i64 (Yq p l 0)/\K=H:=by
 refine Yc Tryz.func271 Tryz.ntmps271 rfl rfl hw ?_
 refine zX7 ?_
 refine Yf (λ(k:Nat)=>[(8,.int .i64 k),(7,.int .i64 l.length),(0,.slice A l.length cap),(1,.func (.func f) #[] cs.toArray)]) (λ_=>H) (λk=>k<=l.length/\Yq p l 0=Yq p (l.drop k) k) (λk=>l.length-k) 0 ⟨Tc _,by simp⟩ ?_ (λw hw=>hw) ?_
 ·exact zc1
 rintro k ⟨hk,hi⟩ K hK
 by_cases hlt:k<l.length
 ·obtain⟨a,ha⟩:∃a,l[k]? =some a:=⟨_,Ta hlt⟩
  have hpa:=hp a (Td ha)
  rw[ZX p l ha]at hi
  refine zX8 ?_<;>intros
  cases hpv:p a
  ·rw[hpv]at hi
   refine zX9 ?_
   apply hK (k+1)
   ·grind
   ·omega
   ·exact zc1
   exact zc20
  exact zc10
 exact zc7
structure Kc where
 i:Nat
 j:Nat
 M:List Cel
theorem YaF(p:Cel->Bool)(l:List Cel)(f:Nat)(cs:List Value)(hen:∀xs w,(callFunc f xs).run Tryz.prog w=.ok (.enter f xs) w)(hlen:l.length<=1000)
 (hp:∀a∈l,∀(X:List HP) w,St B w0 (X++H) w->Calls Tryz.prog f ([celV a]++cs).toArray w (Post B w0 λv K=>v=.bool (p a)/\K=X++H)) (hw:St B w0 (cels A cap l::H) w):
 CX B w0 176 [.slice A l.length cap,.func (.func f) #[] cs.toArray] w λv K=>v=.slice A (l.filter λa=>!p a).length cap/\K=cels A cap (l.filter λa=>!p a)::H:=by
 refine Yc Tryz.func176 Tryz.ntmps176 rfl rfl hw ?_
 refine Oa (e:=48) (size:=5) (A:=A) (xs:=l.flatMap celF) (k:=l.length) (cap:=cap) TM λhcap=>?_
 have hif:=λ{w:World}(hw:St B w0 (cels A cap l::H) w)=>YcJ p l f cs hen hlen (cap:=cap) (.sl TM) (λa ha w hw=>hp a ha [cels A cap l] w hw) hw
 rcases YcG p l 0 with⟨h1,h2⟩|⟨i0,h1,h2,h3,a0,h4,h5⟩
 ·rw[h2]at hif
  rw[h1]
  repeat'(first|((first|apply Ya YeB|apply Yb YeB);exact za;exact rfl;exactλ_ hw=>(hif hw))|refine zgb ?_|(refine zge ?_ ?_<;>intro _<;>try exact zo)|fail)
  exact zc3
 rw[h2,Int.zero_add]at hif
 repeat'(first|((first|apply Ya YeB|apply Yb YeB);exact za;exact rfl;exactλ_ hw=>(hif hw))|refine zgc ?_|(refine zge ?_ ?_<;>intro _<;>try exact zo)|fail)
 refine Yf (λ(z:Kc)=>[(6,.int .i64 z.j),(5,.int .i64 z.i),(0,.slice A z.M.length cap),(1,.func (.func f) #[] cs.toArray)]) (λz=>cels A cap z.M::H) (λz=>z.M.length=l.length/\z.i<z.j/\z.j<=l.length/\z.M.take z.i=(l.take z.j).filter (λa=>!p a)/\z.M.drop z.j=l.drop z.j) (λz=>l.length-z.j) ⟨i0,i0+1,l⟩ ⟨rfl,by exact zc37,by exact zc37,?_,rfl⟩ ?_ (λw hw=>hw) ?_
 ·exact Ytu
 ·exact zc1
 rintro⟨i,j,M⟩ ⟨hM,hij,hj,ht,hd⟩ K hK
 simp only at hM hij hj ht hd⊢
 unfold cels
 by_cases hlt:j<l.length
 ·obtain⟨a,ha⟩:∃a,l[j]? =some a:=⟨_,Ta hlt⟩
  have hMa:M[j]? =some a:=YsY
  have hpa:=λ{X1 X2:HP}{w:World}(hw:St B w0 (X1::X2::H) w)=>hp a (Td ha) [X1,X2] w hw
  have hft:(l.take (j+1)).filter (λa=>!p a)=M.take i++(if p a=true then []else [a]):=Yth
  obtain⟨b,hb⟩:∃b,p a=b:=⟨_,rfl⟩
  rw[hb]at hft hpa
  have hd1:∀x:Cel,(M.set i x).drop (j+1)=l.drop (j+1):=λx=>by
   exact Ytl
  cases b with
  |true=>
   rw[Tm rfl,Rw]at hft
   refine zX36 ?_<;>intros
   apply hK ⟨i,j+1,M⟩
   ·exact⟨hM,by exact zc37,by exact zc37,hft.symm,by exact YtD⟩
   ·exact zc37
   ·exact zc1
   ·exact zc62
  |false=>
   rw[Tf (by decide)]at hft
   have hMl:(M.set i a).length=M.length:=TY
   repeat'(first|((first|apply YV (cs:=cs));exact rfl;exact hen;exact za;exact rfl;exactλ_ hw=>hpa hw)|(apply ZT T (f:=celF) (l:=M) (i:=i) (a:=a);(iterate 3 exact rfl);exact zd;exactλ_=>rfl;(iterate 3 exact rfl);omega)|refine zgd ?_|(refine zge ?_ ?_<;>intro _<;>try exact zo)|(refine zgh ?_;intro _)|fail)
   apply hK ⟨i+1,j+1,M.set i a⟩
   ·refine⟨by exact zc37,by exact zc37,by exact zc37,?_,hd1 a⟩
    exact Ys4
   ·exact zc37
   ·dsimp only
    rw[hMl]
    exact zc1
   ·unfold cels
    dsimp only
    rw[hMl]
    exact zc62
 ·obtain rfl:j=l.length:=by omega
  clear hK
  rw[TC]at ht
  have hil:(l.filter λa=>!p a).length=i:=by rw[<-ht,TJ];omega
  have hfl:(M.flatMap celF).take (i*5)=(l.filter λa=>!p a).flatMap celF:=by rw[<-XO (q:=5) (λ_=>rfl),ht]
  refine zX38 ?_<;>intros
  rw[RD]
  apply Zz (sl 48 5 A i cap ((l.filter λa=>!p a).flatMap celF)::H)
  ·intro w hw
   refine hw.shrink (e:=48) (size:=5) (cap:=cap) (A:=A) (xs:=M.flatMap celF) (k:=M.length) (k':=i) (by omega) ?_
   rw[hfl]
   exact Upd.here _
  apply YgJ T T2 (e:=48) (size:=5) (k:=i) (xs:=(l.filter λa=>!p a).flatMap celF);exact rfl;exact TM;(iterate 3 exact rfl);omega
  refine zX39 ?_
  rw[Z6]
  repeat'(first|fail)
  apply Yd;exact rfl;exact rfl
  exact⟨by rw[hil],by rw[hil]⟩
end Go.Proofs.YtjlgijpmnfabcaaGreatDoor
