/- Lemmas. -/
import Derived.Test.YtambgjgljcadlaaGreatDoorQ11
set_option maxRecDepth 100000
set_option maxHeartbeats 8000000
set_option linter.all false
namespace Go.Eng
open Go.RowKit
variable {B:Nat}{w0:World}{H:List HP}
theorem Ylt{P:Program}{env:Env}{n:Nat}(T:Tab P){fn:Func}{Φ:Value->List HP->Prop}{p g rt:Nat}{v:Value}{cs:Array Value}{tt:TypeId}{fr:Nat×Nat}(hr:fn.results=#[.cell p rt])(hp:get env p=some (.pointer (some ⟨g,0,none⟩)))
 (hm:Eng.blk g (.cells cs tt fr)∈H) (hv:nth cs.toList 0=some v) (ht:Eng.look T.sc rt=some ()) {H2:List HP}(hH:∀w,St B w0 H w->St B w0 H2 w) (h:Φ v H2):VQ ⟨n,[],none⟩ B w0 (bodyPost P fn (Post B w0 Φ)) .ret env H:=by
 refine⟨λa w ha hw=>bodyPost_ret (v:=v) ?_ ha.defers ⟨_,H2,rfl,hH w hw,h⟩⟩
 have hp':=ha.slot p _ hp
 rw[YgI]at hv
 have hc:=Xl (i:=0) (hw.blk hm).1
 simp[results,hr,Array.getD_eq_getD_getElem?,hp',asAddr,loadVar,Zr (T.scal ht).1,hc,hv]
end Go.Eng
namespace Go.Proofs.YtambgjgljcadlaaGreatDoor
open Go.RowKit Go.Eng Go.Nw
variable {s:Sch}{i B:Nat}
theorem Yoy(hi:i<s.cells.length)(h:∀j∈inI s (Yn s i).1 s.cells.length,j<i->YH (Yn s i) (Yn s j)=false):Jj s i=false:=by
 unfold Jj
 rw[RN]
 intro j hj
 have hj:=Rf.1 hj
 rw[To,Tt]
 rintro⟨h1,h2⟩
 rw[h j (O4.2 ⟨by omega,h1⟩) hj]at h2
 cases h2
theorem Yoz{j:Nat}(hji:j<i)(hs:(Yn s j).1=(Yn s i).1)(ht:YH (Yn s i) (Yn s j)=true):Jj s i=true:=by
 unfold Jj
 grind
variable {w0:World}{H:List HP}
theorem Yle(s:SchM)(i:Nat)(hi:i<s.cells.length)(hl:s.cells.length<=1000){w:World}(hr:Rd B w0 H s.A (s.cells.flatMap celF))(hw:St B w0 H w):
 CX B w0 170 [s.val,.int .i64 i] w λv K=>v=.bool (Jj s.sch i)/\K=H:=by
 refine ZU Tryz.func170 Tryz.ntmps170 rfl rfl hw ?_
 have hget:s.cells[i]? =some (Yn s.sch i):=Xc (s:=s.sch) hi
 obtain⟨c,hc⟩:∃c,Yn s.sch i=c:=⟨_,rfl⟩
 rw[hc]at hget
 refine zX74 ?_<;>intros
 rename_i gs gi gr gc
 apply Yf _ YtK
 exact za
 exact rfl
 exactλ_ hw=>(Yiy s c.1 (hw))
 rintro _ _ ⟨g1,g2,rfl,rfl⟩
 refine zX7 ?_
 have hr6:Rd B w0 (intB g2 c.1::schB g1 s::blk gc (.cells (celF c).toArray 117 (0,0))::blk gi (.cells #[.int .i64 i] 3 (0,0))::schB gs s::H) s.A (s.cells.flatMap celF):=hr.cons.cons.cons.cons.cons
 refine ZW (gf:=246) (lb:=[.pointer (some ⟨g1,0,none⟩),.pointer (some ⟨g2,0,none⟩)]) (xs:=inXs s.sch c.1) (intB g2 c.1::schB g1 s::blk gc (.cells (celF c).toArray 117 (0,0))::blk gi (.cells #[.int .i64 i] 3 (0,0))::schB gs s::H) (λ_:Unit=>[blk gr (.cells #[.bool false] 4 (0,0))])
  (λk _=>∀m j,m<k->(inI s.sch c.1 s.cells.length)[m]? =some j->j<i->YH c (Yn s.sch j)=false) (λe K=>e=.ret/\Jj s.sch i=true/\K=[blk gr (.cells #[.bool true] 4 (0,0))]) () rfl YtP (Yix s c.1 g1 g2 hr6 (by omega) (.tail _ (.head _)) (.head _)) rfl ?_ (by kernel_rfl) (by kernel_rfl) ?_ (λm j h=>absurd h (R9 _)) ?_ ?_ ?_
 ·grind [TO,Yag]
 ·exactλw hw=>hw.perm (.trans (.cons _ (.cons _ (.swap _ _ _))) (.trans (.cons _ (.swap _ _ _)) (.swap _ _ _)))
 ·rintro l k args R ⟨⟩ hk hI
  obtain⟨j,hj,hlt,rfl⟩:=Yag hk
  have hlt2:j<s.cells.length:=hlt
  dsimp only[WF,List.cons_append,List.nil_append]
  have hgj:s.cells[j]? =some (Yn s.sch j):=Xc (s:=s.sch) hlt
  have hjs:(Yn s.sch j).1=c.1:=(O4.1 (Tf hj)).2
  obtain⟨d,hd⟩:∃d,Yn s.sch j=d:=⟨_,rfl⟩
  rw[hd]at hgj
  have htc:YH c d=true↔(c.2.2.1=d.2.2.1\/c.2.2.1=d.2.2.2.1\/c.2.2.2.1=d.2.2.1\/c.2.2.2.1=d.2.2.2.1):=by unfold YH YC toC;rw[Tt]
  refine zX4 ?_
  apply VW Yw
  intro R'
  unfold intB schB
  have hr7:Rd B w0 (R'::blk gr (.cells #[.bool false] 4 (0,0))::intB g2 c.1::schB g1 s::blk gc (.cells (celF c).toArray 117 (0,0))::blk gi (.cells #[.int .i64 i] 3 (0,0))::schB gs s::H) s.A (s.cells.flatMap celF):=hr6.cons.cons
  unfold intB schB at hr7
  clear hr6
  repeat'(first|refine zgd ?_|(refine zge ?_ ?_<;>intro _<;>try exact zo)|(refine zgh ?_;intro _)|fail)
  all_goals first
   |(refine QX [blk gr (.cells #[.bool true] 4 (0,0))] ⟨rfl,?_,rfl⟩ ?_
     ·exact Yoz (j:=j) (by omega) (by rw[hc];exact hjs) (by rw[hc,hd];exact htc.2 (by omega))
     ·dsimp only[List.cons_append,List.nil_append]
      exact zk
     done)
   |(refine Wn () ?_ ?_
     ·intro m j2 hm hj2 hji
      rcases S9.1 hm with h|h
      ·exact hI m j2 h hj2 hji
      ·subst h
       obtain rfl:=Tv (hj.symm.trans hj2)
       rw[hd]
       exact SD.2 λh=>by have:=htc.1 h;omega
     ·dsimp only[List.cons_append,List.nil_append]
      exact zk
     done)
 ·rintro D ⟨⟩ hI
  have htw:Jj s.sch i=false:=Yoy hi λj hj hji=>by
   rw[hc]at hj⊢
   obtain⟨m,hm⟩:=TO.1 hj
   refine hI m j ?_ hm hji
   rw[inXs,TC]
   exact(Tc.1 hm).1
  rw[htw]
  dsimp only[List.cons_append,List.nil_append]
  unfold intB schB
  refine zX2 ?_
  apply Jg Yw
  apply VQ_m
  apply Ylt T (H2:=H);exact rfl;exact rfl;(focus exact zc2);exact rfl;exact rfl;(intro w hw;refine hw.perm ?_;focus exact zc3);exact YaI
 ·rintro D e K ⟨rfl,htw,rfl⟩ hjmp
  rw[htw]
  dsimp only[List.cons_append,List.nil_append]
  unfold intB schB
  refine zX2 ?_
  apply Jg Yw
  apply VQ_m
  apply Ylt T (H2:=H);exact rfl;exact rfl;(focus exact zc2);exact rfl;exact rfl;(intro w hw;refine hw.perm ?_;focus exact zc3);exact YaI
open Go.RowKit Go.Eng Go.Nw Go.Rt
def rowQ(r:RowM):HP:=ints r.A r.cap r.xs
structure RqM where
 f:Flw
 A:Option Addr
 cap:Nat
 rows:List RowM
def rqF(x:RqM):List Value:=[.int .i64 x.f.1,.int .i64 x.f.2.1,.int .i64 x.f.2.2.1,.int .i64 x.f.2.2.2.1,.int .i64 x.f.2.2.2.2.1,.int .i64 x.f.2.2.2.2.2,.slice x.A x.rows.length x.cap]
def rqV(x:RqM):Value:=.agg #[.int .i64 x.f.1,.int .i64 x.f.2.1,.int .i64 x.f.2.2.1,.int .i64 x.f.2.2.2.1,.int .i64 x.f.2.2.2.2.1,.int .i64 x.f.2.2.2.2.2,.slice x.A x.rows.length x.cap]
def RqM.rq(x:RqM):Rqs:=(x.f,x.rows.map (·.xs))
abbrev netA(g:Nat)(n:NetM):HP:=blk g (.cells #[.int .i64 n.nodes,.slice n.pA n.rows.length n.pcap,.int .i64 n.noise,.int .i64 n.thr,.slice n.lA n.links.length n.lcap,.slice n.mA n.margin.length n.mcap] 26 (0,0))
abbrev schA(g:Nat)(s:SchM):HP:=blk g (.cells #[.int .i64 s.len,.int .i64 s.off,.slice s.A s.cells.length s.cap] 30 (0,0))
abbrev rqA(g:Nat)(x:RqM):HP:=blk g (.cells #[.int .i64 x.f.1,.int .i64 x.f.2.1,.int .i64 x.f.2.2.1,.int .i64 x.f.2.2.2.1,.int .i64 x.f.2.2.2.2.1,.int .i64 x.f.2.2.2.2.2,.slice x.A x.rows.length x.cap] 56 (0,0))
structure RqM.In(B:Nat)(w0:World)(H:List HP)(x:RqM):Prop where
 rt:Rd B w0 H x.A (x.rows.flatMap rowF)
 rw_:∀r∈x.rows,Rd B w0 H r.A (r.xs.flatMap numF)
 ln:x.rows.length<=1000000000000
 rl:∀r∈x.rows,r.xs.length<=1000000000000/\r.xs.length<=r.cap
variable {B:Nat}{w0:World}{H H':List HP}{x:RqM}
theorem RqM.In.mono(h:x.In B w0 H)(hH:∀w,St B w0 H' w->St B w0 H w):x.In B w0 H':=⟨h.rt.mono hH,λr hr=>(h.rw_ r hr).mono hH,h.ln,h.rl⟩
variable {X:HP}
theorem RqM.In.cons(h:x.In B w0 H):x.In B w0 (X::H):=h.mono λ_ hw=>hw.tail
structure QIn(B:Nat)(w0:World)(H:List HP)(A:Option Addr)(q:List RqM):Prop where
 rd:Rd B w0 H A (q.flatMap rqF)
 x:∀x∈q,x.In B w0 H
 ln:q.length<=1000000000000
variable {A:Option Addr}{q:List RqM}
theorem QIn.mono(h:QIn B w0 H A q)(hH:∀w,St B w0 H' w->St B w0 H w):QIn B w0 H' A q:=⟨h.rd.mono hH,λx hx=>(h.x x hx).mono hH,h.ln⟩
theorem QIn.cons(h:QIn B w0 H A q):QIn B w0 (X::H) A q:=h.mono λ_ hw=>hw.tail
structure ClM where
 flow:Int
 rA:Option Addr
 rcap:Nat
 rs:List RowM
 bA:Option Addr
 bcap:Nat
 bs:List Int
 wA:Option Addr
 wcap:Nat
 ws:List Int
 sA:Option Addr
 scap:Nat
 ss:List RowM
def clF(c:ClM):List Value:=[.int .i64 c.flow,.slice c.rA c.rs.length c.rcap,.slice c.bA c.bs.length c.bcap,.slice c.wA c.ws.length c.wcap,.slice c.sA c.ss.length c.scap]
def clV(c:ClM):Value:=.agg #[.int .i64 c.flow,.slice c.rA c.rs.length c.rcap,.slice c.bA c.bs.length c.bcap,.slice c.wA c.ws.length c.wcap,.slice c.sA c.ss.length c.scap]
def ClM.clm(c:ClM):Clm:=⟨c.flow,c.rs.map (·.xs),c.bs,c.ws,c.ss.map (·.xs)⟩
structure ClM.In(B:Nat)(w0:World)(H:List HP)(c:ClM):Prop where
 rt:Rd B w0 H c.rA (c.rs.flatMap rowF)
 rw_:∀r∈c.rs,Rd B w0 H r.A (r.xs.flatMap numF)
 bd:Rd B w0 H c.bA (c.bs.flatMap numF)
 ws:Rd B w0 H c.wA (c.ws.flatMap numF)
 st:Rd B w0 H c.sA (c.ss.flatMap rowF)
 sw:∀r∈c.ss,Rd B w0 H r.A (r.xs.flatMap numF)
 ln:c.rs.length<=1000000000000/\c.bs.length<=1000000000000/\c.ws.length<=1000000000000/\c.ss.length<=1000000000000
 rl:∀r∈c.rs,r.xs.length<=1000000000000
 sl:∀r∈c.ss,r.xs.length<=1000000000000
variable {c:ClM}
theorem ClM.In.mono(h:c.In B w0 H)(hH:∀w,St B w0 H' w->St B w0 H w):c.In B w0 H':=
 ⟨h.rt.mono hH,λr hr=>(h.rw_ r hr).mono hH,h.bd.mono hH,h.ws.mono hH,h.st.mono hH,λr hr=>(h.sw r hr).mono hH,h.ln,h.rl,h.sl⟩
theorem ClM.In.cons(h:c.In B w0 H):c.In B w0 (X::H):=h.mono λ_ hw=>hw.tail
structure CIn(B:Nat)(w0:World)(H:List HP)(A:Option Addr)(c:List ClM):Prop where
 rd:Rd B w0 H A (c.flatMap clF)
 x:∀x∈c,x.In B w0 H
 ln:c.length<=1000000000000
theorem CIn.mono{c:List ClM}(h:CIn B w0 H A c)(hH:∀w,St B w0 H' w->St B w0 H w):CIn B w0 H' A c:=⟨h.rd.mono hH,λx hx=>(h.x x hx).mono hH,h.ln⟩
theorem CIn.cons{c:List ClM}(h:CIn B w0 H A c):CIn B w0 (X::H) A c:=h.mono λ_ hw=>hw.tail
def clP(c:ClM):List HP:=[sl 64 1 c.rA c.rs.length c.rcap (c.rs.flatMap rowF),many (c.rs.map rowQ),nrs c.bA c.bcap c.bs,nrs c.wA c.wcap c.ws,sl 24 1 c.sA c.ss.length c.scap (c.ss.flatMap rowF),many (c.ss.map rowQ)]
def clQ(c:ClM):HP:=many (clP c)
def nilC(f:Int):ClM:=⟨f,none,0,[],none,0,[],none,0,[],none,0,[]⟩
theorem Yvg(hm:clQ c∈H)(hl:(c.rs.length<=1000000000000/\c.bs.length<=1000000000000/\c.ws.length<=1000000000000/\c.ss.length<=1000000000000)/\(∀r∈c.rs,r.xs.length<=1000000000000)/\∀r∈c.ss,r.xs.length<=1000000000000):c.In B w0 H:=by
 have hb:∀w,St B w0 H w->St B w0 (clP c) w:=λw hw=>hw.inM hm
 refine ClM.In.mono (H:=clP c) ?_ hb
 unfold clP
 refine⟨.sl (.head _),λr hr=>?_,.sl (.tail _ (.tail _ (.head _))),.sl (.tail _ (.tail _ (.tail _ (.head _)))),.sl (.tail _ (.tail _ (.tail _ (.tail _ (.head _))))),λr hr=>?_,hl.1,hl.2.1,hl.2.2⟩
 ·exact Rd.many (L:=c.rs.map rowQ) (.tail _ (.head _)) (SC hr)
 ·exact Rd.many (L:=c.ss.map rowQ) (.tail _ (.tail _ (.tail _ (.tail _ (.tail _ (.head _)))))) (SC hr)
theorem YiT{w:World}(f:Int)(h:St B w0 H w):St B w0 (clQ (nilC f)::H) w:=by
 unfold clQ clP nilC
 dsimp only[List.flatMap_nil,List.map_nil,List.length_nil]
 have h1:=(h.perm (.noMany H)).nilSlice 24 1
 have h2:=(((h1.nilSlice 3 1).nilSlice 3 1).perm (.noMany _)).nilSlice 64 1
 exact h2.perm (.close [_,_,_,_,_,_] H)
variable {B cap m:Nat}{w0 w:World}{H:List HP}
theorem QC(n:NetM)(v:Int)(hw:St B w0 H w):
 CX B w0 293 [n.val,.int .i64 v] w λu K=>u=.bool (insE v n.net.nodes)/\K=H:=by
 have e1:n.net.nodes=n.nodes:=rfl
 refine Yc Tryz.func293 Tryz.ntmps293 rfl rfl hw ?_
 repeat'(first|refine zgc ?_|(refine zgf ?_ ?_<;>intro _<;>try exact zo)|(refine zgh ?_;intro _)|fail)
 all_goals(
  apply Yi H
  ·exact zk
  apply Yd;exact rfl;exact rfl
  first
   |exact⟨by rw[show insE v n.net.nodes=true from Ti (by omega)],rfl⟩
   |exact⟨by rw[show insE v n.net.nodes=false from Tn (by omega)],rfl⟩)
theorem Yj3(n:NetM)(c:Cel)(gn:Nat)(hm:blk gn (.cells #[.int .i64 n.nodes,.slice n.pA n.rows.length n.pcap,.int .i64 n.noise,.int .i64 n.thr,.slice n.lA n.links.length n.lcap,.slice n.mA n.margin.length n.mcap] 26 (0,0))∈H)(hw:St B w0 H w):
 CX B w0 292 [celV c,.pointer (some ⟨gn,0,none⟩)] w λv K=>v=.bool (UL n.net c)/\K=H:=by
 refine Yc Tryz.func292 Tryz.ntmps292 rfl rfl hw ?_
 obtain⟨b,hb⟩:∃b,UL n.net c=b:=⟨_,rfl⟩
 rw[hb]
 unfold UL YC toC at hb
 repeat'(first|((first|apply ZY Yff|apply ZX Yff);exact za;exact rfl;exactλ_ hw=>(QC n _ hw);all_goals(intro hB;(try simp only[Tt,T9]at hB);try exact zo))|refine zgd ?_|(refine zgh ?_;intro _)|fail)
 all_goals(
  apply Yi H
  ·exact zk
  apply Yd;exact rfl;exact rfl
  refine⟨?_,rfl⟩
  rw[<-hb]
  simp[*])
variable {A:Option Addr}
theorem Oi(p:Cel->Bool)(l:List Cel)(f:Nat)(cs:List Value)(hen:∀xs w,(callFunc f xs).run Tryz.prog w=.ok (.enter f xs) w)(hlen:l.length<=1000)(hr:Rd B w0 H A (l.flatMap celF))
 (hp:∀a∈l,∀w,St B w0 H w->Calls Tryz.prog f ([celV a]++cs).toArray w (Post B w0 λv K=>v=.bool (p a)/\K=H)) (hw:St B w0 H w):
 CX B w0 294 [.slice A l.length cap,.func (.func f) #[] cs.toArray] w λv K=>v=.bool (l.any p)/\K=H:=by
 refine Yc Tryz.func294 Tryz.ntmps294 rfl rfl hw ?_
 rw[<-Ydr]
 refine zX4 ?_
 first|apply Ya Yfd|apply Yb Yfd
 exact za
 exact rfl
 exactλ_ hw=>(Yds p l f cs hen hlen hr hp hw)
 by_cases h0:0<=Ym p l 0
 ·exact zc15
 ·exact zc15
def WZ(n:Net)(c:Cel)(node:Int)(m:Nat):Int:=(([c.2.2.1,c.2.2.2.1].take m).map λe=>powN n e node).sum
variable {n:Net}
theorem Yn9{c:Cel}{node e:Int}(h:[c.2.2.1,c.2.2.2.1][m]? =some e):WZ n c node (m+1)=WZ n c node m+powN n e node:=by
 grind [WZ,TM]
theorem YsM(hok:Ok n)(c:Cel)(node:Int)(h:m<=2):0<=WZ n c node m/\WZ n c node m<=137438953472:=by
 have h1:=WE hok c.2.2.1 node
 have h2:=WE hok c.2.2.2.1 node
 match m,h with
 |0,_=>simp[WZ]
 |1,_=>grind [WZ]
 |2,_=>simp[WZ];omega
theorem Yc1(n:NetM)(l:List Cel)(j:Nat)(node:Int)(hok:Ok n.net)(hnode:0<=node/\node<n.nodes)(hlen:l.length<=1000)(hin:n.In B w0 H)(hr:Rd B w0 H A (l.flatMap celF))(hw:St B w0 H w):
 CX B w0 295 [n.val,.slice A l.length cap,.int .i64 j,.int .i64 node] w λv K=>v=.int .i64 (Yz n.net l j node l.length)/\K=H:=by
 refine Yc Tryz.func295 Tryz.ntmps295 rfl rfl hw ?_
 have e1:n.net.nodes=n.nodes:=rfl
 refine zX68 ?_<;>intros
 rename_i gn
 refine Yj (λ(k:Nat)=>[(16,.int .i64 k),(15,.int .i64 l.length),(14,.slice A l.length cap),(9,.int .i64 (Yz n.net l j node k)),(4,.pointer (some ⟨gn,0,none⟩)),(2,.int .i64 j),(3,.int .i64 node)]) (λ_=>netN gn n::H) (λk=>k<=l.length) (λk=>l.length-k) 0 (Tj _) ?_ (λw hw=>hw) ?_
 ·exact zc1
 rintro k hk K hK
 have hbd:=Ygr hok l j node k
 have hrc:=hr.cons (X:=netN gn n)
 by_cases hlt:k<l.length
 ·obtain⟨c,hc⟩:∃c,l[k]? =some c:=⟨_,Ta hlt⟩
  have hcl:celL l k=c:=by unfold celL;rw[Tu,hc];rfl
  have hst:Yz n.net l j node (k+1)=Yz n.net l j node k+if k=j then 0 else powN n.net c.2.2.1 node+powN n.net c.2.2.2.1 node:=by
   rw[Yz,hcl];rfl
  by_cases hkj:k=j
  ·rw[Tm hkj,N8]at hst
   refine zX43 ?_<;>intros
   apply hK (k+1)
   ·show k+1<=_
    omega
   ·omega
   ·rw[hst]
    exact zc1
   ·exact zc0
  rw[Td hkj]at hst
  refine zX43 ?_<;>intros
  rename_i gc _ ge
  refine Yj (λ(m:Nat)=>[(30,.int .i64 m),(29,.int .i64 ((2:Nat):Int)),(28,.slice (some ⟨ge,0,none⟩) ([c.2.2.1,c.2.2.2.1]:List Int).length 2),(9,.int .i64 (Yz n.net l j node k+WZ n.net c node m)),(16,.int .i64 k),(15,.int .i64 l.length),(14,.slice A l.length cap),(4,.pointer (some ⟨gn,0,none⟩)),(2,.int .i64 j),(3,.int .i64 node)]) (λ_=>blk ge (.cells #[.int .i64 c.2.2.1,.int .i64 c.2.2.2.1] 3 (0,0))::netN gn n::H) (λm=>m<=2) (λm=>2-m) 0 (Tj _) ?_ ?_ ?_
  ·rw[show WZ n.net c node 0=0 from rfl,N8]
   exact zc1
  ·exact zc0
  rintro m hm K2 hK2
  have hpb:=YsM hok c node hm
  have hre:Rd B w0 (blk ge (.cells #[.int .i64 c.2.2.1,.int .i64 c.2.2.2.1] 3 (0,0))::netN gn n::H) (some ⟨ge,0,none⟩) (([c.2.2.1,c.2.2.2.1]:List Int).flatMap numF):=Rd.blk (cs:=#[.int .i64 c.2.2.1,.int .i64 c.2.2.2.1]) (.head _)
  clear hrc
  unfold netN at hre⊢
  by_cases hlt2:m<2
  ·obtain⟨e,he⟩:∃e,[c.2.2.1,c.2.2.2.1][m]? =some e:=⟨_,Ta hlt2⟩
   have hst2:=Yn9 (n:=n.net) (node:=node) he
   have hcn:=λ{H':List HP}{w:World}(hw:St B w0 H' w)=>QC n e hw
   have hl2:([c.2.2.1,c.2.2.2.1]:List Int).length=2:=rfl
   cases hie:insE e n.net.nodes with
   |false=>
    rw[hie]at hcn
    rw[show powN n.net e node=0 by unfold powN;rw[hie];simp,N8]at hst2
    refine zX75 ?_<;>intros
    apply hK2 (m+1)
    ·show m+1<=2
     omega
    ·omega
    ·rw[hst2]
     exact zc1
    ·unfold netN
     exact zc0
   |true=>
    rw[hie]at hcn
    have he2:0<=e/\e<n.net.nodes:=TY hie
    have hp0:(n.rows.length:Int)=n.net.nodes:=by
     have:=hok.p0
     rwa [show n.net.power=n.rows.map RowM.xs from rfl,TC]at this
    obtain⟨r,hrw⟩:∃r,n.rows[e.toNat]? =some r:=⟨_,Ta (by omega)⟩
    have hrm:=Tf hrw
    have hrl:(r.xs.length:Int)=n.net.nodes:=hok.p1 r.xs (TD.2 ⟨r,hrm,rfl⟩)
    obtain⟨q,hq⟩:∃q,r.xs[node.toNat]? =some q:=⟨_,Ta (by omega)⟩
    have hpw:powN n.net e node=q:=by
     unfold powN
     rw[Tm ⟨hie,Ti (by omega)⟩]
     exact Yi6 (n:=n.net) (r:=r.xs) (by simp[NetM.net,hrw]) hq
    have hqb:=WE hok e node
    rw[hpw]at hqb hst2
    have hpd:=hin.pw
    have hrd:=hin.rw_ r hrm
    have hs1:=hin.s1
    have hs2:=hin.s2 r hrm
    refine zX75 ?_<;>intros
    apply hK2 (m+1)
    ·show m+1<=2
     omega
    ·omega
    ·rw[hst2]
     exact zc1
    ·unfold netN
     exact zc0
  ·obtain rfl:m=2:=by omega
   have hp2:Yz n.net l j node (k+1)=Yz n.net l j node k+WZ n.net c node 2:=by
    rw[hst]
    simp[WZ]
   refine zX1 ?_<;>intros
   apply hK (k+1)
   ·show k+1<=_
    omega
   ·omega
   ·rw[hp2]
    exact zc1
   ·unfold netN
    exact zc0
 ·refine zX1 ?_<;>intros
  apply Yi H
  ·exact zc0
  apply Yd;exact rfl;exact rfl
  rw[show k=l.length by omega]
  exact YaI
theorem U3(n:NetM)(l:List Cel)(j:Nat)(node:Int)(hck:Yo n.net=0)(hnode:0<=node/\node<n.nodes)(hj:j<l.length)(hlen:l.length<=1000)(hno:l.any (UL n.net)=false)(hin:n.In B w0 H)(hr:Rd B w0 H A (l.flatMap celF))(hw:St B w0 H w):
 CX B w0 241 [n.val,.slice A l.length cap,.int .i64 j,.int .i64 node] w λv K=>v=.int .i64 (U0 n.net l j node)/\K=H:=by
 refine Yc Tryz.func241 Tryz.ntmps241 rfl rfl hw ?_
 have e1:n.net.nodes=n.nodes:=rfl
 have hins:insE node n.net.nodes=true:=Ti hnode
 have hd:U0 n.net l j node=Yz n.net l j node l.length:=by
  unfold U0
  rw[Td (by rw[hck,hins,hno];simp;omega),RS]
 rw[hd]
 have hchk:=λ{H':List HP}{w:World}(hin:n.In B w0 H') (hw:St B w0 H' w)=>Y9 n hin hw
 rw[hck]at hchk
 have hcn:=λ{H':List HP}{w:World}(hw:St B w0 H' w)=>QC n node hw
 rw[hins]at hcn
 (apply Xi;apply YU;apply YB;exact rfl;exact rfl;intro g)
 have hct:=λ{H':List HP}{w:World}(hm:blk g (.cells #[.int .i64 n.nodes,.slice n.pA n.rows.length n.pcap,.int .i64 n.noise,.int .i64 n.thr,.slice n.lA n.links.length n.lcap,.slice n.mA n.margin.length n.mcap] 26 (0,0))∈H') (hr:Rd B w0 H' A (l.flatMap celF)) (hw:St B w0 H' w)=>Oi (UL n.net) l 292 [.pointer (some ⟨g,0,none⟩)] Ywo hlen (cap:=cap) hr (λc _ w hw=>Yj3 n c g hm hw) hw
 rw[hno]at hct
 repeat'(first|((first|apply Ya en44|apply Yb en44);exact za;exact rfl;exactλ_ hw=>(hchk hin.cons hw))|((first|apply Ya Yff|apply Yb Yff);exact za;exact rfl;exactλ_ hw=>(hcn hw))|((first|apply Ya YlZ|apply Yb YlZ);exact za;exact rfl;exactλ_ hw=>(hct zm hr.cons hw))|((first|apply Ya Yl0|apply Yb Yl0);exact za;exact rfl;exactλ_ hw=>(Yc1 n l j node (YN hck) hnode hlen hin.cons hr.cons hw))|(apply zg29;(apply Yp;exact za;exact rfl))|refine zgd ?_|(refine zgf ?_ ?_<;>intro _<;>try exact zo)|fail)
 apply Yi H
 ·exact zc0
 exact zc5
def relE(x:WayM)(a:Int):Int×List Int×Bool:=match Vb x.n.net x.s.sch x.f x.r a with
 |none=>(0,[],false)
 |some l=>(Je l-a+1,l.map (λz=>z-a),true)
theorem Ybb(x:WayM)(a:Int):Vb x.n.net x.s.sch x.f x.r a=if(runW x a).length<Xv (Yr x.n.net x.r)then none else some ((runW x a).map Prod.snd):=Yck _ _ _ _ _
variable {B:Nat}{w0 w:World}{H:List HP}
theorem Yh5(x:WayM)(a:Int)(hw:St B w0 H w):
 CX B w0 225 [x.val,.int .i64 a] w λv K=>∃ga gw,v=.func (.func 274) #[] #[.pointer (some ⟨ga,0,none⟩),.pointer (some ⟨gw,0,none⟩)]/\K=intB ga a::wayB gw x::H:=by
 refine Yc Tryz.func225 Tryz.ntmps225 rfl rfl hw ?_
 unfold WayM.val intB
 repeat'(first|(first|(refine zs52 ?_;intro _)|(refine zs53 ?_;intro _))|((apply Yp;exact za;exact rfl))|refine zga ?_|fail)
 exact Yrt
structure NlM where
 A:Option Addr
 cap:Nat
 l:List Int
variable {x:WayM}
theorem YiR(hok:WO x):1<=Xv (Yr x.n.net x.r):=by
 have hl:=hok.len
 have h0:=QK (n:=x.n.net) (r:=x.r) (i:=0) (by omega)
 have hbd:=Yak hok h0
 have hne:(Yr x.n.net x.r)=ZO x.n.net x.r 0::(Yr x.n.net x.r).tail:=by
  cases h:Yr x.n.net x.r with
  |nil=>simp_all
  |cons a t=>simp_all
 grind [Xv,Y8]
theorem YgW(x:WayM)(at0:Int)(hok:WO x)(hat:0<=at0/\at0<=1000000)(hi:x.In B w0 H)(hw:St B w0 H w):
 CX B w0 296 [x.val,.int .i64 at0] w λv K=>∃A cap,v=.tuple #[.int .i64 (relE x at0).1,.slice A (relE x at0).2.1.length cap,.bool (relE x at0).2.2]/\K=nrs A cap (relE x at0).2.1::H:=by
 refine ZU Tryz.func296 Tryz.ntmps296 rfl rfl hw ?_
 have hper:=hok.per
 have hl9:=hok.len
 have hnp:=YiR hok
 have hnl:Xv (Yr x.n.net x.r)<=72:=by
  have h1:=Ycg hok (Yr x.n.net x.r).length
  rw[TQ,Wz]at h1
  omega
 have hRE:relE x at0=if(runW x at0).length<Xv (Yr x.n.net x.r)then(0,[],false)else(Je ((runW x at0).map Prod.snd)-at0+1,((runW x at0).map Prod.snd).map (λz=>z-at0),true):=by
  unfold relE
  rw[Ybb]
  by_cases h:(runW x at0).length<Xv (Yr x.n.net x.r)
  ·rw[Tm h,Tm h]
  ·rw[Td h,Td h]
 have hWl:(runW x at0).length<=Xv (Yr x.n.net x.r):=YaA _ _ _ _ _
 have hWs:∀z∈runW x at0,at0<=z.2/\z.2<at0+x.f.2.2.2.1:=λz hz=>Yg2 (by omega) hz
 have hiter:=λ{ga gw:Nat}{H':List HP}(hi:x.In B w0 H')=>Ygo x at0 hok hat ga gw hi
 have hxs:YlF x at0=(runW x at0).map cntV:=rfl
 rw[hxs]at hiter
 obtain⟨W,hW⟩:∃W,runW x at0=W:=⟨_,rfl⟩
 obtain⟨nd,hnd⟩:∃nd,Xv (Yr x.n.net x.r)=nd:=⟨_,rfl⟩
 have hned:=λ{H':List HP}{w:World}(hi:x.In B w0 H') (hw:St B w0 H' w)=>YiS x hok hi hw
 rw[hW,hnd]at hRE hWl
 rw[hW]at hWs hiter
 rw[hnd]at hnp hnl hned
 rw[hRE]
 unfold WayM.val
 unfold intB at hiter
 repeat'(first|(apply zg23;first|(refine zs52 ?_;intro _)|(refine zs53 ?_;intro _))|refine zgb ?_|(refine zgh ?_;intro _)|fail)
 rename_i g2 g3 gO
 apply Yf _ Ywh
 exact za
 exact rfl
 exactλ_ hw=>(Yh5 x at0 (hw))
 rintro _ _ ⟨ga,gw,rfl,rfl⟩
 unfold intB
 repeat'(first|refine zgb ?_|fail)
 refine XT 3 1 ?_
 refine ZW (gf:=274) (lb:=[.pointer (some ⟨ga,0,none⟩),.pointer (some ⟨gw,0,none⟩)]) (xs:=W.map cntV) (blk ga (.cells #[.int .i64 at0] 3 (0,0))::wayB gw x::blk g3 (.cells #[.int .i64 at0] 3 (0,0))::wayB g2 x::H) (λy:NlM=>[blk gO (.cells #[.slice y.A y.l.length y.cap] 24 (0,0)),nrs y.A y.cap y.l]) (λi y=>y.l=(W.take i).map (λz=>z.2-at0)) (λ_ _=>False) ⟨none,0,[]⟩ rfl Ywm (hiter hi.cons.cons) rfl ?_ (by kernel_rfl) (by kernel_rfl) ?_ rfl ?_ ?_ (λ_ _ _ h=>h.elim)
 ·intro args h
  obtain⟨z,_,rfl⟩:=TD.1 h
  rfl
 ·simp only[TF,TP,Rq]
  intro w hw
  have h1:St B w0 (nrs none 0 []::blk ga (.cells #[.int .i64 at0] 3 (0,0))::wayB gw x::blk gO (.cells #[.slice none 0 0] 24 (0,0))::blk g3 (.cells #[.int .i64 at0] 3 (0,0))::wayB g2 x::H) w:=hw
  clear hw
  revert w
  exact zc0
 ·rintro l k args R ⟨A,cap,xs⟩ hk hI
  rw[TX]at hk
  obtain⟨⟨d,sl⟩,hz,rfl⟩:∃z,W[k]? =some z/\args=cntV z:=by
   cases h:W[k]? with
   |none=>rw[h]at hk;cases hk
   |some z=>rw[h]at hk;exact⟨z,rfl,(Tv hk).symm⟩
  have hzb:=hWs _ (Tf hz)
  have hI:xs=(W.take k).map (λz=>z.2-at0):=hI
  have hxl:xs.length<=72:=by
   rw[hI,TC,TA];omega
  dsimp only at hzb
  dsimp only[WF,cntV,List.cons_append,List.nil_append]
  repeat'(first|refine zga ?_|fail)
  apply VW Yw
  intro R'
  repeat'(first|refine zgd ?_|(refine zgh ?_;intro _)|(refine zgi ?_;intro _ _)|fail)
  rename_i A' cap'
  apply Wn (NlM.mk A' cap' (xs++[sl-at0]))
  ·show xs++[sl-at0]=_
   rw[TM,hz,RY,Rl,hI];rfl
  ·dsimp only[List.cons_append,List.nil_append]
   rw[YdL,show xs.length+1=(xs++[sl-at0]).length by simp]
   exact zc0
 ·rintro D ⟨A,cap,xs⟩ hI
  have hI:xs=(W.take (W.map cntV).length).map (λz=>z.2-at0):=hI
  rw[TC,TQ]at hI
  have hxl:xs.length=W.length:=by rw[hI,TC]
  dsimp only[List.cons_append,List.nil_append]
  have hll:((W.map Prod.snd).map (λz=>z-at0))=xs:=by rw[hI,NI];rfl
  by_cases hlt:W.length<nd
  ·rw[Tm hlt]
   repeat'(first|refine zgc ?_|fail)
   apply X7 [0,1,2,3,4] []
   kernel_rfl
   kernel_rfl
   (simp only[Yg,nthO];rfl)
   exact rfl
   repeat'(first|refine zgd ?_|fail)
   first|apply Ya Yl1|apply Yb Yl1
   exact za
   exact rfl
   exactλ_ hw=>(hned (hi.mono zc0) hw)
   repeat'(first|(apply Yk;(repeat(first|with_reducible exact Y7|(with_reducible apply YZ;(repeat(first|with_reducible exact Yw|with_reducible apply YJ))))))|refine zga ?_|fail)
   ·show Perm H (H++[])
    exact zc27
   repeat'(first|refine zgd ?_|(refine zge ?_ ?_<;>intro _<;>try exact zo)|fail)
   apply Jg Yw
   apply VQ_m
   apply Yi (nrs none 0 []::H)
   ·intro w hw
    have h5:St B w0 H w:=by
     revert w
     exact zc0
    exact h5.nilSlice _ _
   apply Ur;(iterate 4 exact rfl)
   exact⟨none,0,rfl,rfl⟩
  ·rw[Td hlt,hll]
   obtain⟨z,hz⟩:∃z,W[W.length-1]? =some z:=⟨_,Ta (by omega)⟩
   have hzb:=hWs _ (Tf hz)
   have hx1:xs[((xs.length:Int)-1).toNat]? =some (z.2-at0):=by
    rw[show((xs.length:Int)-1).toNat=W.length-1 by omega,hI,TX,hz];rfl
   have hla:Je (W.map Prod.snd)=z.2:=by
    unfold Je
    rw[TC,Tu,TX,hz];rfl
   rw[hla]
   repeat'(first|refine zgc ?_|fail)
   apply X7 [0,1,2,3,4] []
   kernel_rfl
   kernel_rfl
   (simp only[Yg,nthO];rfl)
   exact rfl
   repeat'(first|refine zgd ?_|fail)
   first|apply Ya Yl1|apply Yb Yl1
   exact za
   exact rfl
   exactλ_ hw=>(hned (hi.mono zc0) hw)
   repeat'(first|(apply Yk;(repeat(first|with_reducible exact Y7|(with_reducible apply YZ;(repeat(first|with_reducible exact Yw|with_reducible apply YJ))))))|refine zga ?_|fail)
   ·show Perm H (H++[])
    exact zc27
   repeat'(first|refine zgd ?_|(refine zge ?_ ?_<;>intro _<;>try exact zo)|fail)
   apply Jg Yw
   apply VQ_m
   apply Yi (nrs A cap xs::H)
   ·exact zc0
   apply Ur;(iterate 4 exact rfl)
   exact⟨A,cap,rfl,rfl⟩
def Ycb(R:Option (Int×Int×List Int)):Int×Int×List Int×Bool:=match R with
 |none=>(0,0,[],false)
 |some b=>(b.1,b.2.1,b.2.2,true)
def Oh(x:WayM):Int×Int×List Int×Bool:=Ycb (ZL x.n.net x.s.sch x.f x.r)
theorem Yjm(hok:WO x){a:Int}{l:List Int}(h:Vb x.n.net x.s.sch x.f x.r a=some l):1<=l.length/\a<=Je l/\Je l<a+x.f.2.2.2.1:=by
 have hper:=hok.per
 have hnp:=YiR hok
 rw[Ybb]at h
 split at h
 ·cases h
 obtain rfl:=Tv h
 rw[TC]
 obtain⟨z,hz⟩:∃z,(runW x a)[(runW x a).length-1]? =some z:=⟨_,Ta (by omega)⟩
 have hzb:=Yg2 (by omega) (Tf hz)
 have hla:Je ((runW x a).map Prod.snd)=z.2:=by
  grind [Je]
 omega
structure BdM where
 k:Nat
 rel:Int
 b:Int×Int×List Int
 A:Option Addr
 cap:Nat
theorem YjU(x:WayM)(hok:WO x)(hi:x.In B w0 H)(hw:St B w0 H w):
 CX B w0 243 [x.val] w λv K=>∃A cap,v=.tuple #[.int .i64 (Oh x).1,.int .i64 (Oh x).2.1,.slice A (Oh x).2.2.1.length cap,.bool (Oh x).2.2.2]/\K=nrs A cap (Oh x).2.2.1::H:=by
 refine Yc Tryz.func243 Tryz.ntmps243 rfl rfl hw ?_
 have hper:=hok.per
 have hph:=hok.ph
 have hsl:=hok.slen
 obtain⟨R,hR⟩:∃R,ZL x.n.net x.s.sch x.f x.r=R:=⟨_,rfl⟩
 have hO:Oh x=Ycb R:=by unfold Oh;rw[hR]
 rw[hO]
 unfold ZL at hR
 rw[show x.s.sch.len=x.s.len from rfl]at hR
 obtain⟨S,hS⟩:∃S,Vb x.n.net x.s.sch x.f x.r=S:=⟨_,rfl⟩
 rw[hS]at hR
 have hrl:=λ{H':List HP}{w:World}(a:Int) (ha:0<=a/\a<=1000000) (hi:x.In B w0 H') (hw:St B w0 H' w)=>YgW x a hok ha hi hw
 unfold WayM.val
 repeat'(first|refine zgb ?_|(refine zgh ?_;intro _)|fail)
 rename_i g
 refine XT 3 1 ?_
 refine Yj (λz:BdM=>[(9,.int .i64 z.rel),(8,.slice z.A z.b.2.2.length z.cap),(7,.int .i64 z.b.2.1),(6,.int .i64 z.b.1),(1,.pointer (some ⟨g,0,none⟩))]) (λz=>nrs z.A z.cap z.b.2.2::wayB g x::H)
  (λz=>Vz S x.s.len x.f.2.2.2.1 z.k z.rel z.b=R/\x.s.len-z.rel<=z.k/\0<=z.rel/\z.rel<=2000/\0<=z.b.1/\z.b.1<=2000) (λz=>z.k) ⟨x.s.len.toNat,x.f.2.2.2.2.1,(0,0,[]),none,0⟩ ⟨hR,by show x.s.len-x.f.2.2.2.2.1<=((x.s.len.toNat:Nat):Int);omega,hph.1,by show x.f.2.2.2.2.1<=2000;omega,Ry _,by show(0:Int)<=2000;decide⟩ ?_ (λw hw=>hw) ?_
 ·exact zc1
 rintro⟨k,rel,⟨b1,b2,bl⟩,A,cap⟩ ⟨hb,hk,h0,h1,hb0,hb1⟩ K hK
 dsimp only at hb hk h0 h1 hb0 hb1⊢
 by_cases hge:x.s.len<=rel
 ·have hRe:R=some (b1,b2,bl):=by
   rw[<-hb]
   cases k with
   |zero=>rfl
   |succ k=>unfold Vz;rw[Tm hge]
  rw[hRe]
  clear hK
  repeat'(first|refine zgc ?_|(refine zge ?_ ?_<;>intro _<;>try exact zo)|fail)
  apply Yi (nrs A cap bl::H)
  ·exact zc0
  apply Ygc;(iterate 5 exact rfl)
  exact⟨A,cap,rfl,rfl⟩
 obtain⟨k,rfl⟩:∃k',k=k'+1:=⟨k-1,by omega⟩
 unfold Vz at hb
 rw[Td hge]at hb
 have hrr:=λ{H':List HP}{w:World}(hi:x.In B w0 H') (hw:St B w0 H' w)=>hrl rel (by omega) hi hw
 unfold relE at hrr
 rw[hS]at hrr
 cases hSr:S rel with
 |none=>
  rw[hSr]at hb hrr
  dsimp only at hb hrr
  rw[<-hb]
  clear hK
  repeat'(first|refine zgb ?_|(refine zge ?_ ?_<;>intro _<;>try exact zo)|fail)
  apply Yf _ YtZ
  exact za
  exact rfl
  exactλ_ hw=>(hrr (hi.mono zc0) (hw))
  rintro _ _ ⟨A2,cap2,rfl,rfl⟩
  repeat'(first|refine zgd ?_|fail)
  apply Yi (nrs none 0 []::H)
  ·intro w hw
   have h5:St B w0 H w:=by
    revert w
    exact zc0
   exact h5.nilSlice _ _
  exact zc55
 |some l=>
  rw[hSr]at hb hrr
  dsimp only at hb hrr
  have hlb:0<=Je l-rel+1/\Je l-rel+1<=513:=by
   have:=Yjm hok (a:=rel) (l:=l) (by rw[hS];exact hSr)
   omega
  obtain⟨m,hm⟩:∃m,Je l-rel+1=m:=⟨_,rfl⟩
  rw[hm]at hb hrr hlb
  repeat'(first|refine zgb ?_|(refine zge ?_ ?_<;>intro _<;>try exact zo)|fail)
  apply Yf _ YtZ
  exact za
  exact rfl
  exactλ_ hw=>(hrr (hi.mono zc0) (hw))
  rintro _ _ ⟨A2,cap2,rfl,rfl⟩
  by_cases hgt:b1<m
  ·rw[Tm hgt]at hb
   repeat'(first|refine zgd ?_|(refine zgf ?_ ?_<;>intro _<;>try exact zo)|fail)
   apply hK ⟨k,rel+x.f.2.2.2.1,(m,rel,l.map λz=>z-rel),A2,cap2⟩
   ·exact⟨hb,by exact YuM,by show 0<=rel+x.f.2.2.2.1;omega,by show rel+x.f.2.2.2.1<=2000;omega,hlb.1,by show m<=2000;omega⟩
   ·exact zc64
   ·exact zc1
   ·exact zc0
  ·rw[Td hgt]at hb
   repeat'(first|refine zgd ?_|(refine zgf ?_ ?_<;>intro _<;>try exact zo)|fail)
   apply hK ⟨k,rel+x.f.2.2.2.1,(b1,b2,bl),A,cap⟩
   ·exact⟨hb,by exact YuM,by show 0<=rel+x.f.2.2.2.1;omega,by show rel+x.f.2.2.2.1<=2000;omega,hb0,hb1⟩
   ·exact zc64
   ·exact zc1
   ·exact zc0
abbrev flws(A:Option Addr)(cap:Nat)(l:List Flw):HP:=sl 53 6 A l.length cap (l.flatMap flwF)
theorem O2(A:Option Addr)(cap:Nat)(l:List Flw)(f:Flw):sl 53 6 A (l.length+1) cap (l.flatMap flwF++#[.int .i64 f.1,.int .i64 f.2.1,.int .i64 f.2.2.1,.int .i64 f.2.2.2.1,.int .i64 f.2.2.2.2.1,.int .i64 f.2.2.2.2.2].toList)=flws A cap (l++[f]):=by simp_all [flws,flwF]
structure FlM where
 i:Nat
 A:Option Addr
 cap:Nat
def RqM.fl(q:List RqM):List Flw:=q.map (·.f)
variable {A:Option Addr}{cap B:Nat}{w0 w:World}{H:List HP}
theorem Ybo(q:List RqM)(hl:q.length<=1000000000000)(hr:Rd B w0 H A (q.flatMap rqF))(hw:St B w0 H w):
 CX B w0 98 [.slice A q.length cap] w λv K=>∃A2 cap2,v=.slice A2 (RqM.fl q).length cap2/\K=flws A2 cap2 (RqM.fl q)::H:=by
 refine Yc Tryz.func98 Tryz.ntmps98 rfl rfl hw ?_
 repeat'(first|refine zgb ?_|fail)
 refine XT 53 6 ?_
 refine Yj (λz:FlM=>[(8,.int .i64 (z.i:Nat)),(7,.int .i64 q.length),(6,.slice A q.length cap),(3,.slice z.A (RqM.fl (q.take z.i)).length z.cap)]) (λz=>flws z.A z.cap (RqM.fl (q.take z.i))::H) (λz=>z.i<=q.length) (λz=>q.length-z.i) ⟨0,none,0⟩ (Tj _) ?_ (λw hw=>hw) ?_
 ·exact zu
 rintro⟨i,A2,cap2⟩ hi K hK
 dsimp only at hi⊢
 have hlen:(RqM.fl (q.take i)).length=i:=by grind [Go.Proofs.YtambgjgljcadlaaGreatDoor.RqM.fl]
 have hr':=hr.cons (X:=flws A2 cap2 (RqM.fl (q.take i)))
 by_cases hlt:i<q.length
 ·obtain⟨x,hx⟩:∃x,q[i]? =some x:=⟨_,Ta hlt⟩
  have hst:RqM.fl (q.take (i+1))=RqM.fl (q.take i)++[x.f]:=by grind [Go.Proofs.YtambgjgljcadlaaGreatDoor.RqM.fl,TM]
  repeat'(first|(apply Ye T;exact rfl;exact zm;exact rfl;exact zv;exact rfl;exact rfl)|refine zgd ?_|(refine zge ?_ ?_<;>intro _<;>try exact zo)|(refine zgh ?_;intro _)|(refine zgi ?_;intro _ _)|fail)
  rename_i A' cap'
  rw[O2,<-hst,show(RqM.fl (q.take i)).length+1=(RqM.fl (q.take (i+1))).length from by rw[hst];simp]
  apply hK ⟨i+1,A',cap'⟩
  ·show i+1<=_
   omega
  ·dsimp only;omega
  ·exact zu
  ·exact zk
 ·obtain rfl:i=q.length:=by omega
  rw[TQ]
  repeat'(first|refine zgc ?_|(refine zge ?_ ?_<;>intro _<;>try exact zo)|fail)
  apply Yd;exact rfl;exact rfl
  exact⟨A2,cap2,rfl,rfl⟩
variable {x:RqM}
theorem Yd1{k:Nat}{r:RowM}(h:x.rows[k]? =some r):rtAt x.rq.2 k=r.xs:=by
 have h2:x.rq.2[k]? =some r.xs:=by
  show(x.rows.map (·.xs))[k]? =_
  simp_all
 grind [YfL]
theorem YaN(n:NetM)(x:RqM)(hin:n.In B w0 H)(hx:x.In B w0 H)(hw:St B w0 H w):
 CX B w0 166 [n.val,rqV x] w λv K=>v=.int .i64 (rtsE n.net x.rq)/\K=H:=by
 refine Yc Tryz.func166 Tryz.ntmps166 rfl rfl hw ?_
 have hln:x.rq.2.length=x.rows.length:=by unfold RqM.rq;rw[TC]
 have hlx:=hx.ln
 have e1:x.rq.1=x.f:=rfl
 unfold rtsE
 rw[hln,e1]
 have p1:=λ{H':List HP}{w:World}(r:RowM) (hr:r∈x.rows) (hin:n.In B w0 H') (hx:x.In B w0 H') (hw:St B w0 H' w)=>Ycm n x.f.2.1 x.f.2.2.1 r.xs (cap:=r.cap) hin (hx.rw_ r hr) (Rh (hx.rl r hr).1 (by decide)) (hx.rl r hr).2 hw
 unfold NetM.val rqV
 by_cases h0:x.rows.length=0
 ·rw[Tm h0]
  repeat'(first|refine zgb ?_|(refine zge ?_ ?_<;>intro _<;>try exact zo)|(refine zgh ?_;intro _)|fail)
  apply Yi H
  ·exact zc0
  exact zc5
 rw[Td h0]
 by_cases h2:2<x.rows.length
 ·rw[Tm h2]
  repeat'(first|refine zgb ?_|(refine zgf ?_ ?_<;>intro _<;>try exact zo)|(refine zgh ?_;intro _)|fail)
  apply Yi H
  ·exact zc0
  exact zc5
 rw[Td h2]
 obtain⟨F,hF⟩:∃F,(λk=>Zy n.net x.f.2.1 x.f.2.2.1 (rtAt x.rq.2 k))=F:=⟨_,rfl⟩
 rw[hF]
 have hFv:∀{k:Nat}{r:RowM},x.rows[k]? =some r->F k=Zy n.net x.f.2.1 x.f.2.2.1 r.xs:=λh=>by rw[<-hF];show Zy _ _ _ _=_;rw[Yd1 h]
 repeat'(first|refine zgb ?_|(refine zgf ?_ ?_<;>intro _<;>try exact zo)|(refine zgh ?_;intro _)|fail)
 rename_i gn gx _ _
 refine Yj (λk:Nat=>[(19,.int .i64 (k:Nat)),(18,.int .i64 x.rows.length),(17,.slice x.A x.rows.length x.cap),(3,.pointer (some ⟨gx,0,none⟩)),(2,.pointer (some ⟨gn,0,none⟩))]) (λ_=>rqA gx x::netA gn n::H) (λk=>k<=x.rows.length/\∀j,0<=j->j<k->F j=0) (λk=>x.rows.length-k) 0 ⟨Tj _,λj _ h=>absurd h (R9 _)⟩ ?_ (λw hw=>hw) ?_
 ·exact zc1
 rintro k ⟨hk,hz⟩ K hK
 have hrt:Rd B w0 (rqA gx x::netA gn n::H) x.A (x.rows.flatMap rowF):=hx.rt.cons.cons
 by_cases hlt:k<x.rows.length
 ·obtain⟨r,hr⟩:∃r,x.rows[k]? =some r:=⟨_,Ta hlt⟩
  have hFk:=hFv hr
  have p2:=λ{H':List HP}{w:World}(hin:n.In B w0 H') (hx:x.In B w0 H') (hw:St B w0 H' w)=>p1 r (Tf hr) hin hx hw
  rw[<-hFk]at p2
  by_cases hFz:F k=0
  ·rw[hFz]at p2
   repeat'(first|((first|apply Ya Yfe|apply Yb Yfe);exact za;exact rfl;exactλ_ hw=>(p2 (hin.mono zk) (hx.mono zk) hw))|refine zgd ?_|(refine zge ?_ ?_<;>intro _<;>try exact zo)|fail)
   apply hK (k+1)
   ·exact zc91
   ·omega
   ·exact zc1
   ·exact zc0
  ·have hfe:=Zu (f:=F) (r:=x.rows.length) (i0:=0) (i:=k) (λj h1 h2=>hz j h1 h2) (Tj _) (by omega) hFz
   rw[hfe,Tm hFz]
   clear hK
   repeat'(first|((first|apply Ya Yfe|apply Yb Yfe);exact za;exact rfl;exactλ_ hw=>(p2 (hin.mono zk) (hx.mono zk) hw))|refine zgd ?_|(refine zge ?_ ?_<;>intro _<;>try exact zo)|fail)
   apply Yi H
   ·exact zc0
   exact zc5
 ·obtain rfl:k=x.rows.length:=by omega
  have hfe:=Zv (f:=F) (r:=x.rows.length) (i0:=0) λj h1 h2=>hz j h1 (by omega)
  rw[hfe,Td (λe=>e rfl)]
  clear hK
  by_cases h3:x.rows.length=2
  rotate_left
  ·rw[Td (λe=>h3 e.1)]
   repeat'(first|(apply zg28;refine zs84 ?_)|refine zgd ?_|(refine zge ?_ ?_<;>intro _<;>try exact zo)|fail)
   apply Yi H
   ·exact zc0
   exact zc5
  obtain⟨r0,hr0⟩:∃r,x.rows[0]? =some r:=⟨_,Ta (by omega)⟩
  obtain⟨r1,hr1⟩:∃r,x.rows[1]? =some r:=⟨_,Ta (by omega)⟩
  rw[Yd1 hr0,Yd1 hr1]
  have p3:=λ{H':List HP}{w:World}(hx:x.In B w0 H') (hw:St B w0 H' w)=>Ybr r0.xs r1.xs (cap:=r0.cap) (cap2:=r1.cap) (Rh (hx.rl r0 (Tf hr0)).1 (by decide)) (Rh (hx.rl r1 (Tf hr1)).1 (by decide)) (hx.rw_ r0 (Tf hr0)) (hx.rw_ r1 (Tf hr1)) hw
  by_cases heq:r0.xs=r1.xs
  ·rw[Tm ⟨h3,heq⟩]
   rw[Ti heq]at p3
   repeat'(first|refine zgc ?_|(refine zge ?_ ?_<;>intro _<;>try exact zo)|fail)
   apply X7 [0,1,2,3,4,5,6,7,8,9,10,11,12,13,14] []
   kernel_rfl
   kernel_rfl
   (simp only[Yg,nthO];rfl)
   exact rfl
   repeat'(first|refine zgd ?_|(refine zge ?_ ?_<;>intro _<;>try exact zo)|fail)
   first|apply Ya Yfa|apply Yb Yfa
   exact za
   exact rfl
   exactλ_ hw=>(p3 (hx.mono zc0) hw)
   repeat'(first|(apply Yk;(repeat(first|with_reducible exact Y7|(with_reducible apply YZ;(repeat(first|with_reducible exact Yw|with_reducible apply YJ))))))|refine zgd ?_|fail)
   ·show Perm H (H++[])
    exact zc27
   repeat'(first|fail)
   apply Yi H
   ·exact zc0
   exact zc5
  ·rw[Td (λe=>heq e.2)]
   rw[Tn heq]at p3
   repeat'(first|refine zgc ?_|(refine zge ?_ ?_<;>intro _<;>try exact zo)|fail)
   apply X7 [0,1,2,3,4,5,6,7,8,9,10,11,12,13,14] []
   kernel_rfl
   kernel_rfl
   (simp only[Yg,nthO];rfl)
   exact rfl
   repeat'(first|refine zgd ?_|(refine zge ?_ ?_<;>intro _<;>try exact zo)|fail)
   first|apply Ya Yfa|apply Yb Yfa
   exact za
   exact rfl
   exactλ_ hw=>(p3 (hx.mono zc0) hw)
   repeat'(first|(apply Yk;(repeat(first|with_reducible exact Y7|(with_reducible apply YZ;(repeat(first|with_reducible exact Yw|with_reducible apply YJ))))))|refine zgd ?_|fail)
   ·show Perm H (H++[])
    exact zc27
   repeat'(first|fail)
   apply Yi H
   ·exact zc0
   exact zc5
theorem YpS(q:List RqM):RqM.fl q=Ys (q.map RqM.rq):=by unfold RqM.fl Ys;rw[NI];rfl
theorem YdZ{q:List RqM}{i:Nat}(h:q[i]? =some x):rqAt (q.map RqM.rq) i=x.rq:=by
 have h2:(q.map RqM.rq)[i]? =some x.rq:=by simp_all
 grind [V3]
theorem YeL(n:NetM)(q:List RqM)(hin:n.In B w0 H)(hq:QIn B w0 H A q)(hw:St B w0 H w):
 CX B w0 96 [n.val,.slice A q.length cap] w λv K=>v=.tuple #[.int .i64 (rqsE n.net (q.map RqM.rq)).1,.int .i64 (rqsE n.net (q.map RqM.rq)).2]/\K=H:=by
 refine Yc Tryz.func96 Tryz.ntmps96 rfl rfl hw ?_
 have hql:=hq.ln
 have hqr:=hq.rd
 have p1:=λ{H':List HP}{w:World}(hin:n.In B w0 H') (hw:St B w0 H' w)=>Y9 n hin hw
 have p2:=λ{H':List HP}{w:World}(hq:QIn B w0 H' A q) (hw:St B w0 H' w)=>Ybo q (cap:=cap) hql hq.rd hw
 have p3:=λ{A2:Option Addr}{cap2:Nat}{H':List HP}{w:World}(hr:Rd B w0 H' A2 ((RqM.fl q).flatMap flwF)) (hw:St B w0 H' w)=>Y0 n.nodes (RqM.fl q) (by unfold RqM.fl;rw[TC];omega) (cap:=cap2) hr hw
 unfold rqsE
 rw[<-YpS,TC]
 rw[show n.net.nodes=n.nodes from rfl]
 obtain⟨c,hc⟩:∃c,Yo n.net=c:=⟨_,rfl⟩
 obtain⟨⟨fi,fe⟩,hf⟩:∃f,Yy n.nodes (RqM.fl q)=f:=⟨_,rfl⟩
 obtain⟨F,hF⟩:∃F,(λi=>rtsE n.net (rqAt (q.map RqM.rq) i))=F:=⟨_,rfl⟩
 rw[hc]at p1⊢
 rw[hf]at p3⊢
 rw[hF]
 dsimp only at p3⊢
 have hFv:∀{k:Nat}{x:RqM},q[k]? =some x->F k=rtsE n.net x.rq:=λh=>by rw[<-hF];show rtsE _ _=_;rw[YdZ h]
 unfold NetM.val
 by_cases h0:c=0
 rotate_left
 ·rw[Tm h0]
  repeat'(first|((first|apply Ya en44|apply Yb en44);exact za;exact rfl;exactλ_ hw=>(p1 hin.cons hw))|refine zgb ?_|(refine zge ?_ ?_<;>intro _<;>try exact zo)|(refine zgh ?_;intro _)|fail)
  apply Yi H
  ·exact zc0
  exact zc10
 subst h0
 rw[Td (λe=>e rfl)]
 by_cases h1:fe=0
 rotate_left
 ·rw[Tm h1]
  repeat'(first|((first|apply Ya en44|apply Yb en44);exact za;exact rfl;exactλ_ hw=>(p1 hin.cons hw))|refine zgb ?_|(refine zge ?_ ?_<;>intro _<;>try exact zo)|(refine zgh ?_;intro _)|fail)
  apply YK [0,1,2,3,4,5,6,7,8,9] [] [true]
  kernel_rfl
  kernel_rfl
  exact zy
  (simp only[Yg,nthO];rfl)
  exact rfl
  repeat'(first|refine zgd ?_|fail)
  apply Yf _ en98
  exact za
  exact rfl
  exactλ_ hw=>(p2 (hq.mono zc0) (hw))
  rintro _ _ ⟨A2,cap2,rfl,rfl⟩
  repeat'(first|(apply Yk;(repeat(first|with_reducible exact Y7|(with_reducible apply YZ;(repeat(first|with_reducible exact Yw|with_reducible apply YJ))))))|refine zgd ?_|fail)
  first|apply Ya en74|apply Yb en74
  exact za
  exact rfl
  exactλ_ hw=>(p3 (Rd.sl (by(focus exact zc2))) hw)
  repeat'(first|(apply Yk;(repeat(first|with_reducible exact Y7|(with_reducible apply YZ;(repeat(first|with_reducible exact Yw|with_reducible apply YJ))))))|refine zgd ?_|(refine zge ?_ ?_<;>intro _<;>try exact zo)|fail)
  apply Yi H
  ·exact zc0
  exact zc10
 subst h1
 rw[Td (λe=>e rfl)]
 repeat'(first|((first|apply Ya en44|apply Yb en44);exact za;exact rfl;exactλ_ hw=>(p1 hin.cons hw))|refine zgb ?_|(refine zge ?_ ?_<;>intro _<;>try exact zo)|(refine zgh ?_;intro _)|fail)
 first|(rename_i gn;guard_hyp gn:Nat)|(rename_i gn _;guard_hyp gn:Nat)|(rename_i gn _ _;guard_hyp gn:Nat)
 apply YK [0,1,2,3,4,5,6,7,8,9] [] [true]
 kernel_rfl
 kernel_rfl
 exact zy
 (simp only[Yg,nthO];rfl)
 exact rfl
 repeat'(first|refine zgd ?_|fail)
 apply Yf _ en98
 exact za
 exact rfl
 exactλ_ hw=>(p2 (hq.mono zc0) (hw))
 rintro _ _ ⟨A2,cap2,rfl,rfl⟩
 repeat'(first|(apply Yk;(repeat(first|with_reducible exact Y7|(with_reducible apply YZ;(repeat(first|with_reducible exact Yw|with_reducible apply YJ))))))|refine zgd ?_|fail)
 first|apply Ya en74|apply Yb en74
 exact za
 exact rfl
 exactλ_ hw=>(p3 (Rd.sl (by(focus exact zc2))) hw)
 repeat'(first|(apply Yk;(repeat(first|with_reducible exact Y7|(with_reducible apply YZ;(repeat(first|with_reducible exact Yw|with_reducible apply YJ))))))|refine zgd ?_|(refine zge ?_ ?_<;>intro _<;>try exact zo)|fail)
 refine Yj (λk:Nat=>[(28,.int .i64 (k:Nat)),(27,.int .i64 q.length),(26,.slice A q.length cap),(2,.pointer (some ⟨gn,0,none⟩))]) (λ_=>netA gn n::H) (λk=>k<=q.length/\∀j,0<=j->j<k->F j=0) (λk=>q.length-k) 0 ⟨Tj _,λj _ h=>absurd h (R9 _)⟩ ?_ ?_ ?_
 ·exact zc1
 ·exact zc0
 rintro k ⟨hk,hz⟩ K hK
 have hqr':Rd B w0 (netA gn n::H) A (q.flatMap rqF):=hqr.cons
 by_cases hlt:k<q.length
 ·obtain⟨x,hx⟩:∃x,q[k]? =some x:=⟨_,Ta hlt⟩
  have hFk:=hFv hx
  have hxi:=hq.x x (Tf hx)
  have p4:=λ{H':List HP}{w:World}(hin:n.In B w0 H') (hx:x.In B w0 H') (hw:St B w0 H' w)=>YaN n x hin hx hw
  rw[<-hFk]at p4
  by_cases hFz:F k=0
  ·rw[hFz]at p4
   repeat'(first|((first|apply Ya YlN|apply Yb YlN);exact za;exact rfl;exactλ_ hw=>(p4 (hin.mono zk) (hxi.mono zk) hw))|refine zgd ?_|(refine zge ?_ ?_<;>intro _<;>try exact zo)|(refine zgh ?_;intro _)|fail)
   apply hK (k+1)
   ·exact zc91
   ·omega
   ·exact zc1
   ·exact zc0
  ·have hfe:=Zu (f:=F) (r:=q.length) (i0:=0) (i:=k) (λj h1 h2=>hz j h1 h2) (Tj _) (by omega) hFz
   rw[hfe]
   clear hK
   repeat'(first|((first|apply Ya YlN|apply Yb YlN);exact za;exact rfl;exactλ_ hw=>(p4 (hin.mono zk) (hxi.mono zk) hw))|refine zgd ?_|(refine zge ?_ ?_<;>intro _<;>try exact zo)|(refine zgh ?_;intro _)|fail)
   apply Yi H
   ·exact zc0
   exact zc10
 ·obtain rfl:k=q.length:=by omega
  have hfe:=Zv (f:=F) (r:=q.length) (i0:=0) λj h1 h2=>hz j h1 (by omega)
  rw[hfe]
  clear hK
  repeat'(first|refine zgc ?_|(refine zge ?_ ?_<;>intro _<;>try exact zo)|fail)
  apply Yi H
  ·exact zc0
  exact zc10
variable {s:Sch}{slot:Int}{j n:Nat}
theorem YnI(h:(Yn s j).1=slot)(hj:j<n):∃R,inI s slot n=inI s slot j++j::R/\∀x∈R,j<x:=by
 obtain⟨m,rfl⟩:∃m,n=j+(m+1):=⟨n-j-1,by omega⟩
 have e:inI s slot (j+(m+1))=inI s slot j++((List.range (m+1)).map (j+·)).filter λi=>decide ((Yn s i).1=slot):=by
  grind [inI,List.range_add]
 rw[e,SY,Ru,SA,Tm (by simp_all)]
 simp_all
theorem Yp0{k:Nat}(h:(inI s slot n)[k]? =some j):(inI s slot n).take k=inI s slot j:=by
 have hm:=O4.1 (Tf h)
 obtain⟨R,hR,hRx⟩:=YnI hm.2 hm.1
 rw[hR]at h⊢
 have hk:k=(inI s slot j).length:=by
  rcases SI k (inI s slot j).length with h1|h1|h1
  ·rw[Sr h1]at h
   have:=(O4.1 (Tf h)).1
   omega
  ·exact h1
  ·rw[RB (by omega)]at h
   obtain⟨q,hq⟩:∃q,k-(inI s slot j).length=q+1:=⟨k-(inI s slot j).length-1,by omega⟩
   rw[hq,SV]at h
   have:=hRx j (Tf h)
   omega
 simp_all
theorem Ygv{α:Type}{p:α->Bool}{l:List α}{i:Nat}{x:α}(h:l[i]? =some x):(l.take (i+1)).filter p=(l.take i).filter p++if p x=true then [x]else []:=zc95
def OK(s:Sch)(c:Cel)(l:List Nat):List Cel:=(l.filter λj=>decide ((Yn s j).2.1=c.2.1)).map (Yn s)
theorem Ya6{s:Sch}{c:Cel}:∀{m:Nat},m<=s.cells.length->OK s c (inI s c.1 m)=(s.cells.take m).filter (XM c)
 |0,_=>by simp[OK,inI]
 |m+1,h=>by
  have ih:=Ya6 (s:=s) (c:=c) (m:=m) (by omega)
  have hg:=Xc (s:=s) (i:=m) (by omega)
  rw[Ygv hg,<-ih]
  have hp:XM c (Yn s m)=true↔(Yn s m).1=c.1/\(Yn s m).2.1=c.2.1:=by simp_all [XM]
  by_cases h1:(Yn s m).1=c.1
  ·rw[Ymd h1]
   unfold OK
   grind
  simp_all [YpZ]
theorem Yi4(s:Sch)(c:Cel)(l:List Nat)(j:Nat):OK s c (l++[j])=OK s c l++if(Yn s j).2.1=c.2.1 then [Yn s j]else []:=by
 unfold OK
 grind
structure DsM where
 A:Option Addr
 cap:Nat
 M:List Cel
 a:Int
theorem Yc2(n:NetM)(s:SchM)(i:Nat)(hck:Yo n.net=0)(hgood:∀c∈s.cells,YG n.net (YC c) (toC c)=true)(hi:i<s.cells.length)(hl:s.cells.length<=1000){B:Nat}{w0:World}{H:List HP}{w:World}(hin:n.In B w0 H)(hr:Rd B w0 H s.A (s.cells.flatMap celF))(hw:St B w0 H w):
 CX B w0 171 [n.val,s.val,.int .i64 i] w λv K=>v=.bool (Jc n.net s.sch i)/\K=H:=by
 refine ZU Tryz.func171 Tryz.ntmps171 rfl rfl hw ?_
 have hget:s.cells[i]? =some (Yn s.sch i):=Xc (s:=s.sch) hi
 obtain⟨c,hc⟩:∃c,Yn s.sch i=c:=⟨_,rfl⟩
 rw[hc]at hget
 have hrm:Rd B w0 [many H] s.A (s.cells.flatMap celF):=hr.tail
 clear hr
 refine Xf [many H] (λw hw=>hw.perm (.closeT H)) ?_
 refine zX74 ?_<;>intros
 rename_i gn gs gi g7 g8
 apply YK [0,1,2,3,4,5,6] [7] [false,false,true,true,false,true]
 kernel_rfl
 kernel_rfl
 exact zy
 (simp only[Yg,nthO];rfl)
 (simp only[Yg,nthO];rfl)
 refine zX2 ?_
 apply Yf _ YtK
 exact za
 exact rfl
 exactλ_ hw=>(Yiy s c.1 (hw))
 rintro _ _ ⟨g1,g2,rfl,rfl⟩
 refine zX2 ?_
 obtain⟨L,hL⟩:∃L,inI s.sch c.1 s.cells.length=L:=⟨_,rfl⟩
 have hiL:i∈L:=by
  rw[<-hL]
  exact O4.2 ⟨hi,by rw[hc]⟩
 have hr7:Rd B w0 (intB g2 c.1::schB g1 s::blk gi (.cells #[.int .i64 i] 3 (0,0))::schB gs s::netN gn n::[many H]) s.A (s.cells.flatMap celF):=hrm.cons.cons.cons.cons.cons
 rw[show(Value.slice none 0 0).cells=#[Value.slice none 0 0] from rfl]
 refine XT 117 5 ?_
 refine ZW (gf:=246) (lb:=[.pointer (some ⟨g1,0,none⟩),.pointer (some ⟨g2,0,none⟩)]) (xs:=inXs s.sch c.1) (intB g2 c.1::schB g1 s::blk gi (.cells #[.int .i64 i] 3 (0,0))::schB gs s::netN gn n::[many H]) (λx:DsM=>[blk g7 (.cells #[.slice x.A x.M.length x.cap] 28 (0,0)),cels x.A x.cap x.M,blk g8 (.cells #[.int .i64 x.a] 3 (0,0))])
  (λk x=>x.M=OK s.sch c (L.take k)/\x.a=if i∈L.take k then(YO s.sch i:Int)else 0) (λ_ _=>False) ⟨none,0,[],0⟩ rfl YtP (Yix s c.1 g1 g2 hr7 (by omega) (.tail _ (.head _)) (.head _)) rfl ?_ (by kernel_rfl) (by kernel_rfl) ?_ ⟨by simp[OK],by simp⟩ ?_ ?_ (λ_ _ _ h=>h.elim)
 ·intro args h
  obtain⟨k,hk⟩:=TO.1 h
  obtain⟨i,_,_,rfl⟩:=Yag hk
  rfl
 ·unfold schB intB cels netN
  simp only[TF,TP,Rq,SB]
  exact zc0
 ·rintro l k args R ⟨A,cap,M,a⟩ hk ⟨hM,ha⟩
  obtain⟨j,hj,hlt,rfl⟩:=Yag hk
  have hlt2:j<s.cells.length:=hlt
  have hj:L[k]? =some j:=by rw[<-hL];exact hj
  dsimp only at hM ha⊢
  dsimp only[WF,List.cons_append,List.nil_append]
  have hgj:s.cells[j]? =some (Yn s.sch j):=Xc (s:=s.sch) hlt
  have htj:L.take k=inI s.sch c.1 j:=by
   rw[<-hL]at hj⊢
   exact Yp0 hj
  have htk:L.take (k+1)=L.take k++[j]:=by rw[TM,hj,RY]
  have hMf:M=(s.cells.take j).filter (XM c):=by
   rw[hM,htj]
   exact Ya6 (s:=s.sch) (by show j<=s.cells.length;omega)
  have hMl:M.length<=s.cells.length:=by
   rw[hMf]
   have h1:=RZ (XM c) (s.cells.take j)
   rw[TA]at h1
   omega
  have hps:=Yi4 s.sch c (L.take k) j
  rw[<-htk,<-hM]at hps
  obtain⟨d,hd⟩:∃d,Yn s.sch j=d:=⟨_,rfl⟩
  rw[hd]at hgj hps
  refine zX4 ?_
  apply VW Yw
  intro R'
  unfold intB schB netN cels
  clear hr7
  by_cases hoff:d.2.1=c.2.1
  rotate_left
  ·have hij:i≠j:=by
    rintro rfl
    rw[hc]at hd
    subst hd
    exact hoff rfl
   refine zX0 ?_<;>intros
   all_goals(
    apply Wn ⟨A,cap,M,a⟩
    ·refine⟨?_,?_⟩
     ·show M=_
      rw[hps,Td hoff,Rx]
     ·show a=_
      rw[ha,htk]
      simp[hij]
    ·dsimp only[List.cons_append,List.nil_append]
     exact zc0)
  by_cases hji:j=i
  ·obtain rfl:=hji
   obtain rfl:d=c:=hd.symm.trans hc
   have hsa:(M.length:Int)=(YO s.sch j:Int):=by
    rw[hMf]
    unfold YO
    rw[hc]
    rfl
   refine zX0 ?_<;>intros
   apply Ycq [0,1,2,3,4,5,6] [7,8] [false,true,false,false,false,false,false,true,false,true]
   kernel_rfl
   kernel_rfl
   exact zy
   (simp only[Yg,nthO];rfl)
   (simp only[Yg,nthO];rfl)
   refine zX77 ?_<;>intros
   rename_i A9 cap9
   apply Wn ⟨A9,cap9,M++[d],(M.length:Int)⟩
   ·refine⟨?_,?_⟩
    ·show M++[d]=_
     rw[hps,Tm hoff]
    ·show(M.length:Int)=_
     rw[htk,Tm (by simp),hsa]
   ·dsimp only[List.cons_append,List.nil_append]
    intro w hw
    rw[Wr,YiF M d]at hw
    unfold cels at hw
    revert w
    exact zc0
  ·have hji2:i≠j:=λe=>hji e.symm
   refine zX0 ?_<;>intros
   apply Ycq [0,1,2,3,4,5,6] [7,8] [false,true,false,false,false,false,false,true,false,true]
   kernel_rfl
   kernel_rfl
   exact zy
   (simp only[Yg,nthO];rfl)
   (simp only[Yg,nthO];rfl)
   refine zX77 ?_<;>intros
   rename_i A9 cap9
   apply Wn ⟨A9,cap9,M++[d],a⟩
   ·refine⟨?_,?_⟩
    ·show M++[d]=_
     rw[hps,Tm hoff]
    ·show a=_
     rw[ha,htk]
     simp[hji2]
   ·dsimp only[List.cons_append,List.nil_append]
    intro w hw
    rw[Wr,YiF M d]at hw
    unfold cels at hw
    revert w
    exact zc0
 ·rintro D ⟨A,cap,M,a⟩ ⟨hM,ha⟩
  have hLl:(inXs s.sch c.1).length=L.length:=by rw[inXs,TC];exact TE List.length hL
  dsimp only at hM ha⊢
  rw[hLl,TQ]at hM ha
  rw[Tm hiL]at ha
  subst ha
  have hMS:M=YL s.sch i:=by
   rw[hM,<-hL]
   have h1:=Ya6 (s:=s.sch) (c:=c) (TK _)
   rw[TQ]at h1
   rw[show s.cells.length=s.sch.cells.length from rfl,h1]
   unfold YL
   rw[hc]
  have hMl:M.length<=1000:=by
   rw[hMS]
   have h1:=RZ (XM (Yn s.sch i)) s.sch.cells
   exact Rh h1 hl
  have hgM:M[((YO s.sch i:Nat):Int).toNat]? =some c:=by rw[hMS,RS,Yd7 (s:=s.sch) hi,hc]
  have hal:YO s.sch i<M.length:=(Tc.1 hgM).1
  have hok:=YN hck
  have hcm:c∈s.cells:=Tf hget
  have hgd:=hgood c hcm
  obtain⟨⟨f0,f1⟩,⟨t0,t1⟩,_,k1,k2⟩:(0<=c.2.2.1/\c.2.2.1<n.net.nodes)/\(0<=c.2.2.2.1/\c.2.2.2.1<n.net.nodes)/\c.2.2.1≠c.2.2.2.1/\0<=YA n.net c.2.2.1 c.2.2.2.1/\0<=YA n.net c.2.2.2.1 c.2.2.1:=Xy hok hgd
  have hno:M.any (UL n.net)=false:=by
   rw[RN]
   intro x hx
   have hxm:x∈s.cells:=by
    rw[hMS]at hx
    exact(Ro.1 hx).1
   obtain⟨h1,h2,_⟩:=Xy hok (hgood x hxm)
   unfold UL
   rw[show insE (YC x) n.net.nodes=true from Ti h1,show insE (toC x) n.net.nodes=true from Ti h2]
   simp
  have hinm:n.In B w0 [many H]:=⟨hin.pw.tail,λr hr=>(hin.rw_ r hr).tail,hin.lk.tail,hin.mg.tail,hin.s1,hin.s2,hin.s3,hin.s4⟩
  have hmg:=hinm.mg
  have hs4:=hin.s4
  have hml:n.margin.length=n.net.links.length:=hok.k1
  have x1:=ZG k1
  have x2:=ZG k2
  have hix:∀u v:Int,Zd n.net u v=YA n.net u v:=λu v=>by unfold Zd;rw[Td (by omega)]
  have p1:=λ{H':List HP}{w:World}(hin:n.In B w0 H') (hw:St B w0 H' w)=>Zl n c.2.2.1 c.2.2.2.1 hin hw
  have p2:=λ{H':List HP}{w:World}(hin:n.In B w0 H') (hw:St B w0 H' w)=>Zl n c.2.2.2.1 c.2.2.1 hin hw
  rw[hix]at p1 p2
  obtain⟨i1,hi1⟩:∃z,YA n.net c.2.2.1 c.2.2.2.1=z:=⟨_,rfl⟩
  obtain⟨i2,hi2⟩:∃z,YA n.net c.2.2.2.1 c.2.2.1=z:=⟨_,rfl⟩
  rw[hi1]at p1 k1 x1
  rw[hi2]at p2 k2 x2
  have hm1:n.margin[i1.toNat]? =some (mar n.net i1.toNat):=zc38
  have hm2:n.margin[i2.toNat]? =some (mar n.net i2.toNat):=zc38
  have q1:=λ{H':List HP}{w:World}(hin:n.In B w0 H') (hr:Rd B w0 H' A (M.flatMap celF)) (hw:St B w0 H' w)=>U3 n M (YO s.sch i) c.2.2.2.1 hck ⟨t0,t1⟩ hal hMl hno (cap:=cap) hin hr hw
  have q2:=λ{H':List HP}{w:World}(hin:n.In B w0 H') (hr:Rd B w0 H' A (M.flatMap celF)) (hw:St B w0 H' w)=>U3 n M (YO s.sch i) c.2.2.1 hck ⟨f0,f1⟩ hal hMl hno (cap:=cap) hin hr hw
  have r1:=λ{H':List HP}{w:World}(hin:n.In B w0 H') (hw:St B w0 H' w)=>Qx n (mar n.net i1.toNat) (U0 n.net M (YO s.sch i) c.2.2.2.1) hin hw
  have r2:=λ{H':List HP}{w:World}(hin:n.In B w0 H') (hw:St B w0 H' w)=>Qx n (mar n.net i2.toNat) (U0 n.net M (YO s.sch i) c.2.2.1) hin hw
  have hres:Jc n.net s.sch i=(!(Zk n.net (mar n.net i1.toNat) (U0 n.net M (YO s.sch i) c.2.2.2.1))||!(Zk n.net (mar n.net i2.toNat) (U0 n.net M (YO s.sch i) c.2.2.1))):=by
   unfold Jc
   rw[hc,<-hMS]
   unfold YC toC
   rw[hi1,hi2]
  obtain⟨b1,hb1⟩:∃b,Zk n.net (mar n.net i1.toNat) (U0 n.net M (YO s.sch i) c.2.2.2.1)=b:=⟨_,rfl⟩
  obtain⟨b2,hb2⟩:∃b,Zk n.net (mar n.net i2.toNat) (U0 n.net M (YO s.sch i) c.2.2.1)=b:=⟨_,rfl⟩
  rw[hb1]at r1 hres
  rw[hb2]at r2 hres
  rw[hres]
  dsimp only[List.cons_append,List.nil_append]
  unfold cels intB schB netN
  cases b1 with
  |false=>
   refine zX78 ?_<;>intros
   first|apply Ya en45|apply Yb en45
   exact za
   exact rfl
   exactλ_ hw=>(p1 zc20 hw)
   refine zX7 ?_
   first|apply Ya en45|apply Yb en45
   exact za
   exact rfl
   exactλ_ hw=>(p2 zc20 hw)
   refine zX79 ?_
   first|apply Ya Qm|apply Yb Qm
   exact za
   exact rfl
   exactλ_ hw=>(q1 zc20 (Rd.sl (by(focus exact zc2))) hw)
   repeat'(first|fail)
   first|apply Ya WV|apply Yb WV
   exact za
   exact rfl
   exactλ_ hw=>(r1 zc20 hw)
   refine zX2 ?_
   apply Jg
   ·exact zc67
   apply VQ_m
   apply Yi H
   ·intro w hw
    have h5:St B w0 [many H] w:=by
     revert w
     exact zc0
    exact h5.perm (.openT H)
   exact zc5
  |true=>
   cases b2 with
   |false=>
    refine zX78 ?_<;>intros
    first|apply Ya en45|apply Yb en45
    exact za
    exact rfl
    exactλ_ hw=>(p1 zc20 hw)
    refine zX7 ?_
    first|apply Ya en45|apply Yb en45
    exact za
    exact rfl
    exactλ_ hw=>(p2 zc20 hw)
    refine zX79 ?_
    first|apply Ya Qm|apply Yb Qm
    exact za
    exact rfl
    exactλ_ hw=>(q1 zc20 (Rd.sl (by(focus exact zc2))) hw)
    repeat'(first|fail)
    first|apply Ya WV|apply Yb WV
    exact za
    exact rfl
    exactλ_ hw=>(r1 zc20 hw)
    refine zX2 ?_
    first|apply Ya Qm|apply Yb Qm
    exact za
    exact rfl
    exactλ_ hw=>(q2 zc20 (Rd.sl (by(focus exact zc2))) hw)
    refine zX9 ?_
    first|apply Ya WV|apply Yb WV
    exact za
    exact rfl
    exactλ_ hw=>(r2 zc20 hw)
    refine zX2 ?_
    apply Jg
    ·exact zc67
    apply VQ_m
    apply Yi H
    ·intro w hw
     have h5:St B w0 [many H] w:=by
      revert w
      exact zc0
     exact h5.perm (.openT H)
    exact zc5
   |true=>
    refine zX78 ?_<;>intros
    first|apply Ya en45|apply Yb en45
    exact za
    exact rfl
    exactλ_ hw=>(p1 zc20 hw)
    refine zX7 ?_
    first|apply Ya en45|apply Yb en45
    exact za
    exact rfl
    exactλ_ hw=>(p2 zc20 hw)
    refine zX79 ?_
    first|apply Ya Qm|apply Yb Qm
    exact za
    exact rfl
    exactλ_ hw=>(q1 zc20 (Rd.sl (by(focus exact zc2))) hw)
    repeat'(first|fail)
    first|apply Ya WV|apply Yb WV
    exact za
    exact rfl
    exactλ_ hw=>(r1 zc20 hw)
    refine zX2 ?_
    first|apply Ya Qm|apply Yb Qm
    exact za
    exact rfl
    exactλ_ hw=>(q2 zc20 (Rd.sl (by(focus exact zc2))) hw)
    refine zX9 ?_
    first|apply Ya WV|apply Yb WV
    exact za
    exact rfl
    exactλ_ hw=>(r2 zc20 hw)
    refine zX2 ?_
    apply Jg
    ·exact zc67
    apply VQ_m
    apply Yi H
    ·intro w hw
     have h5:St B w0 [many H] w:=by
      revert w
      exact zc0
     exact h5.perm (.openT H)
    exact zc5
theorem YkY(x:WayM){B:Nat}{w0:World}{H:List HP}{w:World}(ht:TabsB B w0)(hi:x.In B w0 H)(hw:St B w0 H w):
 CX B w0 172 [x.n.val,x.s.val,flwV x.f,.slice x.A x.r.length x.cap] w λv K=>∃A cap,v=.tuple #[.int .i64 (YT x.n.net x.s.sch x.f x.r).1.1,.int .i64 (YT x.n.net x.s.sch x.f x.r).1.2.1,.slice A (YT x.n.net x.s.sch x.f x.r).1.2.2.length cap,.int .i64 (YT x.n.net x.s.sch x.f x.r).2]/\K=nrs A cap (YT x.n.net x.s.sch x.f x.r).1.2.2::H:=by
 refine Yc Tryz.func172 Tryz.ntmps172 rfl rfl hw ?_
 have p1:=λ{H':List HP}{w:World}(hi:x.In B w0 H') (hw:St B w0 H' w)=>Yjx x ht hi hw
 obtain⟨R,hR⟩:∃R,YT x.n.net x.s.sch x.f x.r=R:=⟨_,rfl⟩
 rw[hR]
 unfold YT at hR
 obtain⟨e,he⟩:∃e,wayE x.n.net x.s.sch x.f x.r=e:=⟨_,rfl⟩
 rw[he]at p1 hR
 unfold NetM.val SchM.val flwV
 by_cases h0:e=0
 rotate_left
 ·rw[Tm h0]at hR
  subst hR
  refine zX66 ?_<;>intros
  apply Yi (nrs none 0 []::H)
  ·intro w hw
   have h5:St B w0 H w:=by
    revert w
    exact zc0
   exact h5.nilSlice _ _
  exact zc55
 subst h0
 rw[Td (λh=>h rfl)]at hR
 have hok:=Yhh he
 have p2:=λ{H':List HP}{w:World}(hi:x.In B w0 H') (hw:St B w0 H' w)=>YjU x hok hi hw
 unfold Oh at p2
 cases hb:ZL x.n.net x.s.sch x.f x.r with
 |none=>
  rw[hb]at hR p2
  dsimp only[Ycb]at hR p2
  subst hR
  refine zX66 ?_<;>intros
  apply Yf _ YtO
  exact za
  exact rfl
  exactλ_ hw=>(p2 (hi.mono zc0) (hw))
  rintro _ _ ⟨A2,cap2,rfl,rfl⟩
  refine zX2 ?_
  apply Yi (nrs none 0 []::H)
  ·intro w hw
   have h5:St B w0 H w:=by
    revert w
    exact zc0
   exact h5.nilSlice _ _
  exact zc55
 |some b=>
  rw[hb]at hR p2
  dsimp only[Ycb]at hR p2
  subst hR
  refine zX66 ?_<;>intros
  apply Yf _ YtO
  exact za
  exact rfl
  exactλ_ hw=>(p2 (hi.mono zc0) (hw))
  rintro _ _ ⟨A2,cap2,rfl,rfl⟩
  refine zX2 ?_
  apply Yi (nrs A2 cap2 b.2.2::H)
  ·exact zc0
  apply Ygc;(iterate 5 exact rfl)
  exact⟨A2,cap2,rfl,rfl⟩
variable {A:Option Addr}{cap B:Nat}{w0 w:World}{H:List HP}
theorem Vv(l:List Int)(hlen:l.length<=1000)(hr:Rd B w0 H A (l.flatMap numF))(hw:St B w0 H w):
 CX B w0 153 [.slice A l.length cap] w λv K=>∃A' cap',v=.slice A' l.length cap'/\K=sl 3 1 A' l.length cap' (l.flatMap numF)::H:=by
 cases A with
 |none=>
  have hl:l=[]:=by
   cases l with
   |nil=>rfl
   |cons x l=>
    exact zc31
  subst hl
  refine Yc Tryz.func153 Tryz.ntmps153 rfl rfl hw ?_
  exact zc18
 |some a=>
  refine Yc Tryz.func153 Tryz.ntmps153 rfl rfl hw ?_
  exact zc12
theorem WQ(l:List Int)(hlen:l.length<=1000)(hr:Rd B w0 H A (l.flatMap numF))(hw:St B w0 H w):
 CX B w0 150 [.slice A l.length cap] w λv K=>∃A' cap',v=.slice A' l.length cap'/\K=sl 3 1 A' l.length cap' (l.flatMap numF)::H:=by
 cases A with
 |none=>
  have hl:l=[]:=by
   cases l with
   |nil=>rfl
   |cons x l=>
    exact zc31
  subst hl
  refine Yc Tryz.func150 Tryz.ntmps150 rfl rfl hw ?_
  exact zc18
 |some a=>
  refine Yc Tryz.func150 Tryz.ntmps150 rfl rfl hw ?_
  exact zc12
theorem Yb3(l:List RowM)(hlen:l.length<=1000)(hr:Rd B w0 H A (l.flatMap rowF))(hw:St B w0 H w):
 CX B w0 151 [.slice A l.length cap] w λv K=>∃A' cap',v=.slice A' l.length cap'/\K=sl 24 1 A' l.length cap' (l.flatMap rowF)::H:=by
 cases A with
 |none=>
  have hl:l=[]:=by
   cases l with
   |nil=>rfl
   |cons x l=>
    exact zc31
  subst hl
  refine Yc Tryz.func151 Tryz.ntmps151 rfl rfl hw ?_
  refine zX6 ?_
  apply Xk 24 1;exact zc33
 |some a=>
  refine Yc Tryz.func151 Tryz.ntmps151 rfl rfl hw ?_
  repeat'(first|(apply Zt;(iterate 3 exact rfl))|(apply XH T;exact rfl;exact rfl;intro g2)|refine zga ?_|fail)
  apply Xs T (f:=rowF) (l2:=l) (e:=24) (size:=1) (xs:=[]);(iterate 3 exact rfl);exact hr.cons;exact(λ_=>rfl);exact(λ_=>rfl);exact rfl;(intro _ _;exact zd);omega;intro A' cap'
  exact zc23
abbrev clA(g:Nat)(c:ClM):HP:=blk g (.cells #[.int .i64 c.flow,.slice c.rA c.rs.length c.rcap,.slice c.bA c.bs.length c.bcap,.slice c.wA c.ws.length c.wcap,.slice c.sA c.ss.length c.scap] 191 (0,0))
theorem Yjb(e:Nat)(A:Option Addr)(cap:Nat)(l:List RowM)(r:RowM):sl e 1 A (l.length+1) cap (l.flatMap rowF++#[Value.slice r.A r.xs.length r.cap].toList)=sl e 1 A (l++[r]).length cap ((l++[r]).flatMap rowF):=by grind [rowF]
theorem O7(f:RowM->HP)(l:List RowM)(r:RowM)(H:List HP):Perm (f r::many (l.map f)::H) (many ((l++[r]).map f)::H):=by
 have:=Perm.push (f r) (l.map f) [] H
 simp_all
theorem YhR{S:Int->Option (List Int)}{len per:Int}{N:Nat}(hS:∀a l,S a=some l->l.length<=N):∀{k:Nat}{rel:Int}{b0 b:Int×Int×List Int},b0.2.2.length<=N->Vz S len per k rel b0=some b->b.2.2.length<=N
 |0,rel,b0,b,h0,h=>by
  grind [Vz]
 |k+1,rel,b0,b,h0,h=>by
  unfold Vz at h
  split at h
  ·simp_all
  cases hs:S rel with
  |none=>simp_all
  |some l=>
   rw[hs]at h
   refine YhR hS ?_ h
   grind
theorem Yna{x:WayM}(hok:WO x){b:Int×Int×List Int}(h:ZL x.n.net x.s.sch x.f x.r=some b):b.2.2.length<=72:=by
 have hl:=hok.len
 refine YhR (λa l hs=>?_) (Tj _) h
 rw[Ybb]at hs
 split at hs
 ·cases hs
 have h1:(runW x a).length<=Xv (Yr x.n.net x.r):=YaA _ _ _ _ _
 have h2:=Ycg hok (Yr x.n.net x.r).length
 grind [Wz]
structure M8(xs:List Int) where
 A1:Option Addr
 c1:Nat
 r:RowM
 hr:r.xs=xs
 A3:Option Addr
 c3:Nat
structure CkM where
 i:Nat
 c:ClM
def ClM.lens(c:ClM):Prop:=(c.rs.length<=1000/\c.bs.length<=1000/\c.ws.length<=1000/\c.ss.length<=1000)/\(∀r∈c.rs,r.xs.length<=1000)/\∀r∈c.ss,r.xs.length<=1000
theorem Yj0(n:NetM)(s:SchM)(x:RqM)(ht:TabsB B w0)(hin:n.In B w0 H)(hrs:Rd B w0 H s.A (s.cells.flatMap celF))(hsl:s.cells.length<=1000000000000)(hx:x.In B w0 H)(hr9:x.rows.length<=9)(hw:St B w0 H w):
 CX B w0 99 [n.val,s.val,rqV x] w λv K=>∃c:ClM,v=.tuple #[clV c,.bool (!(Jq n.net s.sch x.rq))]/\(Jq n.net s.sch x.rq=false->c.clm=clmE n.net s.sch x.rq/\c.lens)/\K=clQ c::H:=by
 refine Yc Tryz.func99 Tryz.ntmps99 rfl rfl hw ?_
 have e1:x.rq.1=x.f:=rfl
 have p1:=λ{H':List HP}{w:World}(r:RowM) (hr:r∈x.rows) (hin:n.In B w0 H') (hrs:Rd B w0 H' s.A (s.cells.flatMap celF)) (hx:x.In B w0 H') (hw:St B w0 H' w)=>YkY ⟨n,s,x.f,r.A,r.cap,r.xs⟩ ht ⟨hin,hrs,hx.rw_ r hr,hsl,(hx.rl r hr).1,(hx.rl r hr).2⟩ hw
 unfold NetM.val SchM.val rqV
 refine zX23 ?_<;>intros
 rename_i g3 g4 g5 g6 g8
 have hln:x.rq.2=x.rows.map (·.xs):=rfl
 obtain⟨P,hP⟩:∃P,badR n.net s.sch x.f=P:=⟨_,rfl⟩
 have hla:Jq n.net s.sch x.rq=(x.rows.map (·.xs)).any P:=by unfold Jq;rw[hln,e1,hP]
 rw[hla]
 refine Yj (λz:CkM=>[(22,.int .i64 (z.i:Nat)),(21,.int .i64 x.rows.length),(20,.slice x.A x.rows.length x.cap),(8,.pointer (some ⟨g8,0,none⟩)),(6,.pointer (some ⟨g6,0,none⟩)),(5,.pointer (some ⟨g5,0,none⟩)),(4,.pointer (some ⟨g4,0,none⟩)),(3,.pointer (some ⟨g3,0,none⟩))]) (λz=>clA g8 z.c::clQ z.c::clA g6 (nilC 0)::rqA g5 x::schA g4 s::netA g3 n::H)
  (λz=>z.i<=x.rows.length/\z.c.clm=Yh2 n.net s.sch x.rq ((x.rows.take z.i).map (·.xs))/\z.c.lens/\((x.rows.take z.i).map (·.xs)).any P=false) (λz=>x.rows.length-z.i) ⟨0,nilC x.f.1⟩ ⟨Tj _,rfl,⟨by unfold nilC;simp,by unfold nilC;simp,by unfold nilC;simp⟩,by simp⟩ ?_ ?_ ?_
 ·exact zc1
 ·intro w hw
  have h1:=YiT x.f.1 hw
  have h2:St B w0 (clQ (nilC x.f.1)::clA g8 (nilC x.f.1)::clA g6 (nilC 0)::rqA g5 x::schA g4 s::netA g3 n::H) w:=h1
  clear hw h1
  revert w
  exact zc0
 rintro⟨i,c⟩ ⟨hi,hcm,hlen,hno⟩ K hK
 dsimp only at hi hcm hlen hno⊢
 have hrt:Rd B w0 (clA g8 c::clQ c::clA g6 (nilC 0)::rqA g5 x::schA g4 s::netA g3 n::H) x.A (x.rows.flatMap rowF):=hx.rt.cons.cons.cons.cons.cons.cons
 by_cases hlt:i<x.rows.length
 rotate_left
 ·obtain rfl:i=x.rows.length:=by omega
  rw[TQ]at hcm hno
  rw[hno]
  clear hK
  refine zX1 ?_<;>intros
  apply Yq T (H2:=clQ c::H);(iterate 3 exact rfl);(focus exact zc2);exact rfl;exact rfl;(intro w hw;refine hw.perm ?_;focus exact zc3)
  exact⟨c,rfl,λ_=>⟨hcm,hlen⟩,rfl⟩
 obtain⟨r,hr⟩:∃r,x.rows[i]? =some r:=⟨_,Ta hlt⟩
 have hrm:=Tf hr
 have hri:=hx.rw_ r hrm
 have p2:=λ{H':List HP}{w:World}(hin:n.In B w0 H') (hrs:Rd B w0 H' s.A (s.cells.flatMap celF)) (hx:x.In B w0 H') (hw:St B w0 H' w)=>p1 r hrm hin hrs hx hw
 dsimp only at p2
 obtain⟨⟨⟨m,wst,sx⟩,e⟩,hRt⟩:∃z,YT n.net s.sch x.f r.xs=z:=⟨_,rfl⟩
 rw[hRt]at p2
 dsimp only at p2
 unfold flwV at p2
 refine zX67 ?_<;>intros
 apply Yf _ Yv1
 exact za
 exact rfl
 exactλ_ hw=>(p2 (hin.mono zc0) (hrs.mono zc0) (hx.mono zc0) (hw))
 rintro _ _ ⟨A2,cap2,rfl,rfl⟩
 have hPr:P r.xs=decide (e≠0\/x.f.2.2.2.2.2<m):=by rw[<-hP];unfold badR;rw[hRt]
 by_cases hbad:e≠0\/x.f.2.2.2.2.2<m
 ·rw[Ti hbad]at hPr
  have hany:(x.rows.map (·.xs)).any P=true:=TR.2 ⟨r.xs,SC hrm,hPr⟩
  rw[hany]
  clear hK
  by_cases he0:e=0
  all_goals(
   repeat'(first|refine zgd ?_|(refine zgf ?_ ?_<;>intro _<;>try exact zo)|fail)
   apply Yq T (H2:=clQ (nilC 0)::H);(iterate 3 exact rfl);exact zm;exact rfl;exact rfl
   ·intro w hw
    have h5:St B w0 H w:=by
     revert w
     exact zk
    exact YiT 0 h5
   exact⟨nilC 0,rfl,(λh=>by cases h),rfl⟩)
 rw[Tn hbad]at hPr
 have he0:e=0:=Nq λh=>hbad (.inl h)
 have hml:m<=x.f.2.2.2.2.2:=by omega
 subst he0
 obtain⟨hri9,hsx9⟩:r.xs.length<=9/\sx.length<=72:=by
  have h0:(YT n.net s.sch x.f r.xs).2=0:=by rw[hRt]
  obtain⟨h1,b,h2,h3⟩:=ON h0
  have hok:=Yhh (x:=⟨n,s,x.f,r.A,r.cap,r.xs⟩) h1
  have h4:=Yna hok h2
  rw[hRt]at h3
  injection h3 with h3 _
  rw[<-h3]at h4
  exact⟨hok.len.2,h4⟩
 have hinv:∀(A1:Option Addr) (c1:Nat) (r8:RowM) (_:r8.xs=r.xs) (A3:Option Addr) (c3:Nat) (A4:Option Addr) (c4:Nat) (A5:Option Addr) (c5:Nat),(i+1<=x.rows.length/\(ClM.mk c.flow A1 c1 (c.rs++[r8]) A3 c3 (c.bs++[m]) A4 c4 (c.ws++[wst]) A5 c5 (c.ss++[⟨A2,cap2,sx⟩])).clm=Yh2 n.net s.sch x.rq ((x.rows.take (i+1)).map (·.xs))/\(ClM.mk c.flow A1 c1 (c.rs++[r8]) A3 c3 (c.bs++[m]) A4 c4 (c.ws++[wst]) A5 c5 (c.ss++[⟨A2,cap2,sx⟩])).lens/\((x.rows.take (i+1)).map (·.xs)).any P=false):=by
  intro A1 c1 r8 hr8 A3 c3 A4 c4 A5 c5
  have hst:(x.rows.take (i+1)).map (·.xs)=(x.rows.take i).map (·.xs)++[r.xs]:=by
   rw[TM,hr,RY,Rl];rfl
  have hli:((x.rows.take i).map (·.xs)).length=i:=by rw[TC,TA];omega
  rw[hst]
  unfold ClM.clm Yh2 at hcm
  injection hcm with f1 f2 f3 f4 f5
  have l1:c.rs.length=i:=by rw[<-hli,<-f2,TC]
  have l2:c.bs.length=i:=by rw[f3,TC,hli]
  have l3:c.ws.length=i:=by rw[f4,TC,hli]
  have l4:c.ss.length=i:=by
   have:=TE List.length f5
   rw[TC,TC,hli]at this
   exact this
  refine⟨by omega,?_,⟨?_,?_,?_⟩,?_⟩
  ·unfold ClM.clm Yh2
   simp only[Rl,Ru,Nj,hr8,f1,f2,f3,f4,f5,e1,hRt]
  ·simp only[Tq,TG,Rq,l1,l2,l3,l4]
   omega
  ·intro q hq
   rcases TJ.1 hq with h|h
   ·exact hlen.2.1 q h
   ·rw[TU.1 h,hr8];omega
  ·intro q hq
   rcases TJ.1 hq with h|h
   ·exact hlen.2.2 q h
   ·rw[TU.1 h];show sx.length<=1000;omega
  ·rw[List.any_append,hno]
   simp[hPr]
 refine zX39 ?_<;>intros
 refine Xf (nrs A2 cap2 sx::clA g8 c::sl 64 1 c.rA c.rs.length c.rcap (c.rs.flatMap rowF)::many (c.rs.map rowQ)::nrs c.bA c.bcap c.bs::nrs c.wA c.wcap c.ws::sl 24 1 c.sA c.ss.length c.scap (c.ss.flatMap rowF)::many (c.ss.map rowQ)::clA g6 (nilC 0)::rqA g5 x::schA g4 s::netA g3 n::H) (λw hw=>hw.perm (.cons _ (.cons _ (.open_ (clP c) _)))) ?_
 have hl1:=hlen.1
 refine ZV (λz:M8 r.xs=>[(22,.int .i64 (i:Nat)),(21,.int .i64 x.rows.length),(20,.slice x.A x.rows.length x.cap),(8,.pointer (some ⟨g8,0,none⟩)),(6,.pointer (some ⟨g6,0,none⟩)),(5,.pointer (some ⟨g5,0,none⟩)),(4,.pointer (some ⟨g4,0,none⟩)),(3,.pointer (some ⟨g3,0,none⟩)),(13,.slice A2 sx.length cap2),(12,.int .i64 wst)])
  (λz=>nrs A2 cap2 sx::blk g8 (.cells #[.int .i64 c.flow,.slice z.A1 (c.rs++[z.r]).length z.c1,.slice z.A3 (c.bs++[m]).length z.c3,.slice c.wA c.ws.length c.wcap,.slice c.sA c.ss.length c.scap] 191 (0,0))::sl 64 1 z.A1 (c.rs++[z.r]).length z.c1 ((c.rs++[z.r]).flatMap rowF)::many ((c.rs++[z.r]).map rowQ)::nrs z.A3 z.c3 (c.bs++[m])::nrs c.wA c.wcap c.ws::sl 24 1 c.sA c.ss.length c.scap (c.ss.flatMap rowF)::many (c.ss.map rowQ)::clA g6 (nilC 0)::rqA g5 x::schA g4 s::netA g3 n::H) ?_ ?_
 ·intro K8 hK8
  apply QV (.n1 0 (.n1 1 (.n1 2 (.n1 6 (.n1 7 (.n1 8 (.n2 3 (.n2 4 (.n2 5 (.n1 11 (.n1 9 (.n1 10 .done))) 9 (.n1 5 (.n1 11 (.n1 10 .done)))) 9 (.n1 4 (.n1 5 (.n1 11 (.n1 10 .done))))) 9 (.n1 3 (.n1 4 (.n1 5 (.n1 11 (.n1 10 .done)))))))))))) [12,13,14] [false,true]
  kernel_rfl
  kernel_rfl
  exact zy
  (simp only[Yg,nthO];rfl)
  repeat'(first|((apply Yf _ YpC);exact za;exact rfl;exactλ_ hw=>Vv r.xs (by omega) (hri.mono zk) hw;rintro _ _ ⟨A8,cap8,rfl,rfl⟩)|(apply Ylv;(simp only[nthO];rfl);(simp only[nthO];rfl))|(apply Ylu;(simp only[nthO];rfl))|(apply QY;try exact zl)|(apply Yk;try exact zl)|refine zgd ?_|(refine zgh ?_;intro _)|(refine zgi ?_;intro _ _)|fail)
  all_goals(
   first
    |(rename_i A1 c1 g A3 c3;guard_hyp g:Nat;guard_hyp A1:Option Addr)
    |(rename_i A1 c1 A3 c3;guard_hyp A1:Option Addr)
   refine hK8 ⟨A1,c1,⟨A8,cap8,r.xs⟩,rfl,A3,c3⟩ _ _ zu ?_
   intro w hw
   have q1:sl 64 1 A1 (c.rs.length+1) c1 (c.rs.flatMap rowF++#[Value.slice A8 r.xs.length cap8].toList)=sl 64 1 A1 (c.rs++[(⟨A8,cap8,r.xs⟩:RowM)]).length c1 ((c.rs++[(⟨A8,cap8,r.xs⟩:RowM)]).flatMap rowF):=Yjb _ _ _ _ ⟨A8,cap8,r.xs⟩
   rw[q1,YdL,show c.rs.length+1=(c.rs++[(⟨A8,cap8,r.xs⟩:RowM)]).length by simp,show c.bs.length+1=(c.bs++[m]).length by simp]at hw
   have h5:St B w0 (nrs A2 cap2 sx::blk g8 (.cells #[.int .i64 c.flow,.slice A1 (c.rs++[(⟨A8,cap8,r.xs⟩:RowM)]).length c1,.slice A3 (c.bs++[m]).length c3,.slice c.wA c.ws.length c.wcap,.slice c.sA c.ss.length c.scap] 191 (0,0))::sl 64 1 A1 (c.rs++[(⟨A8,cap8,r.xs⟩:RowM)]).length c1 ((c.rs++[(⟨A8,cap8,r.xs⟩:RowM)]).flatMap rowF)::sl 3 1 A8 r.xs.length cap8 (r.xs.flatMap numF)::many (c.rs.map rowQ)::nrs A3 c3 (c.bs++[m])::nrs c.wA c.wcap c.ws::sl 24 1 c.sA c.ss.length c.scap (c.ss.flatMap rowF)::many (c.ss.map rowQ)::clA g6 (nilC 0)::rqA g5 x::schA g4 s::netA g3 n::H) w:=by
    clear q1
    revert w
    exact zk
   exact h5.perm (.cons _ (.cons _ (.cons _ (O7 rowQ c.rs ⟨A8,cap8,r.xs⟩ _)))))
 rintro⟨A1,c1,r8,hr8,A3,c3⟩
 dsimp only
 repeat'(first|fail)
 apply QV (.n1 0 (.n1 1 (.n1 2 (.n1 5 (.n1 6 (.n1 7 (.n2 3 (.n2 4 (.n1 10 (.n1 8 (.n1 9 .done))) 8 (.n1 4 (.n1 10 (.n1 9 .done)))) 8 (.n1 3 (.n1 4 (.n1 10 (.n1 9 .done))))))))))) [11,12,13] [false,true]
 kernel_rfl
 kernel_rfl
 exact zy
 (simp only[Yg,nthO];rfl)
 repeat'(first|(apply Ylv;(simp only[nthO];rfl);(simp only[nthO];rfl))|(apply Ylu;(simp only[nthO];rfl))|(apply QY;try exact zl)|(apply Yk;try exact zl)|refine zgd ?_|(refine zgh ?_;intro _)|(refine zgi ?_;intro _ _)|fail)
 all_goals(
  first
   |(rename_i A4 c4 g A5 c5;guard_hyp g:Nat;guard_hyp A4:Option Addr)
   |(rename_i A4 c4 A5 c5;guard_hyp A4:Option Addr)
  refine hK ⟨i+1,⟨c.flow,A1,c1,c.rs++[r8],A3,c3,c.bs++[m],A4,c4,c.ws++[wst],A5,c5,c.ss++[⟨A2,cap2,sx⟩]⟩⟩ ?_ ?_ _ _ zu ?_
  ·exact hinv A1 c1 r8 hr8 A3 c3 A4 c4 A5 c5
  ·dsimp only;omega
  intro w hw
  have q1:sl 24 1 A5 (c.ss.length+1) c5 (c.ss.flatMap rowF++#[Value.slice A2 sx.length cap2].toList)=sl 24 1 A5 (c.ss++[(⟨A2,cap2,sx⟩:RowM)]).length c5 ((c.ss++[(⟨A2,cap2,sx⟩:RowM)]).flatMap rowF):=Yjb _ _ _ _ ⟨A2,cap2,sx⟩
  rw[q1,YdL,show c.ss.length+1=(c.ss++[(⟨A2,cap2,sx⟩:RowM)]).length by simp,show c.ws.length+1=(c.ws++[wst]).length by simp]at hw
  have h5:St B w0 (blk g8 (.cells #[.int .i64 c.flow,.slice A1 (c.rs++[r8]).length c1,.slice A3 (c.bs++[m]).length c3,.slice A4 (c.ws++[wst]).length c4,.slice A5 (c.ss++[(⟨A2,cap2,sx⟩:RowM)]).length c5] 191 (0,0))::sl 64 1 A1 (c.rs++[r8]).length c1 ((c.rs++[r8]).flatMap rowF)::many ((c.rs++[r8]).map rowQ)::nrs A3 c3 (c.bs++[m])::nrs A4 c4 (c.ws++[wst])::sl 24 1 A5 (c.ss++[(⟨A2,cap2,sx⟩:RowM)]).length c5 ((c.ss++[(⟨A2,cap2,sx⟩:RowM)]).flatMap rowF)::nrs A2 cap2 sx::many (c.ss.map rowQ)::clA g6 (nilC 0)::rqA g5 x::schA g4 s::netA g3 n::H) w:=by
   clear q1
   revert w
   exact zk
  have h6:=h5.perm (.cons _ (.cons _ (.cons _ (.cons _ (.cons _ (.cons _ (O7 rowQ c.ss ⟨A2,cap2,sx⟩ _)))))))
  exact h6.perm (.cons _ (.close [_,_,_,_,_,_] _)))
variable {l:List Flw}
theorem YjW{n:Net}{s:Sch}(h1:(J2 n l s).2=0):∀c∈s.cells,YG n (YC c) (toC c)=true:=by
 have k1:=YI.1 h1
 intro c hc
 obtain⟨i,hi⟩:=TO.1 hc
 have hl:=(Tc.1 hi).1
 have:=k1 i (Tj _) (by omega)
 unfold Ua at this
 rw[XG hi]at this
 grind
theorem Ynz{nodes:Int}(h:(Yy nodes l).2=0):l.length<=16:=by
 grind [Yy]
theorem YeP(n:NetM)(l:List Flw)(s:SchM)(hlf:l.length<=9223372036854775807)(hl:s.cells.length<=1000000000000){A:Option Addr}{cap B:Nat}{w0:World}{H:List HP}{w:World}(hin:n.In B w0 H)(hrf:Rd B w0 H A (l.flatMap flwF))(hr:Rd B w0 H s.A (s.cells.flatMap celF))(hw:St B w0 H w):
 CX B w0 97 [n.val,.slice A l.length cap,s.val] w λv K=>v=.tuple #[.int .i64 (schE n.net l s.sch).1,.int .i64 (schE n.net l s.sch).2]/\K=H:=by
 refine Yc Tryz.func97 Tryz.ntmps97 rfl rfl hw ?_
 have e4:s.sch.cells.length=s.cells.length:=rfl
 have e5:s.sch.len=s.len:=rfl
 have hchk:=λ{H':List HP}{w:World}(hin:n.In B w0 H') (hw:St B w0 H' w)=>Y9 n hin hw
 have hsz:=λ{H':List HP}{w:World}(hw:St B w0 H' w)=>Yd8 s hw
 by_cases h1:Yo n.net=0
 rotate_left
 ·have hS:schE n.net l s.sch=(-1,1):=by
   have hw1:Zg n.net l s.sch=1:=by unfold Zg;rw[Tm h1]
   unfold schE;rw[hw1];rfl
  rw[hS]
  repeat'(first|((first|apply Ya en44|apply Yb en44);exact za;exact rfl;exactλ_ hw=>(hchk hin.cons.cons hw))|refine zgb ?_|(refine zge ?_ ?_<;>intro _<;>try exact zo)|(refine zgh ?_;intro _)|fail)
  apply Yi H
  ·exact zc0
  exact zc10
 rw[h1]at hchk
 by_cases h2:(Yy n.nodes l).2=0
 rotate_left
 ·have hS:schE n.net l s.sch=(-1,1):=by
   have hw1:Zg n.net l s.sch=1:=by unfold Zg;rw[Td (by omega)];exact Tm h2
   unfold schE;rw[hw1];rfl
  rw[hS]
  repeat'(first|((first|apply Ya en44|apply Yb en44);exact za;exact rfl;exactλ_ hw=>(hchk hin.cons.cons hw))|((first|apply Ya en74|apply Yb en74);exact za;exact rfl;exactλ_ hw=>(Y0 n.nodes l hlf hrf.cons.cons hw))|refine zgc ?_|(refine zge ?_ ?_<;>intro _<;>try exact zo)|(refine zgh ?_;intro _)|fail)
  apply Yi H
  ·exact zc0
  exact zc10
 have hl16:=Ynz h2
 have hper:=Yfl h2
 cases h3:ZD s.sch with
 |false=>
  rw[h3]at hsz
  have hS:schE n.net l s.sch=(-1,2):=by
   have hw1:Zg n.net l s.sch=2:=by unfold Zg;rw[Td (by omega),Td (λh=>h h2),Tm h3]
   unfold schE;rw[hw1];rfl
  rw[hS]
  repeat'(first|((first|apply Ya en44|apply Yb en44);exact za;exact rfl;exactλ_ hw=>(hchk hin.cons.cons hw))|((first|apply Ya en74|apply Yb en74);exact za;exact rfl;exactλ_ hw=>(Y0 n.nodes l hlf hrf.cons.cons hw))|((first|apply Ya Ql|apply Yb Ql);exact za;exact rfl;exactλ_ hw=>(hsz hw))|refine zgd ?_|(refine zge ?_ ?_<;>intro _<;>try exact zo)|(refine zgh ?_;intro _)|fail)
  apply Yi H
  ·exact zc0
  exact zc10
 |true=>
 rw[h3]at hsz
 have hsl:1<=s.len/\s.len<=512:=by
  have:=TY h3
  exact⟨this.1,this.2.1⟩
 obtain⟨b,hb⟩:∃b,(l.any λf=>decide (s.len.tmod f.2.2.2.1≠0))=b:=⟨_,rfl⟩
 have hw0:Zg n.net l s.sch=if b=true then 11 else if 512<s.cells.length then 8 else 0:=by
  unfold Zg
  rw[Td (by omega),Td (λh=>h h2),h3,Td (by decide),e5,hb]
  rfl
 have hcf:=λ{H':List HP}{w:World}(gs:Nat) (hm:blk gs (.cells #[.int .i64 s.len,.int .i64 s.off,.slice s.A s.cells.length s.cap] 30 (0,0))∈H') (hr:Rd B w0 H' A (l.flatMap flwF)) (hw:St B w0 H' w)=>Oj (λf=>decide (s.len.tmod f.2.2.2.1≠0)) l 168 [.pointer (some ⟨gs,0,none⟩)] Yv0 (by omega) (cap:=cap) hr (λf hf w hw=>YgQ s f gs hsl ⟨(hper f hf).2.2.1,(hper f hf).2.2.2⟩ hm hw) hw
 rw[hb]at hcf
 cases b with
 |true=>
  rw[Tm rfl]at hw0
  have hS:schE n.net l s.sch=(-1,11):=by unfold schE;rw[hw0];rfl
  rw[hS]
  repeat'(first|((first|apply Ya en44|apply Yb en44);exact za;exact rfl;exactλ_ hw=>(hchk hin.cons.cons hw))|((first|apply Ya en74|apply Yb en74);exact za;exact rfl;exactλ_ hw=>(Y0 n.nodes l hlf hrf.cons.cons hw))|((first|apply Ya Ql|apply Yb Ql);exact za;exact rfl;exactλ_ hw=>(hsz hw))|((first|apply Ya en75|apply Yb en75);exact za;exact rfl;exactλ_ hw=>(hcf _ zm hrf.cons.cons hw))|(apply zg29;(apply Yp;exact za;exact rfl))|refine zgd ?_|(refine zge ?_ ?_<;>intro _<;>try exact zo)|(refine zgh ?_;intro _)|fail)
  apply Yi H
  ·exact zc0
  exact zc10
 |false=>
 rw[Td (by decide)]at hw0
 by_cases h5:512<s.cells.length
 ·rw[Tm h5]at hw0
  have hS:schE n.net l s.sch=(-1,8):=by unfold schE;rw[hw0];rfl
  rw[hS]
  repeat'(first|((first|apply Ya en44|apply Yb en44);exact za;exact rfl;exactλ_ hw=>(hchk hin.cons.cons hw))|((first|apply Ya en74|apply Yb en74);exact za;exact rfl;exactλ_ hw=>(Y0 n.nodes l hlf hrf.cons.cons hw))|((first|apply Ya Ql|apply Yb Ql);exact za;exact rfl;exactλ_ hw=>(hsz hw))|((first|apply Ya en75|apply Yb en75);exact za;exact rfl;exactλ_ hw=>(hcf _ zm hrf.cons.cons hw))|(apply zg29;(apply Yp;exact za;exact rfl))|refine zgd ?_|(refine zgf ?_ ?_<;>intro _<;>try exact zo)|(refine zgh ?_;intro _)|fail)
  apply Yi H
  ·exact zc0
  exact zc10
 rw[Td h5]at hw0
 have hS:schE n.net l s.sch=if(J2 n.net l s.sch).2≠0 then J2 n.net l s.sch else if(Ul s.sch).2≠0 then Ul s.sch else Ye7 n.net s.sch:=by
  unfold schE;rw[hw0];rfl
 rw[hS]
 have hcc:=λ{H':List HP}{w:World}(hin:n.In B w0 H') (hrf:Rd B w0 H' A (l.flatMap flwF)) (hr:Rd B w0 H' s.A (s.cells.flatMap celF)) (hw:St B w0 H' w)=>Yb1 n l s h1 (by omega) hl (cap:=cap) hin hrf hr hw
 obtain⟨⟨c1,c2⟩,hcv⟩:∃R,J2 n.net l s.sch=R:=⟨_,rfl⟩
 rw[hcv]at hcc⊢
 dsimp only at hcc⊢
 by_cases h6:c2≠0
 ·rw[Tm h6]
  refine zX85 ?_<;>intros
  apply Yi H
  ·exact zc0
  exact zc10
 obtain rfl:c2=0:=TN.1 h6
 rw[Td h6]
 have hgood:=YjW (n:=n.net) (l:=l) (s:=s.sch) (by rw[hcv])
 refine zX85 ?_<;>intros
 first|(rename_i gn gs;guard_hyp gn:Nat;guard_hyp gs:Nat)|(rename_i gn gs _;guard_hyp gn:Nat;guard_hyp gs:Nat)|(rename_i gn gs _ _;guard_hyp gn:Nat;guard_hyp gs:Nat)|(rename_i gn gs _ _ _;guard_hyp gn:Nat;guard_hyp gs:Nat)|(rename_i gn gs _ _ _ _;guard_hyp gn:Nat;guard_hyp gs:Nat)|(rename_i gn gs _ _ _ _ _;guard_hyp gn:Nat;guard_hyp gs:Nat)|(rename_i gn gs _ _ _ _ _ _;guard_hyp gn:Nat;guard_hyp gs:Nat)
 refine Yj (λ(k:Nat)=>[(53,.int .i64 k),(52,.int .i64 s.cells.length),(51,.slice s.A s.cells.length s.cap),(3,.pointer (some ⟨gn,0,none⟩)),(5,.pointer (some ⟨gs,0,none⟩))]) (λ_=>blk gs (.cells #[.int .i64 s.len,.int .i64 s.off,.slice s.A s.cells.length s.cap] 30 (0,0))::netN gn n::H) (λk=>k<=s.cells.length/\∀j,j<k->Jj s.sch j=false) (λk=>s.cells.length-k) 0 ⟨Tj _,λj hj=>absurd hj (R9 _)⟩ ?_ (λw hw=>hw) ?_
 ·exact zc1
 rintro k ⟨hk,hall⟩ K hK
 have hF:Ul s.sch=YD (λi=>if Jj s.sch i=true then 6 else 0) s.cells.length 0:=rfl
 unfold netN
 by_cases hlt:k<s.cells.length
 ·have htc:=λ{H':List HP}{w:World}(hr:Rd B w0 H' s.A (s.cells.flatMap celF)) (hw:St B w0 H' w)=>Yle s k hlt (by omega) hr hw
  cases htw:Jj s.sch k with
  |true=>
   rw[htw]at htc
   have hT:Ul s.sch=((k:Int),6):=zc76
   rw[hT,Tm (show(6:Int)≠0 by decide)]
   repeat'(first|((first|apply Ya YlO|apply Yb YlO);exact za;exact rfl;exactλ_ hw=>(htc hr.cons.cons hw))|refine zgd ?_|(refine zge ?_ ?_<;>intro _<;>try exact zo)|fail)
   apply Yi H
   ·exact zc0
   exact zc10
  |false=>
   rw[htw]at htc
   repeat'(first|((first|apply Ya YlO|apply Yb YlO);exact za;exact rfl;exactλ_ hw=>(htc hr.cons.cons hw))|refine zgc ?_|(refine zge ?_ ?_<;>intro _<;>try exact zo)|fail)
   apply hK (k+1)
   ·exact zc97
   ·omega
   ·exact zc1
   ·unfold netN
    exact zc0
 have hT:(Ul s.sch).2=0:=by
  rw[hF,YI]
  intro j _ hj
  simp only[hall j (by omega)]
  rfl
 rw[Td (λh=>h hT)]
 clear hK
 refine zX1 ?_<;>intros
 refine Yj (λ(k:Nat)=>[(64,.int .i64 k),(63,.int .i64 s.cells.length),(62,.slice s.A s.cells.length s.cap),(3,.pointer (some ⟨gn,0,none⟩)),(5,.pointer (some ⟨gs,0,none⟩))]) (λ_=>blk gs (.cells #[.int .i64 s.len,.int .i64 s.off,.slice s.A s.cells.length s.cap] 30 (0,0))::netN gn n::H) (λk=>k<=s.cells.length/\∀j,j<k->Jc n.net s.sch j=false) (λk=>s.cells.length-k) 0 ⟨Tj _,λj hj=>absurd hj (R9 _)⟩ ?_ (λw hw=>hw) ?_
 ·exact zc1
 rintro k ⟨hk,hall⟩ K2 hK
 have hF:Ye7 n.net s.sch=YD (λi=>if Jc n.net s.sch i=true then 16 else 0) s.cells.length 0:=rfl
 unfold netN
 by_cases hlt:k<s.cells.length
 ·have htc:=λ{H':List HP}{w:World}(hin:n.In B w0 H') (hr:Rd B w0 H' s.A (s.cells.flatMap celF)) (hw:St B w0 H' w)=>Yc2 n s k h1 hgood hlt (by omega) hin hr hw
  cases htw:Jc n.net s.sch k with
  |true=>
   rw[htw]at htc
   have hT:Ye7 n.net s.sch=((k:Int),16):=zc76
   rw[hT]
   repeat'(first|((first|apply Ya YlP|apply Yb YlP);exact za;exact rfl;exactλ_ hw=>(htc hin.cons.cons hr.cons.cons hw))|refine zgd ?_|(refine zge ?_ ?_<;>intro _<;>try exact zo)|fail)
   apply Yi H
   ·exact zc0
   exact zc10
  |false=>
   rw[htw]at htc
   repeat'(first|((first|apply Ya YlP|apply Yb YlP);exact za;exact rfl;exactλ_ hw=>(htc hin.cons.cons hr.cons.cons hw))|refine zgc ?_|(refine zge ?_ ?_<;>intro _<;>try exact zo)|fail)
   apply hK (k+1)
   ·exact zc97
   ·omega
   ·exact zc1
   ·unfold netN
    exact zc0
 ·have hT:Ye7 n.net s.sch=(-1,0):=by
   rw[hF]
   exact Zv λj _ hj=>by simp only[hall j (by omega)];rfl
  rw[hT]
  refine zX1 ?_<;>intros
  apply Yi H
  ·exact zc0
  exact zc10
theorem YkA{α:Type}(f:α->HP)(l:List α)(r:α)(H:List HP):Perm (f r::many (l.map f)::H) (many ((l++[r]).map f)::H):=by
 have:=Perm.push (f r) (l.map f) [] H
 simp_all
abbrev clsP(A:Option Addr)(cap:Nat)(C:List ClM):HP:=sl 191 5 A C.length cap (C.flatMap clF)
theorem Ypp(A:Option Addr)(cap:Nat)(l:List ClM)(c:ClM):sl 191 5 A (l.length+1) cap (l.flatMap clF++#[Value.int .i64 c.flow,.slice c.rA c.rs.length c.rcap,.slice c.bA c.bs.length c.bcap,.slice c.wA c.ws.length c.wcap,.slice c.sA c.ss.length c.scap].toList)=clsP A cap (l++[c]):=by simp[clsP,List.flatMap_append,clF]
def OutC(H:List HP)(R:List Clm×(Int×Int))(v:Value)(K:List HP):Prop:=∃A cap C,v=.tuple #[.slice A (C:List ClM).length cap,.int .i64 R.2.1,.int .i64 R.2.2]/\C.map ClM.clm=R.1/\(∀c∈C,c.lens)/\K=clsP A cap C::many (C.map clQ)::H
variable {B:Nat}{w0 w:World}{H:List HP}
theorem YgG(h:St B w0 H w):St B w0 (clsP none 0 []::many (([]:List ClM).map clQ)::H) w:=(h.perm (.noMany H)).nilSlice _ _
theorem YsK{R:List Clm×(Int×Int)}{v:Value}(h1:R.1=[])(hv:v=.tuple #[.slice none 0 0,.int .i64 R.2.1,.int .i64 R.2.2]):OutC H R v (clsP none 0 []::many (([]:List ClM).map clQ)::H):=⟨none,0,[],hv,h1.symm,(λc hc=>by cases hc),rfl⟩
structure MkM where
 i:Nat
 A:Option Addr
 cap:Nat
 C:List ClM
theorem U9(n:NetM)(q:List RqM)(s:SchM){A:Option Addr}{cap:Nat}(ht:TabsB B w0)(hin:n.In B w0 H)(hq:QIn B w0 H A q)(hrs:Rd B w0 H s.A (s.cells.flatMap celF))(hsl:s.cells.length<=1000000000000)(hw:St B w0 H w):
 CX B w0 38 [n.val,.slice A q.length cap,s.val] w (OutC H (YM n.net (q.map RqM.rq) s.sch)):=by
 refine Yc Tryz.func38 Tryz.ntmps38 rfl rfl hw ?_
 have hql:=hq.ln
 have hqr:=hq.rd
 have p1:=λ{H':List HP}{w:World}(hin:n.In B w0 H') (hq:QIn B w0 H' A q) (hw:St B w0 H' w)=>YeL n q (cap:=cap) hin hq hw
 have p2:=λ{H':List HP}{w:World}(hq:QIn B w0 H' A q) (hw:St B w0 H' w)=>Ybo q (cap:=cap) hql hq.rd hw
 have p3:=λ{A2:Option Addr}{cap2:Nat}{H':List HP}{w:World}(hin:n.In B w0 H') (hf:Rd B w0 H' A2 ((RqM.fl q).flatMap flwF)) (hrs:Rd B w0 H' s.A (s.cells.flatMap celF)) (hw:St B w0 H' w)=>YeP n (RqM.fl q) s (by unfold RqM.fl;rw[TC];omega) hsl (cap:=cap2) hin hf hrs hw
 have p4:=λ{H':List HP}{w:World}(x:RqM) (h9:x.rows.length<=9) (hin:n.In B w0 H') (hrs:Rd B w0 H' s.A (s.cells.flatMap celF)) (hx:x.In B w0 H') (hw:St B w0 H' w)=>Yj0 n s x ht hin hrs hsl hx h9 hw
 obtain⟨R,hR⟩:∃R,YM n.net (q.map RqM.rq) s.sch=R:=⟨_,rfl⟩
 rw[hR]
 unfold YM at hR
 rw[TC]at hR
 have hrq:(rqsE n.net (q.map RqM.rq)).2=0->∀x∈q,x.rows.length<=9:=λh x hx=>by
  unfold rqsE at h
  split at h
  ·cases h
  split at h
  ·exact absurd h (by assumption)
  obtain⟨k,hk⟩:=TO.1 hx
  have h1:=YI.1 h k (Tj _) (by rw[TC];have:=(Tc.1 hk).1;omega)
  rw[YdZ hk]at h1
  have h2:=Yaz h1
  have h3:x.rq.2.length=x.rows.length:=by unfold RqM.rq;rw[TC]
  omega
 obtain⟨⟨ri,re⟩,hr⟩:∃r,rqsE n.net (q.map RqM.rq)=r:=⟨_,rfl⟩
 obtain⟨⟨ci,ce⟩,hc⟩:∃r,schE n.net (Ys (q.map RqM.rq)) s.sch=r:=⟨_,rfl⟩
 obtain⟨F,hF⟩:∃F:Nat->Int,(λi=>if Jq n.net s.sch (rqAt (q.map RqM.rq) i)=true then 15 else 0)=F:=⟨_,rfl⟩
 rw[hr]at p1 hR hrq
 rw[YpS]at p3
 rw[hc]at p3 hR
 rw[hF]at hR
 have hFv:∀{k:Nat}{x:RqM},q[k]? =some x->F k=if Jq n.net s.sch x.rq=true then 15 else 0:=λh=>by rw[<-hF];show(if Jq _ _ _=true then _ else _)=_;rw[YdZ h]
 rw[<-YpS]at p3
 dsimp only at p1 p3 hR hrq
 unfold NetM.val SchM.val
 by_cases h0:re=0
 rotate_left
 ·rw[Tm h0]at hR
  subst hR
  refine zX90 ?_<;>intros
  apply Yi (clsP none 0 []::many (([]:List ClM).map clQ)::H)
  ·intro w hw
   have h5:St B w0 H w:=by
    revert w
    exact zc0
   exact YgG h5
  exact zc70
 subst h0
 rw[Td (λe=>e rfl)]at hR
 have hrq:=hrq rfl
 by_cases h1:ce=0
 rotate_left
 ·rw[Tm h1]at hR
  subst hR
  refine zX90 ?_<;>intros
  apply YK [0,1,3,2,4,5,6,7,8,9] [] [true,true]
  kernel_rfl
  kernel_rfl
  exact zy
  (simp only[Yg,nthO];rfl)
  exact rfl
  refine zX2 ?_
  apply Yf _ en98
  exact za
  exact rfl
  exactλ_ hw=>(p2 (hq.mono zc0) (hw))
  rintro _ _ ⟨A2,cap2,rfl,rfl⟩
  refine zX16 ?_
  first|apply Ya en97|apply Yb en97
  exact za
  exact rfl
  exactλ_ hw=>(p3 (hin.mono zc0) (Rd.sl (by(focus exact zc2))) (hrs.mono zc0) hw)
  refine zX91 ?_<;>intros
  apply Yi (clsP none 0 []::many (([]:List ClM).map clQ)::H)
  ·intro w hw
   have h5:St B w0 H w:=by
    revert w
    exact zc0
   exact YgG h5
  exact zc70
 subst h1
 rw[Td (λe=>e rfl)]at hR
 refine zX90 ?_<;>intros
 first|(rename_i g3 g5;guard_hyp g3:Nat;guard_hyp g5:Nat)|(rename_i g3 g5 _;guard_hyp g3:Nat;guard_hyp g5:Nat)|(rename_i g3 g5 _ _;guard_hyp g3:Nat;guard_hyp g5:Nat)
 apply YK [0,1,3,2,4,5,6,7,8,9] [] [true,true]
 kernel_rfl
 kernel_rfl
 exact zy
 (simp only[Yg,nthO];rfl)
 exact rfl
 refine zX2 ?_
 apply Yf _ en98
 exact za
 exact rfl
 exactλ_ hw=>(p2 (hq.mono zc0) (hw))
 rintro _ _ ⟨A2,cap2,rfl,rfl⟩
 refine zX16 ?_
 first|apply Ya en97|apply Yb en97
 exact za
 exact rfl
 exactλ_ hw=>(p3 (hin.mono zc0) (Rd.sl (by(focus exact zc2))) (hrs.mono zc0) hw)
 refine zX91 ?_<;>intros
 refine Yj (λz:MkM=>[(40,.int .i64 (z.i:Nat)),(39,.int .i64 q.length),(38,.slice A q.length cap),(13,.slice z.A z.C.length z.cap),(5,.pointer (some ⟨g5,0,none⟩)),(3,.pointer (some ⟨g3,0,none⟩))]) (λz=>clsP z.A z.cap z.C::many (z.C.map clQ)::schA g5 s::netA g3 n::H)
  (λz=>z.i<=q.length/\z.C.map ClM.clm=(q.take z.i).map (λx=>clmE n.net s.sch x.rq)/\(∀c∈z.C,c.lens)/\∀j,0<=j->j<z.i->F j=0) (λz=>q.length-z.i) ⟨0,none,0,[]⟩ ⟨Tj _,rfl,(λc hc=>by cases hc),λj _ h=>absurd h (R9 _)⟩ ?_ ?_ ?_
 ·exact zc1
 ·intro w hw
  have h5:St B w0 (schA g5 s::netA g3 n::H) w:=by
   revert w
   exact zc0
  exact YgG h5
 rintro⟨i,A3,cap3,C⟩ ⟨hi,hC,hCl,hz⟩ K hK
 dsimp only at hi hC hCl hz⊢
 have hqr':Rd B w0 (clsP A3 cap3 C::many (C.map clQ)::schA g5 s::netA g3 n::H) A (q.flatMap rqF):=hqr.cons.cons.cons.cons
 have hCn:C.length<=q.length:=by
  have:=TE List.length hC
  exact YuI
 by_cases hlt:i<q.length
 rotate_left
 ·obtain rfl:i=q.length:=by omega
  have hfe:=Zv (f:=F) (r:=q.length) (i0:=0) λj h1 h2=>hz j h1 (by omega)
  rw[hfe,Td (λe=>e rfl)]at hR
  subst hR
  rw[TQ]at hC
  clear hK
  refine zX1 ?_<;>intros
  apply Yi (clsP A3 cap3 C::many (C.map clQ)::H)
  ·exact zc0
  apply Ur;(iterate 4 exact rfl)
  exact⟨A3,cap3,C,rfl,by rw[hC,NI];rfl,hCl,rfl⟩
 obtain⟨x,hx⟩:∃x,q[i]? =some x:=⟨_,Ta hlt⟩
 have hxm:=Tf hx
 have hFx:=hFv hx
 have p5:=λ{H':List HP}{w:World}(hin:n.In B w0 H') (hrs:Rd B w0 H' s.A (s.cells.flatMap celF)) (hxi:x.In B w0 H') (hw:St B w0 H' w)=>p4 x (hrq x hxm) hin hrs hxi hw
 have hxi:=hq.x x hxm
 cases hlb:Jq n.net s.sch x.rq with
 |true=>
  rw[hlb,Tm rfl]at hFx
  rw[hlb]at p5
  have hfe:=Zu (f:=F) (r:=q.length) (i0:=0) (i:=i) (λj h1 h2=>hz j h1 h2) (Tj _) (by omega) (by rw[hFx];decide)
  rw[hfe,hFx]at hR
  rw[Tm (show(15:Int)≠0 from by decide)]at hR
  subst hR
  clear hK
  refine zX43 ?_<;>intros
  apply Yf _ en99
  exact za
  exact rfl
  exactλ_ hw=>(p5 (hin.mono zc0) (hrs.mono zc0) (hxi.mono zc0) (hw))
  rintro _ _ ⟨c,rfl,_,rfl⟩
  unfold clV
  refine zX23 ?_<;>intros
  apply Yi (clsP none 0 []::many (([]:List ClM).map clQ)::H)
  ·intro w hw
   have h5:St B w0 H w:=by
    revert w
    exact zc0
   exact YgG h5
  exact zc70
 |false=>
  rw[hlb,Td (by decide)]at hFx
  rw[hlb]at p5
  refine zX43 ?_<;>intros
  apply Yf _ en99
  exact za
  exact rfl
  exactλ_ hw=>(p5 (hin.mono zc0) (hrs.mono zc0) (hxi.mono zc0) (hw))
  rintro _ _ ⟨c,rfl,hcc,rfl⟩
  obtain⟨hcm,hcl⟩:=hcc rfl
  unfold clV
  repeat'(first|refine zgd ?_|(refine zgh ?_;intro _)|(refine zgi ?_;intro _ _)|fail)
  first|(rename_i A4 cap4;guard_hyp A4:Option Addr)
  rw[Ypp,show C.length+1=(C++[c]).length by simp]
  apply hK ⟨i+1,A4,cap4,C++[c]⟩
  ·refine⟨by exact Yes,?_,λy hy=>?_,λj h1 h2=>?_⟩
   ·show(C++[c]).map ClM.clm=_
    rw[TM,hx,RY,Rl,Rl,hC]
    simp[hcm]
   ·rcases TJ.1 hy with h|h
    ·exact hCl y h
    ·rw[TU.1 h];exact hcl
   ·rcases S9.1 h2 with h|rfl
    ·exact hz j h1 h
    ·exact hFx
  ·exact zc64
  ·exact zc1
  ·intro w hw
   have h5:St B w0 (clsP A4 cap4 (C++[c])::clQ c::many (C.map clQ)::schA g5 s::netA g3 n::H) w:=by
    revert w
    exact zc0
   exact h5.perm (.cons _ (YkA clQ C c _))
end Go.Proofs.YtambgjgljcadlaaGreatDoor
