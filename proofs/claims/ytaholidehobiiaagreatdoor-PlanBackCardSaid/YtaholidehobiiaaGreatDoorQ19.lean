/- Lemmas for the claim, part 19. -/
import Derived.Test.YtaholidehobiiaaGreatDoorQ17
set_option maxRecDepth 100000
set_option maxHeartbeats 8000000
set_option linter.all false
namespace Go.Eng
open Go.RowKit
variable {B:Nat}{w0:World}{H:List HP}
theorem YmH{P:Program}{env:Env}{n:Nat}(T:Tab P){fn:Func}{Φ:Value->List HP->Prop}{p g rt:Nat}{v:Value}{cs:Array Value}{tt:TypeId}{fr:Nat×Nat}(hr:fn.results=#[.cell p rt])(hp:get env p=some (.pointer (some ⟨g,0,none⟩)))
 (hm:Eng.blk g (.cells cs tt fr)∈H) (hv:nth cs.toList 0=some v) (ht:Eng.look T.sc rt=some ()) {H2:List HP}(hH:∀w,St B w0 H w->St B w0 H2 w) (h:Φ v H2):VQ ⟨n,[],none⟩ B w0 (bodyPost P fn (Post B w0 Φ)) .ret env H:=by
 refine⟨λa w ha hw=>bodyPost_ret (v:=v) ?_ ha.defers ⟨_,H2,rfl,hH w hw,h⟩⟩
 have hp':=ha.slot p _ hp
 rw[YhG]at hv
 have hc:=Xp (i:=0) (hw.blk hm).1
 simp[results,hr,Array.getD_eq_getD_getElem?,hp',asAddr,loadVar,ZC (T.scal ht).1,hc,hv]
end Go.Eng
namespace Go.Proofs.YtaholidehobiiaaGreatDoor
open Go.RowKit Go.Eng Go.Nw
variable {s:Sch}{i B:Nat}
theorem YpW(hi:i<s.cells.length)(h:∀j∈inI s (Yn s i).1 s.cells.length,j<i->YH (Yn s i) (Yn s j)=false):Jw s i=false:=by
 unfold Jw
 rw[RD]
 intro j hj
 have hj:=TQ.1 hj
 rw[Tq,Tt]
 rintro⟨h1,h2⟩
 rw[h j (Qk.2 ⟨by omega,h1⟩) hj]at h2
 cases h2
theorem YpX{j:Nat}(hji:j<i)(hs:(Yn s j).1=(Yn s i).1)(ht:YH (Yn s i) (Yn s j)=true):Jw s i=true:=by
 unfold Jw
 grind
variable {w0:World}{H:List HP}
theorem Ymp(s:SchM)(i:Nat)(hi:i<s.cells.length)(hl:s.cells.length<=1000){w:World}(hr:Rd B w0 H s.A (s.cells.flatMap celF))(hw:St B w0 H w):
 CX B w0 86 [s.val,.int .i64 i] w λv K=>v=.bool (Jw s.sch i)/\K=H:=by
 refine Zr Tryz.func86 Tryz.ntmps86 rfl rfl hw ?_
 have hget:s.cells[i]? =some (Yn s.sch i):=Xg (s:=s.sch) hi
 obtain⟨c,hc⟩:∃c,Yn s.sch i=c:=⟨_,rfl⟩
 rw[hc]at hget
 refine zX82 ?_<;>intros
 rename_i gs gi gr gc
 apply Ye _ YuE
 exact za
 exact rfl
 exactλ_ hw=>(YjB s c.1 (hw))
 rintro _ _ ⟨g1,g2,rfl,rfl⟩
 refine zX8 ?_
 have hr6:Rd B w0 (intB g2 c.1::schB g1 s::blk gc (.cells (celF c).toArray 64 (0,0))::blk gi (.cells #[.int .i64 i] 3 (0,0))::schB gs s::H) s.A (s.cells.flatMap celF):=hr.cons.cons.cons.cons.cons
 refine Zs (gf:=265) (lb:=[.pointer (some ⟨g1,0,none⟩),.pointer (some ⟨g2,0,none⟩)]) (xs:=inXs s.sch c.1) (intB g2 c.1::schB g1 s::blk gc (.cells (celF c).toArray 64 (0,0))::blk gi (.cells #[.int .i64 i] 3 (0,0))::schB gs s::H) (λ_:Unit=>[blk gr (.cells #[.bool false] 4 (0,0))])
  (λk _=>∀m j,m<k->(inI s.sch c.1 s.cells.length)[m]? =some j->j<i->YH c (Yn s.sch j)=false) (λe K=>e=.ret/\Jw s.sch i=true/\K=[blk gr (.cells #[.bool true] 4 (0,0))]) () rfl YuP (YjA s c.1 g1 g2 hr6 (by omega) (.tail _ (.head _)) (.head _)) rfl ?_ (by kernel_rfl) (by kernel_rfl) ?_ (λm j h=>absurd h (RL _)) ?_ ?_ ?_
 ·grind [TS,YaH]
 ·exactλw hw=>hw.perm (.trans (.cons _ (.cons _ (.swap _ _ _))) (.trans (.cons _ (.swap _ _ _)) (.swap _ _ _)))
 ·rintro l k args R ⟨⟩ hk hI
  obtain⟨j,hj,hlt,rfl⟩:=YaH hk
  have hlt2:j<s.cells.length:=hlt
  dsimp only[U5,List.cons_append,List.nil_append]
  have hgj:s.cells[j]? =some (Yn s.sch j):=Xg (s:=s.sch) hlt
  have hjs:(Yn s.sch j).1=c.1:=(Qk.1 (Tc hj)).2
  obtain⟨d,hd⟩:∃d,Yn s.sch j=d:=⟨_,rfl⟩
  rw[hd]at hgj
  have htc:YH c d=true↔(c.2.2.1=d.2.2.1\/c.2.2.1=d.2.2.2.1\/c.2.2.2.1=d.2.2.1\/c.2.2.2.1=d.2.2.2.1):=by unfold YH YE toC;rw[Tt]
  refine zX4 ?_
  apply J6 Ys
  intro R'
  unfold intB schB
  have hr7:Rd B w0 (R'::blk gr (.cells #[.bool false] 4 (0,0))::intB g2 c.1::schB g1 s::blk gc (.cells (celF c).toArray 64 (0,0))::blk gi (.cells #[.int .i64 i] 3 (0,0))::schB gs s::H) s.A (s.cells.flatMap celF):=hr6.cons.cons
  unfold intB schB at hr7
  clear hr6
  repeat'(first|refine zgd ?_|(refine zge ?_ ?_<;>intro _<;>try exact zo)|(refine zgh ?_;intro _)|fail)
  all_goals first
   |(refine Yao [blk gr (.cells #[.bool true] 4 (0,0))] ⟨rfl,?_,rfl⟩ ?_
     ·exact YpX (j:=j) (by omega) (by rw[hc];exact hjs) (by rw[hc,hd];exact htc.2 (by omega))
     ·dsimp only[List.cons_append,List.nil_append]
      exact zk
     done)
   |(refine UC () ?_ ?_
     ·intro m j2 hm hj2 hji
      rcases RZ.1 hm with h|h
      ·exact hI m j2 h hj2 hji
      ·subst h
       obtain rfl:=Tv (hj.symm.trans hj2)
       rw[hd]
       exact NG.2 λh=>by have:=htc.1 h;omega
     ·dsimp only[List.cons_append,List.nil_append]
      exact zk
     done)
 ·rintro D ⟨⟩ hI
  have htw:Jw s.sch i=false:=YpW hi λj hj hji=>by
   rw[hc]at hj⊢
   obtain⟨m,hm⟩:=TS.1 hj
   refine hI m j ?_ hm hji
   rw[inXs,TB]
   exact(Tj.1 hm).1
  rw[htw]
  dsimp only[List.cons_append,List.nil_append]
  unfold intB schB
  refine zX2 ?_
  apply Jc Ys
  apply VQ_m
  apply YmH T (H2:=H);exact rfl;exact rfl;(focus exact zc2);exact rfl;exact rfl;(intro w hw;refine hw.perm ?_;focus exact zc3);exact⟨rfl,rfl⟩
 ·rintro D e K ⟨rfl,htw,rfl⟩ hjmp
  rw[htw]
  dsimp only[List.cons_append,List.nil_append]
  unfold intB schB
  refine zX2 ?_
  apply Jc Ys
  apply VQ_m
  apply YmH T (H2:=H);exact rfl;exact rfl;(focus exact zc2);exact rfl;exact rfl;(intro w hw;refine hw.perm ?_;focus exact zc3);exact⟨rfl,rfl⟩
open Go.RowKit Go.Eng Go.Nw Go.Rt
variable {A A2:Option Addr}{cap cap2 B:Nat}{w0 w:World}{H:List HP}
theorem J0(l m:List Int)(hlen:l.length<=1000000000000)(_hlen2:m.length<=1000000000000)(hr:Rd B w0 H A (l.flatMap numF))(hr2:Rd B w0 H A2 (m.flatMap numF))(hw:St B w0 H w):
 CX B w0 89 [.slice A l.length cap,.slice A2 m.length cap2] w λu K=>u=.bool (decide (l=m))/\K=H:=by
 refine Yc Tryz.func89 Tryz.ntmps89 rfl rfl hw ?_
 by_cases hll:l.length=m.length
 rotate_left
 ·exact zc12
 refine zX3 ?_<;>intros
 refine Yg (λ(k:Nat)=>[(5,.int .i64 k),(0,.slice A l.length cap),(1,.slice A2 m.length cap2)]) (λ_=>H) (λk=>k<=l.length/\l.take k=m.take k) (λk=>l.length-k) 0 ⟨Tm _,by simp⟩ ?_ (λw hw=>hw) ?_
 ·exact zc1
 rintro k ⟨hk,hi⟩ K hK
 by_cases hlt:k<l.length
 ·obtain⟨a,ha⟩:∃a,l[k]? =some a:=⟨_,Ta hlt⟩
  obtain⟨b,hb⟩:∃b,m[k]? =some b:=⟨_,Ta (by omega)⟩
  by_cases hab:a=b
  ·refine zX0 ?_<;>intros
   apply hK (k+1)
   ·exact YsK
   ·omega
   ·exact zc1
   exact zc17
  ·refine zX0 ?_<;>intros
   apply Yd;exact rfl;exact rfl
   exact⟨by rw[Ti λe=>by rw[e,hb]at ha;exact hab (Tv ha).symm],rfl⟩
 exact zc31
theorem Ol(l m:List RowM)(hlen:l.length<=1000000000000)(_hlen2:m.length<=1000000000000)(hl2:∀r∈l,r.xs.length<=1000000000000)(hm2:∀r∈m,r.xs.length<=1000000000000)(hr:Rd B w0 H A (l.flatMap rowF))(hr2:Rd B w0 H A2 (m.flatMap rowF))(hrl:∀r∈l,Rd B w0 H r.A (r.xs.flatMap numF))(hrm:∀r∈m,Rd B w0 H r.A (r.xs.flatMap numF))(hw:St B w0 H w):
 CX B w0 65 [.slice A l.length cap,.slice A2 m.length cap2] w λu K=>u=.bool (decide (l.map (·.xs)=m.map (·.xs)))/\K=H:=by
 refine Yc Tryz.func65 Tryz.ntmps65 rfl rfl hw ?_
 by_cases hll:l.length=m.length
 rotate_left
 ·exact zc21
 refine zX3 ?_<;>intros
 refine Yg (λ(k:Nat)=>[(5,.int .i64 k),(0,.slice A l.length cap),(1,.slice A2 m.length cap2)]) (λ_=>H) (λk=>k<=l.length/\(l.take k).map (·.xs)=(m.take k).map (·.xs)) (λk=>l.length-k) 0 ⟨Tm _,by simp⟩ ?_ (λw hw=>hw) ?_
 ·exact zc1
 rintro k ⟨hk,hi⟩ K hK
 by_cases hlt:k<l.length
 ·obtain⟨a,ha⟩:∃a,l[k]? =some a:=⟨_,Ta hlt⟩
  obtain⟨b,hb⟩:∃b,m[k]? =some b:=⟨_,Ta (by omega)⟩
  have ham:=Tc ha
  have hbm:=Tc hb
  have hss:=λ{w:World}(hw:St B w0 H w)=>J0 a.xs b.xs (cap:=a.cap) (cap2:=b.cap) (hl2 a ham) (hm2 b hbm) (hrl a ham) (hrm b hbm) hw
  by_cases hab:a.xs=b.xs
  ·rw[Td hab]at hss
   refine zX73 ?_<;>intros
   apply hK (k+1)
   ·exact zc42
   ·omega
   ·exact zc1
   exact zc17
  ·rw[Ti hab]at hss
   refine zX73 ?_<;>intros
   exact zc26
 exact zc31
def rowQ(r:RowM):HP:=ints r.A r.cap r.xs
structure RqM where
 f:Flw
 A:Option Addr
 cap:Nat
 rows:List RowM
def rqF(x:RqM):List Value:=[.int .i64 x.f.1,.int .i64 x.f.2.1,.int .i64 x.f.2.2.1,.int .i64 x.f.2.2.2.1,.int .i64 x.f.2.2.2.2.1,.int .i64 x.f.2.2.2.2.2,.slice x.A x.rows.length x.cap]
def rqV(x:RqM):Value:=.agg #[.int .i64 x.f.1,.int .i64 x.f.2.1,.int .i64 x.f.2.2.1,.int .i64 x.f.2.2.2.1,.int .i64 x.f.2.2.2.2.1,.int .i64 x.f.2.2.2.2.2,.slice x.A x.rows.length x.cap]
def RqM.rq(x:RqM):Rqs:=(x.f,x.rows.map (·.xs))
abbrev netA(g:Nat)(n:NetM):HP:=blk g (.cells #[.int .i64 n.nodes,.slice n.pA n.rows.length n.pcap,.int .i64 n.noise,.int .i64 n.thr,.slice n.lA n.links.length n.lcap,.slice n.mA n.margin.length n.mcap] 26 (0,0))
abbrev schA(g:Nat)(s:SchM):HP:=blk g (.cells #[.int .i64 s.len,.int .i64 s.off,.slice s.A s.cells.length s.cap] 37 (0,0))
abbrev rqA(g:Nat)(x:RqM):HP:=blk g (.cells #[.int .i64 x.f.1,.int .i64 x.f.2.1,.int .i64 x.f.2.2.1,.int .i64 x.f.2.2.2.1,.int .i64 x.f.2.2.2.2.1,.int .i64 x.f.2.2.2.2.2,.slice x.A x.rows.length x.cap] 86 (0,0))
structure RqM.In(B:Nat)(w0:World)(H:List HP)(x:RqM):Prop where
 rt:Rd B w0 H x.A (x.rows.flatMap rowF)
 rw_:∀r∈x.rows,Rd B w0 H r.A (r.xs.flatMap numF)
 ln:x.rows.length<=1000000000000
 rl:∀r∈x.rows,r.xs.length<=1000000000000/\r.xs.length<=r.cap
variable {B:Nat}{w0:World}{H H':List HP}{x:RqM}
theorem RqM.In.mono(h:x.In B w0 H)(hH:∀w,St B w0 H' w->St B w0 H w):x.In B w0 H':=⟨h.rt.mono hH,λr hr=>(h.rw_ r hr).mono hH,h.ln,h.rl⟩
variable {X:HP}
theorem RqM.In.cons(h:x.In B w0 H):x.In B w0 (X::H):=h.mono λ_ hw=>hw.tail
structure QIn(B:Nat)(w0:World)(H:List HP)(A:Option Addr)(q:List RqM):Prop where
 rd:Rd B w0 H A (q.flatMap rqF)
 x:∀x∈q,x.In B w0 H
 ln:q.length<=1000000000000
variable {A:Option Addr}{q:List RqM}
theorem QIn.mono(h:QIn B w0 H A q)(hH:∀w,St B w0 H' w->St B w0 H w):QIn B w0 H' A q:=⟨h.rd.mono hH,λx hx=>(h.x x hx).mono hH,h.ln⟩
theorem QIn.cons(h:QIn B w0 H A q):QIn B w0 (X::H) A q:=h.mono λ_ hw=>hw.tail
structure ClM where
 flow:Int
 rA:Option Addr
 rcap:Nat
 rs:List RowM
 bA:Option Addr
 bcap:Nat
 bs:List Int
 wA:Option Addr
 wcap:Nat
 ws:List Int
 sA:Option Addr
 scap:Nat
 ss:List RowM
def clF(c:ClM):List Value:=[.int .i64 c.flow,.slice c.rA c.rs.length c.rcap,.slice c.bA c.bs.length c.bcap,.slice c.wA c.ws.length c.wcap,.slice c.sA c.ss.length c.scap]
def clV(c:ClM):Value:=.agg #[.int .i64 c.flow,.slice c.rA c.rs.length c.rcap,.slice c.bA c.bs.length c.bcap,.slice c.wA c.ws.length c.wcap,.slice c.sA c.ss.length c.scap]
def ClM.clm(c:ClM):Clm:=⟨c.flow,c.rs.map (·.xs),c.bs,c.ws,c.ss.map (·.xs)⟩
structure ClM.In(B:Nat)(w0:World)(H:List HP)(c:ClM):Prop where
 rt:Rd B w0 H c.rA (c.rs.flatMap rowF)
 rw_:∀r∈c.rs,Rd B w0 H r.A (r.xs.flatMap numF)
 bd:Rd B w0 H c.bA (c.bs.flatMap numF)
 ws:Rd B w0 H c.wA (c.ws.flatMap numF)
 st:Rd B w0 H c.sA (c.ss.flatMap rowF)
 sw:∀r∈c.ss,Rd B w0 H r.A (r.xs.flatMap numF)
 ln:c.rs.length<=1000000000000/\c.bs.length<=1000000000000/\c.ws.length<=1000000000000/\c.ss.length<=1000000000000
 rl:∀r∈c.rs,r.xs.length<=1000000000000
 sl:∀r∈c.ss,r.xs.length<=1000000000000
variable {c:ClM}
theorem ClM.In.mono(h:c.In B w0 H)(hH:∀w,St B w0 H' w->St B w0 H w):c.In B w0 H':=
 ⟨h.rt.mono hH,λr hr=>(h.rw_ r hr).mono hH,h.bd.mono hH,h.ws.mono hH,h.st.mono hH,λr hr=>(h.sw r hr).mono hH,h.ln,h.rl,h.sl⟩
theorem ClM.In.cons(h:c.In B w0 H):c.In B w0 (X::H):=h.mono λ_ hw=>hw.tail
structure CIn(B:Nat)(w0:World)(H:List HP)(A:Option Addr)(c:List ClM):Prop where
 rd:Rd B w0 H A (c.flatMap clF)
 x:∀x∈c,x.In B w0 H
 ln:c.length<=1000000000000
theorem CIn.mono{c:List ClM}(h:CIn B w0 H A c)(hH:∀w,St B w0 H' w->St B w0 H w):CIn B w0 H' A c:=⟨h.rd.mono hH,λx hx=>(h.x x hx).mono hH,h.ln⟩
theorem CIn.cons{c:List ClM}(h:CIn B w0 H A c):CIn B w0 (X::H) A c:=h.mono λ_ hw=>hw.tail
def clP(c:ClM):List HP:=[sl 93 1 c.rA c.rs.length c.rcap (c.rs.flatMap rowF),many (c.rs.map rowQ),nrs c.bA c.bcap c.bs,nrs c.wA c.wcap c.ws,sl 24 1 c.sA c.ss.length c.scap (c.ss.flatMap rowF),many (c.ss.map rowQ)]
def clQ(c:ClM):HP:=many (clP c)
def nilC(f:Int):ClM:=⟨f,none,0,[],none,0,[],none,0,[],none,0,[]⟩
theorem Ywr(hm:clQ c∈H)(hl:(c.rs.length<=1000000000000/\c.bs.length<=1000000000000/\c.ws.length<=1000000000000/\c.ss.length<=1000000000000)/\(∀r∈c.rs,r.xs.length<=1000000000000)/\∀r∈c.ss,r.xs.length<=1000000000000):c.In B w0 H:=by
 have hb:∀w,St B w0 H w->St B w0 (clP c) w:=λw hw=>hw.inM hm
 refine ClM.In.mono (H:=clP c) ?_ hb
 unfold clP
 refine⟨.sl (.head _),λr hr=>?_,.sl (.tail _ (.tail _ (.head _))),.sl (.tail _ (.tail _ (.tail _ (.head _)))),.sl (.tail _ (.tail _ (.tail _ (.tail _ (.head _))))),λr hr=>?_,hl.1,hl.2.1,hl.2.2⟩
 ·exact Rd.many (L:=c.rs.map rowQ) (.tail _ (.head _)) (Sr hr)
 ·exact Rd.many (L:=c.ss.map rowQ) (.tail _ (.tail _ (.tail _ (.tail _ (.tail _ (.head _)))))) (Sr hr)
theorem YjY{w:World}(f:Int)(h:St B w0 H w):St B w0 (clQ (nilC f)::H) w:=by
 unfold clQ clP nilC
 dsimp only[List.flatMap_nil,List.map_nil,List.length_nil]
 have h1:=(h.perm (.noMany H)).nilSlice 24 1
 have h2:=(((h1.nilSlice 3 1).nilSlice 3 1).perm (.noMany _)).nilSlice 93 1
 exact h2.perm (.close [_,_,_,_,_,_] H)
variable {B cap m:Nat}{w0 w:World}{H:List HP}
theorem QT(n:NetM)(v:Int)(hw:St B w0 H w):
 CX B w0 268 [n.val,.int .i64 v] w λu K=>u=.bool (insE v n.net.nodes)/\K=H:=by
 have e1:n.net.nodes=n.nodes:=rfl
 refine Yc Tryz.func268 Tryz.ntmps268 rfl rfl hw ?_
 repeat'(first|refine zgd ?_|(refine zgf ?_ ?_<;>intro _<;>try exact zo)|(refine zgh ?_;intro _)|fail)
 all_goals(
  apply Yi H
  ·exact zk
  apply Yd;exact rfl;exact rfl
  first
   |exact⟨by rw[show insE v n.net.nodes=true from Td (by omega)],rfl⟩
   |exact⟨by rw[show insE v n.net.nodes=false from Ti (by omega)],rfl⟩)
theorem Yle(n:NetM)(c:Cel)(gn:Nat)(hm:blk gn (.cells #[.int .i64 n.nodes,.slice n.pA n.rows.length n.pcap,.int .i64 n.noise,.int .i64 n.thr,.slice n.lA n.links.length n.lcap,.slice n.mA n.margin.length n.mcap] 26 (0,0))∈H)(hw:St B w0 H w):
 CX B w0 267 [celV c,.pointer (some ⟨gn,0,none⟩)] w λv K=>v=.bool (UZ n.net c)/\K=H:=by
 refine Yc Tryz.func267 Tryz.ntmps267 rfl rfl hw ?_
 obtain⟨b,hb⟩:∃b,UZ n.net c=b:=⟨_,rfl⟩
 rw[hb]
 unfold UZ YE toC at hb
 repeat'(first|((first|apply Y9 Yf5|apply Y8 Yf5);exact za;exact rfl;exactλ_ hw=>(QT n _ hw);all_goals(intro hB;(try simp only[Tt,TP]at hB);try exact zo))|refine zgd ?_|(refine zgh ?_;intro _)|fail)
 all_goals(
  apply Yi H
  ·exact zk
  apply Yd;exact rfl;exact rfl
  refine⟨?_,rfl⟩
  rw[<-hb]
  simp[*])
variable {A:Option Addr}
theorem Uj(p:Cel->Bool)(l:List Cel)(f:Nat)(cs:List Value)(hen:∀xs w,(callFunc f xs).run Tryz.prog w=.ok (.enter f xs) w)(hlen:l.length<=1000)(hr:Rd B w0 H A (l.flatMap celF))
 (hp:∀a∈l,∀w,St B w0 H w->Calls Tryz.prog f ([celV a]++cs).toArray w (Post B w0 λv K=>v=.bool (p a)/\K=H)) (hw:St B w0 H w):
 CX B w0 32 [.slice A l.length cap,.func (.func f) #[] cs.toArray] w λv K=>v=.bool (l.any p)/\K=H:=by
 refine Yc Tryz.func32 Tryz.ntmps32 rfl rfl hw ?_
 rw[<-YdX]
 refine zX4 ?_
 first|apply Ya YfY|apply Yb YfY
 exact za
 exact rfl
 exactλ_ hw=>(YdY p l f cs hen hlen hr hp hw)
 by_cases h0:0<=Ym p l 0
 ·exact zc18
 ·exact zc18
def Oj(n:Net)(c:Cel)(node:Int)(m:Nat):Int:=(([c.2.2.1,c.2.2.2.1].take m).map λe=>powN n e node).sum
variable {n:Net}
theorem Ypv{c:Cel}{node e:Int}(h:[c.2.2.1,c.2.2.2.1][m]? =some e):Oj n c node (m+1)=Oj n c node m+powN n e node:=by
 grind [Oj,TN]
theorem Yt4(hok:Ok n)(c:Cel)(node:Int)(h:m<=2):0<=Oj n c node m/\Oj n c node m<=137438953472:=by
 have h1:=WX hok c.2.2.1 node
 have h2:=WX hok c.2.2.2.1 node
 match m,h with
 |0,_=>simp[Oj]
 |1,_=>grind [Oj]
 |2,_=>simp[Oj];omega
theorem YdB(n:NetM)(l:List Cel)(j:Nat)(node:Int)(hok:Ok n.net)(hnode:0<=node/\node<n.nodes)(hlen:l.length<=1000)(hin:n.In B w0 H)(hr:Rd B w0 H A (l.flatMap celF))(hw:St B w0 H w):
 CX B w0 269 [n.val,.slice A l.length cap,.int .i64 j,.int .i64 node] w λv K=>v=.int .i64 (YB n.net l j node l.length)/\K=H:=by
 refine Yc Tryz.func269 Tryz.ntmps269 rfl rfl hw ?_
 have e1:n.net.nodes=n.nodes:=rfl
 refine zX70 ?_<;>intros
 rename_i gn
 refine Yg (λ(k:Nat)=>[(16,.int .i64 k),(15,.int .i64 l.length),(14,.slice A l.length cap),(9,.int .i64 (YB n.net l j node k)),(4,.pointer (some ⟨gn,0,none⟩)),(2,.int .i64 j),(3,.int .i64 node)]) (λ_=>netN gn n::H) (λk=>k<=l.length) (λk=>l.length-k) 0 (Tm _) ?_ (λw hw=>hw) ?_
 ·exact zc1
 rintro k hk K hK
 have hbd:=Yhq hok l j node k
 have hrc:=hr.cons (X:=netN gn n)
 by_cases hlt:k<l.length
 ·obtain⟨c,hc⟩:∃c,l[k]? =some c:=⟨_,Ta hlt⟩
  have hcl:celL l k=c:=by unfold celL;rw[Tu,hc];rfl
  have hst:YB n.net l j node (k+1)=YB n.net l j node k+if k=j then 0 else powN n.net c.2.2.1 node+powN n.net c.2.2.2.1 node:=by
   rw[YB,hcl];rfl
  by_cases hkj:k=j
  ·rw[Tn hkj,Md]at hst
   refine zX48 ?_<;>intros
   apply hK (k+1)
   ·show k+1<=_
    omega
   ·omega
   ·rw[hst]
    exact zc1
   ·exact zc0
  rw[Tf hkj]at hst
  refine zX48 ?_<;>intros
  rename_i gc _ ge
  refine Yg (λ(m:Nat)=>[(30,.int .i64 m),(29,.int .i64 ((2:Nat):Int)),(28,.slice (some ⟨ge,0,none⟩) ([c.2.2.1,c.2.2.2.1]:List Int).length 2),(9,.int .i64 (YB n.net l j node k+Oj n.net c node m)),(16,.int .i64 k),(15,.int .i64 l.length),(14,.slice A l.length cap),(4,.pointer (some ⟨gn,0,none⟩)),(2,.int .i64 j),(3,.int .i64 node)]) (λ_=>blk ge (.cells #[.int .i64 c.2.2.1,.int .i64 c.2.2.2.1] 3 (0,0))::netN gn n::H) (λm=>m<=2) (λm=>2-m) 0 (Tm _) ?_ ?_ ?_
  ·rw[show Oj n.net c node 0=0 from rfl,Md]
   exact zc1
  ·exact zc0
  rintro m hm K2 hK2
  have hpb:=Yt4 hok c node hm
  have hre:Rd B w0 (blk ge (.cells #[.int .i64 c.2.2.1,.int .i64 c.2.2.2.1] 3 (0,0))::netN gn n::H) (some ⟨ge,0,none⟩) (([c.2.2.1,c.2.2.2.1]:List Int).flatMap numF):=Rd.blk (cs:=#[.int .i64 c.2.2.1,.int .i64 c.2.2.2.1]) (.head _)
  clear hrc
  unfold netN at hre⊢
  by_cases hlt2:m<2
  ·obtain⟨e,he⟩:∃e,[c.2.2.1,c.2.2.2.1][m]? =some e:=⟨_,Ta hlt2⟩
   have hst2:=Ypv (n:=n.net) (node:=node) he
   have hcn:=λ{H':List HP}{w:World}(hw:St B w0 H' w)=>QT n e hw
   have hl2:([c.2.2.1,c.2.2.2.1]:List Int).length=2:=rfl
   cases hie:insE e n.net.nodes with
   |false=>
    rw[hie]at hcn
    rw[show powN n.net e node=0 by unfold powN;rw[hie];simp,Md]at hst2
    refine zX83 ?_<;>intros
    apply hK2 (m+1)
    ·show m+1<=2
     omega
    ·omega
    ·rw[hst2]
     exact zc1
    ·unfold netN
     exact zc0
   |true=>
    rw[hie]at hcn
    have he2:0<=e/\e<n.net.nodes:=Rj hie
    have hp0:(n.rows.length:Int)=n.net.nodes:=by
     have:=hok.p0
     rwa [show n.net.power=n.rows.map RowM.xs from rfl,TB]at this
    obtain⟨r,hrw⟩:∃r,n.rows[e.toNat]? =some r:=⟨_,Ta (by omega)⟩
    have hrm:=Tc hrw
    have hrl:(r.xs.length:Int)=n.net.nodes:=hok.p1 r.xs (TC.2 ⟨r,hrm,rfl⟩)
    obtain⟨q,hq⟩:∃q,r.xs[node.toNat]? =some q:=⟨_,Ta (by omega)⟩
    have hpw:powN n.net e node=q:=by
     unfold powN
     rw[Tn ⟨hie,Td (by omega)⟩]
     exact Yel (n:=n.net) (r:=r.xs) (by simp[NetM.net,hrw]) hq
    have hqb:=WX hok e node
    rw[hpw]at hqb hst2
    have hpd:=hin.pw
    have hrd:=hin.rw_ r hrm
    have hs1:=hin.s1
    have hs2:=hin.s2 r hrm
    refine zX83 ?_<;>intros
    apply hK2 (m+1)
    ·show m+1<=2
     omega
    ·omega
    ·rw[hst2]
     exact zc1
    ·unfold netN
     exact zc0
  ·obtain rfl:m=2:=by omega
   have hp2:YB n.net l j node (k+1)=YB n.net l j node k+Oj n.net c node 2:=by
    rw[hst]
    simp[Oj]
   refine zX1 ?_<;>intros
   apply hK (k+1)
   ·show k+1<=_
    omega
   ·omega
   ·rw[hp2]
    exact zc1
   ·unfold netN
    exact zc0
 ·refine zX1 ?_<;>intros
  apply Yi H
  ·exact zc0
  apply Yd;exact rfl;exact rfl
  rw[show k=l.length by omega]
  exact⟨rfl,rfl⟩
theorem Wo(n:NetM)(l:List Cel)(j:Nat)(node:Int)(hck:Yo n.net=0)(hnode:0<=node/\node<n.nodes)(hj:j<l.length)(hlen:l.length<=1000)(hno:l.any (UZ n.net)=false)(hin:n.In B w0 H)(hr:Rd B w0 H A (l.flatMap celF))(hw:St B w0 H w):
 CX B w0 191 [n.val,.slice A l.length cap,.int .i64 j,.int .i64 node] w λv K=>v=.int .i64 (Wn n.net l j node)/\K=H:=by
 refine Yc Tryz.func191 Tryz.ntmps191 rfl rfl hw ?_
 have e1:n.net.nodes=n.nodes:=rfl
 have hins:insE node n.net.nodes=true:=Td hnode
 have hd:Wn n.net l j node=YB n.net l j node l.length:=by
  unfold Wn
  rw[Tf (by rw[hck,hins,hno];simp;omega),RU]
 rw[hd]
 have hchk:=λ{H':List HP}{w:World}(hin:n.In B w0 H') (hw:St B w0 H' w)=>Xb n hin hw
 rw[hck]at hchk
 have hcn:=λ{H':List HP}{w:World}(hw:St B w0 H' w)=>QT n node hw
 rw[hins]at hcn
 (apply YY;apply Yx;apply Yr;exact rfl;exact rfl;intro g)
 have hct:=λ{H':List HP}{w:World}(hm:blk g (.cells #[.int .i64 n.nodes,.slice n.pA n.rows.length n.pcap,.int .i64 n.noise,.int .i64 n.thr,.slice n.lA n.links.length n.lcap,.slice n.mA n.margin.length n.mcap] 26 (0,0))∈H') (hr:Rd B w0 H' A (l.flatMap celF)) (hw:St B w0 H' w)=>Uj (UZ n.net) l 267 [.pointer (some ⟨g,0,none⟩)] Yxv hlen (cap:=cap) hr (λc _ w hw=>Yle n c g hm hw) hw
 rw[hno]at hct
 repeat'(first|((first|apply Ya en82|apply Yb en82);exact za;exact rfl;exactλ_ hw=>(hchk hin.cons hw))|((first|apply Ya Yf5|apply Yb Yf5);exact za;exact rfl;exactλ_ hw=>(hcn hw))|((first|apply Ya en32|apply Yb en32);exact za;exact rfl;exactλ_ hw=>(hct zm hr.cons hw))|((first|apply Ya Ynj|apply Yb Ynj);exact za;exact rfl;exactλ_ hw=>(YdB n l j node (YC hck) hnode hlen hin.cons hr.cons hw))|(apply zg29;(apply Yw;exact za;exact rfl))|refine zgd ?_|(refine zgf ?_ ?_<;>intro _<;>try exact zo)|fail)
 apply Yi H
 ·exact zc0
 exact zc4
def relE(x:WayM)(a:Int):Int×List Int×Bool:=match Vk x.n.net x.s.sch x.f x.r a with
 |none=>(0,[],false)
 |some l=>(JE l-a+1,l.map (λz=>z-a),true)
theorem YbK(x:WayM)(a:Int):Vk x.n.net x.s.sch x.f x.r a=if(runW x a).length<XD (Yp x.n.net x.r)then none else some ((runW x a).map Prod.snd):=YcT _ _ _ _ _
variable {B:Nat}{w0 w:World}{H:List HP}
theorem YbW(x:WayM)(a:Int)(hw:St B w0 H w):
 CX B w0 249 [x.val,.int .i64 a] w λv K=>∃ga gw,v=.func (.func 325) #[] #[.pointer (some ⟨ga,0,none⟩),.pointer (some ⟨gw,0,none⟩)]/\K=intB ga a::wayB gw x::H:=by
 refine Yc Tryz.func249 Tryz.ntmps249 rfl rfl hw ?_
 unfold WayM.val intB
 repeat'(first|(first|(refine zs52 ?_;intro _)|(refine zs53 ?_;intro _))|((apply Yw;exact za;exact rfl))|refine zga ?_|fail)
 exact YnZ
structure NlM where
 A:Option Addr
 cap:Nat
 l:List Int
variable {x:WayM}
theorem YjW(hok:Oa x):1<=XD (Yp x.n.net x.r):=by
 have hl:=hok.len
 have h0:=Q5 (n:=x.n.net) (r:=x.r) (i:=0) (by omega)
 have hbd:=YaL hok h0
 have hne:(Yp x.n.net x.r)=Z4 x.n.net x.r 0::(Yp x.n.net x.r).tail:=by
  cases h:Yp x.n.net x.r with
  |nil=>simp_all
  |cons a t=>simp_all
 grind [XD,Y7]
theorem YhU(x:WayM)(at0:Int)(hok:Oa x)(hat:0<=at0/\at0<=1000000)(hi:x.In B w0 H)(hw:St B w0 H w):
 CX B w0 385 [x.val,.int .i64 at0] w λv K=>∃A cap,v=.tuple #[.int .i64 (relE x at0).1,.slice A (relE x at0).2.1.length cap,.bool (relE x at0).2.2]/\K=nrs A cap (relE x at0).2.1::H:=by
 refine Zr Tryz.func385 Tryz.ntmps385 rfl rfl hw ?_
 have hper:=hok.per
 have hl9:=hok.len
 have hnp:=YjW hok
 have hnl:XD (Yp x.n.net x.r)<=72:=by
  have h1:=YcN hok (Yp x.n.net x.r).length
  rw[TV,WS]at h1
  omega
 have hRE:relE x at0=if(runW x at0).length<XD (Yp x.n.net x.r)then(0,[],false)else(JE ((runW x at0).map Prod.snd)-at0+1,((runW x at0).map Prod.snd).map (λz=>z-at0),true):=by
  unfold relE
  rw[YbK]
  by_cases h:(runW x at0).length<XD (Yp x.n.net x.r)
  ·rw[Tn h,Tn h]
  ·rw[Tf h,Tf h]
 have hWl:(runW x at0).length<=XD (Yp x.n.net x.r):=Ya0 _ _ _ _ _
 have hWs:∀z∈runW x at0,at0<=z.2/\z.2<at0+x.f.2.2.2.1:=λz hz=>Yh3 (by omega) hz
 have hiter:=λ{ga gw:Nat}{H':List HP}(hi:x.In B w0 H')=>Yaz x at0 hok hat ga gw hi
 have hxs:Yi2 x at0=(runW x at0).map cntV:=rfl
 rw[hxs]at hiter
 obtain⟨W,hW⟩:∃W,runW x at0=W:=⟨_,rfl⟩
 obtain⟨nd,hnd⟩:∃nd,XD (Yp x.n.net x.r)=nd:=⟨_,rfl⟩
 have hned:=λ{H':List HP}{w:World}(hi:x.In B w0 H') (hw:St B w0 H' w)=>YjX x hok hi hw
 rw[hW,hnd]at hRE hWl
 rw[hW]at hWs hiter
 rw[hnd]at hnp hnl hned
 rw[hRE]
 unfold WayM.val
 unfold intB at hiter
 repeat'(first|(apply zg23;first|(refine zs52 ?_;intro _)|(refine zs53 ?_;intro _))|refine zgb ?_|(refine zgh ?_;intro _)|fail)
 rename_i g2 g3 gO
 apply Ye _ YuM
 exact za
 exact rfl
 exactλ_ hw=>(YbW x at0 (hw))
 rintro _ _ ⟨ga,gw,rfl,rfl⟩
 unfold intB
 repeat'(first|refine zgb ?_|fail)
 refine Jy 3 1 ?_
 refine Zs (gf:=325) (lb:=[.pointer (some ⟨ga,0,none⟩),.pointer (some ⟨gw,0,none⟩)]) (xs:=W.map cntV) (blk ga (.cells #[.int .i64 at0] 3 (0,0))::wayB gw x::blk g3 (.cells #[.int .i64 at0] 3 (0,0))::wayB g2 x::H) (λy:NlM=>[blk gO (.cells #[.slice y.A y.l.length y.cap] 24 (0,0)),nrs y.A y.cap y.l]) (λi y=>y.l=(W.take i).map (λz=>z.2-at0)) (λ_ _=>False) ⟨none,0,[]⟩ rfl YuZ (hiter hi.cons.cons) rfl ?_ (by kernel_rfl) (by kernel_rfl) ?_ rfl ?_ ?_ (λ_ _ _ h=>h.elim)
 ·exact YvX
 ·simp only[TD,TK,Ry]
  intro w hw
  have h1:St B w0 (nrs none 0 []::blk ga (.cells #[.int .i64 at0] 3 (0,0))::wayB gw x::blk gO (.cells #[.slice none 0 0] 24 (0,0))::blk g3 (.cells #[.int .i64 at0] 3 (0,0))::wayB g2 x::H) w:=hw
  clear hw
  revert w
  exact zc0
 ·rintro l k args R ⟨A,cap,xs⟩ hk hI
  rw[TR]at hk
  obtain⟨⟨d,sl⟩,hz,rfl⟩:∃z,W[k]? =some z/\args=cntV z:=by
   cases h:W[k]? with
   |none=>rw[h]at hk;cases hk
   |some z=>exact YvY
  have hzb:=hWs _ (Tc hz)
  have hI:xs=(W.take k).map (λz=>z.2-at0):=hI
  have hxl:xs.length<=72:=by
   rw[hI,TB,TT];omega
  dsimp only at hzb
  dsimp only[U5,cntV,List.cons_append,List.nil_append]
  repeat'(first|refine zga ?_|fail)
  apply J6 Ys
  intro R'
  repeat'(first|refine zgd ?_|(refine zgh ?_;intro _)|(refine zgi ?_;intro _ _)|fail)
  rename_i A' cap'
  apply UC (NlM.mk A' cap' (xs++[sl-at0]))
  ·show xs++[sl-at0]=_
   rw[TN,hz,SL,Rb,hI];rfl
  ·dsimp only[List.cons_append,List.nil_append]
   rw[Yed,show xs.length+1=(xs++[sl-at0]).length by simp]
   exact zc0
 ·rintro D ⟨A,cap,xs⟩ hI
  have hI:xs=(W.take (W.map cntV).length).map (λz=>z.2-at0):=hI
  rw[TB,TV]at hI
  have hxl:xs.length=W.length:=by rw[hI,TB]
  dsimp only[List.cons_append,List.nil_append]
  have hll:((W.map Prod.snd).map (λz=>z-at0))=xs:=by rw[hI,NX];rfl
  by_cases hlt:W.length<nd
  ·rw[Tn hlt]
   repeat'(first|refine zgc ?_|fail)
   apply XA [0,1,2,3,4] []
   kernel_rfl
   kernel_rfl
   (simp only[Yh,nthO];rfl)
   exact rfl
   repeat'(first|refine zgd ?_|fail)
   first|apply Ya Yno|apply Yb Yno
   exact za
   exact rfl
   exactλ_ hw=>(hned (hi.mono zc0) hw)
   repeat'(first|(apply Yl;(repeat(first|with_reducible exact YW|(with_reducible apply YL;(repeat(first|with_reducible exact Ys|with_reducible apply YA))))))|refine zga ?_|fail)
   ·show Perm H (H++[])
    exact zc29
   repeat'(first|refine zgd ?_|(refine zge ?_ ?_<;>intro _<;>try exact zo)|fail)
   apply Jc Ys
   apply VQ_m
   apply Yi (nrs none 0 []::H)
   ·intro w hw
    have h5:St B w0 H w:=by
     revert w
     exact zc0
    exact h5.nilSlice _ _
   apply VW;(iterate 4 exact rfl)
   exact⟨none,0,rfl,rfl⟩
  ·rw[Tf hlt,hll]
   obtain⟨z,hz⟩:∃z,W[W.length-1]? =some z:=⟨_,Ta (by omega)⟩
   have hzb:=hWs _ (Tc hz)
   have hx1:xs[((xs.length:Int)-1).toNat]? =some (z.2-at0):=by
    rw[show((xs.length:Int)-1).toNat=W.length-1 by omega,hI,TR,hz];rfl
   have hla:JE (W.map Prod.snd)=z.2:=by
    unfold JE
    rw[TB,Tu,TR,hz];rfl
   rw[hla]
   repeat'(first|refine zgc ?_|fail)
   apply XA [0,1,2,3,4] []
   kernel_rfl
   kernel_rfl
   (simp only[Yh,nthO];rfl)
   exact rfl
   repeat'(first|refine zgd ?_|fail)
   first|apply Ya Yno|apply Yb Yno
   exact za
   exact rfl
   exactλ_ hw=>(hned (hi.mono zc0) hw)
   repeat'(first|(apply Yl;(repeat(first|with_reducible exact YW|(with_reducible apply YL;(repeat(first|with_reducible exact Ys|with_reducible apply YA))))))|refine zga ?_|fail)
   ·show Perm H (H++[])
    exact zc29
   repeat'(first|refine zgd ?_|(refine zge ?_ ?_<;>intro _<;>try exact zo)|fail)
   apply Jc Ys
   apply VQ_m
   apply Yi (nrs A cap xs::H)
   ·exact zc0
   apply VW;(iterate 4 exact rfl)
   exact⟨A,cap,rfl,rfl⟩
def YcJ(R:Option (Int×Int×List Int)):Int×Int×List Int×Bool:=match R with
 |none=>(0,0,[],false)
 |some b=>(b.1,b.2.1,b.2.2,true)
def Oy(x:WayM):Int×Int×List Int×Bool:=YcJ (VG x.n.net x.s.sch x.f x.r)
theorem Ysj(hok:Oa x){a:Int}{l:List Int}(h:Vk x.n.net x.s.sch x.f x.r a=some l):1<=l.length/\a<=JE l/\JE l<a+x.f.2.2.2.1:=by
 have hper:=hok.per
 have hnp:=YjW hok
 rw[YbK]at h
 split at h
 ·cases h
 obtain rfl:=Tv h
 rw[TB]
 obtain⟨z,hz⟩:∃z,(runW x a)[(runW x a).length-1]? =some z:=⟨_,Ta (by omega)⟩
 have hzb:=Yh3 (by omega) (Tc hz)
 have hla:JE ((runW x a).map Prod.snd)=z.2:=by
  grind [JE]
 omega
structure BdM where
 k:Nat
 rel:Int
 b:Int×Int×List Int
 A:Option Addr
 cap:Nat
theorem Yk2(x:WayM)(hok:Oa x)(hi:x.In B w0 H)(hw:St B w0 H w):
 CX B w0 324 [x.val] w λv K=>∃A cap,v=.tuple #[.int .i64 (Oy x).1,.int .i64 (Oy x).2.1,.slice A (Oy x).2.2.1.length cap,.bool (Oy x).2.2.2]/\K=nrs A cap (Oy x).2.2.1::H:=by
 refine Yc Tryz.func324 Tryz.ntmps324 rfl rfl hw ?_
 have hper:=hok.per
 have hph:=hok.ph
 have hsl:=hok.slen
 obtain⟨R,hR⟩:∃R,VG x.n.net x.s.sch x.f x.r=R:=⟨_,rfl⟩
 have hO:Oy x=YcJ R:=by unfold Oy;rw[hR]
 rw[hO]
 unfold VG at hR
 rw[show x.s.sch.len=x.s.len from rfl]at hR
 obtain⟨S,hS⟩:∃S,Vk x.n.net x.s.sch x.f x.r=S:=⟨_,rfl⟩
 rw[hS]at hR
 have hrl:=λ{H':List HP}{w:World}(a:Int) (ha:0<=a/\a<=1000000) (hi:x.In B w0 H') (hw:St B w0 H' w)=>YhU x a hok ha hi hw
 unfold WayM.val
 repeat'(first|refine zgb ?_|(refine zgh ?_;intro _)|fail)
 rename_i g
 refine Jy 3 1 ?_
 refine Yg (λz:BdM=>[(9,.int .i64 z.rel),(8,.slice z.A z.b.2.2.length z.cap),(7,.int .i64 z.b.2.1),(6,.int .i64 z.b.1),(1,.pointer (some ⟨g,0,none⟩))]) (λz=>nrs z.A z.cap z.b.2.2::wayB g x::H)
  (λz=>Wg S x.s.len x.f.2.2.2.1 z.k z.rel z.b=R/\x.s.len-z.rel<=z.k/\0<=z.rel/\z.rel<=2000/\0<=z.b.1/\z.b.1<=2000) (λz=>z.k) ⟨x.s.len.toNat,x.f.2.2.2.2.1,(0,0,[]),none,0⟩ ⟨hR,by show x.s.len-x.f.2.2.2.2.1<=((x.s.len.toNat:Nat):Int);omega,hph.1,by show x.f.2.2.2.2.1<=2000;omega,R7 _,by show(0:Int)<=2000;decide⟩ ?_ (λw hw=>hw) ?_
 ·exact zc1
 rintro⟨k,rel,⟨b1,b2,bl⟩,A,cap⟩ ⟨hb,hk,h0,h1,hb0,hb1⟩ K hK
 dsimp only at hb hk h0 h1 hb0 hb1⊢
 by_cases hge:x.s.len<=rel
 ·have hRe:R=some (b1,b2,bl):=by
   rw[<-hb]
   cases k with
   |zero=>rfl
   |succ k=>unfold Wg;rw[Tn hge]
  rw[hRe]
  clear hK
  repeat'(first|refine zgc ?_|(refine zge ?_ ?_<;>intro _<;>try exact zo)|fail)
  apply Yi (nrs A cap bl::H)
  ·exact zc0
  apply Yhd;(iterate 5 exact rfl)
  exact⟨A,cap,rfl,rfl⟩
 obtain⟨k,rfl⟩:∃k',k=k'+1:=⟨k-1,by omega⟩
 unfold Wg at hb
 rw[Tf hge]at hb
 have hrr:=λ{H':List HP}{w:World}(hi:x.In B w0 H') (hw:St B w0 H' w)=>hrl rel (by omega) hi hw
 unfold relE at hrr
 rw[hS]at hrr
 cases hSr:S rel with
 |none=>
  rw[hSr]at hb hrr
  dsimp only at hb hrr
  rw[<-hb]
  clear hK
  repeat'(first|refine zgb ?_|(refine zge ?_ ?_<;>intro _<;>try exact zo)|fail)
  apply Ye _ Yu8
  exact za
  exact rfl
  exactλ_ hw=>(hrr (hi.mono zc0) (hw))
  rintro _ _ ⟨A2,cap2,rfl,rfl⟩
  repeat'(first|refine zgd ?_|fail)
  apply Yi (nrs none 0 []::H)
  ·intro w hw
   have h5:St B w0 H w:=by
    revert w
    exact zc0
   exact h5.nilSlice _ _
  exact zc58
 |some l=>
  rw[hSr]at hb hrr
  dsimp only at hb hrr
  have hlb:0<=JE l-rel+1/\JE l-rel+1<=513:=by
   have:=Ysj hok (a:=rel) (l:=l) (by rw[hS];exact hSr)
   omega
  obtain⟨m,hm⟩:∃m,JE l-rel+1=m:=⟨_,rfl⟩
  rw[hm]at hb hrr hlb
  repeat'(first|refine zgb ?_|(refine zge ?_ ?_<;>intro _<;>try exact zo)|fail)
  apply Ye _ Yu8
  exact za
  exact rfl
  exactλ_ hw=>(hrr (hi.mono zc0) (hw))
  rintro _ _ ⟨A2,cap2,rfl,rfl⟩
  by_cases hgt:b1<m
  ·rw[Tn hgt]at hb
   repeat'(first|refine zgd ?_|(refine zgf ?_ ?_<;>intro _<;>try exact zo)|fail)
   apply hK ⟨k,rel+x.f.2.2.2.1,(m,rel,l.map λz=>z-rel),A2,cap2⟩
   ·exact⟨hb,by exact YvV,by show 0<=rel+x.f.2.2.2.1;omega,by show rel+x.f.2.2.2.1<=2000;omega,hlb.1,by show m<=2000;omega⟩
   ·exact zc39
   ·exact zc1
   ·exact zc0
  ·rw[Tf hgt]at hb
   repeat'(first|refine zgd ?_|(refine zgf ?_ ?_<;>intro _<;>try exact zo)|fail)
   apply hK ⟨k,rel+x.f.2.2.2.1,(b1,b2,bl),A,cap⟩
   ·exact⟨hb,by exact YvV,by show 0<=rel+x.f.2.2.2.1;omega,by show rel+x.f.2.2.2.1<=2000;omega,hb0,hb1⟩
   ·exact zc39
   ·exact zc1
   ·exact zc0
abbrev flws(A:Option Addr)(cap:Nat)(l:List Flw):HP:=sl 53 6 A l.length cap (l.flatMap flwF)
theorem Qi(A:Option Addr)(cap:Nat)(l:List Flw)(f:Flw):sl 53 6 A (l.length+1) cap (l.flatMap flwF++#[.int .i64 f.1,.int .i64 f.2.1,.int .i64 f.2.2.1,.int .i64 f.2.2.2.1,.int .i64 f.2.2.2.2.1,.int .i64 f.2.2.2.2.2].toList)=flws A cap (l++[f]):=by simp_all [flws,flwF]
structure FlM where
 i:Nat
 A:Option Addr
 cap:Nat
def RqM.fl(q:List RqM):List Flw:=q.map (·.f)
variable {A:Option Addr}{cap B:Nat}{w0 w:World}{H:List HP}
theorem YbU(q:List RqM)(hl:q.length<=1000000000000)(hr:Rd B w0 H A (q.flatMap rqF))(hw:St B w0 H w):
 CX B w0 176 [.slice A q.length cap] w λv K=>∃A2 cap2,v=.slice A2 (RqM.fl q).length cap2/\K=flws A2 cap2 (RqM.fl q)::H:=by
 refine Yc Tryz.func176 Tryz.ntmps176 rfl rfl hw ?_
 repeat'(first|refine zgb ?_|fail)
 refine Jy 53 6 ?_
 refine Yg (λz:FlM=>[(8,.int .i64 (z.i:Nat)),(7,.int .i64 q.length),(6,.slice A q.length cap),(3,.slice z.A (RqM.fl (q.take z.i)).length z.cap)]) (λz=>flws z.A z.cap (RqM.fl (q.take z.i))::H) (λz=>z.i<=q.length) (λz=>q.length-z.i) ⟨0,none,0⟩ (Tm _) ?_ (λw hw=>hw) ?_
 ·exact zc1
 rintro⟨i,A2,cap2⟩ hi K hK
 dsimp only at hi⊢
 have hlen:(RqM.fl (q.take i)).length=i:=YsH
 have hr':=hr.cons (X:=flws A2 cap2 (RqM.fl (q.take i)))
 by_cases hlt:i<q.length
 ·obtain⟨x,hx⟩:∃x,q[i]? =some x:=⟨_,Ta hlt⟩
  have hst:RqM.fl (q.take (i+1))=RqM.fl (q.take i)++[x.f]:=zc91
  repeat'(first|(apply Yk T;exact rfl;exact zm;exact rfl;exact zv;exact rfl;exact rfl)|refine zgd ?_|(refine zge ?_ ?_<;>intro _<;>try exact zo)|(refine zgh ?_;intro _)|(refine zgi ?_;intro _ _)|fail)
  rename_i A' cap'
  rw[Qi,<-hst,show(RqM.fl (q.take i)).length+1=(RqM.fl (q.take (i+1))).length from by rw[hst];simp]
  apply hK ⟨i+1,A',cap'⟩
  ·show i+1<=_
   omega
  ·exact zc39
  ·exact zc1
  ·exact zc0
 ·obtain rfl:i=q.length:=by omega
  rw[TV]
  repeat'(first|refine zgc ?_|(refine zge ?_ ?_<;>intro _<;>try exact zo)|fail)
  exact zc97
variable {x:RqM}
theorem Yey{k:Nat}{r:RowM}(h:x.rows[k]? =some r):rtAt x.rq.2 k=r.xs:=by
 have h2:x.rq.2[k]? =some r.xs:=by
  show(x.rows.map (·.xs))[k]? =_
  simp_all
 grind [YbE]
theorem Ybh(n:NetM)(x:RqM)(hin:n.In B w0 H)(hx:x.In B w0 H)(hw:St B w0 H w):
 CX B w0 254 [n.val,rqV x] w λv K=>v=.int .i64 (rtsE n.net x.rq)/\K=H:=by
 refine Yc Tryz.func254 Tryz.ntmps254 rfl rfl hw ?_
 have hln:x.rq.2.length=x.rows.length:=by unfold RqM.rq;exact YgW
 have hlx:=hx.ln
 have e1:x.rq.1=x.f:=rfl
 unfold rtsE
 rw[hln,e1]
 have p1:=λ{H':List HP}{w:World}(r:RowM) (hr:r∈x.rows) (hin:n.In B w0 H') (hx:x.In B w0 H') (hw:St B w0 H' w)=>YcX n x.f.2.1 x.f.2.2.1 r.xs (cap:=r.cap) hin (hx.rw_ r hr) (T9 (hx.rl r hr).1 (by decide)) (hx.rl r hr).2 hw
 unfold NetM.val rqV
 by_cases h0:x.rows.length=0
 ·rw[Tn h0]
  repeat'(first|refine zgb ?_|(refine zge ?_ ?_<;>intro _<;>try exact zo)|(refine zgh ?_;intro _)|fail)
  apply Yi H
  ·exact zc0
  exact zc4
 rw[Tf h0]
 by_cases h2:2<x.rows.length
 ·rw[Tn h2]
  repeat'(first|refine zgb ?_|(refine zgf ?_ ?_<;>intro _<;>try exact zo)|(refine zgh ?_;intro _)|fail)
  apply Yi H
  ·exact zc0
  exact zc4
 rw[Tf h2]
 obtain⟨F,hF⟩:∃F,(λk=>ZH n.net x.f.2.1 x.f.2.2.1 (rtAt x.rq.2 k))=F:=⟨_,rfl⟩
 rw[hF]
 have hFv:∀{k:Nat}{r:RowM},x.rows[k]? =some r->F k=ZH n.net x.f.2.1 x.f.2.2.1 r.xs:=λh=>by rw[<-hF];show ZH _ _ _ _=_;rw[Yey h]
 repeat'(first|refine zgb ?_|(refine zgf ?_ ?_<;>intro _<;>try exact zo)|(refine zgh ?_;intro _)|fail)
 rename_i gn gx _ _
 refine Yg (λk:Nat=>[(19,.int .i64 (k:Nat)),(18,.int .i64 x.rows.length),(17,.slice x.A x.rows.length x.cap),(3,.pointer (some ⟨gx,0,none⟩)),(2,.pointer (some ⟨gn,0,none⟩))]) (λ_=>rqA gx x::netA gn n::H) (λk=>k<=x.rows.length/\∀j,0<=j->j<k->F j=0) (λk=>x.rows.length-k) 0 ⟨Tm _,λj _ h=>absurd h (RL _)⟩ ?_ (λw hw=>hw) ?_
 ·exact zc1
 rintro k ⟨hk,hz⟩ K hK
 have hrt:Rd B w0 (rqA gx x::netA gn n::H) x.A (x.rows.flatMap rowF):=hx.rt.cons.cons
 by_cases hlt:k<x.rows.length
 ·obtain⟨r,hr⟩:∃r,x.rows[k]? =some r:=⟨_,Ta hlt⟩
  have hFk:=hFv hr
  have p2:=λ{H':List HP}{w:World}(hin:n.In B w0 H') (hx:x.In B w0 H') (hw:St B w0 H' w)=>p1 r (Tc hr) hin hx hw
  rw[<-hFk]at p2
  by_cases hFz:F k=0
  ·rw[hFz]at p2
   repeat'(first|((first|apply Ya Yf8|apply Yb Yf8);exact za;exact rfl;exactλ_ hw=>(p2 (hin.mono zk) (hx.mono zk) hw))|refine zgc ?_|(refine zge ?_ ?_<;>intro _<;>try exact zo)|fail)
   apply hK (k+1)
   ·exact zc98
   ·omega
   ·exact zc1
   ·exact zc0
  ·have hfe:=Zl (f:=F) (r:=x.rows.length) (i0:=0) (i:=k) (λj h1 h2=>hz j h1 h2) (Tm _) (by omega) hFz
   rw[hfe,Tn hFz]
   clear hK
   repeat'(first|((first|apply Ya Yf8|apply Yb Yf8);exact za;exact rfl;exactλ_ hw=>(p2 (hin.mono zk) (hx.mono zk) hw))|refine zgd ?_|(refine zge ?_ ?_<;>intro _<;>try exact zo)|fail)
   apply Yi H
   ·exact zc0
   exact zc4
 ·obtain rfl:k=x.rows.length:=by omega
  have hfe:=Zm (f:=F) (r:=x.rows.length) (i0:=0) λj h1 h2=>hz j h1 (by omega)
  rw[hfe,Tf (λe=>e rfl)]
  clear hK
  by_cases h3:x.rows.length=2
  rotate_left
  ·rw[Tf (λe=>h3 e.1)]
   repeat'(first|(apply zg28;refine zs84 ?_)|refine zgd ?_|(refine zge ?_ ?_<;>intro _<;>try exact zo)|fail)
   apply Yi H
   ·exact zc0
   exact zc4
  obtain⟨r0,hr0⟩:∃r,x.rows[0]? =some r:=⟨_,Ta (by omega)⟩
  obtain⟨r1,hr1⟩:∃r,x.rows[1]? =some r:=⟨_,Ta (by omega)⟩
  rw[Yey hr0,Yey hr1]
  have p3:=λ{H':List HP}{w:World}(hx:x.In B w0 H') (hw:St B w0 H' w)=>Yb4 r0.xs r1.xs (cap:=r0.cap) (cap2:=r1.cap) (T9 (hx.rl r0 (Tc hr0)).1 (by decide)) (T9 (hx.rl r1 (Tc hr1)).1 (by decide)) (hx.rw_ r0 (Tc hr0)) (hx.rw_ r1 (Tc hr1)) hw
  by_cases heq:r0.xs=r1.xs
  ·rw[Tn ⟨h3,heq⟩]
   rw[Td heq]at p3
   repeat'(first|refine zgc ?_|(refine zge ?_ ?_<;>intro _<;>try exact zo)|fail)
   apply XA [0,1,2,3,4,5,6,7,8,9,10,11,12,13,14] []
   kernel_rfl
   kernel_rfl
   (simp only[Yh,nthO];rfl)
   exact rfl
   repeat'(first|refine zgd ?_|(refine zge ?_ ?_<;>intro _<;>try exact zo)|fail)
   first|apply Ya Yf0|apply Yb Yf0
   exact za
   exact rfl
   exactλ_ hw=>(p3 (hx.mono zc0) hw)
   repeat'(first|(apply Yl;(repeat(first|with_reducible exact YW|(with_reducible apply YL;(repeat(first|with_reducible exact Ys|with_reducible apply YA))))))|refine zgd ?_|fail)
   ·show Perm H (H++[])
    exact zc29
   repeat'(first|fail)
   apply Yi H
   ·exact zc0
   exact zc4
  ·rw[Tf (λe=>heq e.2)]
   rw[Ti heq]at p3
   repeat'(first|refine zgc ?_|(refine zge ?_ ?_<;>intro _<;>try exact zo)|fail)
   apply XA [0,1,2,3,4,5,6,7,8,9,10,11,12,13,14] []
   kernel_rfl
   kernel_rfl
   (simp only[Yh,nthO];rfl)
   exact rfl
   repeat'(first|refine zgd ?_|(refine zge ?_ ?_<;>intro _<;>try exact zo)|fail)
   first|apply Ya Yf0|apply Yb Yf0
   exact za
   exact rfl
   exactλ_ hw=>(p3 (hx.mono zc0) hw)
   repeat'(first|(apply Yl;(repeat(first|with_reducible exact YW|(with_reducible apply YL;(repeat(first|with_reducible exact Ys|with_reducible apply YA))))))|refine zgd ?_|fail)
   ·show Perm H (H++[])
    exact zc29
   repeat'(first|fail)
   apply Yi H
   ·exact zc0
   exact zc4
theorem Yrh(q:List RqM):RqM.fl q=Y0 (q.map RqM.rq):=by unfold RqM.fl Y0;rw[NX];rfl
theorem Yeu{q:List RqM}{i:Nat}(h:q[i]? =some x):rqAt (q.map RqM.rq) i=x.rq:=by
 have h2:(q.map RqM.rq)[i]? =some x.rq:=by simp_all
 grind [V6]
theorem Yfs(n:NetM)(q:List RqM)(hin:n.In B w0 H)(hq:QIn B w0 H A q)(hw:St B w0 H w):
 CX B w0 175 [n.val,.slice A q.length cap] w λv K=>v=.tuple #[.int .i64 (rqsE n.net (q.map RqM.rq)).1,.int .i64 (rqsE n.net (q.map RqM.rq)).2]/\K=H:=by
 refine Yc Tryz.func175 Tryz.ntmps175 rfl rfl hw ?_
 have hql:=hq.ln
 have hqr:=hq.rd
 have p1:=λ{H':List HP}{w:World}(hin:n.In B w0 H') (hw:St B w0 H' w)=>Xb n hin hw
 have p2:=λ{H':List HP}{w:World}(hq:QIn B w0 H' A q) (hw:St B w0 H' w)=>YbU q (cap:=cap) hql hq.rd hw
 have p3:=λ{A2:Option Addr}{cap2:Nat}{H':List HP}{w:World}(hr:Rd B w0 H' A2 ((RqM.fl q).flatMap flwF)) (hw:St B w0 H' w)=>Xe n.nodes (RqM.fl q) YsM (cap:=cap2) hr hw
 unfold rqsE
 rw[<-Yrh,TB]
 rw[show n.net.nodes=n.nodes from rfl]
 obtain⟨c,hc⟩:∃c,Yo n.net=c:=⟨_,rfl⟩
 obtain⟨⟨fi,fe⟩,hf⟩:∃f,Yu n.nodes (RqM.fl q)=f:=⟨_,rfl⟩
 obtain⟨F,hF⟩:∃F,(λi=>rtsE n.net (rqAt (q.map RqM.rq) i))=F:=⟨_,rfl⟩
 rw[hc]at p1⊢
 rw[hf]at p3⊢
 rw[hF]
 dsimp only at p3⊢
 have hFv:∀{k:Nat}{x:RqM},q[k]? =some x->F k=rtsE n.net x.rq:=λh=>by rw[<-hF];show rtsE _ _=_;rw[Yeu h]
 unfold NetM.val
 by_cases h0:c=0
 rotate_left
 ·rw[Tn h0]
  repeat'(first|((first|apply Ya en82|apply Yb en82);exact za;exact rfl;exactλ_ hw=>(p1 hin.cons hw))|refine zgb ?_|(refine zge ?_ ?_<;>intro _<;>try exact zo)|(refine zgh ?_;intro _)|fail)
  apply Yi H
  ·exact zc0
  exact zc8
 subst h0
 rw[Tf (λe=>e rfl)]
 by_cases h1:fe=0
 rotate_left
 ·rw[Tn h1]
  repeat'(first|((first|apply Ya en82|apply Yb en82);exact za;exact rfl;exactλ_ hw=>(p1 hin.cons hw))|refine zgb ?_|(refine zge ?_ ?_<;>intro _<;>try exact zo)|(refine zgh ?_;intro _)|fail)
  apply YX [0,1,2,3,4,5,6,7,8,9] [] [true]
  kernel_rfl
  kernel_rfl
  exact zy
  (simp only[Yh,nthO];rfl)
  exact rfl
  repeat'(first|refine zgd ?_|fail)
  apply Ye _ Ym7
  exact za
  exact rfl
  exactλ_ hw=>(p2 (hq.mono zc0) (hw))
  rintro _ _ ⟨A2,cap2,rfl,rfl⟩
  repeat'(first|(apply Yl;(repeat(first|with_reducible exact YW|(with_reducible apply YL;(repeat(first|with_reducible exact Ys|with_reducible apply YA))))))|refine zgd ?_|fail)
  first|apply Ya en59|apply Yb en59
  exact za
  exact rfl
  exactλ_ hw=>(p3 (Rd.sl (by(focus exact zc2))) hw)
  repeat'(first|(apply Yl;(repeat(first|with_reducible exact YW|(with_reducible apply YL;(repeat(first|with_reducible exact Ys|with_reducible apply YA))))))|refine zgd ?_|(refine zge ?_ ?_<;>intro _<;>try exact zo)|fail)
  apply Yi H
  ·exact zc0
  exact zc8
 subst h1
 rw[Tf (λe=>e rfl)]
 repeat'(first|((first|apply Ya en82|apply Yb en82);exact za;exact rfl;exactλ_ hw=>(p1 hin.cons hw))|refine zgb ?_|(refine zge ?_ ?_<;>intro _<;>try exact zo)|(refine zgh ?_;intro _)|fail)
 first|(rename_i gn;guard_hyp gn:Nat)|(rename_i gn _;guard_hyp gn:Nat)|(rename_i gn _ _;guard_hyp gn:Nat)
 apply YX [0,1,2,3,4,5,6,7,8,9] [] [true]
 kernel_rfl
 kernel_rfl
 exact zy
 (simp only[Yh,nthO];rfl)
 exact rfl
 repeat'(first|refine zgd ?_|fail)
 apply Ye _ Ym7
 exact za
 exact rfl
 exactλ_ hw=>(p2 (hq.mono zc0) (hw))
 rintro _ _ ⟨A2,cap2,rfl,rfl⟩
 repeat'(first|(apply Yl;(repeat(first|with_reducible exact YW|(with_reducible apply YL;(repeat(first|with_reducible exact Ys|with_reducible apply YA))))))|refine zgd ?_|fail)
 first|apply Ya en59|apply Yb en59
 exact za
 exact rfl
 exactλ_ hw=>(p3 (Rd.sl (by(focus exact zc2))) hw)
 repeat'(first|(apply Yl;(repeat(first|with_reducible exact YW|(with_reducible apply YL;(repeat(first|with_reducible exact Ys|with_reducible apply YA))))))|refine zgd ?_|(refine zge ?_ ?_<;>intro _<;>try exact zo)|fail)
 refine Yg (λk:Nat=>[(28,.int .i64 (k:Nat)),(27,.int .i64 q.length),(26,.slice A q.length cap),(2,.pointer (some ⟨gn,0,none⟩))]) (λ_=>netA gn n::H) (λk=>k<=q.length/\∀j,0<=j->j<k->F j=0) (λk=>q.length-k) 0 ⟨Tm _,λj _ h=>absurd h (RL _)⟩ ?_ ?_ ?_
 ·exact zc1
 ·exact zc0
 rintro k ⟨hk,hz⟩ K hK
 have hqr':Rd B w0 (netA gn n::H) A (q.flatMap rqF):=hqr.cons
 by_cases hlt:k<q.length
 ·obtain⟨x,hx⟩:∃x,q[k]? =some x:=⟨_,Ta hlt⟩
  have hFk:=hFv hx
  have hxi:=hq.x x (Tc hx)
  have p4:=λ{H':List HP}{w:World}(hin:n.In B w0 H') (hx:x.In B w0 H') (hw:St B w0 H' w)=>Ybh n x hin hx hw
  rw[<-hFk]at p4
  by_cases hFz:F k=0
  ·rw[hFz]at p4
   repeat'(first|((first|apply Ya Yne|apply Yb Yne);exact za;exact rfl;exactλ_ hw=>(p4 (hin.mono zk) (hxi.mono zk) hw))|refine zgd ?_|(refine zge ?_ ?_<;>intro _<;>try exact zo)|(refine zgh ?_;intro _)|fail)
   apply hK (k+1)
   ·exact zc98
   ·omega
   ·exact zc1
   ·exact zc0
  ·have hfe:=Zl (f:=F) (r:=q.length) (i0:=0) (i:=k) (λj h1 h2=>hz j h1 h2) (Tm _) (by omega) hFz
   rw[hfe]
   clear hK
   repeat'(first|((first|apply Ya Yne|apply Yb Yne);exact za;exact rfl;exactλ_ hw=>(p4 (hin.mono zk) (hxi.mono zk) hw))|refine zgd ?_|(refine zge ?_ ?_<;>intro _<;>try exact zo)|(refine zgh ?_;intro _)|fail)
   apply Yi H
   ·exact zc0
   exact zc8
 ·obtain rfl:k=q.length:=by omega
  have hfe:=Zm (f:=F) (r:=q.length) (i0:=0) λj h1 h2=>hz j h1 (by omega)
  rw[hfe]
  clear hK
  repeat'(first|refine zgc ?_|(refine zge ?_ ?_<;>intro _<;>try exact zo)|fail)
  apply Yi H
  ·exact zc0
  exact zc8
variable {s:Sch}{slot:Int}{j n:Nat}
theorem Yo7(h:(Yn s j).1=slot)(hj:j<n):∃R,inI s slot n=inI s slot j++j::R/\∀x∈R,j<x:=by
 obtain⟨m,rfl⟩:∃m,n=j+(m+1):=⟨n-j-1,by omega⟩
 have e:inI s slot (j+(m+1))=inI s slot j++((List.range (m+1)).map (j+·)).filter λi=>decide ((Yn s i).1=slot):=by
  grind [inI,List.range_add]
 rw[e,S7,Rh,SH,Tn (by simp_all)]
 simp_all
theorem Yro{k:Nat}(h:(inI s slot n)[k]? =some j):(inI s slot n).take k=inI s slot j:=by
 have hm:=Qk.1 (Tc h)
 obtain⟨R,hR,hRx⟩:=Yo7 hm.2 hm.1
 rw[hR]at h⊢
 have hk:k=(inI s slot j).length:=by
  rcases Nr k (inI s slot j).length with h1|h1|h1
  ·rw[RY h1]at h
   have:=(Qk.1 (Tc h)).1
   omega
  ·exact h1
  ·rw[RG (by omega)]at h
   obtain⟨q,hq⟩:∃q,k-(inI s slot j).length=q+1:=⟨k-(inI s slot j).length-1,by omega⟩
   rw[hq,Ns]at h
   have:=hRx j (Tc h)
   omega
 simp_all
theorem Yhu{α:Type}{p:α->Bool}{l:List α}{i:Nat}{x:α}(h:l[i]? =some x):(l.take (i+1)).filter p=(l.take i).filter p++if p x=true then [x]else []:=zc90
def OR(s:Sch)(c:Cel)(l:List Nat):List Cel:=(l.filter λj=>decide ((Yn s j).2.1=c.2.1)).map (Yn s)
theorem YbC{s:Sch}{c:Cel}:∀{m:Nat},m<=s.cells.length->OR s c (inI s c.1 m)=(s.cells.take m).filter (XY c)
 |0,_=>by simp[OR,inI]
 |m+1,h=>by
  have ih:=YbC (s:=s) (c:=c) (m:=m) (by omega)
  have hg:=Xg (s:=s) (i:=m) (by omega)
  rw[Yhu hg,<-ih]
  have hp:XY c (Yn s m)=true↔(Yn s m).1=c.1/\(Yn s m).2.1=c.2.1:=by simp_all [XY]
  by_cases h1:(Yn s m).1=c.1
  ·rw[YnB h1]
   unfold OR
   grind
  simp_all [Yrn]
theorem Yj9(s:Sch)(c:Cel)(l:List Nat)(j:Nat):OR s c (l++[j])=OR s c l++if(Yn s j).2.1=c.2.1 then [Yn s j]else []:=by
 unfold OR
 grind
structure DsM where
 A:Option Addr
 cap:Nat
 M:List Cel
 a:Int
theorem YdC(n:NetM)(s:SchM)(i:Nat)(hck:Yo n.net=0)(hgood:∀c∈s.cells,Yz n.net (YE c) (toC c)=true)(hi:i<s.cells.length)(hl:s.cells.length<=1000){B:Nat}{w0:World}{H:List HP}{w:World}(hin:n.In B w0 H)(hr:Rd B w0 H s.A (s.cells.flatMap celF))(hw:St B w0 H w):
 CX B w0 87 [n.val,s.val,.int .i64 i] w λv K=>v=.bool (Jp n.net s.sch i)/\K=H:=by
 refine Zr Tryz.func87 Tryz.ntmps87 rfl rfl hw ?_
 have hget:s.cells[i]? =some (Yn s.sch i):=Xg (s:=s.sch) hi
 obtain⟨c,hc⟩:∃c,Yn s.sch i=c:=⟨_,rfl⟩
 rw[hc]at hget
 have hrm:Rd B w0 [many H] s.A (s.cells.flatMap celF):=hr.tail
 clear hr
 refine ZW [many H] (λw hw=>hw.perm (.closeT H)) ?_
 refine zX82 ?_<;>intros
 rename_i gn gs gi g7 g8
 apply YX [0,1,2,3,4,5,6] [7] [false,false,true,true,false,true]
 kernel_rfl
 kernel_rfl
 exact zy
 (simp only[Yh,nthO];rfl)
 (simp only[Yh,nthO];rfl)
 refine zX2 ?_
 apply Ye _ YuE
 exact za
 exact rfl
 exactλ_ hw=>(YjB s c.1 (hw))
 rintro _ _ ⟨g1,g2,rfl,rfl⟩
 refine zX2 ?_
 obtain⟨L,hL⟩:∃L,inI s.sch c.1 s.cells.length=L:=⟨_,rfl⟩
 have hiL:i∈L:=by
  rw[<-hL]
  exact Qk.2 ⟨hi,by rw[hc]⟩
 have hr7:Rd B w0 (intB g2 c.1::schB g1 s::blk gi (.cells #[.int .i64 i] 3 (0,0))::schB gs s::netN gn n::[many H]) s.A (s.cells.flatMap celF):=hrm.cons.cons.cons.cons.cons
 rw[show(Value.slice none 0 0).cells=#[Value.slice none 0 0] from rfl]
 refine Jy 64 5 ?_
 refine Zs (gf:=265) (lb:=[.pointer (some ⟨g1,0,none⟩),.pointer (some ⟨g2,0,none⟩)]) (xs:=inXs s.sch c.1) (intB g2 c.1::schB g1 s::blk gi (.cells #[.int .i64 i] 3 (0,0))::schB gs s::netN gn n::[many H]) (λx:DsM=>[blk g7 (.cells #[.slice x.A x.M.length x.cap] 35 (0,0)),cels x.A x.cap x.M,blk g8 (.cells #[.int .i64 x.a] 3 (0,0))])
  (λk x=>x.M=OR s.sch c (L.take k)/\x.a=if i∈L.take k then(YR s.sch i:Int)else 0) (λ_ _=>False) ⟨none,0,[],0⟩ rfl YuP (YjA s c.1 g1 g2 hr7 (by omega) (.tail _ (.head _)) (.head _)) rfl ?_ (by kernel_rfl) (by kernel_rfl) ?_ ⟨by simp[OR],by simp⟩ ?_ ?_ (λ_ _ _ h=>h.elim)
 ·intro args h
  obtain⟨k,hk⟩:=TS.1 h
  obtain⟨i,_,_,rfl⟩:=YaH hk
  rfl
 ·unfold schB intB cels netN
  simp only[TD,TK,Ry,NY]
  exact zc0
 ·rintro l k args R ⟨A,cap,M,a⟩ hk ⟨hM,ha⟩
  obtain⟨j,hj,hlt,rfl⟩:=YaH hk
  have hlt2:j<s.cells.length:=hlt
  have hj:L[k]? =some j:=by rw[<-hL];exact hj
  dsimp only at hM ha⊢
  dsimp only[U5,List.cons_append,List.nil_append]
  have hgj:s.cells[j]? =some (Yn s.sch j):=Xg (s:=s.sch) hlt
  have htj:L.take k=inI s.sch c.1 j:=by
   rw[<-hL]at hj⊢
   exact Yro hj
  have htk:L.take (k+1)=L.take k++[j]:=by rw[TN,hj,SL]
  have hMf:M=(s.cells.take j).filter (XY c):=by
   rw[hM,htj]
   exact YbC (s:=s.sch) (by show j<=s.cells.length;omega)
  have hMl:M.length<=s.cells.length:=by
   rw[hMf]
   have h1:=RX (XY c) (s.cells.take j)
   rw[TT]at h1
   omega
  have hps:=Yj9 s.sch c (L.take k) j
  rw[<-htk,<-hM]at hps
  obtain⟨d,hd⟩:∃d,Yn s.sch j=d:=⟨_,rfl⟩
  rw[hd]at hgj hps
  refine zX4 ?_
  apply J6 Ys
  intro R'
  unfold intB schB netN cels
  clear hr7
  by_cases hoff:d.2.1=c.2.1
  rotate_left
  ·have hij:i≠j:=by
    rintro rfl
    rw[hc]at hd
    subst hd
    exact hoff rfl
   refine zX0 ?_<;>intros
   all_goals(
    apply UC ⟨A,cap,M,a⟩
    ·refine⟨?_,?_⟩
     ·show M=_
      rw[hps,Tf hoff,Ro]
     ·show a=_
      rw[ha,htk]
      simp[hij]
    ·dsimp only[List.cons_append,List.nil_append]
     exact zc0)
  by_cases hji:j=i
  ·obtain rfl:=hji
   obtain rfl:d=c:=hd.symm.trans hc
   have hsa:(M.length:Int)=(YR s.sch j:Int):=by
    rw[hMf]
    unfold YR
    rw[hc]
    rfl
   refine zX0 ?_<;>intros
   apply Yin [0,1,2,3,4,5,6] [7,8] [false,true,false,false,false,false,false,true,false,true]
   kernel_rfl
   kernel_rfl
   exact zy
   (simp only[Yh,nthO];rfl)
   (simp only[Yh,nthO];rfl)
   refine zX85 ?_<;>intros
   rename_i A9 cap9
   apply UC ⟨A9,cap9,M++[d],(M.length:Int)⟩
   ·refine⟨?_,?_⟩
    ·show M++[d]=_
     rw[hps,Tn hoff]
    ·show(M.length:Int)=_
     rw[htk,Tn (by simp),hsa]
   ·dsimp only[List.cons_append,List.nil_append]
    intro w hw
    rw[WK,YjL M d]at hw
    unfold cels at hw
    revert w
    exact zc0
  ·have hji2:i≠j:=λe=>hji e.symm
   refine zX0 ?_<;>intros
   apply Yin [0,1,2,3,4,5,6] [7,8] [false,true,false,false,false,false,false,true,false,true]
   kernel_rfl
   kernel_rfl
   exact zy
   (simp only[Yh,nthO];rfl)
   (simp only[Yh,nthO];rfl)
   refine zX85 ?_<;>intros
   rename_i A9 cap9
   apply UC ⟨A9,cap9,M++[d],a⟩
   ·refine⟨?_,?_⟩
    ·show M++[d]=_
     rw[hps,Tn hoff]
    ·show a=_
     rw[ha,htk]
     simp[hji2]
   ·dsimp only[List.cons_append,List.nil_append]
    intro w hw
    rw[WK,YjL M d]at hw
    unfold cels at hw
    revert w
    exact zc0
 ·rintro D ⟨A,cap,M,a⟩ ⟨hM,ha⟩
  have hLl:(inXs s.sch c.1).length=L.length:=by rw[inXs,TB];exact TE List.length hL
  dsimp only at hM ha⊢
  rw[hLl,TV]at hM ha
  rw[Tn hiL]at ha
  subst ha
  have hMS:M=YO s.sch i:=by
   rw[hM,<-hL]
   have h1:=YbC (s:=s.sch) (c:=c) (TJ _)
   rw[TV]at h1
   rw[show s.cells.length=s.sch.cells.length from rfl,h1]
   unfold YO
   rw[hc]
  have hMl:M.length<=1000:=by
   rw[hMS]
   have h1:=RX (XY (Yn s.sch i)) s.sch.cells
   exact T9 h1 hl
  have hgM:M[((YR s.sch i:Nat):Int).toNat]? =some c:=by rw[hMS,RU,YeE (s:=s.sch) hi,hc]
  have hal:YR s.sch i<M.length:=(Tj.1 hgM).1
  have hok:=YC hck
  have hcm:c∈s.cells:=Tc hget
  have hgd:=hgood c hcm
  obtain⟨⟨f0,f1⟩,⟨t0,t1⟩,_,k1,k2⟩:(0<=c.2.2.1/\c.2.2.1<n.net.nodes)/\(0<=c.2.2.2.1/\c.2.2.2.1<n.net.nodes)/\c.2.2.1≠c.2.2.2.1/\0<=Yt n.net c.2.2.1 c.2.2.2.1/\0<=Yt n.net c.2.2.2.1 c.2.2.1:=XL hok hgd
  have hno:M.any (UZ n.net)=false:=by
   rw[RD]
   intro x hx
   have hxm:x∈s.cells:=by
    rw[hMS]at hx
    exact(Re.1 hx).1
   obtain⟨h1,h2,_⟩:=XL hok (hgood x hxm)
   unfold UZ
   rw[show insE (YE x) n.net.nodes=true from Td h1,show insE (toC x) n.net.nodes=true from Td h2]
   simp
  have hinm:n.In B w0 [many H]:=⟨hin.pw.tail,λr hr=>(hin.rw_ r hr).tail,hin.lk.tail,hin.mg.tail,hin.s1,hin.s2,hin.s3,hin.s4⟩
  have hmg:=hinm.mg
  have hs4:=hin.s4
  have hml:n.margin.length=n.net.links.length:=hok.k1
  have x1:=XR k1
  have x2:=XR k2
  have hix:∀u v:Int,Zn n.net u v=Yt n.net u v:=λu v=>by unfold Zn;rw[Tf (by omega)]
  have p1:=λ{H':List HP}{w:World}(hin:n.In B w0 H') (hw:St B w0 H' w)=>Zv n c.2.2.1 c.2.2.2.1 hin hw
  have p2:=λ{H':List HP}{w:World}(hin:n.In B w0 H') (hw:St B w0 H' w)=>Zv n c.2.2.2.1 c.2.2.1 hin hw
  rw[hix]at p1 p2
  obtain⟨i1,hi1⟩:∃z,Yt n.net c.2.2.1 c.2.2.2.1=z:=⟨_,rfl⟩
  obtain⟨i2,hi2⟩:∃z,Yt n.net c.2.2.2.1 c.2.2.1=z:=⟨_,rfl⟩
  rw[hi1]at p1 k1 x1
  rw[hi2]at p2 k2 x2
  have hm1:n.margin[i1.toNat]? =some (mar n.net i1.toNat):=zc43
  have hm2:n.margin[i2.toNat]? =some (mar n.net i2.toNat):=zc43
  have q1:=λ{H':List HP}{w:World}(hin:n.In B w0 H') (hr:Rd B w0 H' A (M.flatMap celF)) (hw:St B w0 H' w)=>Wo n M (YR s.sch i) c.2.2.2.1 hck ⟨t0,t1⟩ hal hMl hno (cap:=cap) hin hr hw
  have q2:=λ{H':List HP}{w:World}(hin:n.In B w0 H') (hr:Rd B w0 H' A (M.flatMap celF)) (hw:St B w0 H' w)=>Wo n M (YR s.sch i) c.2.2.1 hck ⟨f0,f1⟩ hal hMl hno (cap:=cap) hin hr hw
  have r1:=λ{H':List HP}{w:World}(hin:n.In B w0 H') (hw:St B w0 H' w)=>QP n (mar n.net i1.toNat) (Wn n.net M (YR s.sch i) c.2.2.2.1) hin hw
  have r2:=λ{H':List HP}{w:World}(hin:n.In B w0 H') (hw:St B w0 H' w)=>QP n (mar n.net i2.toNat) (Wn n.net M (YR s.sch i) c.2.2.1) hin hw
  have hres:Jp n.net s.sch i=(!(Zu n.net (mar n.net i1.toNat) (Wn n.net M (YR s.sch i) c.2.2.2.1))||!(Zu n.net (mar n.net i2.toNat) (Wn n.net M (YR s.sch i) c.2.2.1))):=by
   unfold Jp
   rw[hc,<-hMS]
   unfold YE toC
   rw[hi1,hi2]
  obtain⟨b1,hb1⟩:∃b,Zu n.net (mar n.net i1.toNat) (Wn n.net M (YR s.sch i) c.2.2.2.1)=b:=⟨_,rfl⟩
  obtain⟨b2,hb2⟩:∃b,Zu n.net (mar n.net i2.toNat) (Wn n.net M (YR s.sch i) c.2.2.1)=b:=⟨_,rfl⟩
  rw[hb1]at r1 hres
  rw[hb2]at r2 hres
  rw[hres]
  dsimp only[List.cons_append,List.nil_append]
  unfold cels intB schB netN
  cases b1 with
  |false=>
   refine zX86 ?_<;>intros
   first|apply Ya Xw|apply Yb Xw
   exact za
   exact rfl
   exactλ_ hw=>(p1 zc25 hw)
   refine zX8 ?_
   first|apply Ya Xw|apply Yb Xw
   exact za
   exact rfl
   exactλ_ hw=>(p2 zc25 hw)
   refine zX87 ?_
   first|apply Ya QD|apply Yb QD
   exact za
   exact rfl
   exactλ_ hw=>(q1 zc25 (Rd.sl (by(focus exact zc2))) hw)
   refine zX9 ?_
   first|apply Ya Of|apply Yb Of
   exact za
   exact rfl
   exactλ_ hw=>(r1 zc25 hw)
   refine zX2 ?_
   apply Jc
   ·exact zc72
   apply VQ_m
   apply Yi H
   ·intro w hw
    have h5:St B w0 [many H] w:=by
     revert w
     exact zc0
    exact h5.perm (.openT H)
   exact zc4
  |true=>
   cases b2 with
   |false=>
    refine zX86 ?_<;>intros
    first|apply Ya Xw|apply Yb Xw
    exact za
    exact rfl
    exactλ_ hw=>(p1 zc25 hw)
    refine zX8 ?_
    first|apply Ya Xw|apply Yb Xw
    exact za
    exact rfl
    exactλ_ hw=>(p2 zc25 hw)
    refine zX87 ?_
    first|apply Ya QD|apply Yb QD
    exact za
    exact rfl
    exactλ_ hw=>(q1 zc25 (Rd.sl (by(focus exact zc2))) hw)
    refine zX9 ?_
    first|apply Ya Of|apply Yb Of
    exact za
    exact rfl
    exactλ_ hw=>(r1 zc25 hw)
    refine zX2 ?_
    first|apply Ya QD|apply Yb QD
    exact za
    exact rfl
    exactλ_ hw=>(q2 zc25 (Rd.sl (by(focus exact zc2))) hw)
    refine zX11 ?_
    first|apply Ya Of|apply Yb Of
    exact za
    exact rfl
    exactλ_ hw=>(r2 zc25 hw)
    refine zX2 ?_
    apply Jc
    ·exact zc72
    apply VQ_m
    apply Yi H
    ·intro w hw
     have h5:St B w0 [many H] w:=by
      revert w
      exact zc0
     exact h5.perm (.openT H)
    exact zc4
   |true=>
    refine zX86 ?_<;>intros
    first|apply Ya Xw|apply Yb Xw
    exact za
    exact rfl
    exactλ_ hw=>(p1 zc25 hw)
    refine zX8 ?_
    first|apply Ya Xw|apply Yb Xw
    exact za
    exact rfl
    exactλ_ hw=>(p2 zc25 hw)
    refine zX87 ?_
    first|apply Ya QD|apply Yb QD
    exact za
    exact rfl
    exactλ_ hw=>(q1 zc25 (Rd.sl (by(focus exact zc2))) hw)
    refine zX9 ?_
    first|apply Ya Of|apply Yb Of
    exact za
    exact rfl
    exactλ_ hw=>(r1 zc25 hw)
    refine zX2 ?_
    first|apply Ya QD|apply Yb QD
    exact za
    exact rfl
    exactλ_ hw=>(q2 zc25 (Rd.sl (by(focus exact zc2))) hw)
    refine zX11 ?_
    first|apply Ya Of|apply Yb Of
    exact za
    exact rfl
    exactλ_ hw=>(r2 zc25 hw)
    refine zX2 ?_
    apply Jc
    ·exact zc72
    apply VQ_m
    apply Yi H
    ·intro w hw
     have h5:St B w0 [many H] w:=by
      revert w
      exact zc0
     exact h5.perm (.openT H)
    exact zc4
end Go.Proofs.YtaholidehobiiaaGreatDoor
