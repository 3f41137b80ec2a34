/- Lemmas. -/
import Derived.Test.YtjlgijpmnfabcaaGreatDoorQ9
set_option maxRecDepth 100000
set_option maxHeartbeats 8000000
set_option linter.all false
namespace Go.Eng
open Go.RowKit
variable {B:Nat}{w0:World}{H:List HP}
theorem YkC{P:Program}{env:Env}{n:Nat}(T:Tab P){fn:Func}{Φ:Value->List HP->Prop}{p g rt:Nat}{v:Value}{cs:Array Value}{tt:TypeId}{fr:Nat×Nat}(hr:fn.results=#[.cell p rt])(hp:get env p=some (.pointer (some ⟨g,0,none⟩)))
 (hm:Eng.blk g (.cells cs tt fr)∈H) (hv:nth cs.toList 0=some v) (ht:Eng.look T.sc rt=some ()) {H2:List HP}(hH:∀w,St B w0 H w->St B w0 H2 w) (h:Φ v H2):VQ ⟨n,[],none⟩ B w0 (bodyPost P fn (Post B w0 Φ)) .ret env H:=by
 refine⟨λa w ha hw=>bodyPost_ret (v:=v) ?_ ha.defers ⟨_,H2,rfl,hH w hw,h⟩⟩
 have hp':=ha.slot p _ hp
 rw[Yf5]at hv
 have hc:=Xc (i:=0) (hw.blk hm).1
 simp[results,hr,Array.getD_eq_getD_getElem?,hp',asAddr,loadVar,XA (T.scal ht).1,hc,hv]
end Go.Eng
namespace Go.Proofs.YtjlgijpmnfabcaaGreatDoor
open Go.RowKit Go.Eng Go.Nw
variable {s:Sch}{i B:Nat}
theorem Ynk(hi:i<s.cells.length)(h:∀j∈inI s (Yn s i).1 s.cells.length,j<i->YE (Yn s i) (Yn s j)=false):XV s i=false:=by
 unfold XV
 rw[RL]
 intro j hj
 have hj:=Ro.1 hj
 rw[Tt,To]
 rintro⟨h1,h2⟩
 rw[h j (Oi.2 ⟨by omega,h1⟩) hj]at h2
 cases h2
theorem Yfp{j:Nat}(hji:j<i)(hs:(Yn s j).1=(Yn s i).1)(ht:YE (Yn s i) (Yn s j)=true):XV s i=true:=by
 unfold XV
 grind
variable {w0:World}{H:List HP}
theorem Ykn(s:SchM)(i:Nat)(hi:i<s.cells.length)(hl:s.cells.length<=1000){w:World}(hr:Rd B w0 H s.A (s.cells.flatMap celF))(hw:St B w0 H w):
 CX B w0 189 [s.val,.int .i64 i] w λv K=>v=.bool (XV s.sch i)/\K=H:=by
 refine ZH Tryz.func189 Tryz.ntmps189 rfl rfl hw ?_
 have hget:s.cells[i]? =some (Yn s.sch i):=YS (s:=s.sch) hi
 obtain⟨c,hc⟩:∃c,Yn s.sch i=c:=⟨_,rfl⟩
 rw[hc]at hget
 refine zX76 ?_<;>intros
 rename_i gs gi gr gc
 apply Yi _ Ysb
 exact za
 exact rfl
 exactλ_ hw=>(YhJ s c.1 (hw))
 rintro _ _ ⟨g1,g2,rfl,rfl⟩
 refine zX7 ?_
 have hr6:Rd B w0 (intB g2 c.1::schB g1 s::blk gc (.cells (celF c).toArray 48 (0,0))::blk gi (.cells #[.int .i64 i] 3 (0,0))::schB gs s::H) s.A (s.cells.flatMap celF):=hr.cons.cons.cons.cons.cons
 refine ZI (gf:=320) (lb:=[.pointer (some ⟨g1,0,none⟩),.pointer (some ⟨g2,0,none⟩)]) (xs:=inXs s.sch c.1) (intB g2 c.1::schB g1 s::blk gc (.cells (celF c).toArray 48 (0,0))::blk gi (.cells #[.int .i64 i] 3 (0,0))::schB gs s::H) (λ_:Unit=>[blk gr (.cells #[.bool false] 4 (0,0))])
  (λk _=>∀m j,m<k->(inI s.sch c.1 s.cells.length)[m]? =some j->j<i->YE c (Yn s.sch j)=false) (λe K=>e=.ret/\XV s.sch i=true/\K=[blk gr (.cells #[.bool true] 4 (0,0))]) () rfl Ysl (YhI s c.1 g1 g2 hr6 (by omega) (.tail _ (.head _)) (.head _)) rfl ?_ (by kernel_rfl) (by kernel_rfl) ?_ (λm j h=>absurd h (Rj _)) ?_ ?_ ?_
 ·grind [TO,QC]
 ·exactλw hw=>hw.perm (.trans (.cons _ (.cons _ (.swap _ _ _))) (.trans (.cons _ (.swap _ _ _)) (.swap _ _ _)))
 ·rintro l k args R ⟨⟩ hk hI
  obtain⟨j,hj,hlt,rfl⟩:=QC hk
  have hlt2:j<s.cells.length:=hlt
  dsimp only[U0,List.cons_append,List.nil_append]
  have hgj:s.cells[j]? =some (Yn s.sch j):=YS (s:=s.sch) hlt
  have hjs:(Yn s.sch j).1=c.1:=(Oi.1 (Td hj)).2
  obtain⟨d,hd⟩:∃d,Yn s.sch j=d:=⟨_,rfl⟩
  rw[hd]at hgj
  have htc:YE c d=true↔(c.2.2.1=d.2.2.1\/c.2.2.1=d.2.2.2.1\/c.2.2.2.1=d.2.2.1\/c.2.2.2.1=d.2.2.2.1):=by unfold YE YM toC;rw[To]
  refine zX4 ?_
  apply Vj YD
  intro R'
  unfold intB schB
  have hr7:Rd B w0 (R'::blk gr (.cells #[.bool false] 4 (0,0))::intB g2 c.1::schB g1 s::blk gc (.cells (celF c).toArray 48 (0,0))::blk gi (.cells #[.int .i64 i] 3 (0,0))::schB gs s::H) s.A (s.cells.flatMap celF):=hr6.cons.cons
  unfold intB schB at hr7
  clear hr6
  repeat'(first|refine zgd ?_|(refine zge ?_ ?_<;>intro _<;>try exact zo)|(refine zgh ?_;intro _)|fail)
  all_goals first
   |(refine Qg [blk gr (.cells #[.bool true] 4 (0,0))] ⟨rfl,?_,rfl⟩ ?_
     ·exact Yfp (j:=j) (by omega) (by rw[hc];exact hjs) (by rw[hc,hd];exact htc.2 (by omega))
     ·dsimp only[List.cons_append,List.nil_append]
      exact zk
     done)
   |(refine UK () ?_ ?_
     ·intro m j2 hm hj2 hji
      rcases RN.1 hm with h|h
      ·exact hI m j2 h hj2 hji
      ·subst h
       obtain rfl:=Tz (hj.symm.trans hj2)
       rw[hd]
       exact RB.2 λh=>by have:=htc.1 h;omega
     ·dsimp only[List.cons_append,List.nil_append]
      exact zk
     done)
 ·rintro D ⟨⟩ hI
  have htw:XV s.sch i=false:=Ynk hi λj hj hji=>by
   rw[hc]at hj⊢
   obtain⟨m,hm⟩:=TO.1 hj
   refine hI m j ?_ hm hji
   rw[inXs,Tu]
   exact(Tn.1 hm).1
  rw[htw]
  dsimp only[List.cons_append,List.nil_append]
  unfold intB schB
  refine zX2 ?_
  apply Z0 YD
  apply VQ_m
  apply YkC T (H2:=H);exact rfl;exact rfl;(focus exact zc2);exact rfl;exact rfl;(intro w hw;refine hw.perm ?_;focus exact zc6);exact OX
 ·rintro D e K ⟨rfl,htw,rfl⟩ hjmp
  rw[htw]
  dsimp only[List.cons_append,List.nil_append]
  unfold intB schB
  refine zX2 ?_
  apply Z0 YD
  apply VQ_m
  apply YkC T (H2:=H);exact rfl;exact rfl;(focus exact zc2);exact rfl;exact rfl;(intro w hw;refine hw.perm ?_;focus exact zc6);exact OX
open Go.RowKit Go.Eng Go.Nw Go.Rt
variable {A A2:Option Addr}{cap cap2 B:Nat}{w0 w:World}{H:List HP}
theorem ZG(l m:List Int)(hlen:l.length<=1000000000000)(_hlen2:m.length<=1000000000000)(hr:Rd B w0 H A (l.flatMap numF))(hr2:Rd B w0 H A2 (m.flatMap numF))(hw:St B w0 H w):
 CX B w0 110 [.slice A l.length cap,.slice A2 m.length cap2] w λu K=>u=.bool (decide (l=m))/\K=H:=by
 refine Yc Tryz.func110 Tryz.ntmps110 rfl rfl hw ?_
 by_cases hll:l.length=m.length
 rotate_left
 ·exact zc11
 refine zX3 ?_<;>intros
 refine Yf (λ(k:Nat)=>[(5,.int .i64 k),(0,.slice A l.length cap),(1,.slice A2 m.length cap2)]) (λ_=>H) (λk=>k<=l.length/\l.take k=m.take k) (λk=>l.length-k) 0 ⟨Tc _,by simp⟩ ?_ (λw hw=>hw) ?_
 ·exact zc1
 rintro k ⟨hk,hi⟩ K hK
 by_cases hlt:k<l.length
 ·obtain⟨a,ha⟩:∃a,l[k]? =some a:=⟨_,Ta hlt⟩
  obtain⟨b,hb⟩:∃b,m[k]? =some b:=⟨_,Ta (by omega)⟩
  by_cases hab:a=b
  ·refine zX0 ?_<;>intros
   apply hK (k+1)
   ·exact Yp3
   ·omega
   ·exact zc1
   exact zc20
  ·refine zX0 ?_<;>intros
   apply Yd;exact rfl;exact rfl
   exact⟨by rw[Tj λe=>by rw[e,hb]at ha;exact hab (Tz ha).symm],rfl⟩
 exact zc30
theorem Wr(l m:List RowM)(hlen:l.length<=1000000000000)(_hlen2:m.length<=1000000000000)(hl2:∀r∈l,r.xs.length<=1000000000000)(hm2:∀r∈m,r.xs.length<=1000000000000)(hr:Rd B w0 H A (l.flatMap rowF))(hr2:Rd B w0 H A2 (m.flatMap rowF))(hrl:∀r∈l,Rd B w0 H r.A (r.xs.flatMap numF))(hrm:∀r∈m,Rd B w0 H r.A (r.xs.flatMap numF))(hw:St B w0 H w):
 CX B w0 49 [.slice A l.length cap,.slice A2 m.length cap2] w λu K=>u=.bool (decide (l.map (·.xs)=m.map (·.xs)))/\K=H:=by
 refine Yc Tryz.func49 Tryz.ntmps49 rfl rfl hw ?_
 by_cases hll:l.length=m.length
 rotate_left
 ·exact zc18
 refine zX3 ?_<;>intros
 refine Yf (λ(k:Nat)=>[(5,.int .i64 k),(0,.slice A l.length cap),(1,.slice A2 m.length cap2)]) (λ_=>H) (λk=>k<=l.length/\(l.take k).map (·.xs)=(m.take k).map (·.xs)) (λk=>l.length-k) 0 ⟨Tc _,by simp⟩ ?_ (λw hw=>hw) ?_
 ·exact zc1
 rintro k ⟨hk,hi⟩ K hK
 by_cases hlt:k<l.length
 ·obtain⟨a,ha⟩:∃a,l[k]? =some a:=⟨_,Ta hlt⟩
  obtain⟨b,hb⟩:∃b,m[k]? =some b:=⟨_,Ta (by omega)⟩
  have ham:=Td ha
  have hbm:=Td hb
  have hss:=λ{w:World}(hw:St B w0 H w)=>ZG a.xs b.xs (cap:=a.cap) (cap2:=b.cap) (hl2 a ham) (hm2 b hbm) (hrl a ham) (hrm b hbm) hw
  by_cases hab:a.xs=b.xs
  ·rw[Ti hab]at hss
   refine zX66 ?_<;>intros
   apply hK (k+1)
   ·exact zc49
   ·omega
   ·exact zc1
   exact zc20
  ·rw[Tj hab]at hss
   refine zX66 ?_<;>intros
   exact zc24
 exact zc30
def rowQ(r:RowM):HP:=ints r.A r.cap r.xs
structure RqM where
 f:Flw
 A:Option Addr
 cap:Nat
 rows:List RowM
def rqF(x:RqM):List Value:=[.int .i64 x.f.1,.int .i64 x.f.2.1,.int .i64 x.f.2.2.1,.int .i64 x.f.2.2.2.1,.int .i64 x.f.2.2.2.2.1,.int .i64 x.f.2.2.2.2.2,.slice x.A x.rows.length x.cap]
def rqV(x:RqM):Value:=.agg #[.int .i64 x.f.1,.int .i64 x.f.2.1,.int .i64 x.f.2.2.1,.int .i64 x.f.2.2.2.1,.int .i64 x.f.2.2.2.2.1,.int .i64 x.f.2.2.2.2.2,.slice x.A x.rows.length x.cap]
def RqM.rq(x:RqM):Rqs:=(x.f,x.rows.map (·.xs))
abbrev netA(g:Nat)(n:NetM):HP:=blk g (.cells #[.int .i64 n.nodes,.slice n.pA n.rows.length n.pcap,.int .i64 n.noise,.int .i64 n.thr,.slice n.lA n.links.length n.lcap,.slice n.mA n.margin.length n.mcap] 26 (0,0))
abbrev schA(g:Nat)(s:SchM):HP:=blk g (.cells #[.int .i64 s.len,.int .i64 s.off,.slice s.A s.cells.length s.cap] 30 (0,0))
abbrev rqA(g:Nat)(x:RqM):HP:=blk g (.cells #[.int .i64 x.f.1,.int .i64 x.f.2.1,.int .i64 x.f.2.2.1,.int .i64 x.f.2.2.2.1,.int .i64 x.f.2.2.2.2.1,.int .i64 x.f.2.2.2.2.2,.slice x.A x.rows.length x.cap] 69 (0,0))
structure RqM.In(B:Nat)(w0:World)(H:List HP)(x:RqM):Prop where
 rt:Rd B w0 H x.A (x.rows.flatMap rowF)
 rw_:∀r∈x.rows,Rd B w0 H r.A (r.xs.flatMap numF)
 ln:x.rows.length<=1000000000000
 rl:∀r∈x.rows,r.xs.length<=1000000000000/\r.xs.length<=r.cap
variable {B:Nat}{w0:World}{H H':List HP}{x:RqM}
theorem RqM.In.mono(h:x.In B w0 H)(hH:∀w,St B w0 H' w->St B w0 H w):x.In B w0 H':=⟨h.rt.mono hH,λr hr=>(h.rw_ r hr).mono hH,h.ln,h.rl⟩
variable {X:HP}
theorem RqM.In.cons(h:x.In B w0 H):x.In B w0 (X::H):=h.mono λ_ hw=>hw.tail
structure QIn(B:Nat)(w0:World)(H:List HP)(A:Option Addr)(q:List RqM):Prop where
 rd:Rd B w0 H A (q.flatMap rqF)
 x:∀x∈q,x.In B w0 H
 ln:q.length<=1000000000000
variable {A:Option Addr}{q:List RqM}
theorem QIn.mono(h:QIn B w0 H A q)(hH:∀w,St B w0 H' w->St B w0 H w):QIn B w0 H' A q:=⟨h.rd.mono hH,λx hx=>(h.x x hx).mono hH,h.ln⟩
theorem QIn.cons(h:QIn B w0 H A q):QIn B w0 (X::H) A q:=h.mono λ_ hw=>hw.tail
structure ClM where
 flow:Int
 rA:Option Addr
 rcap:Nat
 rs:List RowM
 bA:Option Addr
 bcap:Nat
 bs:List Int
 wA:Option Addr
 wcap:Nat
 ws:List Int
 sA:Option Addr
 scap:Nat
 ss:List RowM
def clF(c:ClM):List Value:=[.int .i64 c.flow,.slice c.rA c.rs.length c.rcap,.slice c.bA c.bs.length c.bcap,.slice c.wA c.ws.length c.wcap,.slice c.sA c.ss.length c.scap]
def clV(c:ClM):Value:=.agg #[.int .i64 c.flow,.slice c.rA c.rs.length c.rcap,.slice c.bA c.bs.length c.bcap,.slice c.wA c.ws.length c.wcap,.slice c.sA c.ss.length c.scap]
def ClM.clm(c:ClM):Clm:=⟨c.flow,c.rs.map (·.xs),c.bs,c.ws,c.ss.map (·.xs)⟩
structure ClM.In(B:Nat)(w0:World)(H:List HP)(c:ClM):Prop where
 rt:Rd B w0 H c.rA (c.rs.flatMap rowF)
 rw_:∀r∈c.rs,Rd B w0 H r.A (r.xs.flatMap numF)
 bd:Rd B w0 H c.bA (c.bs.flatMap numF)
 ws:Rd B w0 H c.wA (c.ws.flatMap numF)
 st:Rd B w0 H c.sA (c.ss.flatMap rowF)
 sw:∀r∈c.ss,Rd B w0 H r.A (r.xs.flatMap numF)
 ln:c.rs.length<=1000000000000/\c.bs.length<=1000000000000/\c.ws.length<=1000000000000/\c.ss.length<=1000000000000
 rl:∀r∈c.rs,r.xs.length<=1000000000000
 sl:∀r∈c.ss,r.xs.length<=1000000000000
variable {c:ClM}
theorem ClM.In.mono(h:c.In B w0 H)(hH:∀w,St B w0 H' w->St B w0 H w):c.In B w0 H':=
 ⟨h.rt.mono hH,λr hr=>(h.rw_ r hr).mono hH,h.bd.mono hH,h.ws.mono hH,h.st.mono hH,λr hr=>(h.sw r hr).mono hH,h.ln,h.rl,h.sl⟩
theorem ClM.In.cons(h:c.In B w0 H):c.In B w0 (X::H):=h.mono λ_ hw=>hw.tail
structure CIn(B:Nat)(w0:World)(H:List HP)(A:Option Addr)(c:List ClM):Prop where
 rd:Rd B w0 H A (c.flatMap clF)
 x:∀x∈c,x.In B w0 H
 ln:c.length<=1000000000000
theorem CIn.mono{c:List ClM}(h:CIn B w0 H A c)(hH:∀w,St B w0 H' w->St B w0 H w):CIn B w0 H' A c:=⟨h.rd.mono hH,λx hx=>(h.x x hx).mono hH,h.ln⟩
theorem CIn.cons{c:List ClM}(h:CIn B w0 H A c):CIn B w0 (X::H) A c:=h.mono λ_ hw=>hw.tail
def clP(c:ClM):List HP:=[sl 104 1 c.rA c.rs.length c.rcap (c.rs.flatMap rowF),many (c.rs.map rowQ),nrs c.bA c.bcap c.bs,nrs c.wA c.wcap c.ws,sl 24 1 c.sA c.ss.length c.scap (c.ss.flatMap rowF),many (c.ss.map rowQ)]
def clQ(c:ClM):HP:=many (clP c)
def nilC(f:Int):ClM:=⟨f,none,0,[],none,0,[],none,0,[],none,0,[]⟩
theorem Yt4(hm:clQ c∈H)(hl:(c.rs.length<=1000000000000/\c.bs.length<=1000000000000/\c.ws.length<=1000000000000/\c.ss.length<=1000000000000)/\(∀r∈c.rs,r.xs.length<=1000000000000)/\∀r∈c.ss,r.xs.length<=1000000000000):c.In B w0 H:=by
 have hb:∀w,St B w0 H w->St B w0 (clP c) w:=λw hw=>hw.inM hm
 refine ClM.In.mono (H:=clP c) ?_ hb
 refine⟨.sl (.head _),λr hr=>?_,.sl (.tail _ (.tail _ (.head _))),.sl (.tail _ (.tail _ (.tail _ (.head _)))),.sl (.tail _ (.tail _ (.tail _ (.tail _ (.head _))))),λr hr=>?_,hl.1,hl.2.1,hl.2.2⟩
 ·exact Rd.many (L:=c.rs.map rowQ) (.tail _ (.head _)) (Rx hr)
 ·exact Rd.many (L:=c.ss.map rowQ) (.tail _ (.tail _ (.tail _ (.tail _ (.tail _ (.head _)))))) (Rx hr)
theorem QL{w:World}(f:Int)(h:St B w0 H w):St B w0 (clQ (nilC f)::H) w:=by
 have h1:=(h.perm (.noMany H)).nilSlice 24 1
 have h2:=(((h1.nilSlice 3 1).nilSlice 3 1).perm (.noMany _)).nilSlice 104 1
 exact h2.perm (.close [_,_,_,_,_,_] H)
variable {B cap m:Nat}{w0 w:World}{H:List HP}
theorem OZ(n:NetM)(v:Int)(hw:St B w0 H w):
 CX B w0 365 [n.val,.int .i64 v] w λu K=>u=.bool (insE v n.net.nodes)/\K=H:=by
 have e1:n.net.nodes=n.nodes:=rfl
 refine Yc Tryz.func365 Tryz.ntmps365 rfl rfl hw ?_
 exact zc15
theorem Yjn(n:NetM)(c:Cel)(gn:Nat)(hm:blk gn (.cells #[.int .i64 n.nodes,.slice n.pA n.rows.length n.pcap,.int .i64 n.noise,.int .i64 n.thr,.slice n.lA n.links.length n.lcap,.slice n.mA n.margin.length n.mcap] 26 (0,0))∈H)(hw:St B w0 H w):
 CX B w0 364 [celV c,.pointer (some ⟨gn,0,none⟩)] w λv K=>v=.bool (V8 n.net c)/\K=H:=by
 refine Yc Tryz.func364 Tryz.ntmps364 rfl rfl hw ?_
 obtain⟨b,hb⟩:∃b,V8 n.net c=b:=⟨_,rfl⟩
 rw[hb]
 unfold V8 YM toC at hb
 repeat'(first|((first|apply Yx YeE|apply Yw YeE);exact za;exact rfl;exactλ_ hw=>(OZ n _ hw);all_goals(intro hB;(try simp only[To,Tv]at hB);try exact zo))|refine zgd ?_|(refine zgh ?_;intro _)|fail)
 all_goals(
  apply Yg H
  ·exact zk
  apply Yd;exact rfl;exact rfl
  refine⟨?_,rfl⟩
  rw[<-hb]
  simp[*])
variable {A:Option Addr}
theorem WD(p:Cel->Bool)(l:List Cel)(f:Nat)(cs:List Value)(hen:∀xs w,(callFunc f xs).run Tryz.prog w=.ok (.enter f xs) w)(hlen:l.length<=1000)(hr:Rd B w0 H A (l.flatMap celF))
 (hp:∀a∈l,∀w,St B w0 H w->Calls Tryz.prog f ([celV a]++cs).toArray w (Post B w0 λv K=>v=.bool (p a)/\K=H)) (hw:St B w0 H w):
 CX B w0 366 [.slice A l.length cap,.func (.func f) #[] cs.toArray] w λv K=>v=.bool (l.any p)/\K=H:=by
 refine Yc Tryz.func366 Tryz.ntmps366 rfl rfl hw ?_
 rw[<-YcI]
 refine zX4 ?_
 first|apply Ya YeB|apply Yb YeB
 exact za
 exact rfl
 exactλ_ hw=>(YcJ p l f cs hen hlen hr hp hw)
 by_cases h0:0<=Yq p l 0
 ·exact zc16
 ·exact zc16
def Wq(n:Net)(c:Cel)(node:Int)(m:Nat):Int:=(([c.2.2.1,c.2.2.2.1].take m).map λe=>powN n e node).sum
variable {n:Net}
theorem YmY{c:Cel}{node e:Int}(h:[c.2.2.1,c.2.2.2.1][m]? =some e):Wq n c node (m+1)=Wq n c node m+powN n e node:=by
 grind [Wq,TB]
theorem Yre(hok:Ok n)(c:Cel)(node:Int)(h:m<=2):0<=Wq n c node m/\Wq n c node m<=137438953472:=by
 have h1:=Jq hok c.2.2.1 node
 have h2:=Jq hok c.2.2.2.1 node
 match m,h with
 |0,_=>simp[Wq]
 |1,_=>grind [Wq]
 |2,_=>simp[Wq];omega
theorem Ych(n:NetM)(l:List Cel)(j:Nat)(node:Int)(hok:Ok n.net)(hnode:0<=node/\node<n.nodes)(hlen:l.length<=1000)(hin:n.In B w0 H)(hr:Rd B w0 H A (l.flatMap celF))(hw:St B w0 H w):
 CX B w0 367 [n.val,.slice A l.length cap,.int .i64 j,.int .i64 node] w λv K=>v=.int .i64 (Yz n.net l j node l.length)/\K=H:=by
 refine Yc Tryz.func367 Tryz.ntmps367 rfl rfl hw ?_
 have e1:n.net.nodes=n.nodes:=rfl
 refine zX70 ?_<;>intros
 rename_i gn
 refine Yf (λ(k:Nat)=>[(16,.int .i64 k),(15,.int .i64 l.length),(14,.slice A l.length cap),(9,.int .i64 (Yz n.net l j node k)),(4,.pointer (some ⟨gn,0,none⟩)),(2,.int .i64 j),(3,.int .i64 node)]) (λ_=>netN gn n::H) (λk=>k<=l.length) (λk=>l.length-k) 0 (Tc _) ?_ (λw hw=>hw) ?_
 ·exact zc1
 rintro k hk K hK
 have hbd:=Qt hok l j node k
 have hrc:=hr.cons (X:=netN gn n)
 by_cases hlt:k<l.length
 ·obtain⟨c,hc⟩:∃c,l[k]? =some c:=⟨_,Ta hlt⟩
  have hcl:celL l k=c:=by unfold celL;rw[TA,hc];rfl
  have hst:Yz n.net l j node (k+1)=Yz n.net l j node k+if k=j then 0 else powN n.net c.2.2.1 node+powN n.net c.2.2.2.1 node:=by
   rw[Yz,hcl];rfl
  by_cases hkj:k=j
  ·rw[Tm hkj,Ny]at hst
   refine zX44 ?_<;>intros
   apply hK (k+1)
   ·exact Yfs
   ·omega
   ·rw[hst]
    exact zc1
   ·exact zc0
  rw[Tf hkj]at hst
  refine zX44 ?_<;>intros
  rename_i gc _ ge
  refine Yf (λ(m:Nat)=>[(30,.int .i64 m),(29,.int .i64 ((2:Nat):Int)),(28,.slice (some ⟨ge,0,none⟩) ([c.2.2.1,c.2.2.2.1]:List Int).length 2),(9,.int .i64 (Yz n.net l j node k+Wq n.net c node m)),(16,.int .i64 k),(15,.int .i64 l.length),(14,.slice A l.length cap),(4,.pointer (some ⟨gn,0,none⟩)),(2,.int .i64 j),(3,.int .i64 node)]) (λ_=>blk ge (.cells #[.int .i64 c.2.2.1,.int .i64 c.2.2.2.1] 3 (0,0))::netN gn n::H) (λm=>m<=2) (λm=>2-m) 0 (Tc _) ?_ ?_ ?_
  ·rw[show Wq n.net c node 0=0 from rfl,Ny]
   exact zc1
  ·exact zc0
  rintro m hm K2 hK2
  have hpb:=Yre hok c node hm
  have hre:Rd B w0 (blk ge (.cells #[.int .i64 c.2.2.1,.int .i64 c.2.2.2.1] 3 (0,0))::netN gn n::H) (some ⟨ge,0,none⟩) (([c.2.2.1,c.2.2.2.1]:List Int).flatMap numF):=Rd.blk (cs:=#[.int .i64 c.2.2.1,.int .i64 c.2.2.2.1]) (.head _)
  clear hrc
  unfold netN at hre⊢
  by_cases hlt2:m<2
  ·obtain⟨e,he⟩:∃e,[c.2.2.1,c.2.2.2.1][m]? =some e:=⟨_,Ta hlt2⟩
   have hst2:=YmY (n:=n.net) (node:=node) he
   have hcn:=λ{H':List HP}{w:World}(hw:St B w0 H' w)=>OZ n e hw
   have hl2:([c.2.2.1,c.2.2.2.1]:List Int).length=2:=rfl
   cases hie:insE e n.net.nodes with
   |false=>
    rw[hie]at hcn
    rw[show powN n.net e node=0 by unfold powN;rw[hie];simp,Ny]at hst2
    refine zX77 ?_<;>intros
    apply hK2 (m+1)
    ·show m+1<=2
     omega
    ·omega
    ·rw[hst2]
     exact zc1
    ·unfold netN
     exact zc0
   |true=>
    rw[hie]at hcn
    have he2:0<=e/\e<n.net.nodes:=TR hie
    have hp0:(n.rows.length:Int)=n.net.nodes:=Ys7
    obtain⟨r,hrw⟩:∃r,n.rows[e.toNat]? =some r:=⟨_,Ta (by omega)⟩
    have hrm:=Td hrw
    have hrl:(r.xs.length:Int)=n.net.nodes:=hok.p1 r.xs (TI.2 ⟨r,hrm,rfl⟩)
    obtain⟨q,hq⟩:∃q,r.xs[node.toNat]? =some q:=⟨_,Ta (by omega)⟩
    have hpw:powN n.net e node=q:=by
     unfold powN
     rw[Tm ⟨hie,Ti (by omega)⟩]
     exact Ytw
    have hqb:=Jq hok e node
    rw[hpw]at hqb hst2
    have hpd:=hin.pw
    have hrd:=hin.rw_ r hrm
    have hs1:=hin.s1
    have hs2:=hin.s2 r hrm
    refine zX77 ?_<;>intros
    apply hK2 (m+1)
    ·show m+1<=2
     omega
    ·omega
    ·rw[hst2]
     exact zc1
    ·unfold netN
     exact zc0
  ·obtain rfl:m=2:=by omega
   have hp2:Yz n.net l j node (k+1)=Yz n.net l j node k+Wq n.net c node 2:=by
    rw[hst]
    simp[Wq]
   refine zX1 ?_<;>intros
   apply hK (k+1)
   ·exact Yfs
   ·omega
   ·rw[hp2]
    exact zc1
   ·unfold netN
    exact zc0
 ·refine zX1 ?_<;>intros
  apply Yg H
  ·exact zc0
  apply Yd;exact rfl;exact rfl
  rw[show k=l.length by omega]
  exact OX
theorem Un(n:NetM)(l:List Cel)(j:Nat)(node:Int)(hck:Ym n.net=0)(hnode:0<=node/\node<n.nodes)(hj:j<l.length)(hlen:l.length<=1000)(hno:l.any (V8 n.net)=false)(hin:n.In B w0 H)(hr:Rd B w0 H A (l.flatMap celF))(hw:St B w0 H w):
 CX B w0 283 [n.val,.slice A l.length cap,.int .i64 j,.int .i64 node] w λv K=>v=.int .i64 (Ul n.net l j node)/\K=H:=by
 refine Yc Tryz.func283 Tryz.ntmps283 rfl rfl hw ?_
 have e1:n.net.nodes=n.nodes:=rfl
 have hins:insE node n.net.nodes=true:=Ti hnode
 have hd:Ul n.net l j node=Yz n.net l j node l.length:=by
  unfold Ul
  rw[Tf (by rw[hck,hins,hno];simp;omega),RD]
 rw[hd]
 have hchk:=λ{H':List HP}{w:World}(hin:n.In B w0 H') (hw:St B w0 H' w)=>Y8 n hin hw
 rw[hck]at hchk
 have hcn:=λ{H':List HP}{w:World}(hw:St B w0 H' w)=>OZ n node hw
 rw[hins]at hcn
 (apply Y0;apply YL;apply Yy;exact rfl;exact rfl;intro g)
 have hct:=λ{H':List HP}{w:World}(hm:blk g (.cells #[.int .i64 n.nodes,.slice n.pA n.rows.length n.pcap,.int .i64 n.noise,.int .i64 n.thr,.slice n.lA n.links.length n.lcap,.slice n.mA n.margin.length n.mcap] 26 (0,0))∈H') (hr:Rd B w0 H' A (l.flatMap celF)) (hw:St B w0 H' w)=>WD (V8 n.net) l 364 [.pointer (some ⟨g,0,none⟩)] Yvo hlen (cap:=cap) hr (λc _ w hw=>Yjn n c g hm hw) hw
 rw[hno]at hct
 repeat'(first|((first|apply Ya en68|apply Yb en68);exact za;exact rfl;exactλ_ hw=>(hchk hin.cons hw))|((first|apply Ya YeE|apply Yb YeE);exact za;exact rfl;exactλ_ hw=>(hcn hw))|((first|apply Ya Yk9|apply Yb Yk9);exact za;exact rfl;exactλ_ hw=>(hct zm hr.cons hw))|((first|apply Ya Yla|apply Yb Yla);exact za;exact rfl;exactλ_ hw=>(Ych n l j node (YN hck) hnode hlen hin.cons hr.cons hw))|(apply zg29;(apply Ys;exact za;exact rfl))|refine zgd ?_|(refine zgf ?_ ?_<;>intro _<;>try exact zo)|fail)
 apply Yg H
 ·exact zc0
 exact zc3
def relE(x:WayM)(a:Int):Int×List Int×Bool:=match JO x.n.net x.s.sch x.f x.r a with
 |none=>(0,[],false)
 |some l=>(ZB l-a+1,l.map (λz=>z-a),true)
theorem Ou(x:WayM)(a:Int):JO x.n.net x.s.sch x.f x.r a=if(runW x a).length<ZP (YH x.n.net x.r)then none else some ((runW x a).map Prod.snd):=Ylx _ _ _ _ _
variable {B:Nat}{w0 w:World}{H:List HP}
theorem Yhf(x:WayM)(a:Int)(hw:St B w0 H w):
 CX B w0 268 [x.val,.int .i64 a] w λv K=>∃ga gw,v=.func (.func 344) #[] #[.pointer (some ⟨ga,0,none⟩),.pointer (some ⟨gw,0,none⟩)]/\K=intB ga a::wayB gw x::H:=by
 refine Yc Tryz.func268 Tryz.ntmps268 rfl rfl hw ?_
 unfold WayM.val intB
 repeat'(first|(first|(refine zs52 ?_;intro _)|(refine zs53 ?_;intro _))|((apply Ys;exact za;exact rfl))|refine zga ?_|fail)
 exact Yp6
structure NlM where
 A:Option Addr
 cap:Nat
 l:List Int
variable {x:WayM}
theorem Yh4(hok:J7 x):1<=ZP (YH x.n.net x.r):=by
 have hl:=hok.len
 have h0:=UV (n:=x.n.net) (r:=x.r) (i:=0) (by omega)
 have hbd:=WN hok h0
 have hne:(YH x.n.net x.r)=XK x.n.net x.r 0::(YH x.n.net x.r).tail:=by
  cases h:YH x.n.net x.r with
  |nil=>simp_all
  |cons a t=>simp_all
 grind [ZP,Y6]
theorem Ygi(x:WayM)(at0:Int)(hok:J7 x)(hat:0<=at0/\at0<=1000000)(hi:x.In B w0 H)(hw:St B w0 H w):
 CX B w0 368 [x.val,.int .i64 at0] w λv K=>∃A cap,v=.tuple #[.int .i64 (relE x at0).1,.slice A (relE x at0).2.1.length cap,.bool (relE x at0).2.2]/\K=nrs A cap (relE x at0).2.1::H:=by
 refine ZH Tryz.func368 Tryz.ntmps368 rfl rfl hw ?_
 have hper:=hok.per
 have hl9:=hok.len
 have hnp:=Yh4 hok
 have hnl:ZP (YH x.n.net x.r)<=72:=by
  have h1:=QK hok (YH x.n.net x.r).length
  rw[TC,JJ]at h1
  omega
 have hRE:relE x at0=if(runW x at0).length<ZP (YH x.n.net x.r)then(0,[],false)else(ZB ((runW x at0).map Prod.snd)-at0+1,((runW x at0).map Prod.snd).map (λz=>z-at0),true):=by
  unfold relE
  rw[Ou]
  by_cases h:(runW x at0).length<ZP (YH x.n.net x.r)
  ·rw[Tm h,Tm h]
  ·rw[Tf h,Tf h]
 have hWl:(runW x at0).length<=ZP (YH x.n.net x.r):=YbB _ _ _ _ _
 have hWs:∀z∈runW x at0,at0<=z.2/\z.2<at0+x.f.2.2.2.1:=λz hz=>YbC (by omega) hz
 have hiter:=λ{ga gw:Nat}{H':List HP}(hi:x.In B w0 H')=>YfQ x at0 hok hat ga gw hi
 have hxs:YkG x at0=(runW x at0).map cntV:=rfl
 rw[hxs]at hiter
 obtain⟨W,hW⟩:∃W,runW x at0=W:=⟨_,rfl⟩
 obtain⟨nd,hnd⟩:∃nd,ZP (YH x.n.net x.r)=nd:=⟨_,rfl⟩
 have hned:=λ{H':List HP}{w:World}(hi:x.In B w0 H') (hw:St B w0 H' w)=>Yh5 x hok hi hw
 rw[hW,hnd]at hRE hWl
 rw[hW]at hWs hiter
 rw[hnd]at hnp hnl hned
 rw[hRE]
 unfold WayM.val
 unfold intB at hiter
 repeat'(first|(apply zg23;first|(refine zs52 ?_;intro _)|(refine zs53 ?_;intro _))|refine zgb ?_|(refine zgh ?_;intro _)|fail)
 rename_i g2 g3 gO
 apply Yi _ Yvd
 exact za
 exact rfl
 exactλ_ hw=>(Yhf x at0 (hw))
 rintro _ _ ⟨ga,gw,rfl,rfl⟩
 unfold intB
 repeat'(first|refine zgb ?_|fail)
 refine XF 3 1 ?_
 refine ZI (gf:=344) (lb:=[.pointer (some ⟨ga,0,none⟩),.pointer (some ⟨gw,0,none⟩)]) (xs:=W.map cntV) (blk ga (.cells #[.int .i64 at0] 3 (0,0))::wayB gw x::blk g3 (.cells #[.int .i64 at0] 3 (0,0))::wayB g2 x::H) (λy:NlM=>[blk gO (.cells #[.slice y.A y.l.length y.cap] 24 (0,0)),nrs y.A y.cap y.l]) (λi y=>y.l=(W.take i).map (λz=>z.2-at0)) (λ_ _=>False) ⟨none,0,[]⟩ rfl Yvm (hiter hi.cons.cons) rfl ?_ (by kernel_rfl) (by kernel_rfl) ?_ rfl ?_ ?_ (λ_ _ _ h=>h.elim)
 ·intro args h
  obtain⟨z,_,rfl⟩:=TI.1 h
  rfl
 ·simp only[TF,TG,Rr]
  intro w hw
  have h1:St B w0 (nrs none 0 []::blk ga (.cells #[.int .i64 at0] 3 (0,0))::wayB gw x::blk gO (.cells #[.slice none 0 0] 24 (0,0))::blk g3 (.cells #[.int .i64 at0] 3 (0,0))::wayB g2 x::H) w:=hw
  clear hw
  revert w
  exact zc0
 ·rintro l k args R ⟨A,cap,xs⟩ hk hI
  rw[TU]at hk
  obtain⟨⟨d,sl⟩,hz,rfl⟩:∃z,W[k]? =some z/\args=cntV z:=by
   cases h:W[k]? with
   |none=>rw[h]at hk;cases hk
   |some z=>rw[h]at hk;exact⟨z,rfl,(Tz hk).symm⟩
  have hzb:=hWs _ (Td hz)
  have hI:xs=(W.take k).map (λz=>z.2-at0):=hI
  have hxl:xs.length<=72:=by
   rw[hI,Tu,TJ];omega
  dsimp only at hzb
  dsimp only[U0,cntV,List.cons_append,List.nil_append]
  repeat'(first|refine zga ?_|fail)
  apply Vj YD
  intro R'
  repeat'(first|refine zgd ?_|(refine zgh ?_;intro _)|(refine zgi ?_;intro _ _)|fail)
  rename_i A' cap'
  apply UK (NlM.mk A' cap' (xs++[sl-at0]))
  ·show xs++[sl-at0]=_
   rw[TB,hz,Ru,TX,hI];rfl
  ·dsimp only[List.cons_append,List.nil_append]
   rw[J0,show xs.length+1=(xs++[sl-at0]).length by simp]
   exact zc0
 ·rintro D ⟨A,cap,xs⟩ hI
  have hI:xs=(W.take (W.map cntV).length).map (λz=>z.2-at0):=hI
  rw[Tu,TC]at hI
  have hxl:xs.length=W.length:=by rw[hI,Tu]
  dsimp only[List.cons_append,List.nil_append]
  have hll:((W.map Prod.snd).map (λz=>z-at0))=xs:=by rw[hI,SV];rfl
  by_cases hlt:W.length<nd
  ·rw[Tm hlt]
   repeat'(first|refine zgc ?_|fail)
   apply Y7 [0,1,2,3,4] []
   kernel_rfl
   kernel_rfl
   (simp only[Yh,nthO];rfl)
   exact rfl
   repeat'(first|refine zgd ?_|fail)
   first|apply Ya Ylb|apply Yb Ylb
   exact za
   exact rfl
   exactλ_ hw=>(hned (hi.mono zc0) hw)
   repeat'(first|(apply Yj;(repeat(first|with_reducible exact Y5|(with_reducible apply YY;(repeat(first|with_reducible exact YD|with_reducible apply YO))))))|refine zga ?_|fail)
   ·show Perm H (H++[])
    exact zc33
   repeat'(first|refine zgd ?_|(refine zge ?_ ?_<;>intro _<;>try exact zo)|fail)
   apply Z0 YD
   apply VQ_m
   apply Yg (nrs none 0 []::H)
   ·intro w hw
    have h5:St B w0 H w:=by
     revert w
     exact zc0
    exact h5.nilSlice _ _
   apply ZK;(iterate 4 exact rfl)
   exact⟨none,0,rfl,rfl⟩
  ·rw[Tf hlt,hll]
   obtain⟨z,hz⟩:∃z,W[W.length-1]? =some z:=⟨_,Ta (by omega)⟩
   have hzb:=hWs _ (Td hz)
   have hx1:xs[((xs.length:Int)-1).toNat]? =some (z.2-at0):=by
    rw[show((xs.length:Int)-1).toNat=W.length-1 by omega,hI,TU,hz];rfl
   have hla:ZB (W.map Prod.snd)=z.2:=by
    unfold ZB
    rw[Tu,TA,TU,hz];rfl
   rw[hla]
   repeat'(first|refine zgc ?_|fail)
   apply Y7 [0,1,2,3,4] []
   kernel_rfl
   kernel_rfl
   (simp only[Yh,nthO];rfl)
   exact rfl
   repeat'(first|refine zgd ?_|fail)
   first|apply Ya Ylb|apply Yb Ylb
   exact za
   exact rfl
   exactλ_ hw=>(hned (hi.mono zc0) hw)
   repeat'(first|(apply Yj;(repeat(first|with_reducible exact Y5|(with_reducible apply YY;(repeat(first|with_reducible exact YD|with_reducible apply YO))))))|refine zga ?_|fail)
   ·show Perm H (H++[])
    exact zc33
   repeat'(first|refine zgd ?_|(refine zge ?_ ?_<;>intro _<;>try exact zo)|fail)
   apply Z0 YD
   apply VQ_m
   apply Yg (nrs A cap xs::H)
   ·exact zc0
   apply ZK;(iterate 4 exact rfl)
   exact YlG
def UN(R:Option (Int×Int×List Int)):Int×Int×List Int×Bool:=match R with
 |none=>(0,0,[],false)
 |some b=>(b.1,b.2.1,b.2.2,true)
def ZR(x:WayM):Int×Int×List Int×Bool:=UN (V7 x.n.net x.s.sch x.f x.r)
theorem YiE(hok:J7 x){a:Int}{l:List Int}(h:JO x.n.net x.s.sch x.f x.r a=some l):1<=l.length/\a<=ZB l/\ZB l<a+x.f.2.2.2.1:=by
 have hper:=hok.per
 have hnp:=Yh4 hok
 rw[Ou]at h
 split at h
 ·cases h
 obtain rfl:=Tz h
 rw[Tu]
 obtain⟨z,hz⟩:∃z,(runW x a)[(runW x a).length-1]? =some z:=⟨_,Ta (by omega)⟩
 have hzb:=YbC (by omega) (Td hz)
 have hla:ZB ((runW x a).map Prod.snd)=z.2:=by
  grind [ZB]
 omega
structure BdM where
 k:Nat
 rel:Int
 b:Int×Int×List Int
 A:Option Addr
 cap:Nat
theorem Yjf(x:WayM)(hok:J7 x)(hi:x.In B w0 H)(hw:St B w0 H w):
 CX B w0 285 [x.val] w λv K=>∃A cap,v=.tuple #[.int .i64 (ZR x).1,.int .i64 (ZR x).2.1,.slice A (ZR x).2.2.1.length cap,.bool (ZR x).2.2.2]/\K=nrs A cap (ZR x).2.2.1::H:=by
 refine Yc Tryz.func285 Tryz.ntmps285 rfl rfl hw ?_
 have hper:=hok.per
 have hph:=hok.ph
 have hsl:=hok.slen
 obtain⟨R,hR⟩:∃R,V7 x.n.net x.s.sch x.f x.r=R:=⟨_,rfl⟩
 have hO:ZR x=UN R:=by unfold ZR;rw[hR]
 rw[hO]
 unfold V7 at hR
 rw[show x.s.sch.len=x.s.len from rfl]at hR
 obtain⟨S,hS⟩:∃S,JO x.n.net x.s.sch x.f x.r=S:=⟨_,rfl⟩
 rw[hS]at hR
 have hrl:=λ{H':List HP}{w:World}(a:Int) (ha:0<=a/\a<=1000000) (hi:x.In B w0 H') (hw:St B w0 H' w)=>Ygi x a hok ha hi hw
 unfold WayM.val
 repeat'(first|refine zgb ?_|(refine zgh ?_;intro _)|fail)
 rename_i g
 refine XF 3 1 ?_
 refine Yf (λz:BdM=>[(9,.int .i64 z.rel),(8,.slice z.A z.b.2.2.length z.cap),(7,.int .i64 z.b.2.1),(6,.int .i64 z.b.1),(1,.pointer (some ⟨g,0,none⟩))]) (λz=>nrs z.A z.cap z.b.2.2::wayB g x::H)
  (λz=>WA S x.s.len x.f.2.2.2.1 z.k z.rel z.b=R/\x.s.len-z.rel<=z.k/\0<=z.rel/\z.rel<=2000/\0<=z.b.1/\z.b.1<=2000) (λz=>z.k) ⟨x.s.len.toNat,x.f.2.2.2.2.1,(0,0,[]),none,0⟩ ⟨hR,by show x.s.len-x.f.2.2.2.2.1<=((x.s.len.toNat:Nat):Int);omega,hph.1,by show x.f.2.2.2.2.1<=2000;omega,RS _,by show(0:Int)<=2000;decide⟩ ?_ (λw hw=>hw) ?_
 ·exact zc1
 rintro⟨k,rel,⟨b1,b2,bl⟩,A,cap⟩ ⟨hb,hk,h0,h1,hb0,hb1⟩ K hK
 dsimp only at hb hk h0 h1 hb0 hb1⊢
 by_cases hge:x.s.len<=rel
 ·have hRe:R=some (b1,b2,bl):=by
   rw[<-hb]
   cases k with
   |zero=>rfl
   |succ k=>unfold WA;rw[Tm hge]
  rw[hRe]
  clear hK
  repeat'(first|refine zgc ?_|(refine zge ?_ ?_<;>intro _<;>try exact zo)|fail)
  apply Yg (nrs A cap bl::H)
  ·exact zc0
  apply VM;(iterate 5 exact rfl)
  exact YlG
 obtain⟨k,rfl⟩:∃k',k=k'+1:=⟨k-1,by omega⟩
 unfold WA at hb
 rw[Tf hge]at hb
 have hrr:=λ{H':List HP}{w:World}(hi:x.In B w0 H') (hw:St B w0 H' w)=>hrl rel (by omega) hi hw
 unfold relE at hrr
 rw[hS]at hrr
 cases hSr:S rel with
 |none=>
  rw[hSr]at hb hrr
  dsimp only at hb hrr
  rw[<-hb]
  clear hK
  repeat'(first|refine zgb ?_|(refine zge ?_ ?_<;>intro _<;>try exact zo)|fail)
  apply Yi _ Ysu
  exact za
  exact rfl
  exactλ_ hw=>(hrr (hi.mono zc0) (hw))
  rintro _ _ ⟨A2,cap2,rfl,rfl⟩
  repeat'(first|refine zgd ?_|fail)
  apply Yg (nrs none 0 []::H)
  ·intro w hw
   have h5:St B w0 H w:=by
    revert w
    exact zc0
   exact h5.nilSlice _ _
  exact zc72
 |some l=>
  rw[hSr]at hb hrr
  dsimp only at hb hrr
  have hlb:0<=ZB l-rel+1/\ZB l-rel+1<=513:=by
   have:=YiE hok (a:=rel) (l:=l) (by rw[hS];exact hSr)
   omega
  obtain⟨m,hm⟩:∃m,ZB l-rel+1=m:=⟨_,rfl⟩
  rw[hm]at hb hrr hlb
  repeat'(first|refine zgb ?_|(refine zge ?_ ?_<;>intro _<;>try exact zo)|fail)
  apply Yi _ Ysu
  exact za
  exact rfl
  exactλ_ hw=>(hrr (hi.mono zc0) (hw))
  rintro _ _ ⟨A2,cap2,rfl,rfl⟩
  by_cases hgt:b1<m
  ·rw[Tm hgt]at hb
   repeat'(first|refine zgd ?_|(refine zgf ?_ ?_<;>intro _<;>try exact zo)|fail)
   apply hK ⟨k,rel+x.f.2.2.2.1,(m,rel,l.map λz=>z-rel),A2,cap2⟩
   ·exact⟨hb,by exact Ytz,by show 0<=rel+x.f.2.2.2.1;omega,by show rel+x.f.2.2.2.1<=2000;omega,hlb.1,by show m<=2000;omega⟩
   ·exact zc83
   ·exact zc1
   ·exact zc0
  ·rw[Tf hgt]at hb
   repeat'(first|refine zgd ?_|(refine zgf ?_ ?_<;>intro _<;>try exact zo)|fail)
   apply hK ⟨k,rel+x.f.2.2.2.1,(b1,b2,bl),A,cap⟩
   ·exact⟨hb,by exact Ytz,by show 0<=rel+x.f.2.2.2.1;omega,by show rel+x.f.2.2.2.1<=2000;omega,hb0,hb1⟩
   ·exact zc83
   ·exact zc1
   ·exact zc0
abbrev flws(A:Option Addr)(cap:Nat)(l:List Flw):HP:=sl 66 6 A l.length cap (l.flatMap flwF)
theorem Up(A:Option Addr)(cap:Nat)(l:List Flw)(f:Flw):sl 66 6 A (l.length+1) cap (l.flatMap flwF++#[.int .i64 f.1,.int .i64 f.2.1,.int .i64 f.2.2.1,.int .i64 f.2.2.2.1,.int .i64 f.2.2.2.2.1,.int .i64 f.2.2.2.2.2].toList)=flws A cap (l++[f]):=by simp[flws,List.flatMap_append,flwF]
structure FlM where
 i:Nat
 A:Option Addr
 cap:Nat
def RqM.fl(q:List RqM):List Flw:=q.map (·.f)
variable {A:Option Addr}{cap B:Nat}{w0 w:World}{H:List HP}
theorem YaE(q:List RqM)(hl:q.length<=1000000000000)(hr:Rd B w0 H A (q.flatMap rqF))(hw:St B w0 H w):
 CX B w0 101 [.slice A q.length cap] w λv K=>∃A2 cap2,v=.slice A2 (RqM.fl q).length cap2/\K=flws A2 cap2 (RqM.fl q)::H:=by
 refine Yc Tryz.func101 Tryz.ntmps101 rfl rfl hw ?_
 repeat'(first|refine zgb ?_|fail)
 refine XF 66 6 ?_
 refine Yf (λz:FlM=>[(8,.int .i64 (z.i:Nat)),(7,.int .i64 q.length),(6,.slice A q.length cap),(3,.slice z.A (RqM.fl (q.take z.i)).length z.cap)]) (λz=>flws z.A z.cap (RqM.fl (q.take z.i))::H) (λz=>z.i<=q.length) (λz=>q.length-z.i) ⟨0,none,0⟩ (Tc _) ?_ (λw hw=>hw) ?_
 ·exact zu
 rintro⟨i,A2,cap2⟩ hi K hK
 dsimp only at hi⊢
 have hlen:(RqM.fl (q.take i)).length=i:=by grind [Go.Proofs.YtjlgijpmnfabcaaGreatDoor.RqM.fl]
 have hr':=hr.cons (X:=flws A2 cap2 (RqM.fl (q.take i)))
 by_cases hlt:i<q.length
 ·obtain⟨x,hx⟩:∃x,q[i]? =some x:=⟨_,Ta hlt⟩
  have hst:RqM.fl (q.take (i+1))=RqM.fl (q.take i)++[x.f]:=by grind [Go.Proofs.YtjlgijpmnfabcaaGreatDoor.RqM.fl,TB]
  repeat'(first|(apply Ye T;exact rfl;exact zm;exact rfl;exact zv;exact rfl;exact rfl)|refine zgd ?_|(refine zge ?_ ?_<;>intro _<;>try exact zo)|(refine zgh ?_;intro _)|(refine zgi ?_;intro _ _)|fail)
  rename_i A' cap'
  rw[Up,<-hst,show(RqM.fl (q.take i)).length+1=(RqM.fl (q.take (i+1))).length from by rw[hst];simp]
  apply hK ⟨i+1,A',cap'⟩
  ·show i+1<=_
   omega
  ·dsimp only;omega
  ·exact zu
  ·exact zk
 ·obtain rfl:i=q.length:=by omega
  rw[TC]
  repeat'(first|refine zgc ?_|(refine zge ?_ ?_<;>intro _<;>try exact zo)|fail)
  apply Yd;exact rfl;exact rfl
  exact⟨A2,cap2,rfl,rfl⟩
variable {x:RqM}
theorem UB{k:Nat}{r:RowM}(h:x.rows[k]? =some r):rtAt x.rq.2 k=r.xs:=by
 have h2:x.rq.2[k]? =some r.xs:=by
  show(x.rows.map (·.xs))[k]? =_
  simp_all
 grind [Yfg]
theorem Yad(n:NetM)(x:RqM)(hin:n.In B w0 H)(hx:x.In B w0 H)(hw:St B w0 H w):
 CX B w0 186 [n.val,rqV x] w λv K=>v=.int .i64 (rtsE n.net x.rq)/\K=H:=by
 refine Yc Tryz.func186 Tryz.ntmps186 rfl rfl hw ?_
 have hln:x.rq.2.length=x.rows.length:=by unfold RqM.rq;rw[Tu]
 have hlx:=hx.ln
 have e1:x.rq.1=x.f:=rfl
 unfold rtsE
 rw[hln,e1]
 have p1:=λ{H':List HP}{w:World}(r:RowM) (hr:r∈x.rows) (hin:n.In B w0 H') (hx:x.In B w0 H') (hw:St B w0 H' w)=>YbH n x.f.2.1 x.f.2.2.1 r.xs (cap:=r.cap) hin (hx.rw_ r hr) (T0 (hx.rl r hr).1 (by decide)) (hx.rl r hr).2 hw
 unfold NetM.val rqV
 by_cases h0:x.rows.length=0
 ·rw[Tm h0]
  repeat'(first|refine zgb ?_|(refine zge ?_ ?_<;>intro _<;>try exact zo)|(refine zgh ?_;intro _)|fail)
  apply Yg H
  ·exact zc0
  exact zc3
 rw[Tf h0]
 by_cases h2:2<x.rows.length
 ·rw[Tm h2]
  repeat'(first|refine zgb ?_|(refine zgf ?_ ?_<;>intro _<;>try exact zo)|(refine zgh ?_;intro _)|fail)
  apply Yg H
  ·exact zc0
  exact zc3
 rw[Tf h2]
 obtain⟨F,hF⟩:∃F,(λk=>Xu n.net x.f.2.1 x.f.2.2.1 (rtAt x.rq.2 k))=F:=⟨_,rfl⟩
 rw[hF]
 have hFv:∀{k:Nat}{r:RowM},x.rows[k]? =some r->F k=Xu n.net x.f.2.1 x.f.2.2.1 r.xs:=λh=>by rw[<-hF];show Xu _ _ _ _=_;rw[UB h]
 repeat'(first|refine zgb ?_|(refine zgf ?_ ?_<;>intro _<;>try exact zo)|(refine zgh ?_;intro _)|fail)
 rename_i gn gx _ _
 refine Yf (λk:Nat=>[(19,.int .i64 (k:Nat)),(18,.int .i64 x.rows.length),(17,.slice x.A x.rows.length x.cap),(3,.pointer (some ⟨gx,0,none⟩)),(2,.pointer (some ⟨gn,0,none⟩))]) (λ_=>rqA gx x::netA gn n::H) (λk=>k<=x.rows.length/\∀j,0<=j->j<k->F j=0) (λk=>x.rows.length-k) 0 ⟨Tc _,λj _ h=>absurd h (Rj _)⟩ ?_ (λw hw=>hw) ?_
 ·exact zc1
 rintro k ⟨hk,hz⟩ K hK
 have hrt:Rd B w0 (rqA gx x::netA gn n::H) x.A (x.rows.flatMap rowF):=hx.rt.cons.cons
 by_cases hlt:k<x.rows.length
 ·obtain⟨r,hr⟩:∃r,x.rows[k]? =some r:=⟨_,Ta hlt⟩
  have hFk:=hFv hr
  have p2:=λ{H':List HP}{w:World}(hin:n.In B w0 H') (hx:x.In B w0 H') (hw:St B w0 H' w)=>p1 r (Td hr) hin hx hw
  rw[<-hFk]at p2
  by_cases hFz:F k=0
  ·rw[hFz]at p2
   repeat'(first|((first|apply Ya YeC|apply Yb YeC);exact za;exact rfl;exactλ_ hw=>(p2 (hin.mono zk) (hx.mono zk) hw))|refine zgd ?_|(refine zge ?_ ?_<;>intro _<;>try exact zo)|fail)
   apply hK (k+1)
   ·exact Ys1
   ·omega
   ·exact zc1
   ·exact zc0
  ·have hfe:=Xa (f:=F) (r:=x.rows.length) (i0:=0) (i:=k) (λj h1 h2=>hz j h1 h2) (Tc _) (by omega) hFz
   rw[hfe,Tm hFz]
   clear hK
   repeat'(first|((first|apply Ya YeC|apply Yb YeC);exact za;exact rfl;exactλ_ hw=>(p2 (hin.mono zk) (hx.mono zk) hw))|refine zgd ?_|(refine zge ?_ ?_<;>intro _<;>try exact zo)|fail)
   apply Yg H
   ·exact zc0
   exact zc3
 ·obtain rfl:k=x.rows.length:=by omega
  have hfe:=Xj (f:=F) (r:=x.rows.length) (i0:=0) λj h1 h2=>hz j h1 (by omega)
  rw[hfe,Tf (λe=>e rfl)]
  clear hK
  by_cases h3:x.rows.length=2
  rotate_left
  ·rw[Tf (λe=>h3 e.1)]
   repeat'(first|(apply zg28;refine zs84 ?_)|refine zgd ?_|(refine zge ?_ ?_<;>intro _<;>try exact zo)|fail)
   apply Yg H
   ·exact zc0
   exact zc3
  obtain⟨r0,hr0⟩:∃r,x.rows[0]? =some r:=⟨_,Ta (by omega)⟩
  obtain⟨r1,hr1⟩:∃r,x.rows[1]? =some r:=⟨_,Ta (by omega)⟩
  rw[UB hr0,UB hr1]
  have p3:=λ{H':List HP}{w:World}(hx:x.In B w0 H') (hw:St B w0 H' w)=>YaM r0.xs r1.xs (cap:=r0.cap) (cap2:=r1.cap) (T0 (hx.rl r0 (Td hr0)).1 (by decide)) (T0 (hx.rl r1 (Td hr1)).1 (by decide)) (hx.rw_ r0 (Td hr0)) (hx.rw_ r1 (Td hr1)) hw
  by_cases heq:r0.xs=r1.xs
  ·rw[Tm ⟨h3,heq⟩]
   rw[Ti heq]at p3
   repeat'(first|refine zgc ?_|(refine zge ?_ ?_<;>intro _<;>try exact zo)|fail)
   apply Y7 [0,1,2,3,4,5,6,7,8,9,10,11,12,13,14] []
   kernel_rfl
   kernel_rfl
   (simp only[Yh,nthO];rfl)
   exact rfl
   repeat'(first|refine zgd ?_|(refine zge ?_ ?_<;>intro _<;>try exact zo)|fail)
   first|apply Ya Yex|apply Yb Yex
   exact za
   exact rfl
   exactλ_ hw=>(p3 (hx.mono zc0) hw)
   repeat'(first|(apply Yj;(repeat(first|with_reducible exact Y5|(with_reducible apply YY;(repeat(first|with_reducible exact YD|with_reducible apply YO))))))|refine zgd ?_|fail)
   ·show Perm H (H++[])
    exact zc33
   repeat'(first|fail)
   apply Yg H
   ·exact zc0
   exact zc3
  ·rw[Tf (λe=>heq e.2)]
   rw[Tj heq]at p3
   repeat'(first|refine zgc ?_|(refine zge ?_ ?_<;>intro _<;>try exact zo)|fail)
   apply Y7 [0,1,2,3,4,5,6,7,8,9,10,11,12,13,14] []
   kernel_rfl
   kernel_rfl
   (simp only[Yh,nthO];rfl)
   exact rfl
   repeat'(first|refine zgd ?_|(refine zge ?_ ?_<;>intro _<;>try exact zo)|fail)
   first|apply Ya Yex|apply Yb Yex
   exact za
   exact rfl
   exactλ_ hw=>(p3 (hx.mono zc0) hw)
   repeat'(first|(apply Yj;(repeat(first|with_reducible exact Y5|(with_reducible apply YY;(repeat(first|with_reducible exact YD|with_reducible apply YO))))))|refine zgd ?_|fail)
   ·show Perm H (H++[])
    exact zc33
   repeat'(first|fail)
   apply Yg H
   ·exact zc0
   exact zc3
theorem YeN(q:List RqM):RqM.fl q=Y1 (q.map RqM.rq):=by unfold RqM.fl Y1;rw[SV];rfl
theorem UA{q:List RqM}{i:Nat}(h:q[i]? =some x):rqAt (q.map RqM.rq) i=x.rq:=by
 have h2:(q.map RqM.rq)[i]? =some x.rq:=by simp_all
 grind [Oq]
theorem YdX(n:NetM)(q:List RqM)(hin:n.In B w0 H)(hq:QIn B w0 H A q)(hw:St B w0 H w):
 CX B w0 99 [n.val,.slice A q.length cap] w λv K=>v=.tuple #[.int .i64 (rqsE n.net (q.map RqM.rq)).1,.int .i64 (rqsE n.net (q.map RqM.rq)).2]/\K=H:=by
 refine Yc Tryz.func99 Tryz.ntmps99 rfl rfl hw ?_
 have hql:=hq.ln
 have hqr:=hq.rd
 have p1:=λ{H':List HP}{w:World}(hin:n.In B w0 H') (hw:St B w0 H' w)=>Y8 n hin hw
 have p2:=λ{H':List HP}{w:World}(hq:QIn B w0 H' A q) (hw:St B w0 H' w)=>YaE q (cap:=cap) hql hq.rd hw
 have p3:=λ{A2:Option Addr}{cap2:Nat}{H':List HP}{w:World}(hr:Rd B w0 H' A2 ((RqM.fl q).flatMap flwF)) (hw:St B w0 H' w)=>YZ n.nodes (RqM.fl q) (by unfold RqM.fl;rw[Tu];omega) (cap:=cap2) hr hw
 unfold rqsE
 rw[<-YeN,Tu]
 rw[show n.net.nodes=n.nodes from rfl]
 obtain⟨c,hc⟩:∃c,Ym n.net=c:=⟨_,rfl⟩
 obtain⟨⟨fi,fe⟩,hf⟩:∃f,YA n.nodes (RqM.fl q)=f:=⟨_,rfl⟩
 obtain⟨F,hF⟩:∃F,(λi=>rtsE n.net (rqAt (q.map RqM.rq) i))=F:=⟨_,rfl⟩
 rw[hc]at p1⊢
 rw[hf]at p3⊢
 rw[hF]
 dsimp only at p3⊢
 have hFv:∀{k:Nat}{x:RqM},q[k]? =some x->F k=rtsE n.net x.rq:=λh=>by rw[<-hF];show rtsE _ _=_;rw[UA h]
 unfold NetM.val
 by_cases h0:c=0
 rotate_left
 ·rw[Tm h0]
  repeat'(first|((first|apply Ya en68|apply Yb en68);exact za;exact rfl;exactλ_ hw=>(p1 hin.cons hw))|refine zgb ?_|(refine zge ?_ ?_<;>intro _<;>try exact zo)|(refine zgh ?_;intro _)|fail)
  apply Yg H
  ·exact zc0
  exact zc8
 subst h0
 rw[Tf (λe=>e rfl)]
 by_cases h1:fe=0
 rotate_left
 ·rw[Tm h1]
  repeat'(first|((first|apply Ya en68|apply Yb en68);exact za;exact rfl;exactλ_ hw=>(p1 hin.cons hw))|refine zgb ?_|(refine zge ?_ ?_<;>intro _<;>try exact zo)|(refine zgh ?_;intro _)|fail)
  apply YG [0,1,2,3,4,5,6,7,8,9] [] [true]
  kernel_rfl
  kernel_rfl
  exact zy
  (simp only[Yh,nthO];rfl)
  exact rfl
  repeat'(first|refine zgd ?_|fail)
  apply Yi _ YkI
  exact za
  exact rfl
  exactλ_ hw=>(p2 (hq.mono zc0) (hw))
  rintro _ _ ⟨A2,cap2,rfl,rfl⟩
  repeat'(first|(apply Yj;(repeat(first|with_reducible exact Y5|(with_reducible apply YY;(repeat(first|with_reducible exact YD|with_reducible apply YO))))))|refine zgd ?_|fail)
  first|apply Ya en78|apply Yb en78
  exact za
  exact rfl
  exactλ_ hw=>(p3 (Rd.sl (by(focus exact zc2))) hw)
  repeat'(first|(apply Yj;(repeat(first|with_reducible exact Y5|(with_reducible apply YY;(repeat(first|with_reducible exact YD|with_reducible apply YO))))))|refine zgd ?_|(refine zge ?_ ?_<;>intro _<;>try exact zo)|fail)
  apply Yg H
  ·exact zc0
  exact zc8
 subst h1
 rw[Tf (λe=>e rfl)]
 repeat'(first|((first|apply Ya en68|apply Yb en68);exact za;exact rfl;exactλ_ hw=>(p1 hin.cons hw))|refine zgb ?_|(refine zge ?_ ?_<;>intro _<;>try exact zo)|(refine zgh ?_;intro _)|fail)
 first|(rename_i gn;guard_hyp gn:Nat)|(rename_i gn _;guard_hyp gn:Nat)|(rename_i gn _ _;guard_hyp gn:Nat)
 apply YG [0,1,2,3,4,5,6,7,8,9] [] [true]
 kernel_rfl
 kernel_rfl
 exact zy
 (simp only[Yh,nthO];rfl)
 exact rfl
 repeat'(first|refine zgd ?_|fail)
 apply Yi _ YkI
 exact za
 exact rfl
 exactλ_ hw=>(p2 (hq.mono zc0) (hw))
 rintro _ _ ⟨A2,cap2,rfl,rfl⟩
 repeat'(first|(apply Yj;(repeat(first|with_reducible exact Y5|(with_reducible apply YY;(repeat(first|with_reducible exact YD|with_reducible apply YO))))))|refine zgd ?_|fail)
 first|apply Ya en78|apply Yb en78
 exact za
 exact rfl
 exactλ_ hw=>(p3 (Rd.sl (by(focus exact zc2))) hw)
 repeat'(first|(apply Yj;(repeat(first|with_reducible exact Y5|(with_reducible apply YY;(repeat(first|with_reducible exact YD|with_reducible apply YO))))))|refine zgd ?_|(refine zge ?_ ?_<;>intro _<;>try exact zo)|fail)
 refine Yf (λk:Nat=>[(28,.int .i64 (k:Nat)),(27,.int .i64 q.length),(26,.slice A q.length cap),(2,.pointer (some ⟨gn,0,none⟩))]) (λ_=>netA gn n::H) (λk=>k<=q.length/\∀j,0<=j->j<k->F j=0) (λk=>q.length-k) 0 ⟨Tc _,λj _ h=>absurd h (Rj _)⟩ ?_ ?_ ?_
 ·exact zc1
 ·exact zc0
 rintro k ⟨hk,hz⟩ K hK
 have hqr':Rd B w0 (netA gn n::H) A (q.flatMap rqF):=hqr.cons
 by_cases hlt:k<q.length
 ·obtain⟨x,hx⟩:∃x,q[k]? =some x:=⟨_,Ta hlt⟩
  have hFk:=hFv hx
  have hxi:=hq.x x (Td hx)
  have p4:=λ{H':List HP}{w:World}(hin:n.In B w0 H') (hx:x.In B w0 H') (hw:St B w0 H' w)=>Yad n x hin hx hw
  rw[<-hFk]at p4
  by_cases hFz:F k=0
  ·rw[hFz]at p4
   repeat'(first|((first|apply Ya YkU|apply Yb YkU);exact za;exact rfl;exactλ_ hw=>(p4 (hin.mono zk) (hxi.mono zk) hw))|refine zgd ?_|(refine zge ?_ ?_<;>intro _<;>try exact zo)|(refine zgh ?_;intro _)|fail)
   apply hK (k+1)
   ·exact Ys1
   ·omega
   ·exact zc1
   ·exact zc0
  ·have hfe:=Xa (f:=F) (r:=q.length) (i0:=0) (i:=k) (λj h1 h2=>hz j h1 h2) (Tc _) (by omega) hFz
   rw[hfe]
   clear hK
   repeat'(first|((first|apply Ya YkU|apply Yb YkU);exact za;exact rfl;exactλ_ hw=>(p4 (hin.mono zk) (hxi.mono zk) hw))|refine zgd ?_|(refine zge ?_ ?_<;>intro _<;>try exact zo)|(refine zgh ?_;intro _)|fail)
   apply Yg H
   ·exact zc0
   exact zc8
 ·obtain rfl:k=q.length:=by omega
  have hfe:=Xj (f:=F) (r:=q.length) (i0:=0) λj h1 h2=>hz j h1 (by omega)
  rw[hfe]
  clear hK
  repeat'(first|refine zgc ?_|(refine zge ?_ ?_<;>intro _<;>try exact zo)|fail)
  apply Yg H
  ·exact zc0
  exact zc8
variable {s:Sch}{slot:Int}{j n:Nat}
theorem YmA(h:(Yn s j).1=slot)(hj:j<n):∃R,inI s slot n=inI s slot j++j::R/\∀x∈R,j<x:=by
 obtain⟨m,rfl⟩:∃m,n=j+(m+1):=⟨n-j-1,by omega⟩
 have e:inI s slot (j+(m+1))=inI s slot j++((List.range (m+1)).map (j+·)).filter λi=>decide ((Yn s i).1=slot):=by
  grind [inI,List.range_add]
 rw[e,Sj,RP,Nb,Tm (by simp_all)]
 simp_all
theorem YoK{k:Nat}(h:(inI s slot n)[k]? =some j):(inI s slot n).take k=inI s slot j:=by
 have hm:=Oi.1 (Td h)
 obtain⟨R,hR,hRx⟩:=YmA hm.2 hm.1
 rw[hR]at h⊢
 have hk:k=(inI s slot j).length:=by
  rcases SJ k (inI s slot j).length with h1|h1|h1
  ·rw[List.getElem?_append_left h1]at h
   have:=(Oi.1 (Td h)).1
   omega
  ·exact h1
  ·rw[SG (by omega)]at h
   obtain⟨q,hq⟩:∃q,k-(inI s slot j).length=q+1:=⟨k-(inI s slot j).length-1,by omega⟩
   rw[hq,List.getElem?_cons_succ]at h
   have:=hRx j (Td h)
   omega
 simp_all
theorem YfT{α:Type}{p:α->Bool}{l:List α}{i:Nat}{x:α}(h:l[i]? =some x):(l.take (i+1)).filter p=(l.take i).filter p++if p x=true then [x]else []:=zc81
def WY(s:Sch)(c:Cel)(l:List Nat):List Cel:=(l.filter λj=>decide ((Yn s j).2.1=c.2.1)).map (Yn s)
theorem Yas{s:Sch}{c:Cel}:∀{m:Nat},m<=s.cells.length->WY s c (inI s c.1 m)=(s.cells.take m).filter (Xb c)
 |0,_=>by simp[WY,inI]
 |m+1,h=>by
  have ih:=Yas (s:=s) (c:=c) (m:=m) (by omega)
  have hg:=YS (s:=s) (i:=m) (by omega)
  rw[YfT hg,<-ih]
  have hp:Xb c (Yn s m)=true↔(Yn s m).1=c.1/\(Yn s m).2.1=c.2.1:=by simp_all [Xb]
  by_cases h1:(Yn s m).1=c.1
  ·rw[Yll h1]
   unfold WY
   grind
  simp_all [YoJ]
theorem Yie(s:Sch)(c:Cel)(l:List Nat)(j:Nat):WY s c (l++[j])=WY s c l++if(Yn s j).2.1=c.2.1 then [Yn s j]else []:=by
 unfold WY
 grind
structure DsM where
 A:Option Addr
 cap:Nat
 M:List Cel
 a:Int
theorem Yci(n:NetM)(s:SchM)(i:Nat)(hck:Ym n.net=0)(hgood:∀c∈s.cells,YX n.net (YM c) (toC c)=true)(hi:i<s.cells.length)(hl:s.cells.length<=1000){B:Nat}{w0:World}{H:List HP}{w:World}(hin:n.In B w0 H)(hr:Rd B w0 H s.A (s.cells.flatMap celF))(hw:St B w0 H w):
 CX B w0 190 [n.val,s.val,.int .i64 i] w λv K=>v=.bool (ZV n.net s.sch i)/\K=H:=by
 refine ZH Tryz.func190 Tryz.ntmps190 rfl rfl hw ?_
 have hget:s.cells[i]? =some (Yn s.sch i):=YS (s:=s.sch) hi
 obtain⟨c,hc⟩:∃c,Yn s.sch i=c:=⟨_,rfl⟩
 rw[hc]at hget
 have hrm:Rd B w0 [many H] s.A (s.cells.flatMap celF):=hr.tail
 clear hr
 refine YW [many H] (λw hw=>hw.perm (.closeT H)) ?_
 refine zX76 ?_<;>intros
 rename_i gn gs gi g7 g8
 apply YG [0,1,2,3,4,5,6] [7] [false,false,true,true,false,true]
 kernel_rfl
 kernel_rfl
 exact zy
 (simp only[Yh,nthO];rfl)
 (simp only[Yh,nthO];rfl)
 refine zX2 ?_
 apply Yi _ Ysb
 exact za
 exact rfl
 exactλ_ hw=>(YhJ s c.1 (hw))
 rintro _ _ ⟨g1,g2,rfl,rfl⟩
 refine zX2 ?_
 obtain⟨L,hL⟩:∃L,inI s.sch c.1 s.cells.length=L:=⟨_,rfl⟩
 have hiL:i∈L:=by
  rw[<-hL]
  exact Oi.2 ⟨hi,by rw[hc]⟩
 have hr7:Rd B w0 (intB g2 c.1::schB g1 s::blk gi (.cells #[.int .i64 i] 3 (0,0))::schB gs s::netN gn n::[many H]) s.A (s.cells.flatMap celF):=hrm.cons.cons.cons.cons.cons
 rw[show(Value.slice none 0 0).cells=#[Value.slice none 0 0] from rfl]
 refine XF 48 5 ?_
 refine ZI (gf:=320) (lb:=[.pointer (some ⟨g1,0,none⟩),.pointer (some ⟨g2,0,none⟩)]) (xs:=inXs s.sch c.1) (intB g2 c.1::schB g1 s::blk gi (.cells #[.int .i64 i] 3 (0,0))::schB gs s::netN gn n::[many H]) (λx:DsM=>[blk g7 (.cells #[.slice x.A x.M.length x.cap] 28 (0,0)),cels x.A x.cap x.M,blk g8 (.cells #[.int .i64 x.a] 3 (0,0))])
  (λk x=>x.M=WY s.sch c (L.take k)/\x.a=if i∈L.take k then(YJ s.sch i:Int)else 0) (λ_ _=>False) ⟨none,0,[],0⟩ rfl Ysl (YhI s c.1 g1 g2 hr7 (by omega) (.tail _ (.head _)) (.head _)) rfl ?_ (by kernel_rfl) (by kernel_rfl) ?_ ⟨by simp[WY],by simp⟩ ?_ ?_ (λ_ _ _ h=>h.elim)
 ·intro args h
  obtain⟨k,hk⟩:=TO.1 h
  obtain⟨i,_,_,rfl⟩:=QC hk
  rfl
 ·unfold schB intB cels netN
  simp only[TF,TG,Rr,SQ]
  exact zc0
 ·rintro l k args R ⟨A,cap,M,a⟩ hk ⟨hM,ha⟩
  obtain⟨j,hj,hlt,rfl⟩:=QC hk
  have hlt2:j<s.cells.length:=hlt
  have hj:L[k]? =some j:=by rw[<-hL];exact hj
  dsimp only at hM ha⊢
  dsimp only[U0,List.cons_append,List.nil_append]
  have hgj:s.cells[j]? =some (Yn s.sch j):=YS (s:=s.sch) hlt
  have htj:L.take k=inI s.sch c.1 j:=by
   rw[<-hL]at hj⊢
   exact YoK hj
  have htk:L.take (k+1)=L.take k++[j]:=by rw[TB,hj,Ru]
  have hMf:M=(s.cells.take j).filter (Xb c):=by
   rw[hM,htj]
   exact Yas (s:=s.sch) (by show j<=s.cells.length;omega)
  have hMl:M.length<=s.cells.length:=by
   rw[hMf]
   have h1:=RO (Xb c) (s.cells.take j)
   rw[TJ]at h1
   omega
  have hps:=Yie s.sch c (L.take k) j
  rw[<-htk,<-hM]at hps
  obtain⟨d,hd⟩:∃d,Yn s.sch j=d:=⟨_,rfl⟩
  rw[hd]at hgj hps
  refine zX4 ?_
  apply Vj YD
  intro R'
  unfold intB schB netN cels
  clear hr7
  by_cases hoff:d.2.1=c.2.1
  rotate_left
  ·have hij:i≠j:=by
    rintro rfl
    rw[hc]at hd
    subst hd
    exact hoff rfl
   refine zX0 ?_<;>intros
   all_goals(
    apply UK ⟨A,cap,M,a⟩
    ·refine⟨?_,?_⟩
     ·show M=_
      rw[hps,Tf hoff,Rw]
     ·show a=_
      rw[ha,htk]
      simp[hij]
    ·dsimp only[List.cons_append,List.nil_append]
     exact zc0)
  by_cases hji:j=i
  ·obtain rfl:=hji
   obtain rfl:d=c:=hd.symm.trans hc
   have hsa:(M.length:Int)=(YJ s.sch j:Int):=by
    rw[hMf]
    unfold YJ
    rw[hc]
    rfl
   refine zX0 ?_<;>intros
   apply Qe [0,1,2,3,4,5,6] [7,8] [false,true,false,false,false,false,false,true,false,true]
   kernel_rfl
   kernel_rfl
   exact zy
   (simp only[Yh,nthO];rfl)
   (simp only[Yh,nthO];rfl)
   refine zX79 ?_<;>intros
   rename_i A9 cap9
   apply UK ⟨A9,cap9,M++[d],(M.length:Int)⟩
   ·refine⟨?_,?_⟩
    ·show M++[d]=_
     rw[hps,Tm hoff]
    ·show(M.length:Int)=_
     rw[htk,Tm (by simp),hsa]
   ·dsimp only[List.cons_append,List.nil_append]
    intro w hw
    rw[JE,YhR M d]at hw
    unfold cels at hw
    revert w
    exact zc0
  ·have hji2:i≠j:=λe=>hji e.symm
   refine zX0 ?_<;>intros
   apply Qe [0,1,2,3,4,5,6] [7,8] [false,true,false,false,false,false,false,true,false,true]
   kernel_rfl
   kernel_rfl
   exact zy
   (simp only[Yh,nthO];rfl)
   (simp only[Yh,nthO];rfl)
   refine zX79 ?_<;>intros
   rename_i A9 cap9
   apply UK ⟨A9,cap9,M++[d],a⟩
   ·refine⟨?_,?_⟩
    ·show M++[d]=_
     rw[hps,Tm hoff]
    ·show a=_
     rw[ha,htk]
     simp[hji2]
   ·dsimp only[List.cons_append,List.nil_append]
    intro w hw
    rw[JE,YhR M d]at hw
    unfold cels at hw
    revert w
    exact zc0
 ·rintro D ⟨A,cap,M,a⟩ ⟨hM,ha⟩
  have hLl:(inXs s.sch c.1).length=L.length:=by rw[inXs,Tu];exact TD List.length hL
  dsimp only at hM ha⊢
  rw[hLl,TC]at hM ha
  rw[Tm hiL]at ha
  subst ha
  have hMS:M=YI s.sch i:=by
   rw[hM,<-hL]
   have h1:=Yas (s:=s.sch) (c:=c) (TQ _)
   rw[TC]at h1
   rw[show s.cells.length=s.sch.cells.length from rfl,h1]
   unfold YI
   rw[hc]
  have hMl:M.length<=1000:=by
   rw[hMS]
   have h1:=RO (Xb (Yn s.sch i)) s.sch.cells
   exact T0 h1 hl
  have hgM:M[((YJ s.sch i:Nat):Int).toNat]? =some c:=by rw[hMS,RD,W5 (s:=s.sch) hi,hc]
  have hal:YJ s.sch i<M.length:=(Tn.1 hgM).1
  have hok:=YN hck
  have hcm:c∈s.cells:=Td hget
  have hgd:=hgood c hcm
  obtain⟨⟨f0,f1⟩,⟨t0,t1⟩,_,k1,k2⟩:(0<=c.2.2.1/\c.2.2.1<n.net.nodes)/\(0<=c.2.2.2.1/\c.2.2.2.1<n.net.nodes)/\c.2.2.1≠c.2.2.2.1/\0<=Yu n.net c.2.2.1 c.2.2.2.1/\0<=Yu n.net c.2.2.2.1 c.2.2.1:=Xr hok hgd
  have hno:M.any (V8 n.net)=false:=by
   rw[RL]
   intro x hx
   have hxm:x∈s.cells:=by
    rw[hMS]at hx
    exact(RH.1 hx).1
   obtain⟨h1,h2,_⟩:=Xr hok (hgood x hxm)
   unfold V8
   rw[show insE (YM x) n.net.nodes=true from Ti h1,show insE (toC x) n.net.nodes=true from Ti h2]
   simp
  have hinm:n.In B w0 [many H]:=⟨hin.pw.tail,λr hr=>(hin.rw_ r hr).tail,hin.lk.tail,hin.mg.tail,hin.s1,hin.s2,hin.s3,hin.s4⟩
  have hmg:=hinm.mg
  have hs4:=hin.s4
  have hml:n.margin.length=n.net.links.length:=hok.k1
  have x1:=XM k1
  have x2:=XM k2
  have hix:∀u v:Int,Zb n.net u v=Yu n.net u v:=λu v=>by unfold Zb;rw[Tf (by omega)]
  have p1:=λ{H':List HP}{w:World}(hin:n.In B w0 H') (hw:St B w0 H' w)=>Zi n c.2.2.1 c.2.2.2.1 hin hw
  have p2:=λ{H':List HP}{w:World}(hin:n.In B w0 H') (hw:St B w0 H' w)=>Zi n c.2.2.2.1 c.2.2.1 hin hw
  rw[hix]at p1 p2
  obtain⟨i1,hi1⟩:∃z,Yu n.net c.2.2.1 c.2.2.2.1=z:=⟨_,rfl⟩
  obtain⟨i2,hi2⟩:∃z,Yu n.net c.2.2.2.1 c.2.2.1=z:=⟨_,rfl⟩
  rw[hi1]at p1 k1 x1
  rw[hi2]at p2 k2 x2
  have hm1:n.margin[i1.toNat]? =some (mar n.net i1.toNat):=zc31
  have hm2:n.margin[i2.toNat]? =some (mar n.net i2.toNat):=zc31
  have q1:=λ{H':List HP}{w:World}(hin:n.In B w0 H') (hr:Rd B w0 H' A (M.flatMap celF)) (hw:St B w0 H' w)=>Un n M (YJ s.sch i) c.2.2.2.1 hck ⟨t0,t1⟩ hal hMl hno (cap:=cap) hin hr hw
  have q2:=λ{H':List HP}{w:World}(hin:n.In B w0 H') (hr:Rd B w0 H' A (M.flatMap celF)) (hw:St B w0 H' w)=>Un n M (YJ s.sch i) c.2.2.1 hck ⟨f0,f1⟩ hal hMl hno (cap:=cap) hin hr hw
  have r1:=λ{H':List HP}{w:World}(hin:n.In B w0 H') (hw:St B w0 H' w)=>OY n (mar n.net i1.toNat) (Ul n.net M (YJ s.sch i) c.2.2.2.1) hin hw
  have r2:=λ{H':List HP}{w:World}(hin:n.In B w0 H') (hw:St B w0 H' w)=>OY n (mar n.net i2.toNat) (Ul n.net M (YJ s.sch i) c.2.2.1) hin hw
  have hres:ZV n.net s.sch i=(!(Zh n.net (mar n.net i1.toNat) (Ul n.net M (YJ s.sch i) c.2.2.2.1))||!(Zh n.net (mar n.net i2.toNat) (Ul n.net M (YJ s.sch i) c.2.2.1))):=by
   unfold ZV
   rw[hc,<-hMS]
   unfold YM toC
   rw[hi1,hi2]
  obtain⟨b1,hb1⟩:∃b,Zh n.net (mar n.net i1.toNat) (Ul n.net M (YJ s.sch i) c.2.2.2.1)=b:=⟨_,rfl⟩
  obtain⟨b2,hb2⟩:∃b,Zh n.net (mar n.net i2.toNat) (Ul n.net M (YJ s.sch i) c.2.2.1)=b:=⟨_,rfl⟩
  rw[hb1]at r1 hres
  rw[hb2]at r2 hres
  rw[hres]
  dsimp only[List.cons_append,List.nil_append]
  unfold cels intB schB netN
  cases b1 with
  |false=>
   refine zX80 ?_<;>intros
   first|apply Ya en69|apply Yb en69
   exact za
   exact rfl
   exactλ_ hw=>(p1 zc23 hw)
   refine zX7 ?_
   first|apply Ya en69|apply Yb en69
   exact za
   exact rfl
   exactλ_ hw=>(p2 zc23 hw)
   refine zX81 ?_
   first|apply Ya OF|apply Yb OF
   exact za
   exact rfl
   exactλ_ hw=>(q1 zc23 (Rd.sl (by(focus exact zc2))) hw)
   repeat'(first|fail)
   first|apply Ya Wl|apply Yb Wl
   exact za
   exact rfl
   exactλ_ hw=>(r1 zc23 hw)
   refine zX2 ?_
   apply Z0
   ·exact zc87
   apply VQ_m
   apply Yg H
   ·intro w hw
    have h5:St B w0 [many H] w:=by
     revert w
     exact zc0
    exact Q7
   exact zc3
  |true=>
   cases b2 with
   |false=>
    refine zX80 ?_<;>intros
    first|apply Ya en69|apply Yb en69
    exact za
    exact rfl
    exactλ_ hw=>(p1 zc23 hw)
    refine zX7 ?_
    first|apply Ya en69|apply Yb en69
    exact za
    exact rfl
    exactλ_ hw=>(p2 zc23 hw)
    refine zX81 ?_
    first|apply Ya OF|apply Yb OF
    exact za
    exact rfl
    exactλ_ hw=>(q1 zc23 (Rd.sl (by(focus exact zc2))) hw)
    repeat'(first|fail)
    first|apply Ya Wl|apply Yb Wl
    exact za
    exact rfl
    exactλ_ hw=>(r1 zc23 hw)
    refine zX2 ?_
    first|apply Ya OF|apply Yb OF
    exact za
    exact rfl
    exactλ_ hw=>(q2 zc23 (Rd.sl (by(focus exact zc2))) hw)
    refine zX9 ?_
    first|apply Ya Wl|apply Yb Wl
    exact za
    exact rfl
    exactλ_ hw=>(r2 zc23 hw)
    refine zX2 ?_
    apply Z0
    ·exact zc87
    apply VQ_m
    apply Yg H
    ·intro w hw
     have h5:St B w0 [many H] w:=by
      revert w
      exact zc0
     exact Q7
    exact zc3
   |true=>
    refine zX80 ?_<;>intros
    first|apply Ya en69|apply Yb en69
    exact za
    exact rfl
    exactλ_ hw=>(p1 zc23 hw)
    refine zX7 ?_
    first|apply Ya en69|apply Yb en69
    exact za
    exact rfl
    exactλ_ hw=>(p2 zc23 hw)
    refine zX81 ?_
    first|apply Ya OF|apply Yb OF
    exact za
    exact rfl
    exactλ_ hw=>(q1 zc23 (Rd.sl (by(focus exact zc2))) hw)
    repeat'(first|fail)
    first|apply Ya Wl|apply Yb Wl
    exact za
    exact rfl
    exactλ_ hw=>(r1 zc23 hw)
    refine zX2 ?_
    first|apply Ya OF|apply Yb OF
    exact za
    exact rfl
    exactλ_ hw=>(q2 zc23 (Rd.sl (by(focus exact zc2))) hw)
    refine zX9 ?_
    first|apply Ya Wl|apply Yb Wl
    exact za
    exact rfl
    exactλ_ hw=>(r2 zc23 hw)
    refine zX2 ?_
    apply Z0
    ·exact zc87
    apply VQ_m
    apply Yg H
    ·intro w hw
     have h5:St B w0 [many H] w:=by
      revert w
      exact zc0
     exact Q7
    exact zc3
theorem Yj9(x:WayM){B:Nat}{w0:World}{H:List HP}{w:World}(ht:TabsB B w0)(hi:x.In B w0 H)(hw:St B w0 H w):
 CX B w0 191 [x.n.val,x.s.val,flwV x.f,.slice x.A x.r.length x.cap] w λv K=>∃A cap,v=.tuple #[.int .i64 (Xm x.n.net x.s.sch x.f x.r).1.1,.int .i64 (Xm x.n.net x.s.sch x.f x.r).1.2.1,.slice A (Xm x.n.net x.s.sch x.f x.r).1.2.2.length cap,.int .i64 (Xm x.n.net x.s.sch x.f x.r).2]/\K=nrs A cap (Xm x.n.net x.s.sch x.f x.r).1.2.2::H:=by
 refine Yc Tryz.func191 Tryz.ntmps191 rfl rfl hw ?_
 have p1:=λ{H':List HP}{w:World}(hi:x.In B w0 H') (hw:St B w0 H' w)=>YiR x ht hi hw
 obtain⟨R,hR⟩:∃R,Xm x.n.net x.s.sch x.f x.r=R:=⟨_,rfl⟩
 rw[hR]
 unfold Xm at hR
 obtain⟨e,he⟩:∃e,wayE x.n.net x.s.sch x.f x.r=e:=⟨_,rfl⟩
 rw[he]at p1 hR
 unfold NetM.val SchM.val flwV
 by_cases h0:e=0
 rotate_left
 ·rw[Tm h0]at hR
  subst hR
  refine zX68 ?_<;>intros
  apply Yg (nrs none 0 []::H)
  ·intro w hw
   have h5:St B w0 H w:=by
    revert w
    exact zc0
   exact h5.nilSlice _ _
  exact zc72
 subst h0
 rw[Tf (λh=>h rfl)]at hR
 have hok:=YbF he
 have p2:=λ{H':List HP}{w:World}(hi:x.In B w0 H') (hw:St B w0 H' w)=>Yjf x hok hi hw
 unfold ZR at p2
 cases hb:V7 x.n.net x.s.sch x.f x.r with
 |none=>
  rw[hb]at hR p2
  dsimp only[UN]at hR p2
  subst hR
  refine zX68 ?_<;>intros
  apply Yi _ Yse
  exact za
  exact rfl
  exactλ_ hw=>(p2 (hi.mono zc0) (hw))
  rintro _ _ ⟨A2,cap2,rfl,rfl⟩
  refine zX2 ?_
  apply Yg (nrs none 0 []::H)
  ·intro w hw
   have h5:St B w0 H w:=by
    revert w
    exact zc0
   exact h5.nilSlice _ _
  exact zc72
 |some b=>
  rw[hb]at hR p2
  dsimp only[UN]at hR p2
  subst hR
  refine zX68 ?_<;>intros
  apply Yi _ Yse
  exact za
  exact rfl
  exactλ_ hw=>(p2 (hi.mono zc0) (hw))
  rintro _ _ ⟨A2,cap2,rfl,rfl⟩
  refine zX2 ?_
  apply Yg (nrs A2 cap2 b.2.2::H)
  ·exact zc0
  apply VM;(iterate 5 exact rfl)
  exact⟨A2,cap2,rfl,rfl⟩
variable {A:Option Addr}{cap B:Nat}{w0 w:World}{H:List HP}
theorem J4(l:List Int)(hlen:l.length<=1000)(hr:Rd B w0 H A (l.flatMap numF))(hw:St B w0 H w):
 CX B w0 175 [.slice A l.length cap] w λv K=>∃A' cap',v=.slice A' l.length cap'/\K=sl 3 1 A' l.length cap' (l.flatMap numF)::H:=by
 cases A with
 |none=>
  have hl:l=[]:=by
   cases l with
   |nil=>rfl
   |cons x l=>
    exact zc39
  subst hl
  refine Yc Tryz.func175 Tryz.ntmps175 rfl rfl hw ?_
  exact zc22
 |some a=>
  refine Yc Tryz.func175 Tryz.ntmps175 rfl rfl hw ?_
  exact zc12
theorem Wh(l:List Int)(hlen:l.length<=1000)(hr:Rd B w0 H A (l.flatMap numF))(hw:St B w0 H w):
 CX B w0 172 [.slice A l.length cap] w λv K=>∃A' cap',v=.slice A' l.length cap'/\K=sl 3 1 A' l.length cap' (l.flatMap numF)::H:=by
 cases A with
 |none=>
  have hl:l=[]:=by
   cases l with
   |nil=>rfl
   |cons x l=>
    exact zc39
  subst hl
  refine Yc Tryz.func172 Tryz.ntmps172 rfl rfl hw ?_
  exact zc22
 |some a=>
  refine Yc Tryz.func172 Tryz.ntmps172 rfl rfl hw ?_
  exact zc12
theorem Ybk(l:List RowM)(hlen:l.length<=1000)(hr:Rd B w0 H A (l.flatMap rowF))(hw:St B w0 H w):
 CX B w0 173 [.slice A l.length cap] w λv K=>∃A' cap',v=.slice A' l.length cap'/\K=sl 24 1 A' l.length cap' (l.flatMap rowF)::H:=by
 cases A with
 |none=>
  have hl:l=[]:=by
   cases l with
   |nil=>rfl
   |cons x l=>
    exact zc39
  subst hl
  refine Yc Tryz.func173 Tryz.ntmps173 rfl rfl hw ?_
  refine zX6 ?_
  apply Xk 24 1;exact zc42
 |some a=>
  refine Yc Tryz.func173 Tryz.ntmps173 rfl rfl hw ?_
  repeat'(first|(apply Zo;(iterate 3 exact rfl))|(apply Yr T;exact rfl;exact rfl;intro g2)|refine zga ?_|fail)
  apply YU T (f:=rowF) (l2:=l) (e:=24) (size:=1) (xs:=[]);(iterate 3 exact rfl);exact hr.cons;exact(λ_=>rfl);exact(λ_=>rfl);exact rfl;(intro _ _;exact zd);omega;intro A' cap'
  exact zc29
abbrev clA(g:Nat)(c:ClM):HP:=blk g (.cells #[.int .i64 c.flow,.slice c.rA c.rs.length c.rcap,.slice c.bA c.bs.length c.bcap,.slice c.wA c.ws.length c.wcap,.slice c.sA c.ss.length c.scap] 116 (0,0))
theorem QU(e:Nat)(A:Option Addr)(cap:Nat)(l:List RowM)(r:RowM):sl e 1 A (l.length+1) cap (l.flatMap rowF++#[Value.slice r.A r.xs.length r.cap].toList)=sl e 1 A (l++[r]).length cap ((l++[r]).flatMap rowF):=by grind [rowF]
theorem Vm(f:RowM->HP)(l:List RowM)(r:RowM)(H:List HP):Perm (f r::many (l.map f)::H) (many ((l++[r]).map f)::H):=by
 have:=Perm.push (f r) (l.map f) [] H
 simp_all
theorem Yg5{S:Int->Option (List Int)}{len per:Int}{N:Nat}(hS:∀a l,S a=some l->l.length<=N):∀{k:Nat}{rel:Int}{b0 b:Int×Int×List Int},b0.2.2.length<=N->WA S len per k rel b0=some b->b.2.2.length<=N
 |0,rel,b0,b,h0,h=>by
  grind [WA]
 |k+1,rel,b0,b,h0,h=>by
  unfold WA at h
  split at h
  ·simp_all
  cases hs:S rel with
  |none=>simp_all
  |some l=>
   rw[hs]at h
   refine Yg5 hS ?_ h
   grind
theorem Yeo{x:WayM}(hok:J7 x){b:Int×Int×List Int}(h:V7 x.n.net x.s.sch x.f x.r=some b):b.2.2.length<=72:=by
 have hl:=hok.len
 refine Yg5 (λa l hs=>?_) (Tc _) h
 rw[Ou]at hs
 split at hs
 ·cases hs
 have h1:(runW x a).length<=ZP (YH x.n.net x.r):=YbB _ _ _ _ _
 have h2:=QK hok (YH x.n.net x.r).length
 grind [JJ]
structure M8(xs:List Int) where
 A1:Option Addr
 c1:Nat
 r:RowM
 hr:r.xs=xs
 A3:Option Addr
 c3:Nat
structure CkM where
 i:Nat
 c:ClM
def ClM.lens(c:ClM):Prop:=(c.rs.length<=1000/\c.bs.length<=1000/\c.ws.length<=1000/\c.ss.length<=1000)/\(∀r∈c.rs,r.xs.length<=1000)/\∀r∈c.ss,r.xs.length<=1000
theorem Yjl(n:NetM)(s:SchM)(x:RqM)(ht:TabsB B w0)(hin:n.In B w0 H)(hrs:Rd B w0 H s.A (s.cells.flatMap celF))(hsl:s.cells.length<=1000000000000)(hx:x.In B w0 H)(hr9:x.rows.length<=9)(hw:St B w0 H w):
 CX B w0 102 [n.val,s.val,rqV x] w λv K=>∃c:ClM,v=.tuple #[clV c,.bool (!(ZC n.net s.sch x.rq))]/\(ZC n.net s.sch x.rq=false->c.clm=clmE n.net s.sch x.rq/\c.lens)/\K=clQ c::H:=by
 refine Yc Tryz.func102 Tryz.ntmps102 rfl rfl hw ?_
 have e1:x.rq.1=x.f:=rfl
 have p1:=λ{H':List HP}{w:World}(r:RowM) (hr:r∈x.rows) (hin:n.In B w0 H') (hrs:Rd B w0 H' s.A (s.cells.flatMap celF)) (hx:x.In B w0 H') (hw:St B w0 H' w)=>Yj9 ⟨n,s,x.f,r.A,r.cap,r.xs⟩ ht ⟨hin,hrs,hx.rw_ r hr,hsl,(hx.rl r hr).1,(hx.rl r hr).2⟩ hw
 unfold NetM.val SchM.val rqV
 refine zX25 ?_<;>intros
 rename_i g3 g4 g5 g6 g8
 have hln:x.rq.2=x.rows.map (·.xs):=rfl
 obtain⟨P,hP⟩:∃P,badR n.net s.sch x.f=P:=⟨_,rfl⟩
 have hla:ZC n.net s.sch x.rq=(x.rows.map (·.xs)).any P:=by unfold ZC;rw[hln,e1,hP]
 rw[hla]
 refine Yf (λz:CkM=>[(22,.int .i64 (z.i:Nat)),(21,.int .i64 x.rows.length),(20,.slice x.A x.rows.length x.cap),(8,.pointer (some ⟨g8,0,none⟩)),(6,.pointer (some ⟨g6,0,none⟩)),(5,.pointer (some ⟨g5,0,none⟩)),(4,.pointer (some ⟨g4,0,none⟩)),(3,.pointer (some ⟨g3,0,none⟩))]) (λz=>clA g8 z.c::clQ z.c::clA g6 (nilC 0)::rqA g5 x::schA g4 s::netA g3 n::H)
  (λz=>z.i<=x.rows.length/\z.c.clm=Qq n.net s.sch x.rq ((x.rows.take z.i).map (·.xs))/\z.c.lens/\((x.rows.take z.i).map (·.xs)).any P=false) (λz=>x.rows.length-z.i) ⟨0,nilC x.f.1⟩ ⟨Tc _,rfl,⟨by unfold nilC;simp,by unfold nilC;simp,by unfold nilC;simp⟩,by simp⟩ ?_ ?_ ?_
 ·exact zc1
 ·intro w hw
  have h1:=QL x.f.1 hw
  have h2:St B w0 (clQ (nilC x.f.1)::clA g8 (nilC x.f.1)::clA g6 (nilC 0)::rqA g5 x::schA g4 s::netA g3 n::H) w:=h1
  clear hw h1
  revert w
  exact zc0
 rintro⟨i,c⟩ ⟨hi,hcm,hlen,hno⟩ K hK
 dsimp only at hi hcm hlen hno⊢
 have hrt:Rd B w0 (clA g8 c::clQ c::clA g6 (nilC 0)::rqA g5 x::schA g4 s::netA g3 n::H) x.A (x.rows.flatMap rowF):=hx.rt.cons.cons.cons.cons.cons.cons
 by_cases hlt:i<x.rows.length
 rotate_left
 ·obtain rfl:i=x.rows.length:=by omega
  rw[TC]at hcm hno
  rw[hno]
  clear hK
  refine zX1 ?_<;>intros
  apply Yp T (H2:=clQ c::H);(iterate 3 exact rfl);(focus exact zc2);exact rfl;exact rfl;(intro w hw;refine hw.perm ?_;focus exact zc6)
  exact⟨c,rfl,λ_=>⟨hcm,hlen⟩,rfl⟩
 obtain⟨r,hr⟩:∃r,x.rows[i]? =some r:=⟨_,Ta hlt⟩
 have hrm:=Td hr
 have hri:=hx.rw_ r hrm
 have p2:=λ{H':List HP}{w:World}(hin:n.In B w0 H') (hrs:Rd B w0 H' s.A (s.cells.flatMap celF)) (hx:x.In B w0 H') (hw:St B w0 H' w)=>p1 r hrm hin hrs hx hw
 dsimp only at p2
 obtain⟨⟨⟨m,wst,sx⟩,e⟩,hRt⟩:∃z,Xm n.net s.sch x.f r.xs=z:=⟨_,rfl⟩
 rw[hRt]at p2
 dsimp only at p2
 unfold flwV at p2
 refine zX69 ?_<;>intros
 apply Yi _ YuW
 exact za
 exact rfl
 exactλ_ hw=>(p2 (hin.mono zc0) (hrs.mono zc0) (hx.mono zc0) (hw))
 rintro _ _ ⟨A2,cap2,rfl,rfl⟩
 have hPr:P r.xs=decide (e≠0\/x.f.2.2.2.2.2<m):=by rw[<-hP];unfold badR;rw[hRt]
 by_cases hbad:e≠0\/x.f.2.2.2.2.2<m
 ·rw[Ti hbad]at hPr
  have hany:(x.rows.map (·.xs)).any P=true:=TZ.2 ⟨r.xs,Rx hrm,hPr⟩
  rw[hany]
  clear hK
  by_cases he0:e=0
  all_goals(
   repeat'(first|refine zgd ?_|(refine zgf ?_ ?_<;>intro _<;>try exact zo)|fail)
   apply Yp T (H2:=clQ (nilC 0)::H);(iterate 3 exact rfl);exact zm;exact rfl;exact rfl
   ·intro w hw
    have h5:St B w0 H w:=by
     revert w
     exact zk
    exact QL 0 h5
   exact⟨nilC 0,rfl,(λh=>by cases h),rfl⟩)
 rw[Tj hbad]at hPr
 have he0:e=0:=SH λh=>hbad (.inl h)
 have hml:m<=x.f.2.2.2.2.2:=by omega
 subst he0
 obtain⟨hri9,hsx9⟩:r.xs.length<=9/\sx.length<=72:=by
  have h0:(Xm n.net s.sch x.f r.xs).2=0:=by rw[hRt]
  obtain⟨h1,b,h2,h3⟩:=Yda h0
  have hok:=YbF (x:=⟨n,s,x.f,r.A,r.cap,r.xs⟩) h1
  have h4:=Yeo hok h2
  rw[hRt]at h3
  injection h3 with h3 _
  rw[<-h3]at h4
  exact⟨hok.len.2,h4⟩
 have hinv:∀(A1:Option Addr) (c1:Nat) (r8:RowM) (_:r8.xs=r.xs) (A3:Option Addr) (c3:Nat) (A4:Option Addr) (c4:Nat) (A5:Option Addr) (c5:Nat),(i+1<=x.rows.length/\(ClM.mk c.flow A1 c1 (c.rs++[r8]) A3 c3 (c.bs++[m]) A4 c4 (c.ws++[wst]) A5 c5 (c.ss++[⟨A2,cap2,sx⟩])).clm=Qq n.net s.sch x.rq ((x.rows.take (i+1)).map (·.xs))/\(ClM.mk c.flow A1 c1 (c.rs++[r8]) A3 c3 (c.bs++[m]) A4 c4 (c.ws++[wst]) A5 c5 (c.ss++[⟨A2,cap2,sx⟩])).lens/\((x.rows.take (i+1)).map (·.xs)).any P=false):=by
  intro A1 c1 r8 hr8 A3 c3 A4 c4 A5 c5
  have hst:(x.rows.take (i+1)).map (·.xs)=(x.rows.take i).map (·.xs)++[r.xs]:=by
   rw[TB,hr,Ru,TX];rfl
  have hli:((x.rows.take i).map (·.xs)).length=i:=by rw[Tu,TJ];omega
  rw[hst]
  unfold ClM.clm Qq at hcm
  injection hcm with f1 f2 f3 f4 f5
  have l1:c.rs.length=i:=by rw[<-hli,<-f2,Tu]
  have l2:c.bs.length=i:=by rw[f3,Tu,hli]
  have l3:c.ws.length=i:=by rw[f4,Tu,hli]
  have l4:c.ss.length=i:=by
   have:=TD List.length f5
   rw[Tu,Tu,hli]at this
   exact this
  refine⟨by omega,?_,⟨?_,?_,?_⟩,?_⟩
  ·unfold ClM.clm Qq
   simp only[TX,RP,RY,hr8,f1,f2,f3,f4,f5,e1,hRt]
  ·simp only[Tq,TS,Rr,l1,l2,l3,l4]
   omega
  ·intro q hq
   rcases Re.1 hq with h|h
   ·exact hlen.2.1 q h
   ·rw[Rk.1 h,hr8];omega
  ·intro q hq
   rcases Re.1 hq with h|h
   ·exact hlen.2.2 q h
   ·rw[Rk.1 h];show sx.length<=1000;omega
  ·rw[Nj,hno]
   simp[hPr]
 refine zX41 ?_<;>intros
 refine YW (nrs A2 cap2 sx::clA g8 c::sl 104 1 c.rA c.rs.length c.rcap (c.rs.flatMap rowF)::many (c.rs.map rowQ)::nrs c.bA c.bcap c.bs::nrs c.wA c.wcap c.ws::sl 24 1 c.sA c.ss.length c.scap (c.ss.flatMap rowF)::many (c.ss.map rowQ)::clA g6 (nilC 0)::rqA g5 x::schA g4 s::netA g3 n::H) (λw hw=>hw.perm (.cons _ (.cons _ (.open_ (clP c) _)))) ?_
 have hl1:=hlen.1
 refine Zt (λz:M8 r.xs=>[(22,.int .i64 (i:Nat)),(21,.int .i64 x.rows.length),(20,.slice x.A x.rows.length x.cap),(8,.pointer (some ⟨g8,0,none⟩)),(6,.pointer (some ⟨g6,0,none⟩)),(5,.pointer (some ⟨g5,0,none⟩)),(4,.pointer (some ⟨g4,0,none⟩)),(3,.pointer (some ⟨g3,0,none⟩)),(13,.slice A2 sx.length cap2),(12,.int .i64 wst)])
  (λz=>nrs A2 cap2 sx::blk g8 (.cells #[.int .i64 c.flow,.slice z.A1 (c.rs++[z.r]).length z.c1,.slice z.A3 (c.bs++[m]).length z.c3,.slice c.wA c.ws.length c.wcap,.slice c.sA c.ss.length c.scap] 116 (0,0))::sl 104 1 z.A1 (c.rs++[z.r]).length z.c1 ((c.rs++[z.r]).flatMap rowF)::many ((c.rs++[z.r]).map rowQ)::nrs z.A3 z.c3 (c.bs++[m])::nrs c.wA c.wcap c.ws::sl 24 1 c.sA c.ss.length c.scap (c.ss.flatMap rowF)::many (c.ss.map rowQ)::clA g6 (nilC 0)::rqA g5 x::schA g4 s::netA g3 n::H) ?_ ?_
 ·intro K8 hK8
  apply Ud (.n1 0 (.n1 1 (.n1 2 (.n1 6 (.n1 7 (.n1 8 (.n2 3 (.n2 4 (.n2 5 (.n1 11 (.n1 9 (.n1 10 .done))) 9 (.n1 5 (.n1 11 (.n1 10 .done)))) 9 (.n1 4 (.n1 5 (.n1 11 (.n1 10 .done))))) 9 (.n1 3 (.n1 4 (.n1 5 (.n1 11 (.n1 10 .done)))))))))))) [12,13,14] [false,true]
  kernel_rfl
  kernel_rfl
  exact zy
  (simp only[Yh,nthO];rfl)
  repeat'(first|((apply Yi _ Yoi);exact za;exact rfl;exactλ_ hw=>J4 r.xs (by omega) (hri.mono zk) hw;rintro _ _ ⟨A8,cap8,rfl,rfl⟩)|(apply Yej;(simp only[nthO];rfl);(simp only[nthO];rfl))|(apply Yei;(simp only[nthO];rfl))|(apply Ue;try exact zl)|(apply Yj;try exact zl)|refine zgd ?_|(refine zgh ?_;intro _)|(refine zgi ?_;intro _ _)|fail)
  all_goals(
   first
    |(rename_i A1 c1 g A3 c3;guard_hyp g:Nat;guard_hyp A1:Option Addr)
    |(rename_i A1 c1 A3 c3;guard_hyp A1:Option Addr)
   refine hK8 ⟨A1,c1,⟨A8,cap8,r.xs⟩,rfl,A3,c3⟩ _ _ zu ?_
   intro w hw
   have q1:sl 104 1 A1 (c.rs.length+1) c1 (c.rs.flatMap rowF++#[Value.slice A8 r.xs.length cap8].toList)=sl 104 1 A1 (c.rs++[(⟨A8,cap8,r.xs⟩:RowM)]).length c1 ((c.rs++[(⟨A8,cap8,r.xs⟩:RowM)]).flatMap rowF):=QU _ _ _ _ ⟨A8,cap8,r.xs⟩
   rw[q1,J0,show c.rs.length+1=(c.rs++[(⟨A8,cap8,r.xs⟩:RowM)]).length by simp,show c.bs.length+1=(c.bs++[m]).length by simp]at hw
   have h5:St B w0 (nrs A2 cap2 sx::blk g8 (.cells #[.int .i64 c.flow,.slice A1 (c.rs++[(⟨A8,cap8,r.xs⟩:RowM)]).length c1,.slice A3 (c.bs++[m]).length c3,.slice c.wA c.ws.length c.wcap,.slice c.sA c.ss.length c.scap] 116 (0,0))::sl 104 1 A1 (c.rs++[(⟨A8,cap8,r.xs⟩:RowM)]).length c1 ((c.rs++[(⟨A8,cap8,r.xs⟩:RowM)]).flatMap rowF)::sl 3 1 A8 r.xs.length cap8 (r.xs.flatMap numF)::many (c.rs.map rowQ)::nrs A3 c3 (c.bs++[m])::nrs c.wA c.wcap c.ws::sl 24 1 c.sA c.ss.length c.scap (c.ss.flatMap rowF)::many (c.ss.map rowQ)::clA g6 (nilC 0)::rqA g5 x::schA g4 s::netA g3 n::H) w:=by
    clear q1
    revert w
    exact zk
   exact h5.perm (.cons _ (.cons _ (.cons _ (Vm rowQ c.rs ⟨A8,cap8,r.xs⟩ _)))))
 rintro⟨A1,c1,r8,hr8,A3,c3⟩
 dsimp only
 repeat'(first|fail)
 apply Ud (.n1 0 (.n1 1 (.n1 2 (.n1 5 (.n1 6 (.n1 7 (.n2 3 (.n2 4 (.n1 10 (.n1 8 (.n1 9 .done))) 8 (.n1 4 (.n1 10 (.n1 9 .done)))) 8 (.n1 3 (.n1 4 (.n1 10 (.n1 9 .done))))))))))) [11,12,13] [false,true]
 kernel_rfl
 kernel_rfl
 exact zy
 (simp only[Yh,nthO];rfl)
 repeat'(first|(apply Yej;(simp only[nthO];rfl);(simp only[nthO];rfl))|(apply Yei;(simp only[nthO];rfl))|(apply Ue;try exact zl)|(apply Yj;try exact zl)|refine zgd ?_|(refine zgh ?_;intro _)|(refine zgi ?_;intro _ _)|fail)
 all_goals(
  first
   |(rename_i A4 c4 g A5 c5;guard_hyp g:Nat;guard_hyp A4:Option Addr)
   |(rename_i A4 c4 A5 c5;guard_hyp A4:Option Addr)
  refine hK ⟨i+1,⟨c.flow,A1,c1,c.rs++[r8],A3,c3,c.bs++[m],A4,c4,c.ws++[wst],A5,c5,c.ss++[⟨A2,cap2,sx⟩]⟩⟩ ?_ ?_ _ _ zu ?_
  ·exact hinv A1 c1 r8 hr8 A3 c3 A4 c4 A5 c5
  ·dsimp only;omega
  intro w hw
  have q1:sl 24 1 A5 (c.ss.length+1) c5 (c.ss.flatMap rowF++#[Value.slice A2 sx.length cap2].toList)=sl 24 1 A5 (c.ss++[(⟨A2,cap2,sx⟩:RowM)]).length c5 ((c.ss++[(⟨A2,cap2,sx⟩:RowM)]).flatMap rowF):=QU _ _ _ _ ⟨A2,cap2,sx⟩
  rw[q1,J0,show c.ss.length+1=(c.ss++[(⟨A2,cap2,sx⟩:RowM)]).length by simp,show c.ws.length+1=(c.ws++[wst]).length by simp]at hw
  have h5:St B w0 (blk g8 (.cells #[.int .i64 c.flow,.slice A1 (c.rs++[r8]).length c1,.slice A3 (c.bs++[m]).length c3,.slice A4 (c.ws++[wst]).length c4,.slice A5 (c.ss++[(⟨A2,cap2,sx⟩:RowM)]).length c5] 116 (0,0))::sl 104 1 A1 (c.rs++[r8]).length c1 ((c.rs++[r8]).flatMap rowF)::many ((c.rs++[r8]).map rowQ)::nrs A3 c3 (c.bs++[m])::nrs A4 c4 (c.ws++[wst])::sl 24 1 A5 (c.ss++[(⟨A2,cap2,sx⟩:RowM)]).length c5 ((c.ss++[(⟨A2,cap2,sx⟩:RowM)]).flatMap rowF)::nrs A2 cap2 sx::many (c.ss.map rowQ)::clA g6 (nilC 0)::rqA g5 x::schA g4 s::netA g3 n::H) w:=by
   clear q1
   revert w
   exact zk
  have h6:=h5.perm (.cons _ (.cons _ (.cons _ (.cons _ (.cons _ (.cons _ (Vm rowQ c.ss ⟨A2,cap2,sx⟩ _)))))))
  exact h6.perm (.cons _ (.close [_,_,_,_,_,_] _)))
variable {l:List Flw}
theorem Yjh{n:Net}{s:Sch}(h1:(XT n l s).2=0):∀c∈s.cells,YX n (YM c) (toC c)=true:=by
 have k1:=YF.1 h1
 exact zc68
theorem YeO{nodes:Int}(h:(YA nodes l).2=0):l.length<=16:=by
 grind [YA]
theorem Yd8(n:NetM)(l:List Flw)(s:SchM)(hlf:l.length<=9223372036854775807)(hl:s.cells.length<=1000000000000){A:Option Addr}{cap B:Nat}{w0:World}{H:List HP}{w:World}(hin:n.In B w0 H)(hrf:Rd B w0 H A (l.flatMap flwF))(hr:Rd B w0 H s.A (s.cells.flatMap celF))(hw:St B w0 H w):
 CX B w0 100 [n.val,.slice A l.length cap,s.val] w λv K=>v=.tuple #[.int .i64 (schE n.net l s.sch).1,.int .i64 (schE n.net l s.sch).2]/\K=H:=by
 refine Yc Tryz.func100 Tryz.ntmps100 rfl rfl hw ?_
 have e4:s.sch.cells.length=s.cells.length:=rfl
 have e5:s.sch.len=s.len:=rfl
 have hchk:=λ{H':List HP}{w:World}(hin:n.In B w0 H') (hw:St B w0 H' w)=>Y8 n hin hw
 have hsz:=λ{H':List HP}{w:World}(hw:St B w0 H' w)=>Ydh s hw
 by_cases h1:Ym n.net=0
 rotate_left
 ·have hS:schE n.net l s.sch=(-1,1):=by
   have hw1:Xs n.net l s.sch=1:=by unfold Xs;rw[Tm h1]
   unfold schE;rw[hw1];rfl
  rw[hS]
  repeat'(first|((first|apply Ya en68|apply Yb en68);exact za;exact rfl;exactλ_ hw=>(hchk hin.cons.cons hw))|refine zgb ?_|(refine zge ?_ ?_<;>intro _<;>try exact zo)|(refine zgh ?_;intro _)|fail)
  apply Yg H
  ·exact zc0
  exact zc8
 rw[h1]at hchk
 by_cases h2:(YA n.nodes l).2=0
 rotate_left
 ·have hS:schE n.net l s.sch=(-1,1):=by
   have hw1:Xs n.net l s.sch=1:=by unfold Xs;rw[Tf (by omega)];exact Tm h2
   unfold schE;rw[hw1];rfl
  rw[hS]
  repeat'(first|((first|apply Ya en68|apply Yb en68);exact za;exact rfl;exactλ_ hw=>(hchk hin.cons.cons hw))|((first|apply Ya en78|apply Yb en78);exact za;exact rfl;exactλ_ hw=>(YZ n.nodes l hlf hrf.cons.cons hw))|refine zgc ?_|(refine zge ?_ ?_<;>intro _<;>try exact zo)|(refine zgh ?_;intro _)|fail)
  apply Yg H
  ·exact zc0
  exact zc8
 have hl16:=YeO h2
 have hper:=Yak h2
 cases h3:XU s.sch with
 |false=>
  rw[h3]at hsz
  have hS:schE n.net l s.sch=(-1,2):=by
   have hw1:Xs n.net l s.sch=2:=by unfold Xs;rw[Tf (by omega),Tf (λh=>h h2),Tm h3]
   unfold schE;rw[hw1];rfl
  rw[hS]
  repeat'(first|((first|apply Ya en68|apply Yb en68);exact za;exact rfl;exactλ_ hw=>(hchk hin.cons.cons hw))|((first|apply Ya en78|apply Yb en78);exact za;exact rfl;exactλ_ hw=>(YZ n.nodes l hlf hrf.cons.cons hw))|((first|apply Ya OD|apply Yb OD);exact za;exact rfl;exactλ_ hw=>(hsz hw))|refine zgd ?_|(refine zge ?_ ?_<;>intro _<;>try exact zo)|(refine zgh ?_;intro _)|fail)
  apply Yg H
  ·exact zc0
  exact zc8
 |true=>
 rw[h3]at hsz
 have hsl:1<=s.len/\s.len<=512:=by
  have:=TR h3
  exact⟨this.1,this.2.1⟩
 obtain⟨b,hb⟩:∃b,(l.any λf=>decide (s.len.tmod f.2.2.2.1≠0))=b:=⟨_,rfl⟩
 have hw0:Xs n.net l s.sch=if b=true then 11 else if 512<s.cells.length then 8 else 0:=by
  unfold Xs
  rw[Tf (by omega),Tf (λh=>h h2),h3,Tf (by decide),e5,hb]
  rfl
 have hcf:=λ{H':List HP}{w:World}(gs:Nat) (hm:blk gs (.cells #[.int .i64 s.len,.int .i64 s.off,.slice s.A s.cells.length s.cap] 30 (0,0))∈H') (hr:Rd B w0 H' A (l.flatMap flwF)) (hw:St B w0 H' w)=>WE (λf=>decide (s.len.tmod f.2.2.2.1≠0)) l 187 [.pointer (some ⟨gs,0,none⟩)] YuV (by omega) (cap:=cap) hr (λf hf w hw=>Ygd s f gs hsl ⟨(hper f hf).2.2.1,(hper f hf).2.2.2⟩ hm hw) hw
 rw[hb]at hcf
 cases b with
 |true=>
  rw[Tm rfl]at hw0
  have hS:schE n.net l s.sch=(-1,11):=by unfold schE;rw[hw0];rfl
  rw[hS]
  repeat'(first|((first|apply Ya en68|apply Yb en68);exact za;exact rfl;exactλ_ hw=>(hchk hin.cons.cons hw))|((first|apply Ya en78|apply Yb en78);exact za;exact rfl;exactλ_ hw=>(YZ n.nodes l hlf hrf.cons.cons hw))|((first|apply Ya OD|apply Yb OD);exact za;exact rfl;exactλ_ hw=>(hsz hw))|((first|apply Ya en79|apply Yb en79);exact za;exact rfl;exactλ_ hw=>(hcf _ zm hrf.cons.cons hw))|(apply zg29;(apply Ys;exact za;exact rfl))|refine zgd ?_|(refine zge ?_ ?_<;>intro _<;>try exact zo)|(refine zgh ?_;intro _)|fail)
  apply Yg H
  ·exact zc0
  exact zc8
 |false=>
 rw[Tf (by decide)]at hw0
 by_cases h5:512<s.cells.length
 ·rw[Tm h5]at hw0
  have hS:schE n.net l s.sch=(-1,8):=by unfold schE;rw[hw0];rfl
  rw[hS]
  repeat'(first|((first|apply Ya en68|apply Yb en68);exact za;exact rfl;exactλ_ hw=>(hchk hin.cons.cons hw))|((first|apply Ya en78|apply Yb en78);exact za;exact rfl;exactλ_ hw=>(YZ n.nodes l hlf hrf.cons.cons hw))|((first|apply Ya OD|apply Yb OD);exact za;exact rfl;exactλ_ hw=>(hsz hw))|((first|apply Ya en79|apply Yb en79);exact za;exact rfl;exactλ_ hw=>(hcf _ zm hrf.cons.cons hw))|(apply zg29;(apply Ys;exact za;exact rfl))|refine zgd ?_|(refine zgf ?_ ?_<;>intro _<;>try exact zo)|(refine zgh ?_;intro _)|fail)
  apply Yg H
  ·exact zc0
  exact zc8
 rw[Tf h5]at hw0
 have hS:schE n.net l s.sch=if(XT n.net l s.sch).2≠0 then XT n.net l s.sch else if(Zj s.sch).2≠0 then Zj s.sch else Ycd n.net s.sch:=by
  unfold schE;rw[hw0];rfl
 rw[hS]
 have hcc:=λ{H':List HP}{w:World}(hin:n.In B w0 H') (hrf:Rd B w0 H' A (l.flatMap flwF)) (hr:Rd B w0 H' s.A (s.cells.flatMap celF)) (hw:St B w0 H' w)=>Ybi n l s h1 (by omega) hl (cap:=cap) hin hrf hr hw
 obtain⟨⟨c1,c2⟩,hcv⟩:∃R,XT n.net l s.sch=R:=⟨_,rfl⟩
 rw[hcv]at hcc⊢
 dsimp only at hcc⊢
 by_cases h6:c2≠0
 ·rw[Tm h6]
  refine zX87 ?_<;>intros
  apply Yg H
  ·exact zc0
  exact zc8
 obtain rfl:c2=0:=TK.1 h6
 rw[Tf h6]
 have hgood:=Yjh (n:=n.net) (l:=l) (s:=s.sch) (by rw[hcv])
 refine zX87 ?_<;>intros
 first|(rename_i gn gs;guard_hyp gn:Nat;guard_hyp gs:Nat)|(rename_i gn gs _;guard_hyp gn:Nat;guard_hyp gs:Nat)|(rename_i gn gs _ _;guard_hyp gn:Nat;guard_hyp gs:Nat)|(rename_i gn gs _ _ _;guard_hyp gn:Nat;guard_hyp gs:Nat)|(rename_i gn gs _ _ _ _;guard_hyp gn:Nat;guard_hyp gs:Nat)|(rename_i gn gs _ _ _ _ _;guard_hyp gn:Nat;guard_hyp gs:Nat)|(rename_i gn gs _ _ _ _ _ _;guard_hyp gn:Nat;guard_hyp gs:Nat)
 refine Yf (λ(k:Nat)=>[(53,.int .i64 k),(52,.int .i64 s.cells.length),(51,.slice s.A s.cells.length s.cap),(3,.pointer (some ⟨gn,0,none⟩)),(5,.pointer (some ⟨gs,0,none⟩))]) (λ_=>blk gs (.cells #[.int .i64 s.len,.int .i64 s.off,.slice s.A s.cells.length s.cap] 30 (0,0))::netN gn n::H) (λk=>k<=s.cells.length/\∀j,j<k->XV s.sch j=false) (λk=>s.cells.length-k) 0 ⟨Tc _,λj hj=>absurd hj (Rj _)⟩ ?_ (λw hw=>hw) ?_
 ·exact zc1
 rintro k ⟨hk,hall⟩ K hK
 have hF:Zj s.sch=YC (λi=>if XV s.sch i=true then 6 else 0) s.cells.length 0:=rfl
 unfold netN
 by_cases hlt:k<s.cells.length
 ·have htc:=λ{H':List HP}{w:World}(hr:Rd B w0 H' s.A (s.cells.flatMap celF)) (hw:St B w0 H' w)=>Ykn s k hlt (by omega) hr hw
  cases htw:XV s.sch k with
  |true=>
   rw[htw]at htc
   have hT:Zj s.sch=((k:Int),6):=zc91
   rw[hT,Tm (show(6:Int)≠0 by decide)]
   repeat'(first|((first|apply Ya YkV|apply Yb YkV);exact za;exact rfl;exactλ_ hw=>(htc hr.cons.cons hw))|refine zgd ?_|(refine zge ?_ ?_<;>intro _<;>try exact zo)|fail)
   apply Yg H
   ·exact zc0
   exact zc8
  |false=>
   rw[htw]at htc
   repeat'(first|((first|apply Ya YkV|apply Yb YkV);exact za;exact rfl;exactλ_ hw=>(htc hr.cons.cons hw))|refine zgc ?_|(refine zge ?_ ?_<;>intro _<;>try exact zo)|fail)
   apply hK (k+1)
   ·exact Ys5
   ·omega
   ·exact zc1
   ·unfold netN
    exact zc0
 have hT:(Zj s.sch).2=0:=by
  rw[hF,YF]
  intro j _ hj
  simp only[hall j (by omega)]
  rfl
 rw[Tf (λh=>h hT)]
 clear hK
 refine zX1 ?_<;>intros
 refine Yf (λ(k:Nat)=>[(64,.int .i64 k),(63,.int .i64 s.cells.length),(62,.slice s.A s.cells.length s.cap),(3,.pointer (some ⟨gn,0,none⟩)),(5,.pointer (some ⟨gs,0,none⟩))]) (λ_=>blk gs (.cells #[.int .i64 s.len,.int .i64 s.off,.slice s.A s.cells.length s.cap] 30 (0,0))::netN gn n::H) (λk=>k<=s.cells.length/\∀j,j<k->ZV n.net s.sch j=false) (λk=>s.cells.length-k) 0 ⟨Tc _,λj hj=>absurd hj (Rj _)⟩ ?_ (λw hw=>hw) ?_
 ·exact zc1
 rintro k ⟨hk,hall⟩ K2 hK
 have hF:Ycd n.net s.sch=YC (λi=>if ZV n.net s.sch i=true then 16 else 0) s.cells.length 0:=rfl
 unfold netN
 by_cases hlt:k<s.cells.length
 ·have htc:=λ{H':List HP}{w:World}(hin:n.In B w0 H') (hr:Rd B w0 H' s.A (s.cells.flatMap celF)) (hw:St B w0 H' w)=>Yci n s k h1 hgood hlt (by omega) hin hr hw
  cases htw:ZV n.net s.sch k with
  |true=>
   rw[htw]at htc
   have hT:Ycd n.net s.sch=((k:Int),16):=zc91
   rw[hT]
   repeat'(first|((first|apply Ya YkW|apply Yb YkW);exact za;exact rfl;exactλ_ hw=>(htc hin.cons.cons hr.cons.cons hw))|refine zgd ?_|(refine zge ?_ ?_<;>intro _<;>try exact zo)|fail)
   apply Yg H
   ·exact zc0
   exact zc8
  |false=>
   rw[htw]at htc
   repeat'(first|((first|apply Ya YkW|apply Yb YkW);exact za;exact rfl;exactλ_ hw=>(htc hin.cons.cons hr.cons.cons hw))|refine zgc ?_|(refine zge ?_ ?_<;>intro _<;>try exact zo)|fail)
   apply hK (k+1)
   ·exact Ys5
   ·omega
   ·exact zc1
   ·unfold netN
    exact zc0
 ·have hT:Ycd n.net s.sch=(-1,0):=by
   rw[hF]
   exact Xj λj _ hj=>by simp only[hall j (by omega)];rfl
  rw[hT]
  refine zX1 ?_<;>intros
  apply Yg H
  ·exact zc0
  exact zc8
end Go.Proofs.YtjlgijpmnfabcaaGreatDoor
