/- Lemmas. -/
import Derived.Shelf.SlSortCmp.NoneTotal
import Derived.Test.YtjlgijpmnfabcaaGreatDoorQ19
import Derived.Test.YtjlgijpmnfabcaaGreatDoorQ20
set_option maxRecDepth 100000
set_option maxHeartbeats 8000000
set_option linter.all false
namespace Go.Proofs.YtjlgijpmnfabcaaGreatDoor
open Go.RowKit Go.Eng Go.Nw Go.Rt
variable {B:Nat}{w0 w:World}{H:List HP}
theorem YjN(l m:List Int)(hlen:l.length<=9223372036854775807){A A2:Option Addr}{cap cap2:Nat}(hr:Rd B w0 H A (l.flatMap numF))(hr2:Rd B w0 H A2 (m.flatMap numF))(hw:St B w0 H w):
 CX B w0 32 [.slice A l.length cap,.slice A2 m.length cap2] w λu K=>u=.bool (decide (l=m))/\K=H:=by
 refine Ya Tryz.func32 Tryz.ntmps32 rfl rfl hw ?_
 by_cases hll:l.length=m.length
 rotate_left
 ·exact zc16
 refine zX5 ?_<;>intros
 refine Yi (λ(k:Nat)=>[(13,.int .i64 k),(12,.int .i64 l.length),(0,.slice A l.length cap),(1,.slice A2 m.length cap2)]) (λ_=>H) (λk=>k<=l.length/\l.take k=m.take k) (λk=>l.length-k) 0 ⟨Ti _,by simp⟩ ?_ (λw hw=>hw) ?_
 ·exact zc1
 rintro k ⟨hk,hi⟩ K hK
 by_cases hlt:k<l.length
 ·obtain⟨a,ha⟩:∃a,l[k]? =some a:=⟨_,Ta hlt⟩
  obtain⟨b,hb⟩:∃b,m[k]? =some b:=⟨_,Ta (by omega)⟩
  repeat'(first|refine zgd ?_|(refine zge ?_ ?_<;>intro _<;>try exact zo)|fail)
  ·exact zc58
  ·rename_i h
   apply hK (k+1)
   ·exact⟨by omega,by exact YdT⟩
   ·omega
   ·exact zc1
   exact zc21
 exact zc8
theorem Qm(p:PnM)(ht:TabsB B w0)(hp:p.In B w0 H)(hw:St B w0 H w):
 CX B w0 10 [p.val] w λv K=>v=.int .i64 (chkP p.pln)/\K=H:=by
 refine Ya Tryz.func10 Tryz.ntmps10 rfl rfl hw ?_
 obtain⟨n,qA,qcap,q,s,cA,ccap,c,fA,fcap,f⟩:=p
 obtain⟨hin,hq,hrs,hsl,hc,hf,hfl⟩:=hp
 dsimp only at hin hq hrs hsl hc hf hfl
 have p1:=λ{H':List HP}{w:World}(hin:n.In B w0 H') (hw:St B w0 H' w)=>Jv n hin hw
 have p2:=λ{H':List HP}{w:World}(hin:n.In B w0 H') (hq:QIn B w0 H' qA q) (hrs:Rd B w0 H' s.A (s.cells.flatMap celF)) (hw:St B w0 H' w)=>Uz n q s (cap:=qcap) ht hin hq hrs hsl hw
 have p3:=λ{H':List HP}{w:World}(hin:n.In B w0 H') (hq:QIn B w0 H' qA q) (hrs:Rd B w0 H' s.A (s.cells.flatMap celF)) (hc:CIn B w0 H' cA c) (hw:St B w0 H' w)=>Yf4 n q s c (cap:=qcap) (cap1:=ccap) ht hin hq hrs hsl hc hw
 have p4:=λ{H':List HP}{w:World}(hrs:Rd B w0 H' s.A (s.cells.flatMap celF)) (hw:St B w0 H' w)=>Yeo s ht hrs hsl hw
 unfold PnM.val
 show VC _ _ B w0 _ (bodyPost _ _ (Post B w0 λv K=>v=.int .i64 (chkP ⟨n.net,q.map RqM.rq,s.sch,c.map ClM.clm,f⟩)/\K=H)) _ _
 unfold chkP
 dsimp only
 unfold OutC at p2
 obtain⟨⟨RC,ri,re⟩,hR⟩:∃R,Y4 n.net (q.map RqM.rq) s.sch=R:=⟨_,rfl⟩
 obtain⟨⟨RF,fe⟩,hRF⟩:∃R,ZH s.sch=R:=⟨_,rfl⟩
 obtain⟨⟨ki,ke⟩,hRK⟩:∃R,chkE n.net (q.map RqM.rq) s.sch (c.map ClM.clm)=R:=⟨_,rfl⟩
 rw[hR]at p2⊢
 rw[hRF]at p4⊢
 rw[hRK]at p3⊢
 dsimp only at p2 p3 p4⊢
 have hFn:RF.length<=9223372036854775807:=by
  have h2:=TA (λz=>z.1.length) hRF
  dsimp only at h2
  unfold ZH at h2
  split at h2
  ·simp only[Rh]at h2;omega
  ·rename_i h0
   unfold ZP at h2
   rw[Vj,TQ]at h2
   have h3:=(Jl.1 (by simpa using h0)).sized
   exact YuB
 unfold NetM.val at p1
 unfold NetM.val SchM.val at p2 p3
 unfold SchM.val at p4
 clear hR hRF hRK
 by_cases hck:Yq n.net=0
 rotate_left
 ·rw[Tm hck]
  rw[Tu hck]at p1
  refine YtH ?_<;>intros
  first|apply Yb en39|apply Yc en39
  exact za
  exact rfl
  exactλ_ hw=>(p1 (hin.mono zc0) hw)
  refine Wr ?_
  apply Yh H
  ·exact zc0
  exact zc7
 rw[Tf (λe=>e hck)]
 rw[Tj hck]at p1
 refine YtH ?_<;>intros
 first|apply Yb en39|apply Yc en39
 exact za
 exact rfl
 exactλ_ hw=>(p1 (hin.mono zc0) hw)
 refine Wr ?_
 apply Yg _ en40
 exact za
 exact rfl
 exactλ_ hw=>(p2 (hin.mono zc0) (hq.mono zc0) (hrs.mono zc0) (hw))
 rintro _ _ ⟨A2,c2,C,rfl,hC,hCl,rfl⟩
 by_cases h18:re=15\/re=1/\ri<0
 ·rw[Tm h18]
  repeat'(first|(apply Yf T;exact rfl;exact zm;exact rfl;exact zv;exact rfl;exact rfl)|refine zgd ?_|(refine zgf ?_ ?_<;>intro _<;>try exact zo)|fail)
  all_goals try exact zo
  all_goals(
   apply Yh H
   ·exact zk
   apply Yd;exact rfl;exact rfl;exact⟨rfl,rfl⟩)
 rw[Tf h18]
 by_cases h0:re=0
 rotate_left
 ·rw[Tm h0]
  repeat'(first|(apply Yf T;exact rfl;exact zm;exact rfl;exact zv;exact rfl;exact rfl)|refine zgd ?_|(refine zgf ?_ ?_<;>intro _<;>try exact zo)|fail)
  all_goals try exact zo
  all_goals(
   apply Yh H
   ·exact zk
   apply Yd;exact rfl;exact rfl;exact⟨rfl,rfl⟩)
 rw[Tf (λe=>e h0)]
 subst h0
 repeat'(first|(apply Yf T;exact rfl;exact zm;exact rfl;exact zv;exact rfl;exact rfl)|refine zgc ?_|(refine zgf ?_ ?_<;>intro _<;>try exact zo)|fail)
 all_goals try exact zo
 first|apply Yb en41|apply Yc en41
 exact za
 exact rfl
 exactλ_ hw=>(p3 (hin.mono zc0) (hq.mono zc0) (hrs.mono zc0) (hc.mono zc0) hw)
 by_cases hk0:ke=0
 rotate_left
 ·rw[Tm hk0]
  refine Yjd ?_<;>intros
  apply Yh H
  ·exact zc0
  exact zc7
 rw[Tf (λe=>e hk0)]
 refine Yjd ?_<;>intros
 apply Yg _ en42
 exact za
 exact rfl
 exactλ_ hw=>(p4 (hrs.mono zc0) (hw))
 rintro _ _ ⟨A3,rfl,rfl⟩
 have p5:=λ{cap1 cap2:Nat}{H':List HP}{w:World}(h1:Rd B w0 H' A3 (RF.flatMap numF)) (h2:Rd B w0 H' fA (f.flatMap numF)) (hw:St B w0 H' w)=>YjN RF f hFn (cap:=cap1) (cap2:=cap2) h1 h2 hw
 by_cases hf0:fe=0
 rotate_left
 ·rw[Tm (.inl hf0)]
  refine Yjd ?_<;>intros
  all_goals try exact zo
  all_goals(
   apply Yh H
   ·exact zc0
   exact zc7)
 by_cases hff:RF=f
 ·rw[Tf (by rintro(h|h);exact h hf0;exact h hff)]
  rw[Tj hff]at p5
  refine YtI ?_<;>intros
  all_goals try exact zo
  all_goals(
   apply Yh H
   ·exact zc0
   exact zc7)
 ·rw[Tm (.inr hff)]
  rw[Tu hff]at p5
  refine YtI ?_<;>intros
  all_goals try exact zo
  all_goals(
   apply Yh H
   ·exact zc0
   exact zc7)
def Ytr(f:Flw):List Int:=[f.1,f.2.1,f.2.2.1,f.2.2.2.1,f.2.2.2.2.1,f.2.2.2.2.2]
structure RqD(x:Rqs):Prop where
 f:∀n∈Ytr x.1,0<=n/\n<10000
 n:x.2.length<=2
 l:∀r∈x.2,r.length<=9
 r:∀r∈x.2,∀n∈r,0<=n/\n<10000
theorem YhG{p:Pln}(h:chkP p=0):(Y4 p.n p.q p.s).2.2=0:=by
 unfold chkP at h
 omega
variable {n:Net}{q:List Rqs}
theorem YhF{s:Sch}(h:(Y4 n q s).2.2=0):(rqsE n q).2=0:=T8.1 λh1=>by
 simp_all [Y4]
theorem Yl1(h:(rqsE n q).2=0):q.length<=16/\∀x∈q,RqD x:=by
 obtain⟨hck,hfl,hrt⟩:=W6 h
 have hok:=YT hck
 have h32:=hok.n1
 refine⟨?_,λx hx=>?_⟩
 ·grind [Yx,YE]
 have hfx:YX n.nodes x.1=0:=Ut hfl (TD.2 ⟨x,hx,rfl⟩)
 obtain⟨h1,h2,h3,-,h5⟩:=JF hfx
 have h6:(0<=x.1.2.1/\x.1.2.1<n.nodes)/\0<=x.1.2.2.1/\x.1.2.2.1<n.nodes:=by
  grind [YX,insE]
 have hrx:=hrt x hx
 refine⟨λz hz=>?_,?_,λr hr=>?_,λr hr z hz=>?_⟩
 ·unfold Ytr at hz
  grind
 ·grind [YbH]
 ·exact(ZY (U6 hrx r hr)).2.1.2
 ·have hc:=U6 hrx r hr
  unfold X6 at hc
  split at hc
  ·exact absurd hc (by assumption)
  have ho:=(Qs hc).2.1
  rw[RY]at ho
  have h8:=ho z hz
  unfold offE at h8
  simp only[Tq]at h8
  omega
variable {B:Nat}{w0 w:World}{H:List HP}
theorem NetM.In.here{n:NetM}(h:n.In B w0 H)(hw:St B w0 H w):n.In w.heap.size w []:=⟨h.pw.here hw,λr hr=>(h.rw_ r hr).here hw,h.lk.here hw,h.mg.here hw,h.s1,h.s2,h.s3,h.s4⟩
theorem QIn.here{q:List RqM}{A:Option Addr}(h:QIn B w0 H A q)(hw:St B w0 H w):QIn w.heap.size w [] A q:=⟨h.rd.here hw,λx hx=>⟨(h.x x hx).rt.here hw,λr hr=>((h.x x hx).rw_ r hr).here hw,(h.x x hx).ln,(h.x x hx).rl⟩,h.ln⟩
theorem PnM.In.here{p:PnM}(h:p.In B w0 H)(hw:St B w0 H w):p.In w.heap.size w []:=⟨h.n.here hw,h.q.here hw,h.s.here hw,h.sl,h.c.here hw,h.f.here hw,h.fl⟩
theorem PnM.In.inX{B:Nat}{w0:World}{X H:List HP}{p:PnM}(h:p.In B w0 [many X])(hm:many X∈H):p.In B w0 H:=h.mono λ_ hw=>(hw.inM hm).perm (.closeT X)
abbrev plnA(g:Nat)(n:NetM)(qA:Option Addr)(qcap:Nat)(q:List RqM)(s:SchM)(cA:Option Addr)(ccap:Nat)(c:List ClM)(fA:Option Addr)(fcap:Nat)(fm:List Int):HP:=blk g (.cells #[.int .i64 n.nodes,.slice n.pA n.rows.length n.pcap,.int .i64 n.noise,.int .i64 n.thr,.slice n.lA n.links.length n.lcap,.slice n.mA n.margin.length n.mcap,.slice qA q.length qcap,.int .i64 s.len,.int .i64 s.off,.slice s.A s.cells.length s.cap,.slice cA c.length ccap,.slice fA fm.length fcap] 35 (0,0))
abbrev zerA(g:Nat):HP:=blk g (.cells (Value.agg #[.int .i64 0,.slice none 0 0,.int .i64 0,.int .i64 0,.slice none 0 0,.slice none 0 0,.slice none 0 0,.int .i64 0,.int .i64 0,.slice none 0 0,.slice none 0 0,.slice none 0 0]).cells 35 (0,0))
abbrev schD(g:Nat)(t:Sch)(A:Option Addr)(cap:Nat):HP:=blk g (.cells #[.int .i64 t.len,.int .i64 t.off,.slice A t.cells.length cap] 30 (0,0))
structure ExM where
 y:RqM
 t:Sch
 A:Option Addr
 cap:Nat
 e:Int
 X:HP
structure ExOk(B:Nat)(w0:World)(n:Net)(q:List Rqs)(f:Flw)(RR:Option Pln×Int)(z:ExM):Prop where
 yin:∀{H':List HP},z.X∈H'->z.y.In B w0 H'
 id:z.y.f.1=f.1
 tl:z.t.cells.length<=1000000000000
 res:(if z.e=0 then finE n (insQ q z.y.rq) z.t 0 else(none,18))=RR
theorem Qf(n:Net)(q:List Rqs)(s:Sch)(x:Rqs):(JC n q s x).1.cells.length<=512:=by
 unfold JC
 split
 ·exact Ybn
 split
 ·exact Ybn
 split
 ·exact Ybn
 split
 ·exact Ybn
 split
 ·exact Ybn
 split
 ·exact Ybn
 simp_all
theorem Ycy(p:PnM)(f:Flw)(hrun:Vo 100000 p.n.net f.2.1 f.2.2.1=some (Jr p.n.net f))(h24:p.s.len<=24\/chkP p.pln≠0){B:Nat}{w0:World}{H:List HP}{w:World}(ht:TabsB B w0)(hp:p.In B w0 H)(hw:St B w0 H w):
 CX B w0 114 [p.val,flwV f] w (Yg0 B w0 H (extP p.pln f)):=by
 refine Ya Tryz.func114 Tryz.ntmps114 rfl rfl hw ?_
 have p1:=λ{H':List HP}{w:World}(hp:p.In B w0 H') (hw:St B w0 H' w)=>Qm p ht hp hw
 have hop:∀w,St B w0 [many H] w->St B w0 H w:=λw hw=>hw.perm (.openT H)
 have hpM:∀{H':List HP},many H∈H'->p.In B w0 H':=λhm=>hp.mono λw hw=>hw.inM hm
 obtain⟨n,qA,qcap,q,s,cA,ccap,c,fA,fcap,fm⟩:=p
 have hinM:∀{H':List HP},many H∈H'->n.In B w0 H':=λhm=>(hpM hm).n
 have hqM:∀{H':List HP},many H∈H'->QIn B w0 H' qA q:=λhm=>(hpM hm).q
 have hrsM:∀{H':List HP},many H∈H'->Rd B w0 H' s.A (s.cells.flatMap celF):=λhm=>(hpM hm).s
 have hsl:s.cells.length<=1000000000000:=hp.sl
 dsimp only at h24
 unfold PnM.val at p1⊢
 have hpl:(⟨n,qA,qcap,q,s,cA,ccap,c,fA,fcap,fm⟩:PnM).pln=⟨n.net,q.map RqM.rq,s.sch,c.map ClM.clm,fm⟩:=rfl
 rw[hpl]at p1 h24⊢
 unfold extP
 dsimp only at p1⊢
 unfold flwV
 refine Y8 [many H] (λw hw=>hw.perm (.closeT H)) ?_
 by_cases hk:chkP ⟨n.net,q.map RqM.rq,s.sch,c.map ClM.clm,fm⟩=0
 rotate_left
 ·rw[Tm hk]
  repeat'(first|refine zgb ?_|(refine zgh ?_;intro _)|fail)
  first|apply Yb en10|apply Yc en10
  exact za
  exact rfl
  exactλ_ hw=>(p1 (hpM zm) hw)
  repeat'(first|refine zgd ?_|(refine zge ?_ ?_<;>intro _<;>try exact zo)|fail)
  apply Yv T (H2:=H);(iterate 3 exact rfl);exact zm;exact rfl;exact rfl
  ·intro w hw
   have h5:St B w0 [many H] w:=by
    revert w
    exact zk
   exact hop w h5
  exact .inl ⟨rfl,rfl,rfl⟩
 have hs24:s.len<=24:=by
  rcases h24 with h|h
  ·exact h
  ·exact absurd hk h
 have hce:=YhG hk
 have hrq:=YhF hce
 have hq16:q.length<=16:=by
  have:=(Yl1 hrq).1
  rwa [Tv]at this
 have hord:=Yps hrq
 rw[hk]at p1
 rw[Tf (λe=>e hk)]
 have hpos:posQ (q.map RqM.rq) f.1<=q.length:=by
  have:=(List.takeWhile_prefix (p:=λy:Rqs=>decide (y.1.1<f.1)) (l:=q.map RqM.rq)).length_le
  rw[Tv]at this
  exact this
 obtain⟨k,hkp⟩:∃k,posQ (q.map RqM.rq) f.1=k:=⟨_,rfl⟩
 have p2:=λ{H':List HP}{w:World}(hq:QIn B w0 H' qA q) (hw:St B w0 H' w)=>YgI q f hord (by omega) (cap:=qcap) hq.rd hw
 rw[hkp]at p2 hpos
 obtain⟨hs,hhs⟩:∃hs,hasQ (q.map RqM.rq) f.1=hs:=⟨_,rfl⟩
 rw[hhs]at p2⊢
 unfold flwV at p2
 repeat'(first|refine zgb ?_|(refine zgh ?_;intro _)|fail)
 rename_i g2 g3 g4
 first|apply Yb en10|apply Yc en10
 exact za
 exact rfl
 exactλ_ hw=>(p1 (hpM zm) hw)
 repeat'(first|refine zgb ?_|(refine zge ?_ ?_<;>intro _<;>try exact zo)|fail)
 first|apply Yb YsV|apply Yc YsV
 exact za
 exact rfl
 exactλ_ hw=>(p2 (hqM zm) hw)
 cases hs with
 |true=>
  repeat'(first|refine zgd ?_|fail)
  apply Yv T (H2:=H);(iterate 3 exact rfl);exact zm;exact rfl;exact rfl
  ·intro w hw
   have h5:St B w0 [many H] w:=by
    revert w
    exact zk
   exact hop w h5
  exact .inl ⟨rfl,rfl,rfl⟩
 |false=>
 rw[Tf (by decide)]
 have hfl:YE (insQ (q.map RqM.rq) (f,[]))=(RqM.fl q).take k++f::(RqM.fl q).drop k:=by
  unfold insQ YE
  rw[show((f,[]):Rqs).1.1=f.1 from rfl,hkp,TP,Ro,List.map_take,NY,SU]
  rfl
 rw[hfl]
 have hfll:(RqM.fl q).length=q.length:=by unfold RqM.fl;rw[Tv]
 have hil:=Ye2 (RqM.fl q) f k (by omega)
 have p3:=λ{H':List HP}{w:World}(hq:QIn B w0 H' qA q) (hw:St B w0 H' w)=>YiA q (cap:=qcap) (by omega) hq.rd hw
 have p4:=λ{A2:Option Addr}{cap2 gv:Nat}{H':List HP}{w:World}(hw:St B w0 (flws A2 cap2 (RqM.fl q)::flwB gv f::H') w)=>Ygg (RqM.fl q) k f (by omega) (by omega) hw
 obtain⟨L,hL⟩:∃L,(RqM.fl q).take k++f::(RqM.fl q).drop k=L:=⟨_,rfl⟩
 rw[hL]at p4 hil⊢
 have p5:=λ{A2:Option Addr}{cap2:Nat}{H':List HP}{w:World}(hr:Rd B w0 H' A2 (L.flatMap flwF)) (hw:St B w0 H' w)=>YW n.nodes L (by omega) (cap:=cap2) hr hw
 obtain⟨fe,hfe⟩:∃fe,(Yx n.net.nodes L).2=fe:=⟨_,rfl⟩
 obtain⟨fi,hfi⟩:∃fi,(Yx n.net.nodes L).1=fi:=⟨_,rfl⟩
 rw[show n.nodes=n.net.nodes from rfl,hfe,hfi]at p5
 rw[hfe]
 repeat'(first|refine zgc ?_|fail)
 refine XE (λ_:Unit=>[(2,.pointer (some ⟨g2,0,none⟩)),(3,.pointer (some ⟨g3,0,none⟩)),(4,.pointer (some ⟨g4,0,none⟩)),(6,.int .i64 (k:Nat)),(9,.int .i64 fe)]) (λ_=>[plnA g2 n qA qcap q s cA ccap c fA fcap fm,flwB g3 f,zerA g4,many H]) ?_ ?_
 ·intro K hK
  repeat'(first|(apply Yf T;exact rfl;exact zm;exact rfl;exact zv;exact rfl;exact rfl)|fail)
  apply J9 (.n1 0 (.n1 1 (.n1 2 (.n1 3 (.n1 4 (.n1 6 (.n1 7 (.n2 5 (.n1 8 (.n1 9 (.n1 10 (.n1 11 (.n1 12 (.n1 13 (.n1 14 (.n1 15 .done)))))))) 8 (.n1 5 (.n1 9 (.n1 10 (.n1 11 (.n1 12 (.n1 13 (.n1 14 (.n1 15 .done)))))))))))))))) [] [true,true,true,true]
  kernel_rfl
  kernel_rfl
  exact zy
  exact rfl
  repeat'(first|(apply Yf T;exact rfl;exact zm;exact rfl;exact zv;exact rfl;exact rfl)|(apply Yj;try exact zl)|apply(zs91 ?_ ?_)|(apply Y3;try exact zl)|refine zgd ?_|(refine zgh ?_;intro _)|fail)
  ·skip
   apply Yg _ YsY
   exact za
   exact rfl
   exactλ_ hw=>(p3 (hqM zm) (hw))
   rintro _ _ ⟨A2,cap2,rfl,rfl⟩
   repeat'(first|(apply Yf T;exact rfl;exact zm;exact rfl;exact zv;exact rfl;exact rfl)|(apply Yj;try exact zl)|(apply Y3;try exact zl)|refine zgd ?_|(refine zgh ?_;intro _)|fail)
   rename_i gv
   apply XQ [flws A2 cap2 (RqM.fl q),flwB gv f] _ YsX
   exact za
   try exact zl
   exact zp
   exact rfl
   exactλ_ hw=>(p4 hw)
   rintro _ _ ⟨A3,cap3,rfl,rfl⟩
   repeat'(first|((first|apply Yb en78|apply Yc en78);exact za;exact rfl;exactλ_ hw=>(p5 (Rd.sl zm) hw))|(apply Yj;try exact zl)|(apply Y3;try exact zl)|refine zgd ?_|fail)
   apply hK ()
   ·exact zu
   ·exact zk
  ·rename_i gv
   apply Yg _ YsY
   exact za
   exact rfl
   exactλ_ hw=>(p3 (hqM zm) (hw))
   rintro _ _ ⟨A2,cap2,rfl,rfl⟩
   repeat'(first|(apply Yf T;exact rfl;exact zm;exact rfl;exact zv;exact rfl;exact rfl)|(apply Yj;try exact zl)|(apply Y3;try exact zl)|refine zgd ?_|fail)
   apply XQ [flws A2 cap2 (RqM.fl q),flwB gv f] _ YsX
   exact za
   try exact zl
   exact zp
   exact rfl
   exactλ_ hw=>(p4 hw)
   rintro _ _ ⟨A3,cap3,rfl,rfl⟩
   repeat'(first|((first|apply Yb en78|apply Yc en78);exact za;exact rfl;exactλ_ hw=>(p5 (Rd.sl zm) hw))|(apply Yj;try exact zl)|(apply Y3;try exact zl)|refine zgd ?_|fail)
   apply hK ()
   ·exact zu
   ·exact zk
 rintro⟨⟩
 by_cases hfe0:fe=0
 rotate_left
 ·rw[Tm hfe0]
  repeat'(first|refine zgd ?_|(refine zge ?_ ?_<;>intro _<;>try exact zo)|fail)
  apply Yv T (H2:=H);(iterate 3 exact rfl);exact zm;exact rfl;exact rfl
  ·intro w hw
   have h5:St B w0 [many H] w:=by
    revert w
    exact zk
   exact hop w h5
  exact .inl ⟨rfl,rfl,rfl⟩
 rw[Tf (λe=>e hfe0)]
 subst hfe0
 clear p1 p2 p3 p4 p5
 have hflw:=(Ym2.1 hfe).2.2.1 f (by rw[<-hL];exact Re _ TC)
 obtain⟨-,hper,-,-,-⟩:=JF hflw
 have hsz:=(JW (Vg.1 (Jh.1 hce).1).whole).2.2.1
 have hl1:1<=s.len:=by
  exact(TV hsz).1
 rw[show s.sch.len=s.len from rfl,Rj (by omega)]
 by_cases hmod:s.len%f.2.2.2.1=0
 rotate_left
 ·rw[Tm hmod]
  repeat'(first|refine zgd ?_|(refine zge ?_ ?_<;>intro _<;>try exact zo)|fail)
  apply Yv T (H2:=H);(iterate 3 exact rfl);exact zm;exact rfl;exact rfl
  ·intro w hw
   have h5:St B w0 [many H] w:=by
    revert w
    exact zk
   exact hop w h5
  exact .inl ⟨rfl,rfl,rfl⟩
 rw[Tf (λe=>e hmod)]
 have p6:=λ{A2:Option Addr}{cap2:Nat}{H':List HP}{w:World}(hin:n.In B w0 H') (hr:Rd B w0 H' A2 ([f].flatMap flwF)) (hw:St B w0 H' w)=>Yeg n [f] (by simp) (λf' hf'=>by rw[TU.1 hf'];exact hrun) (cap:=cap2) hin hr hw
 obtain⟨⟨RQ,ri,re⟩,hR⟩:∃R,J1 n.net [f]=R:=⟨_,rfl⟩
 rw[hR]at p6⊢
 dsimp only at p6⊢
 unfold Yn8 NetM.val at p6
 dsimp only at p6
 repeat'(first|(apply Yf T;exact rfl;exact zm;exact rfl;exact zv;exact rfl;exact rfl)|refine zgd ?_|(refine zge ?_ ?_<;>intro _<;>try exact zo)|(refine zgh ?_;intro _)|fail)
 apply Yg _ en81
 exact za
 exact rfl
 exactλ_ hw=>(p6 (hinM zm) (Rd.blk (cs:=#[.int .i64 f.1,.int .i64 f.2.1,.int .i64 f.2.2.1,.int .i64 f.2.2.2.1,.int .i64 f.2.2.2.2.1,.int .i64 f.2.2.2.2.2]) (t:=66) (fr:=(0,0)) zm) (hw))
 rintro _ _ ⟨A4,cap4,qr,rfl,hqr,hqs,rfl⟩
 by_cases hre:re=0
 rotate_left
 ·rw[Tm hre]
  repeat'(first|refine zgd ?_|(refine zge ?_ ?_<;>intro _<;>try exact zo)|fail)
  apply Yv T (H2:=H);(iterate 3 exact rfl);exact zm;exact rfl;exact rfl
  ·intro w hw
   have h5:St B w0 [many H] w:=by
    revert w
    exact zk
   exact hop w h5
  exact .inl ⟨rfl,rfl,rfl⟩
 rw[Tf (λe=>e hre)]
 subst hre
 have hRQ:RQ=[(reqE n.net f).1]:=by
  have h1:=hR
  unfold J1 at h1
  split at h1
  ·cases h1
  split at h1
  ·rename_i h2;injection h1 with _ h3;rw[h3]at h2;exact absurd rfl h2
  split at h1
  ·rename_i h2;injection h1 with _ h3;rw[h3]at h2;exact absurd rfl h2
  ·injection h1 with h2 h3
   rw[<-h2];rfl
 obtain⟨x,rfl,hxr⟩:∃x,qr=[x]/\x.rq=(reqE n.net f).1:=by
  rw[hRQ]at hqr
  match qr,hqr with
  |[],h=>cases h
  |[x],h=>injection h with h1 _;exact⟨x,rfl,h1⟩
  |_::_::_,h=>injection h with _ h1;cases h1
 have hxl:=hqs x TC
 have hx0:[x][(0:Int).toNat]? =some x:=rfl
 have hx1:[x].length=1:=rfl
 rw[<-hxr]
 have p7:=λ(y:RqM) {H':List HP}{w:World}(hin:n.In B w0 H') (hq:QIn B w0 H' qA q) (hrs:Rd B w0 H' s.A (s.cells.flatMap celF)) (hy:y.In B w0 H') (hw:St B w0 H' w)=>Yjl n q s y hs24 (cap:=qcap) ht hin hq hrs hsl hy hw
 unfold OutS NetM.val SchM.val rqV at p7
 have p8:=λ{H':List HP}{w:World}(hin:n.In B w0 H') (hw:St B w0 H' w)=>OK n f hin hw
 unfold OutQ NetM.val flwV at p8
 unfold rqs
 repeat'(first|(apply Yf T;exact rfl;exact zm;exact rfl;exact zv;exact rfl;exact rfl)|refine zgd ?_|(refine zge ?_ ?_<;>intro _<;>try exact zo)|(refine zgh ?_;intro _)|fail)
 rename_i g13
 have hxin:∀{H':List HP},many ([x].map rqQ)∈H'->x.In B w0 H':=λhm=>YlV hm TC hxl
 obtain⟨⟨t,te⟩,hA⟩:∃R,JC n.net (q.map RqM.rq) s.sch x.rq=R:=⟨_,rfl⟩
 have p9:=λ{H':List HP}{w:World}(hin:n.In B w0 H') (hq:QIn B w0 H' qA q) (hrs:Rd B w0 H' s.A (s.cells.flatMap celF)) (hy:x.In B w0 H') (hw:St B w0 H' w)=>p7 x hin hq hrs hy hw
 rw[hA]at p9
 rw[hA]
 dsimp only at p9⊢
 apply Yg _ YsZ
 exact za
 exact rfl
 exactλ_ hw=>(p9 (hinM zm) (hqM zm) (hrsM zm) (hxin zm) (hw))
 rintro _ _ ⟨A5,cap5,rfl,rfl⟩
 iterate 9 (first|(apply Yf T;exact rfl;exact zm;exact rfl;exact zv;exact rfl;exact rfl)|refine zgc ?_|(refine zgh ?_;intro _)|fail)
 rename_i g14
 have htl:=Qf n.net (q.map RqM.rq) s.sch x.rq
 rw[hA]at htl
 dsimp only at htl
 obtain⟨RR,hRR⟩:∃RR,(if te=0 then finE n.net (insQ (q.map RqM.rq) x.rq) t 0 else if(J8 n.net f).2≠0 then(none,18)else ext1 ⟨n.net,q.map RqM.rq,s.sch,c.map ClM.clm,fm⟩ (J8 n.net f).1 (JC n.net (q.map RqM.rq) s.sch (J8 n.net f).1))=RR:=⟨_,rfl⟩
 rw[hRR]
 have hxf:x.f.1=f.1:=by
  have h1:x.rq.1=f:=by rw[hxr];exact Yqf (Yqj (by rw[hR]))
  exact TA Prod.fst h1
 refine XE (λz:{z:ExM//ExOk B w0 n.net (q.map RqM.rq) f RR z}=>[(2,.pointer (some ⟨g2,0,none⟩)),(4,.pointer (some ⟨g4,0,none⟩)),(6,.int .i64 (k:Nat)),(12,.int .i64 z.1.e),(13,.pointer (some ⟨g13,0,none⟩)),(14,.pointer (some ⟨g14,0,none⟩))])
  (λz=>[rqA g13 z.1.y,schD g14 z.1.t z.1.A z.1.cap,cels z.1.A z.1.cap z.1.t.cells,z.1.X,plnA g2 n qA qcap q s cA ccap c fA fcap fm,zerA g4,many H]) ?_ ?_
 ·intro K hK
  by_cases hte:te=0
  ·rw[Tm hte]at hRR
   repeat'(first|refine zga ?_|(refine zge ?_ ?_<;>intro _<;>try exact zo)|fail)
   apply hK ⟨⟨x,t,A5,cap5,te,many ([x].map rqQ)⟩,⟨hxin,hxf,by show t.cells.length<=_;omega,by rw[<-hRR];exact Tm hte⟩⟩
   ·exact zu
   ·exact zk
  rw[Tf hte]at hRR
  obtain⟨⟨sy,se⟩,hS⟩:∃R,J8 n.net f=R:=⟨_,rfl⟩
  have hsf:se=0->sy.1=f:=λh=>by have:=@Yfw n.net f (by rw[hS];exact h);rwa [hS]at this
  rw[hS]at p8 hRR
  dsimp only at p8 hRR
  repeat'(first|(apply Yf T;exact rfl;exact zm;exact rfl;exact zv;exact rfl;exact rfl)|refine zgb ?_|(refine zge ?_ ?_<;>intro _<;>try exact zo)|fail)
  apply Yg _ YsL
  exact za
  exact rfl
  exactλ_ hw=>(p8 (hinM zm) (hw))
  rintro _ _ ⟨y,rfl,hy,hyl,rfl⟩
  unfold rqV
  by_cases hse:se=0
  rotate_left
  ·rw[Tm hse]at hRR
   repeat'(first|(apply Yf T;exact rfl;exact zm;exact rfl;exact zv;exact rfl;exact rfl)|refine zgd ?_|(refine zge ?_ ?_<;>intro _<;>try exact zo)|(refine zgh ?_;intro _)|fail)
   apply Yv T (H2:=H);(iterate 3 exact rfl);exact zm;exact rfl;exact rfl
   ·intro w hw
    have h5:St B w0 [many H] w:=by
     revert w
     exact zk
    exact hop w h5
   exact .inl ⟨by rw[<-hRR],by rw[<-hRR];rfl,rfl⟩
  rw[Tf (λe=>e hse)]at hRR
  subst hy
  have hyin:∀{H':List HP},rqQ y∈H'->y.In B w0 H':=λhm=>Yqk hm hyl
  unfold ext1 at hRR
  dsimp only at hRR
  obtain⟨⟨t2,te2⟩,hA2⟩:∃R,JC n.net (q.map RqM.rq) s.sch y.rq=R:=⟨_,rfl⟩
  have p10:=λ{H':List HP}{w:World}(hin:n.In B w0 H') (hq:QIn B w0 H' qA q) (hrs:Rd B w0 H' s.A (s.cells.flatMap celF)) (hy:y.In B w0 H') (hw:St B w0 H' w)=>p7 y hin hq hrs hy hw
  have htl2:=Qf n.net (q.map RqM.rq) s.sch y.rq
  rw[hA2]at p10 hRR htl2
  dsimp only at p10 hRR htl2
  repeat'(first|(apply Yf T;exact rfl;exact zm;exact rfl;exact zv;exact rfl;exact rfl)|refine zgc ?_|(refine zge ?_ ?_<;>intro _<;>try exact zo)|(refine zgh ?_;intro _)|fail)
  apply Yg _ YsZ
  exact za
  exact rfl
  exactλ_ hw=>(p10 (hinM zm) (hqM zm) (hrsM zm) (hyin zm) (hw))
  rintro _ _ ⟨A6,cap6,rfl,rfl⟩
  repeat'(first|(apply Yf T;exact rfl;exact zm;exact rfl;exact zv;exact rfl;exact rfl)|refine zgc ?_|fail)
  apply hK ⟨⟨y,t2,A6,cap6,te2,rqQ y⟩,⟨hyin,TA Prod.fst (hsf hse),by show t2.cells.length<=_;omega,?_⟩⟩
  ·exact zu
  ·exact zk
  ·rw[<-hRR]
   show(if te2=0 then _ else _)=if te2≠0 then _ else _
   by_cases h:te2=0
   ·rw[Tm h,Tf (λe=>e h)]
   ·rw[Tf h,Tm h]
 rintro⟨⟨y,t3,A7,cap7,e3,X⟩,hz⟩
 obtain⟨hyin,hyf,ht3,hres⟩:=hz
 dsimp only at hyin hyf ht3 hres⊢
 clear hRR p7 p8 p9 hA htl hxin
 by_cases he3:e3=0
 rotate_left
 ·rw[Tf he3]at hres
  repeat'(first|refine zgd ?_|(refine zge ?_ ?_<;>intro _<;>try exact zo)|fail)
  apply Yv T (H2:=H);(iterate 3 exact rfl);exact zm;exact rfl;exact rfl
  ·intro w hw
   have h5:St B w0 [many H] w:=by
    revert w
    exact zk
   exact hop w h5
  exact .inl ⟨by rw[<-hres],by rw[<-hres];rfl,rfl⟩
 rw[Tm he3]at hres
 subst he3
 obtain⟨Q,hQ⟩:∃Q,q.take k++y::q.drop k=Q:=⟨_,rfl⟩
 have hQl:=Oh q y k hpos
 rw[hQ]at hQl
 have hQm:Q.map RqM.rq=insQ (q.map RqM.rq) y.rq:=by
  unfold insQ
  rw[show y.rq.1.1=f.1 from hyf,hkp,<-hQ,TP,Ro,List.map_take,NY]
 rw[<-hQm]at hres
 have p11:=λ{H':List HP}{w:World}(hq:QIn B w0 H' qA q) (hw:St B w0 H' w)=>WD q (by omega) (cap:=qcap) hq.rd hw
 have p12:=λ{A':Option Addr}{cap' gv:Nat}{H':List HP}{w:World}(hw:St B w0 (rqs A' cap' q::rqA gv y::H') w)=>QC q k y hpos (by omega) hw
 rw[hQ]at p12
 repeat'(first|refine zga ?_|(refine zge ?_ ?_<;>intro _<;>try exact zo)|fail)
 refine XE (λz:Option Addr×Nat×Nat=>[(17,.pointer (some ⟨z.2.2,0,none⟩)),(4,.pointer (some ⟨g4,0,none⟩))])
  (λz=>[bldA z.2.2 ⟨n,z.1,z.2.1,Q,⟨t3.len,t3.off,A7,cap7,t3.cells⟩,none,0,[],none,0,[],0⟩,rqs z.1 z.2.1 Q,cels A7 cap7 t3.cells,X,zerA g4,many H]) ?_ ?_
 ·intro K hK
  repeat'(first|(apply Yf T;exact rfl;exact zm;exact rfl;exact zv;exact rfl;exact rfl)|fail)
  apply J9 (.n1 0 (.n1 1 (.n1 2 (.n1 3 (.n1 5 (.n1 6 (.n1 9 (.n2 4 (.n1 7 (.n1 8 (.n1 10 (.n1 11 (.n1 12 (.n1 13 .done)))))) 7 (.n1 4 (.n1 8 (.n1 10 (.n1 11 (.n1 12 (.n1 13 .done)))))))))))))) [] [true,true,true,true,true,true,true]
  kernel_rfl
  kernel_rfl
  exact zy
  exact rfl
  repeat'(first|(apply Yf T;exact rfl;exact zm;exact rfl;exact zv;exact rfl;exact rfl)|(apply Yj;try exact zl)|apply(zs91 ?_ ?_)|(apply Y3;try exact zl)|refine zgd ?_|(refine zgh ?_;intro _)|fail)
  ·skip
   apply Yg _ en90
   exact za
   exact rfl
   exactλ_ hw=>(p11 (hqM zm) (hw))
   rintro _ _ ⟨A1,c1,rfl,rfl⟩
   repeat'(first|(apply Yf T;exact rfl;exact zm;exact rfl;exact zv;exact rfl;exact rfl)|(apply Yj;try exact zl)|(apply Y3;try exact zl)|refine zgd ?_|(refine zgh ?_;intro _)|fail)
   rename_i gv
   apply XQ [rqs A1 c1 q,rqA gv y] _ Yo1
   exact za
   try exact zl
   exact zp
   exact rfl
   exactλ_ hw=>(p12 hw)
   rintro _ _ ⟨A8,cap8,rfl,rfl⟩
   repeat'(first|(apply Yf T;exact rfl;exact zm;exact rfl;exact zv;exact rfl;exact rfl)|(apply Yj;try exact zl)|(apply Y3;try exact zl)|refine zgd ?_|(refine zgh ?_;intro _)|fail)
   rename_i g17
   apply hK ⟨A8,cap8,g17⟩
   ·exact zu
   ·intro w hw
    have h5:St B w0 (blk g17 (.cells #[.int .i64 n.nodes,.slice n.pA n.rows.length n.pcap,.int .i64 n.noise,.int .i64 n.thr,.slice n.lA n.links.length n.lcap,.slice n.mA n.margin.length n.mcap,.slice A8 Q.length cap8,.int .i64 t3.len,.int .i64 t3.off,.slice A7 t3.cells.length cap7,.slice none 0 0,.slice none 0 0,.int .i64 0] 164 (0,0))::rqs A8 cap8 Q::cels A7 cap7 t3.cells::X::zerA g4::[many H]) w:=by
     revert w
     exact zk
    exact h5
  ·rename_i gv
   apply Yg _ en90
   exact za
   exact rfl
   exactλ_ hw=>(p11 (hqM zm) (hw))
   rintro _ _ ⟨A1,c1,rfl,rfl⟩
   repeat'(first|(apply Yf T;exact rfl;exact zm;exact rfl;exact zv;exact rfl;exact rfl)|(apply Yj;try exact zl)|(apply Y3;try exact zl)|refine zgd ?_|fail)
   apply XQ [rqs A1 c1 q,rqA gv y] _ Yo1
   exact za
   try exact zl
   exact zp
   exact rfl
   exactλ_ hw=>(p12 hw)
   rintro _ _ ⟨A8,cap8,rfl,rfl⟩
   repeat'(first|(apply Yf T;exact rfl;exact zm;exact rfl;exact zv;exact rfl;exact rfl)|(apply Yj;try exact zl)|(apply Y3;try exact zl)|refine zgd ?_|(refine zgh ?_;intro _)|fail)
   rename_i g17
   apply hK ⟨A8,cap8,g17⟩
   ·exact zu
   ·intro w hw
    have h5:St B w0 (blk g17 (.cells #[.int .i64 n.nodes,.slice n.pA n.rows.length n.pcap,.int .i64 n.noise,.int .i64 n.thr,.slice n.lA n.links.length n.lcap,.slice n.mA n.margin.length n.mcap,.slice A8 Q.length cap8,.int .i64 t3.len,.int .i64 t3.off,.slice A7 t3.cells.length cap7,.slice none 0 0,.slice none 0 0,.int .i64 0] 164 (0,0))::rqs A8 cap8 Q::cels A7 cap7 t3.cells::X::zerA g4::[many H]) w:=by
     revert w
     exact zk
    exact h5
 rintro⟨A8,cap8,g17⟩
 dsimp only
 have hqe:∀{H':List HP},many H∈H'->X∈H'->rqs A8 cap8 Q∈H'->QIn B w0 H' A8 Q:=λh1 h2 h3=>⟨Yvi h3,λz hz=>by
  rw[<-hQ]at hz
  rcases TJ.1 hz with h|h
  ·exact(hqM h1).x z (SN h)
  ·rcases Rr.1 h with rfl|h
   ·exact hyin h2
   ·exact(hqM h1).x z (List.mem_of_mem_drop h),by omega⟩
 repeat'(first|refine zga ?_|fail)
 apply XQ [bldA g17 ⟨n,A8,cap8,Q,⟨t3.len,t3.off,A7,cap7,t3.cells⟩,none,0,[],none,0,[],0⟩] _ en86
 exact za
 try exact zl
 exact zp
 exact rfl
 exactλ_ hw=>(OC ⟨n,A8,cap8,Q,⟨t3.len,t3.off,A7,cap7,t3.cells⟩,none,0,[],none,0,[],0⟩ g17 ht (hinM zm) (hqe zm zm zm) (YlW (cap:=cap7) zm) ht3 hw)
 rintro _ _ hO
 dsimp only at hO
 rw[show(⟨t3.len,t3.off,A7,cap7,t3.cells⟩:SchM).sch=t3 from rfl,hres]at hO
 rcases hO with⟨h1,rfl,rfl⟩|⟨p,XX,h1,rfl,hp,rfl⟩
 ·unfold zeroPnV
  repeat'(first|refine zgc ?_|fail)
  apply Yv T (H2:=H);(iterate 3 exact rfl);exact zm;exact rfl;exact rfl
  ·intro w hw
   have h5:St B w0 [many H] w:=by
    revert w
    exact zk
   exact hop w h5
  exact .inl ⟨h1,rfl,rfl⟩
 ·unfold PnM.val
  repeat'(first|refine zgc ?_|fail)
  apply Yv T (H2:=many [many XX,cels A7 cap7 t3.cells]::H);(iterate 3 exact rfl);exact zm;exact rfl;exact rfl
  ·intro w hw
   have h5:St B w0 (many XX::cels A7 cap7 t3.cells::[many H]) w:=by
    revert w
    exact zk
   exact(h5.perm (.cons _ (.cons _ (.openT H)))).perm (.close [_,_] H)
  exact .inr ⟨p,_,h1,rfl,(hp _ (YlW (cap:=cap7) (.head _))).mono λw hw=>(hw.perm (.open_ [_,_] [])),rfl⟩
theorem OX:∀{a b:List Lop}{c d:List Spl},a.length=c.length->Xd (a++b) (c++d)=Xd a c++Xd b d
 |[],_,[],_,_=>rfl
 |x::a,b,y::c,d,h=>by
  have:=OX (a:=a) (b:=b) (c:=c) (d:=d) (by simpa using h)
  simp only[TB,Xd,this]
 |[],_,_::_,_,h=>by cases h
 |_::_,_,[],_,h=>by cases h
theorem Ql:∀{a b:List Lop}{c d:List Spl},a.length=c.length->badS (a++b) (c++d)=(badS a c||badS b d)
 |[],_,[],_,_=>by simp[badS]
 |x::a,b,y::c,d,h=>by
  have:=Ql (a:=a) (b:=b) (c:=c) (d:=d) (by simpa using h)
  simp only[TB,badS,this,Bool.or_assoc]
 |[],_,_::_,_,h=>by cases h
 |_::_,_,[],_,h=>by cases h
variable {l:Lop}
theorem YwU{nodes:Int}(h:lopE nodes l=0)(hn:nodes<=32):lopE 32 l=0:=by
 have hi:∀a:Int,¬(insE a nodes=false)->¬(insE a 32=false):=λa h=>by
  unfold insE at h⊢
  simp only[T0,T8]at h⊢
  omega
 unfold lopE at h⊢
 split at h
 ·cases h
 rename_i h1
 split at h
 ·cases h
 rename_i h2
 split at h
 ·cases h
 rename_i h3
 rw[Tf (λe=>h1 ?_),Tf h2,Tf h3]
 rcases e with e|e|e|e|e
 ·exact .inl e
 ·exact .inr (.inl e)
 ·exact .inr (.inr (.inl (T8.1 λe2=>hi _ e2 e)))
 ·exact .inr (.inr (.inr (.inl (T8.1 λe2=>hi _ e2 e))))
 ·exact .inr (.inr (.inr (.inr (T8.1 λe2=>hi _ e2 e))))
theorem YkK{s:Spl}(h:lopE 32 l=0)(hs:s∈Zj l):Xm l s=0:=by
 unfold Zj at hs
 obtain⟨i,hi,rfl⟩:=TD.1 hs
 have hi:=Ru.1 hi
 unfold Xm
 rw[Tf (λe=>e h),Tf]
 unfold fitS YgW sumS
 unfold sumS at hi
 simp only[Bool.not_eq_false,Tq]
 omega
theorem Ysb(l:List Lop)(id:Int):posL l id<=l.length:=(List.takeWhile_sublist _).length_le
theorem Ygy:∀{l:List Lop}{x:Lop},(l.Pairwise λa b=>a.1<b.1)->x∈l->l[posL l x.1]? =some x
 |y::l,x,hp,hx=>by
  obtain⟨h1,h2⟩:=List.pairwise_cons.1 hp
  unfold posL
  by_cases hy:y.1<x.1
  ·rw[List.takeWhile_cons_of_pos (by simpa using hy),TZ,SR]
   rcases Rr.1 hx with rfl|hx
   ·exact absurd hy (Int.lt_irrefl _)
   ·exact Ygy h2 hx
  ·rw[List.takeWhile_cons_of_neg (by simpa using hy)]
   rcases Rr.1 hx with rfl|hx
   ·rfl
   ·exact absurd (h1 x hx) hy
variable {k:Nat}
theorem UH{α:Type}{l:List α}{x:α}(h:l[k]? =some x):l=l.take k++x::l.drop (k+1):=by
 obtain⟨hk,rfl⟩:=Tc.1 h
 rw[<-Rb hk,Rx]
theorem Yah{q:List Rqs}{f:Flw}:f∈YE q↔∃y∈q,y.1=f:=by unfold YE;exact TD
theorem Yaf{l:List Lop}{s:List Spl}(hl:s.length=l.length){x:Lop}(h:l[k]? =some x):∃y,s[k]? =some y/\Y6 x y∈Xd l s/\Xk x y∈Xd l s/\Xd l s=Xd (l.take k) (s.take k)++Y6 x y::Xk x y::Xd (l.drop (k+1)) (s.drop (k+1)):=by
 have hk:=(Tc.1 h).1
 obtain⟨y,hy⟩:∃y,s[k]? =some y:=⟨_,Ta (by omega)⟩
 have hlen:(l.take k).length=(s.take k).length:=by rw[TK,TK,hl]
 have he:Xd l s=Xd (l.take k) (s.take k)++Y6 x y::Xk x y::Xd (l.drop (k+1)) (s.drop (k+1)):=by
  have h1:Xd l s=Xd (l.take k++x::l.drop (k+1)) (s.take k++y::s.drop (k+1)):=by rw[<-UH h,<-UH hy]
  rw[h1,OX hlen];rfl
 refine⟨y,hy,?_,?_,he⟩<;>(rw[he];simp)
structure GwM where
 p:PnM
 lA:Option Addr
 lcap:Nat
 l:List Lop
 sA:Option Addr
 scap:Nat
 s:List Spl
def GwM.val(g:GwM):Value:=.agg #[.int .i64 g.p.n.nodes,.slice g.p.n.pA g.p.n.rows.length g.p.n.pcap,.int .i64 g.p.n.noise,.int .i64 g.p.n.thr,.slice g.p.n.lA g.p.n.links.length g.p.n.lcap,.slice g.p.n.mA g.p.n.margin.length g.p.n.mcap,.slice g.p.qA g.p.q.length g.p.qcap,.int .i64 g.p.s.len,.int .i64 g.p.s.off,.slice g.p.s.A g.p.s.cells.length g.p.s.cap,.slice g.p.cA g.p.c.length g.p.ccap,.slice g.p.fA g.p.f.length g.p.fcap,.slice g.lA g.l.length g.lcap,.slice g.sA g.s.length g.scap]
def GwM.gw(g:GwM):Gwy:=⟨g.p.pln,g.l,g.s⟩
structure GwM.In(B:Nat)(w0:World)(H:List HP)(g:GwM):Prop where
 p:g.p.In B w0 H
 l:Rd B w0 H g.lA (g.l.flatMap lopF)
 s:Rd B w0 H g.sA (g.s.flatMap splF)
 ll:g.l.length<=1000
 sl:g.s.length<=1000
 lc:g.l.length<=g.lcap
 sc:g.s.length<=g.scap
abbrev gwyA(g:Nat)(m:GwM):HP:=blk g (.cells #[.int .i64 m.p.n.nodes,.slice m.p.n.pA m.p.n.rows.length m.p.n.pcap,.int .i64 m.p.n.noise,.int .i64 m.p.n.thr,.slice m.p.n.lA m.p.n.links.length m.p.n.lcap,.slice m.p.n.mA m.p.n.margin.length m.p.n.mcap,.slice m.p.qA m.p.q.length m.p.qcap,.int .i64 m.p.s.len,.int .i64 m.p.s.off,.slice m.p.s.A m.p.s.cells.length m.p.s.cap,.slice m.p.cA m.p.c.length m.p.ccap,.slice m.p.fA m.p.f.length m.p.fcap,.slice m.lA m.l.length m.lcap,.slice m.sA m.s.length m.scap] 54 (0,0))
variable {B:Nat}{w0 w:World}{H:List HP}
theorem GwM.In.mono{H':List HP}{g:GwM}(h:g.In B w0 H)(hH:∀w,St B w0 H' w->St B w0 H w):g.In B w0 H':=⟨h.p.mono hH,h.l.mono hH,h.s.mono hH,h.ll,h.sl,h.lc,h.sc⟩
theorem Ypl{a b:Flw}(h:flwF a=flwF b):a=b:=by
 obtain⟨a1,a2,a3,a4,a5,a6⟩:=a
 obtain⟨b1,b2,b3,b4,b5,b6⟩:=b
 simpa [flwF]using h
theorem YhM(l m:List Flw)(hlen:l.length<=1000000000000){A A2:Option Addr}{cap cap2:Nat}(hr:Rd B w0 H A (l.flatMap flwF))(hr2:Rd B w0 H A2 (m.flatMap flwF))(hw:St B w0 H w):
 CX B w0 59 [.slice A l.length cap,.slice A2 m.length cap2] w λu K=>u=.bool (decide (l=m))/\K=H:=by
 refine Ya Tryz.func59 Tryz.ntmps59 rfl rfl hw ?_
 by_cases hll:l.length=m.length
 rotate_left
 ·repeat'(first|refine zgb ?_|(refine zge ?_ ?_<;>intro _<;>try exact zo)|fail)
  apply Yd;exact rfl;exact rfl
  exact⟨by rw[Tu λe=>hll (by rw[e])],rfl⟩
 repeat'(first|refine zgb ?_|(refine zge ?_ ?_<;>intro _<;>try exact zo)|fail)
 refine Yi (λ(k:Nat)=>[(13,.int .i64 k),(12,.int .i64 l.length),(0,.slice A l.length cap),(1,.slice A2 m.length cap2)]) (λ_=>H) (λk=>k<=l.length/\l.take k=m.take k) (λk=>l.length-k) 0 ⟨Ti _,by simp⟩ ?_ (λw hw=>hw) ?_
 ·exact zu
 rintro k ⟨hk,hi⟩ K hK
 by_cases hlt:k<l.length
 ·obtain⟨a,ha⟩:∃a,l[k]? =some a:=⟨_,Ta hlt⟩
  obtain⟨b,hb⟩:∃b,m[k]? =some b:=⟨_,Ta (by omega)⟩
  repeat'(first|(apply Yq6 (xs:=flwF a) (ys:=flwF b);(iterate 3 exact rfl);kernel_rfl;kernel_rfl;all_goals intro _)|refine zgd ?_|(refine zge ?_ ?_<;>intro _<;>try exact zo)|fail)
  ·rename_i h
   apply Yd;exact rfl;exact rfl
   exact⟨by rw[Tu λe=>by rw[e,hb]at ha;exact h (by rw[Tn ha])],rfl⟩
  ·rename_i h
   apply hK (k+1)
   ·exact⟨by omega,by rw[TF,TF,ha,hb,hi,Ypl h]⟩
   ·omega
   ·exact zu
   ·exactλw hw=>hw
 ·repeat'(first|refine zgc ?_|(refine zge ?_ ?_<;>intro _<;>try exact zo)|fail)
  apply Yd;exact rfl;exact rfl
  rw[TX (by omega),TX (by omega)]at hi
  exact⟨by rw[Tj hi],rfl⟩
theorem YcL:∀(l:List Lop) (s:List Spl),(Xd l s).length<=2*l.length
 |_::l,_::s=>by
  have:=YcL l s
  simp only[Xd,TZ]
  omega
 |[],_=>by simp[Xd]
 |_::_,[]=>by simp[Xd]
theorem Yro{l:List Lop}{s:List Spl}{k:Nat}{a:Lop}{b:Spl}(hl:s.length=l.length)(ha:l[k]? =some a)(hb:s[k]? =some b):
 Xd (l.take (k+1)) (s.take (k+1))=Xd (l.take k) (s.take k)++[Y6 a b,Xk a b]/\(Xm a b≠0->badS l s=true)/\(badS (l.take k) (s.take k)=false->Xm a b=0->badS (l.take (k+1)) (s.take (k+1))=false):=by
 have hlen:(l.take k).length=(s.take k).length:=by rw[TK,TK,hl]
 rw[TF,TF,ha,hb,RE,RE]
 refine⟨by rw[OX hlen];rfl,λh=>?_,λh1 h2=>?_⟩
 ·rw[UH ha,UH hb,Ql hlen]
  simp[badS,h]
 ·rw[Ql hlen,h1]
  simp[badS,h2]
theorem Ji(g:GwM)(ht:TabsB B w0)(hg:g.In B w0 H)(hw:St B w0 H w):
 CX B w0 23 [g.val] w λv K=>v=.int .i64 (chkG g.gw)/\K=H:=by
 refine Ya Tryz.func23 Tryz.ntmps23 rfl rfl hw ?_
 have hop:∀w,St B w0 [many H] w->St B w0 H w:=λw hw=>hw.perm (.openT H)
 have hgM:∀{H':List HP},many H∈H'->g.In B w0 H':=λhm=>hg.mono λw hw=>hw.inM hm
 have p1:=λ{H':List HP}{w:World}(hg:g.In B w0 H') (hw:St B w0 H' w)=>Qm g.p ht hg.p hw
 have p2:=λ{H':List HP}{w:World}(hg:g.In B w0 H') (hw:St B w0 H' w)=>WN g.p.n.nodes g.l (TY hg.ll (by decide)) (cap:=g.lcap) hg.l hw
 have p3:=λ(a:Lop) (b:Spl) {H':List HP}{w:World}(hw:St B w0 H' w)=>Ya2 a b hw
 have hll:=hg.ll
 have hsl:=hg.sl
 unfold GwM.val
 unfold PnM.val at p1
 unfold chkG
 rw[show g.gw.p=g.p.pln from rfl,show g.gw.l=g.l from rfl,show g.gw.s=g.s from rfl,show g.p.pln.n.nodes=g.p.n.nodes from rfl]
 refine Y8 [many H] (λw hw=>hw.perm (.closeT H)) ?_
 by_cases hk:chkP g.p.pln=0
 rotate_left
 ·rw[Tm hk]
  repeat'(first|(apply Yf T;exact rfl;exact zm;exact rfl;exact zv;exact rfl;exact rfl)|refine zgb ?_|(refine zgh ?_;intro _)|fail)
  first|apply Yb en10|apply Yc en10
  exact za
  exact rfl
  exactλ_ hw=>(p1 (hgM zm) hw)
  repeat'(first|refine zgb ?_|(refine zge ?_ ?_<;>intro _<;>try exact zo)|fail)
  apply Yh H
  ·intro w hw
   have h5:St B w0 [many H] w:=by
    revert w
    exact zk
   exact hop w h5
  apply Yd;exact rfl;exact rfl;exact⟨rfl,rfl⟩
 rw[Tf (λe=>e hk)]
 rw[hk]at p1
 obtain⟨⟨li,le⟩,hL⟩:∃R,ZZ g.p.n.nodes g.l=R:=⟨_,rfl⟩
 rw[hL]at p2⊢
 dsimp only at p2⊢
 by_cases hle:le=0
 rotate_left
 ·rw[Tm hle]
  repeat'(first|(apply Yf T;exact rfl;exact zm;exact rfl;exact zv;exact rfl;exact rfl)|((first|apply Yb en10|apply Yc en10);exact za;exact rfl;exactλ_ hw=>(p1 (hgM zm) hw))|((first|apply Yb en57|apply Yc en57);exact za;exact rfl;exactλ_ hw=>(p2 (hgM zm) hw))|refine zgc ?_|(refine zge ?_ ?_<;>intro _<;>try exact zo)|(refine zgh ?_;intro _)|fail)
  apply Yh H
  ·intro w hw
   have h5:St B w0 [many H] w:=by
    revert w
    exact zk
   exact hop w h5
  apply Yd;exact rfl;exact rfl;exact⟨rfl,rfl⟩
 rw[Tf (λe=>e hle)]
 subst hle
 by_cases hlen:g.s.length=g.l.length
 rotate_left
 ·rw[Tm hlen]
  repeat'(first|(apply Yf T;exact rfl;exact zm;exact rfl;exact zv;exact rfl;exact rfl)|((first|apply Yb en10|apply Yc en10);exact za;exact rfl;exactλ_ hw=>(p1 (hgM zm) hw))|((first|apply Yb en57|apply Yc en57);exact za;exact rfl;exactλ_ hw=>(p2 (hgM zm) hw))|refine zgc ?_|(refine zge ?_ ?_<;>intro _<;>try exact zo)|(refine zgh ?_;intro _)|fail)
  apply Yh H
  ·intro w hw
   have h5:St B w0 [many H] w:=by
    revert w
    exact zk
   exact hop w h5
  apply Yd;exact rfl;exact rfl;exact⟨rfl,rfl⟩
 rw[Tf (λe=>e hlen)]
 have hq16:g.p.q.length<=16:=by
  have h1:(g.p.q.map RqM.rq).length<=16:=(Yl1 (YhF (YhG hk))).1
  rwa [Tv]at h1
 repeat'(first|(apply Yf T;exact rfl;exact zm;exact rfl;exact zv;exact rfl;exact rfl)|((first|apply Yb en10|apply Yc en10);exact za;exact rfl;exactλ_ hw=>(p1 (hgM zm) hw))|((first|apply Yb en57|apply Yc en57);exact za;exact rfl;exactλ_ hw=>(p2 (hgM zm) hw))|refine zgc ?_|(refine zge ?_ ?_<;>intro _<;>try exact zo)|(refine zgh ?_;intro _)|fail)
 rename Nat=>g1
 clear p1 p2
 refine Xf 66 6 ?_
 refine Yi (λz:FlM=>[(42,.int .i64 (z.i:Nat)),(41,.int .i64 g.l.length),(40,.slice g.lA g.l.length g.lcap),(6,.slice z.A (Xd (g.l.take z.i) (g.s.take z.i)).length z.cap),(7,.slice none 0 0),(1,.pointer (some ⟨g1,0,none⟩))])
  (λz=>flws z.A z.cap (Xd (g.l.take z.i) (g.s.take z.i))::gwyA g1 g::[many H]) (λz=>z.i<=g.l.length/\badS (g.l.take z.i) (g.s.take z.i)=false) (λz=>g.l.length-z.i) ⟨0,none,0⟩ ⟨Ti _,by rw[SO];rfl⟩ ?_ ?_ ?_
 ·exact zu
 ·intro w hw
  have h5:St B w0 (sl 66 6 none 0 0 []::gwyA g1 g::[many H]) w:=by
   revert w
   exact zk
  exact h5
 rintro⟨i,A1,c1⟩ ⟨hi,hb⟩ K hK
 dsimp only at hi hb⊢
 have hfl:=YcL (g.l.take i) (g.s.take i)
 rw[TK]at hfl
 by_cases hlt:i<g.l.length
 ·obtain⟨a,ha⟩:∃a,g.l[i]? =some a:=⟨_,Ta hlt⟩
  obtain⟨b,hb2⟩:∃b,g.s[i]? =some b:=⟨_,Ta (by omega)⟩
  obtain⟨hst,hbad,hnext⟩:=Yro hlen ha hb2
  have p4:=λ{H':List HP}{w:World}(hw:St B w0 H' w)=>p3 a b hw
  unfold lopV splV at p4
  have hra:=(hgM (H':=flws A1 c1 (Xd (g.l.take i) (g.s.take i))::gwyA g1 g::[many H]) (.tail _ (.tail _ (.head _)))).l
  have hrb:=(hgM (H':=flws A1 c1 (Xd (g.l.take i) (g.s.take i))::gwyA g1 g::[many H]) (.tail _ (.tail _ (.head _)))).s
  by_cases hr:Xm a b=0
  rotate_left
  ·rw[Tm (hbad hr)]
   repeat'(first|(apply Yf T;exact rfl;exact zm;exact rfl;exact zv;exact rfl;exact rfl)|refine zgd ?_|(refine zge ?_ ?_<;>intro _<;>try exact zo)|(refine zgh ?_;intro _)|fail)
   apply Yz [0,1,2,3,4,5,6,7,8,9,10,11] [] [true,true,true,true]
   kernel_rfl
   kernel_rfl
   exact zy
   (simp only[Ye,nthO];rfl)
   exact rfl
   repeat'(first|(apply Yf T;exact rfl;exact zm;exact rfl;exact zv;exact rfl;exact rfl)|refine zgd ?_|fail)
   apply Yg _ en58
   exact za
   exact rfl
   exactλ_ hw=>(p4 (hw))
   rintro _ _ ⟨A3,rfl,rfl⟩
   repeat'(first|(apply Yj;try exact zl)|refine zgd ?_|(refine zge ?_ ?_<;>intro _<;>try exact zo)|fail)
   apply Yh H
   ·intro w hw
    have h5:St B w0 [many H] w:=by
     revert w
     exact zk
    exact hop w h5
   apply Yd;exact rfl;exact rfl;exact⟨rfl,rfl⟩
  obtain⟨m,hm⟩:∃m,[Y6 a b,Xk a b]=m:=⟨_,rfl⟩
  have hml:m.length=2:=by rw[<-hm];rfl
  rw[show flsS a b=m from by unfold flsS;rw[Tf (λe=>e hr)];exact hm,hr]at p4
  rw[hm]at hst
  have hnb:=hnext hb hr
  generalize Xd (g.l.take i) (g.s.take i)=L at hst hfl hra hrb⊢
  repeat'(first|(apply Yf T;exact rfl;exact zm;exact rfl;exact zv;exact rfl;exact rfl)|refine zgd ?_|(refine zge ?_ ?_<;>intro _<;>try exact zo)|(refine zgh ?_;intro _)|fail)
  apply Yz [0,1,2,3,4,5,6,7,8,9,10,11] [] [true,true,true,true]
  kernel_rfl
  kernel_rfl
  exact zy
  (simp only[Ye,nthO];rfl)
  exact rfl
  repeat'(first|(apply Yf T;exact rfl;exact zm;exact rfl;exact zv;exact rfl;exact rfl)|refine zgd ?_|fail)
  apply Yg _ en58
  exact za
  exact rfl
  exactλ_ hw=>(p4 (hw))
  rintro _ _ ⟨A3,rfl,rfl⟩
  unfold flws
  repeat'(first|(apply Xn T (f:=flwF) (l2:=m) (e:=66) (size:=6) (xs:=L.flatMap flwF);(iterate 3 exact rfl);exact Rd.sl zm;exact(λ_=>rfl);exact(λ_=>rfl);exact rfl;(intro _ _;exact zd);omega;intro A4 c4)|(apply Yj;try exact zl)|refine zgd ?_|(refine zge ?_ ?_<;>intro _<;>try exact zo)|fail)
  rename_i A4 c4
  apply hK ⟨i+1,A4,c4⟩
  ·exact⟨by show i+1<=_;omega,hnb⟩
  ·dsimp only;omega
  ·dsimp only
   rw[hst,Tt]
   exact zu
  ·intro w hw
   dsimp only
   unfold flws
   rw[hst,Tt,TR]
   revert w
   exact zk
 obtain rfl:i=g.l.length:=by omega
 rw[TL,TX (by omega)]at hb hfl
 rw[TL,TX (l:=g.s) (by omega)]
 rw[Tf (show¬badS g.l g.s=true by rw[hb];decide)]
 have hfq:YE g.p.pln.q=RqM.fl g.p.q:=by
  show(g.p.q.map RqM.rq).map (·.1)=g.p.q.map _
  rw[SU];rfl
 rw[hfq]
 clear hK
 generalize Xd g.l g.s=L at hfl⊢
 have hrq:∀{H':List HP},many H∈H'->Rd B w0 H' g.p.qA (g.p.q.flatMap rqF):=λhm=>(hgM hm).p.q.rd
 repeat'(first|(apply Yf T;exact rfl;exact zm;exact rfl;exact zv;exact rfl;exact rfl)|refine zgc ?_|(refine zge ?_ ?_<;>intro _<;>try exact zo)|fail)
 refine Xf 66 6 ?_
 refine Yi (λz:FlM=>[(67,.int .i64 (z.i:Nat)),(66,.int .i64 g.p.q.length),(65,.slice g.p.qA g.p.q.length g.p.qcap),(7,.slice z.A (RqM.fl (g.p.q.take z.i)).length z.cap),(6,.slice A1 L.length c1)])
  (λz=>flws z.A z.cap (RqM.fl (g.p.q.take z.i))::flws A1 c1 L::[many H]) (λz=>z.i<=g.p.q.length) (λz=>g.p.q.length-z.i) ⟨0,none,0⟩ (Ti _) ?_ ?_ ?_
 ·exact zu
 ·intro w hw
  have h5:St B w0 (sl 66 6 none 0 0 []::flws A1 c1 L::[many H]) w:=by
   revert w
   exact zk
  exact h5
 rintro⟨i,A2,c2⟩ hi K hK
 dsimp only at hi⊢
 have hrd:=hrq (H':=flws A2 c2 (RqM.fl (g.p.q.take i))::flws A1 c1 L::[many H]) (.tail _ (.tail _ (.head _)))
 have hlen:(RqM.fl (g.p.q.take i)).length=i:=by unfold RqM.fl;rw[Tv,TK];omega
 by_cases hlt:i<g.p.q.length
 ·obtain⟨x,hx⟩:∃x,g.p.q[i]? =some x:=⟨_,Ta hlt⟩
  have hst:RqM.fl (g.p.q.take (i+1))=RqM.fl (g.p.q.take i)++[x.f]:=by unfold RqM.fl;rw[TF,hx,RE,TP];rfl
  repeat'(first|(apply Yf T;exact rfl;exact zm;exact rfl;exact zv;exact rfl;exact rfl)|refine zgd ?_|(refine zge ?_ ?_<;>intro _<;>try exact zo)|(refine zgh ?_;intro _)|(refine zgi ?_;intro _ _)|fail)
  rename_i A' cap'
  rw[Uu,<-hst,show(RqM.fl (g.p.q.take i)).length+1=(RqM.fl (g.p.q.take (i+1))).length from by rw[hst];simp]
  apply hK ⟨i+1,A',cap'⟩
  ·show i+1<=_
   omega
  ·dsimp only;omega
  ·exact zu
  ·exact zk
 obtain rfl:i=g.p.q.length:=by omega
 rw[TL]
 clear hK hrd
 have p5:=λ{H':List HP}{w:World}(h1:Rd B w0 H' A1 (L.flatMap flwF)) (h2:Rd B w0 H' A2 ((RqM.fl g.p.q).flatMap flwF)) (hw:St B w0 H' w)=>YhM L (RqM.fl g.p.q) (by omega) (cap:=c1) (cap2:=c2) h1 h2 hw
 by_cases heq:L=RqM.fl g.p.q
 ·rw[Tj heq]at p5
  rw[Tf (λe=>e heq)]
  repeat'(first|((first|apply Yb en59|apply Yc en59);exact za;exact rfl;exactλ_ hw=>(p5 (Rd.sl zm) (Rd.sl zm) hw))|refine zgd ?_|(refine zge ?_ ?_<;>intro _<;>try exact zo)|fail)
  apply Yh H
  ·intro w hw
   have h5:St B w0 [many H] w:=by
    revert w
    exact zk
   exact hop w h5
  apply Yd;exact rfl;exact rfl;exact⟨rfl,rfl⟩
 ·rw[Tu heq]at p5
  rw[Tm heq]
  repeat'(first|((first|apply Yb en59|apply Yc en59);exact za;exact rfl;exactλ_ hw=>(p5 (Rd.sl zm) (Rd.sl zm) hw))|refine zgd ?_|(refine zge ?_ ?_<;>intro _<;>try exact zo)|fail)
  apply Yh H
  ·intro w hw
   have h5:St B w0 [many H] w:=by
    revert w
    exact zk
   exact hop w h5
  apply Yd;exact rfl;exact rfl;exact⟨rfl,rfl⟩
noncomputable def Ycz(p:Pln):List Flw->Option Pln
 |[]=>some p
 |f::fs=>match extP p f with
  |(some q,0)=>Ycz q fs
  |_=>none
theorem Yac(p:Pln)(f:Flw)(fs:List Flw):Ycz p (f::fs)=match extP p f with
 |(some q,0)=>Ycz q fs
 |_=>none:=rfl
theorem Yqx(p:Pln)(l:Lop)(s:Spl)(ss:List Spl):tryG p l (s::ss)=match Wg p l s with
 |some q=>some (s,q)
 |none=>tryG p l ss:=rfl
theorem YmI(p:Pln)(l:Lop)(s:Spl):Wg p l s=Ycz p [Y6 l s,Xk l s]:=by
 unfold Wg
 rw[Yac]
 split
 ·rename_i q h
  rw[h]
  show _=Ycz q _
  rw[Yac];rfl
 ·rename_i h
  split
  ·rename_i q h2;exact absurd h2 (h q)
  ·rfl
def QY:Value:=.agg #[.int .i64 0,.slice none 0 0,.int .i64 0,.int .i64 0,.slice none 0 0,.slice none 0 0,.slice none 0 0,.int .i64 0,.int .i64 0,.slice none 0 0,.slice none 0 0,.slice none 0 0,.slice none 0 0,.slice none 0 0]
def YbP(B:Nat)(w0:World)(H:List HP)(R:Option Gwy×Int)(v:Value)(K:List HP):Prop:=
 (R.1=none/\v=.tuple #[QY,.int .i64 R.2]/\K=H)\/∃(g:GwM) (X:List HP),R.1=some g.gw/\v=.tuple #[g.val,.int .i64 R.2]/\g.In B w0 [many X]/\K=many X::H
abbrev plnB(g:Nat)(p:PnM):HP:=plnA g p.n p.qA p.qcap p.q p.s p.cA p.ccap p.c p.fA p.fcap p.f
abbrev zerB(g:Nat):HP:=blk g (.cells #[.int .i64 0,.slice none 0 0,.int .i64 0,.int .i64 0,.slice none 0 0,.slice none 0 0,.slice none 0 0,.int .i64 0,.int .i64 0,.slice none 0 0,.slice none 0 0,.slice none 0 0] 35 (0,0))
abbrev lopA(g:Nat)(l:Lop):HP:=blk g (.cells #[.int .i64 l.1,.int .i64 l.2.1,.int .i64 l.2.2.1,.int .i64 l.2.2.2.1,.int .i64 l.2.2.2.2.1,.int .i64 l.2.2.2.2.2.1,.int .i64 l.2.2.2.2.2.2] 79 (0,0))
structure TrM where
 i:Nat
 q:PnM
 X:List HP
structure ExtG(S:Spl->Prop)(G:Nat->Pln->Prop)(l:Lop):Prop where
 le:∀i q,G i q->q.s.len<=24
 st:∀i q s f,G i q->S s->Xm l s=0->[Y6 l s,Xk l s][i]? =some f->((extP q f).1=none/\(extP q f).2≠0)\/∃r,extP q f=(some r,0)/\G (i+1) r
 rn:∀i q s f,G i q->S s->Xm l s=0->[Y6 l s,Xk l s][i]? =some f->Vo 100000 q.n f.2.1 f.2.2.1=some (Jr q.n f)
structure TrOk(G:Nat->Pln->Prop)(B:Nat)(w0:World)(H:List HP)(p:Pln)(fs:List Flw)(z:TrM):Prop where
 i:z.i<=fs.length
 yin:∀{H':List HP},many z.X∈H'->many H∈H'->z.q.In B w0 H'
 new:z.i≠0->z.q.In B w0 [many z.X]
 g:G z.i z.q.pln
 ex:Ycz p fs=Ycz z.q.pln (fs.drop z.i)
variable {S:Spl->Prop}{G:Nat->Pln->Prop}{B:Nat}{w0 w:World}{H:List HP}
theorem Yi1(g:GwM)(l:Lop)(s:Spl)(gl gg gp:Nat)(hG:ExtG S G l)(hS:S s)(h0:G 0 g.p.pln)(hr:Xm l s=0)(ht:TabsB B w0)(hg:g.p.In B w0 H)(hw:St B w0 (zerB gp::lopA gl l::gwyA gg g::H) w):
 CX B w0 113 [splV s,.pointer (some ⟨gl,0,none⟩),.pointer (some ⟨gg,0,none⟩),.pointer (some ⟨gp,0,none⟩)] w λv K=>
  (Wg g.p.pln l s=none/\v=.bool false/\K=zerB gp::lopA gl l::gwyA gg g::H)\/∃q X,Wg g.p.pln l s=some (PnM.pln q)/\v=.bool true/\q.In B w0 [many X]/\K=plnB gp q::many X::lopA gl l::gwyA gg g::H:=by
 refine Ya Tryz.func113 Tryz.ntmps113 rfl rfl hw ?_
 have hop:∀w,St B w0 [many H] w->St B w0 H w:=λw hw=>hw.perm (.openT H)
 have hgM:∀{H':List HP},many H∈H'->g.p.In B w0 H':=λhm=>hg.mono λw hw=>hw.inM hm
 have p1:=λ{H':List HP}{w:World}(hw:St B w0 H' w)=>Ya2 l s hw
 have hfs:flsS l s=[Y6 l s,Xk l s]:=by unfold flsS;rw[Tf (λe=>e hr)]
 rw[hfs,hr,show [Y6 l s,Xk l s].length=2 from rfl]at p1
 rw[YmI]
 obtain⟨fs,hfe⟩:∃fs,[Y6 l s,Xk l s]=fs:=⟨_,rfl⟩
 have hfl:fs.length=2:=by rw[<-hfe];rfl
 rw[hfe]at p1⊢
 rw[<-hfl]at p1
 unfold lopV splV at p1
 unfold splV
 refine Y8 (zerB gp::lopA gl l::gwyA gg g::[many H]) (λw hw=>hw.perm (.cons _ (.cons _ (.cons _ (.closeT H))))) ?_
 repeat'(first|refine zgb ?_|(refine zgh ?_;intro _)|fail)
 apply Yg _ en58
 exact za
 exact rfl
 exactλ_ hw=>(p1 (hw))
 rintro _ _ ⟨A3,rfl,rfl⟩
 repeat'(first|(apply Yf T;exact rfl;exact zm;exact rfl;exact zv;exact rfl;exact rfl)|refine zgc ?_|fail)
 refine Yi (λz:TrM=>[(21,.int .i64 (z.i:Nat)),(20,.int .i64 fs.length),(19,.slice A3 fs.length fs.length),(3,.pointer (some ⟨gp,0,none⟩))])
  (λz=>plnB gp z.q::many z.X::flws A3 fs.length fs::lopA gl l::gwyA gg g::[many H]) (TrOk G B w0 H g.p.pln fs) (λz=>fs.length-z.i) ⟨0,g.p,[]⟩ ⟨Ti _,λ_ h=>hgM h,λh=>absurd rfl h,h0,rfl⟩ ?_ ?_ ?_
 ·exact zu
 ·intro w hw
  have h5:St B w0 (plnB gp g.p::flws A3 fs.length fs::lopA gl l::gwyA gg g::[many H]) w:=by
   revert w
   exact zk
  exact h5.perm (.cons _ (.close [] _))
 rintro⟨i,q,X⟩ ⟨hi,hin,hnew,hck,hex⟩ K hK
 dsimp only at hi hin hnew hck hex⊢
 by_cases hlt:i<fs.length
 ·obtain⟨f,hf⟩:∃f,fs[i]? =some f:=⟨_,Ta hlt⟩
  have hdr:fs.drop i=f::fs.drop (i+1):=by
   obtain⟨h1,rfl⟩:=Tc.1 hf
   exact Rb h1
  rw[hdr,Yac]at hex
  have hfm:[Y6 l s,Xk l s][i]? =some f:=by rw[hfe];exact hf
  have p2:=λ{H':List HP}{w:World}(hq:q.In B w0 H') (hw:St B w0 H' w)=>Ycy q f (hG.rn i q.pln s f hck hS hr hfm) (.inl (hG.le _ _ hck)) ht hq hw
  have hst:=hG.st i q.pln s f hck hS hr hfm
  obtain⟨⟨R,e⟩,hR⟩:∃R,extP q.pln f=R:=⟨_,rfl⟩
  rw[hR]at p2 hex hst
  unfold Yg0 PnM.val flwV at p2
  dsimp only at p2
  repeat'(first|refine zgd ?_|(refine zge ?_ ?_<;>intro _<;>try exact zo)|(refine zgh ?_;intro _)|fail)
  apply Yg _ YvN
  exact za
  exact rfl
  exactλ_ hw=>(p2 (hin zm zm) (hw))
  rintro _ K1 (⟨h,rfl,rfl⟩|⟨q2,X2,hq2,rfl,hq2in,rfl⟩)
  ·obtain⟨-,he⟩:R=none/\e≠0:=by
    rcases hst with h1|⟨r,h1,-⟩
    ·exact h1
    ·have h2:=(Prod.mk.inj h1).1
     rw[show R=none from h]at h2;cases h2
   subst h
   unfold zeroPnV
   repeat'(first|refine zgd ?_|(refine zge ?_ ?_<;>intro _<;>try exact zo)|fail)
   apply Yh (zerB gp::lopA gl l::gwyA gg g::H)
   ·intro w hw
    have h5:St B w0 (zerB gp::lopA gl l::gwyA gg g::[many H]) w:=by
     revert w
     exact zk
    exact h5.perm (.cons _ (.cons _ (.cons _ (.openT H))))
   apply Yd;exact rfl;exact rfl
   exact .inl ⟨hex,rfl,rfl⟩
  ·obtain⟨r,h1,hGr⟩:∃r,(R,e)=(some r,0)/\G (i+1) r:=by
    rcases hst with⟨h1,-⟩|h
    ·rw[show R=some q2.pln from hq2]at h1;cases h1
    ·exact h
   obtain⟨h2,rfl⟩:=Prod.mk.inj h1
   have hc2:G (i+1) q2.pln:=by
    rw[show R=some q2.pln from hq2]at h2
    rw[Tn h2];exact hGr
   subst hq2
   repeat'(first|refine zgc ?_|(refine zge ?_ ?_<;>intro _<;>try exact zo)|fail)
   apply hK ⟨i+1,q2,X2⟩
   ·exact⟨by show i+1<=_;omega,λh _=>hq2in.inX h,λ_=>hq2in,hc2,hex⟩
   ·dsimp only;omega
   ·exact zu
   ·exact zk
 ·obtain rfl:i=fs.length:=by omega
  rw[SA]at hex
  have hnew:=hnew (by omega)
  repeat'(first|refine zgc ?_|(refine zge ?_ ?_<;>intro _<;>try exact zo)|fail)
  apply Yh (plnB gp q::many X::lopA gl l::gwyA gg g::H)
  ·intro w hw
   have h5:St B w0 (plnB gp q::many X::lopA gl l::gwyA gg g::[many H]) w:=by
    revert w
    exact zk
   exact h5.perm (.cons _ (.cons _ (.cons _ (.cons _ (.openT H)))))
  apply Yd;exact rfl;exact rfl
  exact .inr ⟨q,X,hex,rfl,hnew,rfl⟩
theorem Yh7(g:GwM)(l:Lop)(L:List Spl)(gl gg gp:Nat)(hG:ExtG S G l)(h0:G 0 g.p.pln)(hS:∀(k:Nat) s,L[k]? =some s->(∀(j:Nat) t,j<k->L[j]? =some t->Wg g.p.pln l t=none)->S s)(hL:∀s∈L,Xm l s=0)(hlen:L.length<=1000000){A:Option Addr}{cap:Nat}(ht:TabsB B w0)(hg:g.p.In B w0 H)(hr:Rd B w0 H A (L.flatMap splF))(hw:St B w0 (zerB gp::lopA gl l::gwyA gg g::H) w):
 CX B w0 115 [.slice A L.length cap,.func (.func 113) #[] #[.pointer (some ⟨gl,0,none⟩),.pointer (some ⟨gg,0,none⟩),.pointer (some ⟨gp,0,none⟩)]] w λv K=>
  (tryG g.p.pln l L=none/\v=.int .i64 (-1)/\K=zerB gp::lopA gl l::gwyA gg g::H)\/∃k s q X,L[k]? =some s/\tryG g.p.pln l L=some (s,PnM.pln q)/\v=.int .i64 ((k:Nat):Int)/\q.In B w0 [many X]/\K=plnB gp q::many X::lopA gl l::gwyA gg g::H:=by
 refine Ya Tryz.func115 Tryz.ntmps115 rfl rfl hw ?_
 have hr:=((hr.cons (X:=gwyA gg g)).cons (X:=lopA gl l)).cons (X:=zerB gp)
 have p1:=λ(s:Spl) (hSs:S s) (hs:Xm l s=0) {w:World}(hw:St B w0 (zerB gp::lopA gl l::gwyA gg g::H) w)=>Yi1 g l s gl gg gp hG hSs h0 hs ht hg hw
 repeat'(first|refine zgb ?_|fail)
 refine Yi (λ(k:Nat)=>[(8,.int .i64 k),(7,.int .i64 L.length),(0,.slice A L.length cap),(1,.func (.func 113) #[] #[.pointer (some ⟨gl,0,none⟩),.pointer (some ⟨gg,0,none⟩),.pointer (some ⟨gp,0,none⟩)])]) (λ_=>zerB gp::lopA gl l::gwyA gg g::H) (λk=>k<=L.length/\tryG g.p.pln l L=tryG g.p.pln l (L.drop k)/\∀(j:Nat) t,j<k->L[j]? =some t->Wg g.p.pln l t=none) (λk=>L.length-k) 0 ⟨Ti _,by simp,λj t hj=>absurd hj (RD _)⟩ ?_ (λw hw=>hw) ?_
 ·exact zu
 rintro k ⟨hk1,hi,hfa⟩ K hK
 by_cases hlt:k<L.length
 ·obtain⟨a,ha⟩:∃a,L[k]? =some a:=⟨_,Ta hlt⟩
  have hdr:L.drop k=a::L.drop (k+1):=by
   obtain⟨h1,rfl⟩:=Tc.1 ha
   exact Rb h1
  rw[hdr,Yqx]at hi
  have p2:=λ{w:World}(hw:St B w0 (zerB gp::lopA gl l::gwyA gg g::H) w)=>p1 a (hS k a ha hfa) (hL a (Td ha)) hw
  unfold splV at p2
  repeat'(first|refine zgd ?_|(refine zge ?_ ?_<;>intro _<;>try exact zo)|fail)
  apply Yg4 _ (cs:=[.pointer (some ⟨gl,0,none⟩),.pointer (some ⟨gg,0,none⟩),.pointer (some ⟨gp,0,none⟩)])
  exact rfl
  exact YvM
  exact za
  exact rfl
  exactλ_ hw=>p2 hw
  rintro _ _ (⟨hb,rfl,rfl⟩|⟨q,X,hb,rfl,hq,rfl⟩)
  ·rw[hb]at hi
   repeat'(first|refine zgc ?_|fail)
   apply hK (k+1)
   ·refine⟨by omega,hi,λj t hj ht=>?_⟩
    by_cases hjk:j=k
    ·subst hjk;rw[ha]at ht;rw[<-Tn ht];exact hb
    ·exact hfa j t (by omega) ht
   ·omega
   ·exact zu
   ·exactλw hw=>hw
  ·rw[hb]at hi
   repeat'(first|refine zgd ?_|fail)
   apply Yd;exact rfl;exact rfl
   exact .inr ⟨k,a,q,X,ha,hi,rfl,hq,rfl⟩
 ·repeat'(first|refine zgc ?_|(refine zge ?_ ?_<;>intro _<;>try exact zo)|fail)
  apply Yd;exact rfl;exact rfl
  rw[hi,Rw (by omega)]
  exact .inl ⟨rfl,rfl,rfl⟩
theorem Yiq(n:Net):∃m:NetM,m.net=n:=⟨⟨n.nodes,none,0,n.power.map λr=>⟨none,0,r⟩,n.noise,n.thr,none,0,n.links,none,0,n.margin⟩,by
 unfold NetM.net
 simp only[SU]
 congr 1
 exact(List.map_congr_left λr _=>rfl).trans (List.map_id _)⟩
theorem YiM(s:Sch):∃m:SchM,m.sch=s:=⟨⟨s.len,s.off,none,0,s.cells⟩,rfl⟩
theorem YpK:∀(l:List Int) (a:Int),l.foldl (λx y=>if y<x then y else x) a<=a/\∀z∈l,l.foldl (λx y=>if y<x then y else x) a<=z
 |[],a=>⟨RB _,λz hz=>by cases hz⟩
 |y::l,a=>by
  rw[R9]
  obtain⟨h1,h2⟩:=YpK l (if y<a then y else a)
  have h3:(if y<a then y else a)<=a/\(if y<a then y else a)<=y:=by split<;>omega
  refine⟨by omega,λz hz=>?_⟩
  rcases Rr.1 hz with rfl|hz
  ·omega
  ·exact h2 z hz
variable {p:Pln}{x:Rqs}
theorem YoK(h:chkP p=0)(hx:x∈p.q):∃b,bndE p.c x.1.1=(b,true)/\1<=b/\b<=x.1.2.2.2.2.2:=by
 have hok:=Ycf h
 obtain⟨n,hn⟩:=Yiq p.n
 obtain⟨s,hs⟩:=YiM p.s
 have hc:=hok.cert
 have hpc:=hok.c
 rw[<-hn,<-hs]at hc hpc
 have hsv:=Yfv hc
 rw[Yf3 hc]at hpc
 refine⟨minI (clmE n.net s.sch x).bounds,by rw[hpc];exact hsv.bnd x hx,?_⟩
 have hw:=(Jh.1 hc).2 x hx
 unfold Ybj at hw
 rw[To,Tq]at hw
 have hl:=hw.2
 simp only[RX]at hl
 have hr:∀r∈x.2,1<=(YN n.net s.sch x.1 r).1.1/\(YN n.net s.sch x.1 r).1.1<=x.1.2.2.2.2.2:=λr hr=>by
  obtain⟨h1,h2⟩:=QD hl hr
  obtain⟨b,h3,h4,h5,-⟩:=UF h1
  rw[h4]at h2⊢
  exact⟨h5,h2⟩
 obtain⟨f,l⟩:=x
 cases l with
 |nil=>exact absurd hw.1 (by intro h;rcases h with h|h<;>simp at h)
 |cons r l=>
  show 1<=(l.map λr=>(YN n.net s.sch f r).1.1).foldl _ (YN n.net s.sch f r).1.1/\(l.map λr=>(YN n.net s.sch f r).1.1).foldl _ (YN n.net s.sch f r).1.1<=_
  obtain⟨h1,h2⟩:=hr r (by simp)
  refine⟨Ydf _ _ h1 λz hz=>?_,Int.le_trans (YpK _ _).1 h2⟩
  obtain⟨y,hy,rfl⟩:=TD.1 hz
  exact(hr y (TE _ hy)).1
theorem YlS:∀(l:List Int) (a:Int),l.foldl (λx y=>if y<x then y else x) a=a\/l.foldl (λx y=>if y<x then y else x) a∈l
 |[],a=>.inl rfl
 |y::l,a=>by
  rw[R9]
  rcases YlS l (if y<a then y else a)with h|h
  ·rw[h]
   split
   ·exact .inr TC
   ·exact .inl rfl
  ·exact .inr (TE _ h)
theorem YoJ(h:chkP p=0)(hx:x∈p.q):∃r∈x.2,(YN p.n p.s x.1 r).2=0/\(YN p.n p.s x.1 r).1.1=(bndE p.c x.1.1).1:=by
 have hok:=Ycf h
 obtain⟨n,hn⟩:=Yiq p.n
 obtain⟨s,hs⟩:=YiM p.s
 have hc:=hok.cert
 have hpc:=hok.c
 rw[<-hn,<-hs]at hc hpc⊢
 rw[Yf3 hc]at hpc
 rw[hpc,(Yfv hc).bnd x hx]
 have hw:=(Jh.1 hc).2 x hx
 unfold Ybj at hw
 rw[To,Tq]at hw
 have hl:=hw.2
 simp only[RX]at hl
 obtain⟨f,l⟩:=x
 cases l with
 |nil=>exact absurd hw.1 (by intro h;rcases h with h|h<;>simp at h)
 |cons r l=>
  show∃r'∈r::l,_/\_=(l.map λr=>(YN n.net s.sch f r).1.1).foldl _ (YN n.net s.sch f r).1.1
  rcases YlS (l.map λr=>(YN n.net s.sch f r).1.1) (YN n.net s.sch f r).1.1 with e|e
  ·exact⟨r,TC,(QD hl TC).1,e.symm⟩
  ·obtain⟨y,hy,e⟩:=TD.1 e
   exact⟨y,TE _ hy,(QD hl (TE _ hy)).1,e⟩
def ageG(g:Gwy)(id:Int):Int×Int:=
 if chkG g≠0 then(0,chkG g)else if hasL g.l id=false then(0,7)
 else((Z9 g.l (posL g.l id)).2.2.2.2.1+(g.s.getD (posL g.l id) (0,0)).1+(bndE g.p.c (2*id+1)).1-1,0)
variable {g:Gwy}{i:Nat}{l:Lop}{s:Spl}
theorem Yk9(hg:GwOk g)(hl:g.l[i]? =some l)(hs:g.s[i]? =some s):
 ∃x∈g.p.q,x.1=Xk l s/\ageG g l.1=(l.2.2.2.2.1+s.1+(bndE g.p.c x.1.1).1-1,0)/\1<=(bndE g.p.c x.1.1).1/\(bndE g.p.c x.1.1).1<=s.2/\Xm l s=0:=by
 obtain⟨-,-,-,hpw⟩:=Vi.1 hg.l
 have hat:=Ygy hpw (Td hl)
 have hi:posL g.l l.1=i:=by
  obtain⟨a1,a2⟩:=Tc.1 hat
  obtain⟨b1,b2⟩:=Tc.1 hl
  rw[TG]at hpw
  rcases RZ (posL g.l l.1) i with c|c|c
  ·have:=hpw _ _ a1 b1 c;rw[a2,b2]at this;exact absurd this (Int.lt_irrefl _)
  ·exact c
  ·have:=hpw _ _ b1 a1 c;rw[a2,b2]at this;exact absurd this (Int.lt_irrefl _)
 obtain⟨y,hy,-,f2,-⟩:=Yaf hg.len hl
 obtain rfl:y=s:=Tn (hy.symm.trans hs)
 rw[hg.fl]at f2
 obtain⟨x,hx,e⟩:=Yah.1 f2
 obtain⟨b,b1,b2,b3⟩:=YoK hg.p hx
 refine⟨x,hx,e,?_⟩
 rw[b1]
 rw[e]at b1 b3
 refine⟨?_,b2,b3,?_⟩
 ·unfold ageG
  rw[Tf (λe=>e (UQ.2 hg)),Tf (by rw[show hasL g.l l.1=true from Rf.2 ⟨l,Td hl,Tj rfl⟩];simp),hi,show(bndE g.p.c (2*l.1+1))=(b,true) from b1]
  unfold Z9
  rw[Tz,Tz,hl,hs];rfl
 ·have h1:=hg.fit
  have hlen:(g.l.take i).length=(g.s.take i).length:=by rw[TK,TK,hg.len]
  rw[UH hl,UH hs,Ql hlen]at h1
  simp only[badS,Bool.or_eq_false_iff,T0,T8]at h1
  exact h1.2.1
theorem YoC(hg:GwOk g)(hl:g.l[i]? =some l)(hs:g.s[i]? =some s):
 ∃b,ageG g l.1=(l.2.2.2.2.1+s.1+b-1,0)/\1<=b/\b<=s.2/\Xm l s=0:=by
 obtain⟨x,-,-,h⟩:=Yk9 hg hl hs
 exact⟨_,h⟩
structure AgeR(a b:Flw)(d:List (Int×Int×Int))(t u:Int):Prop where
 nn:0<=u
 up:u=0\/∃m s s',delT d b.1 m=some s/\s+1<=t/\delT d a.1 (u-1)=some s'/\s'<Yn b m
 lo:∀m s n s',delT d b.1 m=some s->s+1<=t->delT d a.1 n=some s'->s'<Yn b m->n+1<=u
variable {l:Lop}{s:Spl}{t u k:Int}
theorem YoB(hr:Xm l s=0){d:List (Int×Int×Int)}{sl B:Int}(hB:1<=B/\B<=s.2)
 (hA:∀k,0<=k->Yn (Y6 l s) k+s.1<=sl->∃t,delT d (Y6 l s).1 k=some t/\t<=Yn (Y6 l s) k+s.1-1)
 (hb:∀k,0<=k->Yn (Xk l s) k+B<=sl->∃t,delT d (Xk l s).1 k=some t/\t<=Yn (Xk l s) k+B-1)
 (ha:∀k t,delT d (Y6 l s).1 k=some t->0<=k/\Yn (Y6 l s) k<=t) (hc:∀k t,delT d (Xk l s).1 k=some t->0<=k/\Yn (Xk l s) k<=t)
  (ht:t<sl) (hu:AgeR (Y6 l s) (Xk l s) d t u):
 (u=0->t<l.2.2.2.2.2.1+s.1+s.2)/\(u≠0->0<=t-Yn (Y6 l s) (u-1)/\t-Yn (Y6 l s) (u-1)<=l.2.2.2.2.1+s.1+B-1):=by
 obtain⟨h32,h1,h2,h3,-⟩:=U5 hr
 obtain⟨-,hP,hph,-⟩:=Jn h32
 have e1:∀k,Yn (Y6 l s) k=l.2.2.2.2.2.1+k*l.2.2.2.2.1:=λk=>rfl
 have e2:∃o:Int,0<=o/\∀n,Yn (Xk l s) (n+o)=l.2.2.2.2.2.1+n*l.2.2.2.2.1+s.1:=by
  have h4:∀k,Yn (Xk l s) k=(l.2.2.2.2.2.1+s.1).tmod l.2.2.2.2.1+k*l.2.2.2.2.1:=λk=>rfl
  rw[Rj (by omega)]at h4
  have h5:=Int.emod_add_mul_ediv (l.2.2.2.2.2.1+s.1) l.2.2.2.2.1
  refine⟨(l.2.2.2.2.2.1+s.1)/l.2.2.2.2.1,Int.ediv_nonneg (by omega) (by omega),λn=>?_⟩
  rw[h4,Int.add_mul,Int.mul_comm ((l.2.2.2.2.2.1+s.1)/l.2.2.2.2.1)]
  omega
 obtain⟨o,ho,e2⟩:=e2
 have hmul:∀{x y:Int},x<=y->x*l.2.2.2.2.1<=y*l.2.2.2.2.1:=λh=>RS h (by omega)
 --what a used sample says
 have hused:u≠0->0<=u-1/\Yn (Y6 l s) (u-1)<=t:=λhne=>by
  rcases hu.up with h|⟨m,x,y,g1,g2,g3,g4⟩
  ·exact absurd h hne
  ·have:=ha _ _ g3
   have:=hc _ _ g1
   exact⟨by omega,by omega⟩
 rw[e1]at hused⊢
 by_cases hlt:t<l.2.2.2.2.2.1+s.1+B
 ·refine⟨λ_=>by omega,λhne=>?_⟩
  have h4:=hused hne
  have h5:0<=(u-1)*l.2.2.2.2.1:=SD h4.1 (by omega)
  omega
 ·--the greatest sample whose frame is in use
  obtain⟨n,hn⟩:∃n,(t-(l.2.2.2.2.2.1+s.1+B))/l.2.2.2.2.1=n:=⟨_,rfl⟩
  have h5:=Int.emod_add_mul_ediv (t-(l.2.2.2.2.2.1+s.1+B)) l.2.2.2.2.1
  have h6:=S0 (t-(l.2.2.2.2.2.1+s.1+B)) (show 0<l.2.2.2.2.1 by omega)
  have h7:=Ns (t-(l.2.2.2.2.2.1+s.1+B)) (show l.2.2.2.2.1≠0 by omega)
  have h8:0<=n:=by rw[<-hn];exact Int.ediv_nonneg (by omega) (by omega)
  rw[hn,Int.mul_comm]at h5
  obtain⟨x,x1,x2⟩:=hb (n+o) (by omega) (by rw[e2];omega)
  obtain⟨y,y1,y2⟩:=hA n h8 (by rw[e1];omega)
  rw[e2]at x2
  rw[e1]at y2
  have h9:=hu.lo _ _ _ _ x1 (by omega) y1 (by rw[e2];omega)
  refine⟨λh=>by omega,λhne=>?_⟩
  have h4:=hused hne
  have h10:=hmul (show n<=u-1 by omega)
  omega
theorem Yp7{l:List Flw}{s:Sch}(hok:∀f∈l,FlOk f)(hid:l.Pairwise λa b=>a.1≠b.1){n:Int}{j:Nat}{p:PlM}(h:Pl l s n j p):∀f∈l,∀d∈p.dels,d.1=f.1->0<=d.2.1/\Yn f d.2.1<=d.2.2/\d.2.2<=n:=by
 induction h with
 |start=>exactλf _ d hd=>by cases hd
 |rel st h _ _ ih=>exact ih
 |skip h _ _ ih=>exact ih
 |@att n j i p c f x o h hc hf hx hfc hcan ih=>
  intro f' hf' d hd hdf
  rcases TJ.1 hd with hd|hd
  ·exact ih f' hf' d hd hdf
  ·unfold delS at hd
   split at hd
   ·obtain rfl:=TU.1 hd
    obtain⟨i',hi'⟩:=TN.1 hf'
    have he:f'=f:=by
     obtain⟨a1,a2⟩:=Tc.1 hf
     obtain⟨b1,b2⟩:=Tc.1 hi'
     rw[TG]at hid
     rcases RZ i i' with c|c|c
     ·exact absurd hdf (by rw[<-a2,<-b2];exact hid _ _ a1 b1 c)
     ·subst c;rw[<-a2,<-b2]
     ·exact absurd hdf.symm (by rw[<-a2,<-b2];exact hid _ _ b1 a1 c)
    subst he
    have hI:=((Yp6 hok (TG.2 (TG.1 hid)) h).2.2 i f' x hf hx).frame
    rw[Tf (by omega)]at hI
    have h0:=hcan.1
    unfold VY at hI
    split at hI
    ·omega
    ·have hp:=(hok f' hf').per
     have:=Int.mul_ediv_self_le (x:=n-phaF f') (show perF f'≠0 by omega)
     show 0<=x.frame/\Yn f' x.frame<=n/\n<=n
     unfold Yn
     rw[hI,Int.mul_comm]
     rw[hI]at h0
     omega
   ·cases hd
 |next ds h hp ih=>
  intro f hf d hd e
  have:=ih f hf d (hp.mem_iff.1 hd) e
  omega
variable {atts:List AttM}{dels:List (Int×Int×Int)}
theorem Ya1{n:Net}{s:Sch}{l:List Flw}{sl:Int}{st:List StM}{out:List BrM}(hpl:Pl l s sl 0 ⟨st,atts,dels⟩)(hf32:(Yx 32 l).2=0){f:Flw}(hf:f∈l)(hl:1<=s.len){r:List Int}(hr:(YN n s f r).2=0)
 (hbr:∀(k:KL) b,WU n k=some b->brO b (osK atts k) 0=true->∃x∈out,[x.f,x.k,x.u,x.v]=k) (hk0:0<=k) (hk1:Yn f k+(YN n s f r).1.1<=sl) (hno:out.any (onBr f.1 k r)=false):
 ∃t,delT dels f.1 k=some t/\t-Yn f k+1<=(YN n s f r).1.1:=by
 obtain⟨hw,b,hb,he⟩:=QO hr
 obtain⟨hc,hfm,-,hmod,hck⟩:=YgU hw
 obtain⟨hg,hid⟩:=UV hf32
 obtain⟨h1,h2,-,h4⟩:=Zz (hg f hf)
 rw[he]at hk1⊢
 obtain⟨hch,hloss,hne,-,-⟩:=WP hck
 obtain⟨t,ht,htl,hun⟩:=Ynh (λf hf=>Ygc (hg f hf)) hid hpl hf hfm hl (by unfold phaF perF;omega) hmod hne hch hloss (b:=b) hb hk0 hk1 (Ynx hck hbr hno)
 refine⟨t,?_,htl⟩
 unfold delT
 cases hfi:dels.find? (YaI f.1 k)with
 |none=>exact absurd (show YaI f.1 k (f.1,k,t)=true from Tj ⟨rfl,rfl⟩) (by have:=SK.1 hfi _ ht;exact this)
 |some d=>
  have h6:YaI f.1 k d=true:=NN hfi
  have h5:=TV (show decide (d.1=f.1/\d.2.1=k)=true from h6)
  have:=hun d (SG hfi) h5.1 h5.2
  rw[RP,this]
theorem Ycl{id:Int}(h:delT dels id k=some t):(id,k,t)∈dels:=by
 unfold delT at h
 cases hfi:dels.find? (YaI id k)with
 |none=>rw[hfi]at h;cases h
 |some d=>
  rw[hfi,RP]at h
  have h6:YaI id k d=true:=NN hfi
  have h5:=TV (show decide (d.1=id/\d.2.1=k)=true from h6)
  have h7:=SG hfi
  obtain⟨a,b,c⟩:=d
  obtain⟨rfl,rfl⟩:=h5
  rwa [<-Tn h]
theorem Yng{g:Gwy}(hg:GwOk g){i:Nat}(hl:g.l[i]? =some l)(hs:g.s[i]? =some s){slots:Int}{st:List StM}(hpl:Pl (YE g.p.q) g.p.s slots 0 ⟨st,atts,dels⟩)(hf32:(Yx 32 (YE g.p.q)).2=0)(hl1:1<=g.p.s.len)
 (hbr:∀(k:KL) b,WU g.p.n k=some b->brO b (osK atts k) 0=true->False) (ht:t<slots) (hu:AgeR (Y6 l s) (Xk l s) dels t u):
 (u=0->t<l.2.2.2.2.2.1+s.1+s.2)/\(u≠0->0<=t-Yn (Y6 l s) (u-1)/\t-Yn (Y6 l s) (u-1)<=(ageG g l.1).1):=by
 obtain⟨x2,hx2,e2,hage,hB1,hB2,hr⟩:=Yk9 hg hl hs
 obtain⟨y,hy,f1,-,-⟩:=Yaf hg.len hl
 obtain rfl:y=s:=Tn (hy.symm.trans hs)
 rw[hg.fl]at f1
 obtain⟨x1,hx1,e1⟩:=Yah.1 f1
 obtain⟨hgd,hid⟩:=UV hf32
 obtain⟨r1,-,g1,h1⟩:=YoJ hg.p hx1
 obtain⟨r2,-,g2,h2⟩:=YoJ hg.p hx2
 obtain⟨b1,c1,-,c2⟩:=YoK hg.p hx1
 rw[c1]at h1
 rw[<-h2]at hB1 hB2 hage
 rw[e1]at g1 h1 c2
 rw[e2]at g2 hB1 hB2 hage
 have hm2:Xk l y∈YE g.p.q:=Yah.2 ⟨x2,hx2,e2⟩
 have hrel:=Yp7 (λf hf=>Ygc (hgd f hf)) hid hpl
 have hno:∀(k:KL) b,WU g.p.n k=some b->brO b (osK atts k) 0=true->∃x∈([]:List BrM),[x.f,x.k,x.u,x.v]=k:=λk b h h'=>(hbr k b h h').elim
 rw[hage]
 refine YoB hr ⟨hB1,hB2⟩ (λk hk hk2=>?_) (λk hk hk2=>?_) (λk z hz=>?_) (λk z hz=>?_) ht hu
 ·obtain⟨z,z1,z2⟩:=Ya1 hpl hf32 f1 hl1 g1 hno hk (by rw[h1];have:(Y6 l y).2.2.2.2.2=y.1:=rfl;dsimp only;omega) rfl
  exact⟨z,z1,by rw[h1]at z2;have:(Y6 l y).2.2.2.2.2=y.1:=rfl;dsimp only at z2;omega⟩
 ·obtain⟨z,z1,z2⟩:=Ya1 hpl hf32 hm2 hl1 g2 hno hk hk2 rfl
  exact⟨z,z1,by omega⟩
 ·have:=hrel _ f1 _ (Ycl hz) rfl
  exact⟨this.1,this.2.1⟩
 ·have:=hrel _ hm2 _ (Ycl hz) rfl
  exact⟨this.1,this.2.1⟩
variable {B:Nat}{w0 w:World}{H:List HP}
theorem YkH(hw:St B w0 H w):
 CX B w0 168 [.slice none 0 0,.func (.func 169) #[] #[]] w λv K=>v=.tuple #[]/\K=H:=by
 refine(AnyF.slices_SortFunc_none Tryz.sortCels none 0 (.func (.func 169) #[] #[]) w).mono ?_
 rintro e w' ⟨rfl,rfl⟩
 exact⟨_,_,rfl,hw,rfl,rfl⟩
theorem Yd3(hw:St B w0 H w):
 CX B w0 170 [.slice none 0 0] w λv K=>v=.slice none 0 0/\K=H:=by
 refine Ya Tryz.func170 Tryz.ntmps170 rfl rfl hw ?_
 repeat'(first|refine zgb ?_|(refine zge ?_ ?_<;>intro _<;>try exact zo)|fail)
 apply Yd;exact rfl;exact rfl;exact⟨rfl,rfl⟩
theorem nilQ:QIn B w0 H none []:=⟨Rd.nil,λx h=>(by cases h),Ti _⟩
abbrev bld0(g:Nat)(n:NetM)(len off:Int):HP:=blk g (.cells #[.int .i64 n.nodes,.slice n.pA n.rows.length n.pcap,.int .i64 n.noise,.int .i64 n.thr,.slice n.lA n.links.length n.lcap,.slice n.mA n.margin.length n.mcap,.slice none 0 0,.int .i64 len,.int .i64 off,.slice none 0 0,.slice none 0 0,.slice none 0 0,.int .i64 0] 164 (0,0))
def mt(len off:Int):Sch:=⟨len,off,[]⟩
def newP(n:Net)(len off:Int):Option Pln×Int:=
 if Yq n≠0 then(none,1)else if len<1\/512<len\/off<1\/16<off then(none,2)else(some ⟨n,[],mt len off,[],ZP (mt len off)⟩,0)
variable {n:Net}
theorem UB(h:Yq n=0):Yx n.nodes []=(-1,0):=by
 have h0:=(YT h).n0
 have h1:=(YT h).n1
 unfold Yx
 rw[Tf (show¬(n.nodes<2\/32<n.nodes) by omega),Tf (by decide)];rfl
theorem YlT(h:Yq n=0):rqsE n []=(-1,0):=by
 unfold rqsE
 rw[Tf (λe=>e h),show YE []=[] from rfl,UB h,Tf (by decide)];rfl
variable {off:Int}
theorem Ydi{len:Int}(h:Yq n=0)(hs:1<=len/\len<=512/\1<=off/\off<=16):Y4 n [] (mt len off)=([],(-1,0)):=by
 have hz:Zs (mt len off)=true:=Tj hs
 have hw:XW n [] (mt len off)=0:=by
  unfold XW
  rw[Tf (λe=>e h),UB h,Tf (by decide),Tf (by rw[hz];decide),Tf (by simp),Tf (show¬512<(mt len off).cells.length from RD _)]
 have hsc:(schE n (YE []) (mt len off)).2=0:=by
  unfold schE
  rw[show YE []=[] from rfl,Tf (λe=>e hw)];rfl
 unfold Y4
 rw[YlT h,Tf (by decide),Tf (λe=>e hsc)];rfl
theorem YrW{len:Int}(h:Yq n=0)(hs:1<=len/\len<=512/\1<=off/\off<=16):finE n [] (mt len off) 0=(some ⟨n,[],mt len off,[],ZP (mt len off)⟩,0):=by
 have hf:Xh (mt len off)=true:=by
  have hz:Zs (mt len off)=true:=Tj hs
  unfold Xh;rw[hz];rfl
 have hfr:ZH (mt len off)=(ZP (mt len off),0):=by unfold ZH;rw[hf,Tf (by decide)]
 have he:YcE n [] (mt len off) 0=0:=by
  unfold YcE
  rw[Tf (by decide),Ydi h hs,hfr];rfl
 unfold finE
 rw[he,Tf (by decide),Ydi h hs,hfr]
theorem YgC(n:NetM)(hck:Yq n.net=0)(hin:n.In B w0 H)(hw:St B w0 H w):
 CX B w0 81 [n.val,.slice none 0 0] w λv K=>v=.tuple #[.slice none 0 0,.int .i64 (-1),.int .i64 0]/\K=H:=by
 refine Ya Tryz.func81 Tryz.ntmps81 rfl rfl hw ?_
 have p1:=λ{H':List HP}{w:World}(hin:n.In B w0 H') (hw:St B w0 H' w)=>Jv n hin hw
 have p2:=λ{H':List HP}{w:World}(hw:St B w0 H' w)=>YW n.nodes [] (Ti _) (A:=none) (cap:=0) Rd.nil hw
 rw[Tj hck]at p1
 rw[show Yx n.nodes []=(-1,0) from UB hck]at p2
 unfold NetM.val at p1⊢
 (apply Y7;apply YM;apply YO;exact rfl;exact rfl;intro g)
 repeat'(first|((first|apply Yb en39|apply Yc en39);exact za;exact rfl;exactλ_ hw=>(p1 hin.cons hw))|((first|apply Yb en78|apply Yc en78);exact za;exact rfl;exactλ_ hw=>(p2 hw))|refine zgd ?_|(refine zge ?_ ?_<;>intro _<;>try exact zo)|fail)
 refine Yi (λ_:Unit=>[(30,.int .i64 0),(29,.int .i64 0),(9,.slice none 0 0)]) (λ_=>H) (λ_=>True) (λ_=>0) () trivial ?_ ?_ ?_
 ·exact zu
 ·exact zk
 rintro⟨⟩-K hK
 clear hK
 repeat'(first|refine zgc ?_|(refine zge ?_ ?_<;>intro _<;>try exact zo)|fail)
 apply Va;(iterate 4 exact rfl);exact⟨rfl,rfl⟩
theorem Ymy(n:NetM)(hck:Yq n.net=0)(len off:Int)(hs:1<=len/\len<=512/\1<=off/\off<=16)(ht:TabsB B w0)(hin:n.In B w0 H)(hw:St B w0 H w):
 CX B w0 163 [n.val,.slice none 0 0,.int .i64 len,.int .i64 off] w λv K=>v=.tuple #[.agg #[.int .i64 len,.int .i64 off,.slice none 0 0],.slice none 0 0,.int .i64 0]/\K=H:=by
 refine Ya Tryz.func163 Tryz.ntmps163 rfl rfl hw ?_
 have p1:=λ{H':List HP}{w:World}(hin:n.In B w0 H') (hw:St B w0 H' w)=>YY n hin hw
 have p2:=λ{H':List HP}{w:World}(hin:n.In B w0 H') (hw:St B w0 H' w)=>YaS n [] (A:=none) (cap:=0) ht hin nilQ hw
 rw[hck]at p1
 rw[Nh,YeT (q:=[]) hck,show decide ((rqsE n.net []).2≠0)=false from by rw[YlT hck];rfl]at p2
 have hop:∀w,St B w0 [many H] w->St B w0 H w:=λw hw=>hw.perm (.openT H)
 have hin:=hin.mono hop
 unfold NetM.val at*
 refine Y8 [many H] (λw hw=>hw.perm (.closeT H)) ?_
 repeat'(first|(apply zg23;first|(refine zs52 ?_;intro _)|(refine zs53 ?_;intro _))|refine zgb ?_|(refine zgh ?_;intro _)|fail)
 rename_i g4 g6 g8
 first|apply Yb en68|apply Yc en68
 exact za
 exact rfl
 exactλ_ hw=>(p1 hin.cons.cons.cons hw)
 repeat'(first|refine zgc ?_|(refine zge ?_ ?_<;>intro _<;>try exact zo)|fail)
 first|apply Yb Ylx|apply Yc Ylx
 exact za
 exact rfl
 exactλ_ hw=>(p2 hin.cons.cons.cons hw)
 repeat'(first|(apply zg29;(apply Ys;exact za;exact rfl))|refine zgc ?_|(refine zge ?_ ?_<;>intro _<;>try exact zo)|fail)
 first|apply Yb Yly|apply Yc Yly
 exact za
 exact rfl
 exactλ_ hw=>(WG (λ_=>true) [] 265 [.pointer (some ⟨g6,0,none⟩)] Ywf (Ti _) (A:=none) (cap:=0) Rd.nil (λa ha=>(by cases ha)) hw)
 rw[show([].any λ_:RqM=>true)=false from rfl]
 repeat'(first|refine zgd ?_|(refine zgh ?_;intro _)|fail)
 rename Nat=>g11
 refine Yi (λ_:Unit=>[(54,.int .i64 0),(53,.int .i64 0),(13,.slice none 0 0),(11,.pointer (some ⟨g11,0,none⟩)),(8,.pointer (some ⟨g8,0,none⟩))]) (λ_=>[blk g11 (.cells #[.int .i64 len,.int .i64 off,.slice none 0 0] 30 (0,0)),blk g8 (.cells #[.int .i64 0,.int .i64 0,.slice none 0 0] 30 (0,0)),many H]) (λ_=>True) (λ_=>0) () trivial ?_ ?_ ?_
 ·exact zu
 ·intro w hw
  have h5:St B w0 [blk g11 (.cells #[.int .i64 len,.int .i64 off,.slice none 0 0] 30 (0,0)),blk g8 (.cells (Value.agg #[.int .i64 0,.int .i64 0,.slice none 0 0]).cells 30 (0,0)),many H] w:=by
   revert w
   exact zk
  exact h5
 rintro⟨⟩-K hK
 clear hK
 repeat'(first|refine zgc ?_|(refine zge ?_ ?_<;>intro _<;>try exact zo)|fail)
 apply Yms T (H2:=H);(iterate 4 exact rfl);exact zm;exact rfl;exact rfl
 ·intro w hw
  have h5:St B w0 [many H] w:=by
   revert w
   exact zk
  exact hop w h5
 exact⟨rfl,rfl⟩
theorem YkN(n:NetM)(hck:Yq n.net=0)(len off:Int)(hs:1<=len/\len<=512/\1<=off/\off<=16)(ht:TabsB B w0)(hin:n.In B w0 H)(hw:St B w0 H w):
 CX B w0 85 [n.val,.slice none 0 0,.agg #[.int .i64 len,.int .i64 off,.slice none 0 0]] w λv K=>v=.tuple #[.agg #[.int .i64 len,.int .i64 off,.slice none 0 0],.int .i64 0]/\K=H:=by
 refine Ya Tryz.func85 Tryz.ntmps85 rfl rfl hw ?_
 have hop:∀w,St B w0 [many H] w->St B w0 H w:=λw hw=>hw.perm (.openT H)
 have hinM:∀{H':List HP},many H∈H'->n.In B w0 H':=λhm=>hin.mono λw hw=>hw.inM hm
 have p1:=λ{H':List HP}{w:World}(hin:n.In B w0 H') (hw:St B w0 H' w)=>Ybe n [] ⟨len,off,none,0,[]⟩ (A:=none) (cap:=0) ht hin nilQ Rd.nil (Ti _) hw
 rw[Nh,show(⟨len,off,none,0,[]⟩:SchM).sch=mt len off from rfl,Ydi hck hs]at p1
 unfold NetM.val SchM.val at p1
 unfold NetM.val
 refine Y8 [many H] (λw hw=>hw.perm (.closeT H)) ?_
 repeat'(first|refine zgb ?_|(refine zgh ?_;intro _)|fail)
 rename_i g3 g5 g6
 first|apply Yb Ylm|apply Yc Ylm
 exact za
 exact rfl
 exactλ_ hw=>(p1 (hinM zm) hw)
 repeat'(first|refine zgd ?_|fail)
 refine Yi (λ_:Unit=>[(21,.int .i64 0),(20,.int .i64 0),(8,.slice none 0 0),(6,.pointer (some ⟨g6,0,none⟩)),(5,.pointer (some ⟨g5,0,none⟩))]) (λ_=>[blk g6 (.cells #[.int .i64 0,.int .i64 0,.slice none 0 0] 30 (0,0)),blk g5 (.cells #[.int .i64 len,.int .i64 off,.slice none 0 0] 30 (0,0)),many H]) (λ_=>True) (λ_=>0) () trivial ?_ ?_ ?_
 ·exact zu
 ·intro w hw
  have h5:St B w0 [blk g6 (.cells (Value.agg #[.int .i64 0,.int .i64 0,.slice none 0 0]).cells 30 (0,0)),blk g5 (.cells #[.int .i64 len,.int .i64 off,.slice none 0 0] 30 (0,0)),many H] w:=by
   revert w
   exact zk
  exact h5
 rintro⟨⟩-K hK
 clear hK
 repeat'(first|((first|apply Yb YsM|apply Yc YsM);exact za;exact rfl;exactλ_ hw=>(YkH hw))|((first|apply Yb YsO|apply Yc YsO);exact za;exact rfl;exactλ_ hw=>(Yd3 hw))|refine zgd ?_|(refine zge ?_ ?_<;>intro _<;>try exact zo)|fail)
 apply Yv T (H2:=H);(iterate 3 exact rfl);exact zm;exact rfl;exact rfl
 ·intro w hw
  have h5:St B w0 [many H] w:=by
   revert w
   exact zk
  exact hop w h5
 exact⟨rfl,rfl⟩
theorem YjW(n:NetM)(hck:Yq n.net=0)(len off:Int)(hs:1<=len/\len<=512/\1<=off/\off<=16)(g:Nat)(ht:TabsB B w0)(hin:n.In B w0 H)(hw:St B w0 (bld0 g n 0 0::H) w):
 CX B w0 82 [.pointer (some ⟨g,0,none⟩),.int .i64 len,.int .i64 off] w λv K=>v=.tuple #[.slice none 0 0,.bool true]/\K=bld0 g n len off::H:=by
 refine Ya Tryz.func82 Tryz.ntmps82 rfl rfl hw ?_
 have hop:∀w,St B w0 [many H] w->St B w0 H w:=λw hw=>hw.perm (.openT H)
 have hin:=hin.mono hop
 have p1:=λ{H':List HP}{w:World}(hin:n.In B w0 H') (hw:St B w0 H' w)=>Ymy n hck len off hs ht hin hw
 have p2:∀{H':List HP}{w:World},St B w0 (bld0 g n 0 0::H') w->CX B w0 84 [.pointer (some ⟨g,0,none⟩),.int .i64 0] w λv K=>v=.tuple #[]/\K=bld0 g n 0 0::H':=λhw=>YaQ ⟨n,none,0,[],⟨0,0,none,0,[]⟩,none,0,[],none,0,[],0⟩ g 0 hw
 unfold NetM.val at p1
 refine Y8 (bld0 g n 0 0::[many H]) (λw hw=>hw.perm (.cons _ (.closeT H))) ?_
 iterate 6 (first|refine zga ?_|fail)
 apply Y7
 refine XE (λg8:Nat=>[(8,.pointer (some ⟨g8,0,none⟩)),(9,.slice none 0 0),(10,.int .i64 0),(0,.pointer (some ⟨g,0,none⟩))])
  (λg8=>[blk g8 (.cells #[.int .i64 len,.int .i64 off,.slice none 0 0] 30 (0,0)),bld0 g n 0 0,many H]) ?_ ?_
 ·intro K hK
  repeat'(first|(apply Yf T;exact rfl;exact zm;exact rfl;exact zv;exact rfl;exact rfl)|fail)
  apply J9 (.n1 0 (.n1 1 (.n1 2 (.n1 3 (.n1 4 (.n1 5 (.n1 6 (.n1 7 (.n1 8 (.n1 9 (.n1 10 (.n1 11 (.n2 12 (.n1 13 (.n1 14 (.n1 15 (.n1 16 (.n1 17 (.n1 18 (.n1 19 (.n1 20 .done)))))))) 17 (.n1 12 (.n1 13 (.n1 14 (.n1 15 (.n1 16 (.n1 18 (.n1 19 (.n1 20 .done))))))))))))))))))))) [] [true,true]
  kernel_rfl
  kernel_rfl
  exact zy
  exact rfl
  repeat'(first|(apply Yf T;exact rfl;exact zm;exact rfl;exact zv;exact rfl;exact rfl)|((first|apply Yb YsK|apply Yc YsK);exact za;exact rfl;exactλ_ hw=>(p1 (hin.mono zk) hw))|(apply Yj;try exact zl)|apply(zs91 ?_ ?_)|(apply Y3;try exact zl)|refine zgd ?_|(refine zgh ?_;intro _)|fail)
  all_goals(
   rename Nat=>gA
   apply hK gA
   ·exact zu
   ·exact zk)
 intro g8
 repeat'(first|refine zga ?_|fail)
 apply XQ [bld0 g n 0 0] _ en84
 exact za
 try exact zl
 exact zp
 exact rfl
 exactλ_ hw=>(p2 hw)
 rintro _ _ ⟨rfl,rfl⟩
 repeat'(first|refine zgd ?_|(refine zgf ?_ ?_<;>intro _<;>try exact zo)|fail)
 apply Yh (bld0 g n len off::H)
 ·intro w hw
  have h5:St B w0 (bld0 g n len off::[many H]) w:=by
   revert w
   exact zk
  exact h5.perm (.cons _ (.openT H))
 apply Yu;(iterate 3 exact rfl)
 exact⟨rfl,rfl⟩
theorem YpN(n:NetM)(hck:Yq n.net=0)(len off:Int)(hs:1<=len/\len<=512/\1<=off/\off<=16)(ht:TabsB B w0)(hin:n.In B w0 H)(hw:St B w0 H w):
 CX B w0 30 [n.val,.slice none 0 0,.int .i64 len,.int .i64 off] w (Yg0 B w0 H (some ⟨n.net,[],mt len off,[],ZP (mt len off)⟩,0)):=by
 refine Ya Tryz.func30 Tryz.ntmps30 rfl rfl hw ?_
 have p1:=λ{H':List HP}{w:World}(hin:n.In B w0 H') (hw:St B w0 H' w)=>Jv n hin hw
 have p2:=λ{H':List HP}{w:World}(hw:St B w0 H' w)=>YW n.nodes [] (Ti _) (A:=none) (cap:=0) Rd.nil hw
 have p3:=λ{H':List HP}{w:World}(hin:n.In B w0 H') (hw:St B w0 H' w)=>YgC n hck hin hw
 have p5:=λ{H':List HP}{w:World}(hin:n.In B w0 H') (hw:St B w0 H' w)=>YkN n hck len off hs ht hin hw
 have p6:∀(g:Nat) {H':List HP}{w:World},n.In B w0 H'->St B w0 (bld0 g n len off::H') w->CX B w0 86 [.pointer (some ⟨g,0,none⟩)] w (Ysv B w0 H' ⟨len,off,none,0,[]⟩ (some ⟨n.net,[],mt len off,[],ZP (mt len off)⟩,0)):=λg {H' w} hin hw=>by
  have h:=OC ⟨n,none,0,[],⟨len,off,none,0,[]⟩,none,0,[],none,0,[],0⟩ g ht hin nilQ Rd.nil (Ti _) hw
  dsimp only at h
  rw[Nh,show(⟨len,off,none,0,[]⟩:SchM).sch=mt len off from rfl,YrW hck hs]at h
  exact h
 rw[Tj hck]at p1
 rw[show Yx n.nodes []=(-1,0) from UB hck]at p2
 have hinM:∀{H':List HP},many H∈H'->n.In B w0 H':=λhm=>hin.mono λw hw=>hw.inM hm
 unfold NetM.val at p1 p3 p5⊢
 refine Y8 [many H] (λw hw=>hw.perm (.closeT H)) ?_
 repeat'(first|(apply zg23;first|(refine zs52 ?_;intro _)|(refine zs53 ?_;intro _))|refine zgb ?_|(refine zgh ?_;intro _)|fail)
 rename_i g4 g6 g8
 first|apply Yb en39|apply Yc en39
 exact za
 exact rfl
 exactλ_ hw=>(p1 (hinM zm) hw)
 repeat'(first|refine zgd ?_|fail)
 first|apply Yb en78|apply Yc en78
 exact za
 exact rfl
 exactλ_ hw=>(p2 hw)
 repeat'(first|(apply zg29;(apply Ys;exact za;exact rfl))|refine zgc ?_|(refine zge ?_ ?_<;>intro _<;>try exact zo)|fail)
 first|apply Yb en79|apply Yc en79
 exact za
 exact rfl
 exactλ_ hw=>(WF (λ_=>true) [] 80 [.pointer (some ⟨g6,0,none⟩)] en80 (Ti _) (A:=none) (cap:=0) Rd.nil (λa ha=>(by cases ha)) hw)
 rw[show([].any λ_:Flw=>true)=false from rfl]
 repeat'(first|refine zgc ?_|fail)
 first|apply Yb en81|apply Yc en81
 exact za
 exact rfl
 exactλ_ hw=>(p3 (hinM zm) hw)
 repeat'(first|refine zgd ?_|(refine zge ?_ ?_<;>intro _<;>try exact zo)|(refine zgh ?_;intro _)|fail)
 rename Nat=>g15
 apply XQ [bld0 g15 n 0 0] _ en82
 exact za
 try exact zl
 exact zp
 exact rfl
 exactλ_ hw=>(YjW n hck len off hs g15 ht (hinM zm) hw)
 rintro _ _ ⟨rfl,rfl⟩
 repeat'(first|(apply Yf T;exact rfl;exact zm;exact rfl;exact zv;exact rfl;exact rfl)|refine zgd ?_|(refine zgf ?_ ?_<;>intro _<;>try exact zo)|fail)
 apply Y8 [bld0 g15 n len off,netA g4 n,blk g8 (.cells (Value.agg #[.int .i64 0,.slice none 0 0,.int .i64 0,.int .i64 0,.slice none 0 0,.slice none 0 0,.slice none 0 0,.int .i64 0,.int .i64 0,.slice none 0 0,.slice none 0 0,.slice none 0 0]).cells 35 (0,0)),many H]
 ·exact zk
 apply Ue [1,0,2,3,4,5,6,7,8,9,10,11,12,13,14,16,15,17,18,19] [0,1,16,20,21,22,23] [20,21,22,23] [true,true,true,true]
 kernel_rfl
 kernel_rfl
 exact zy
 (simp only[Ye,nthO];rfl)
 (simp only[Ye,nthO];rfl)
 repeat'(first|(apply Yf T;exact rfl;exact zm;exact rfl;exact zv;exact rfl;exact rfl)|refine zgd ?_|fail)
 first|apply Yb en85|apply Yc en85
 exact za
 exact rfl
 exactλ_ hw=>(p5 (hinM zm) hw)
 repeat'(first|(apply Yf T;exact rfl;exact zm;exact rfl;exact zv;exact rfl;exact rfl)|(apply Yj;try exact zl)|refine zgd ?_|fail)
 apply XQ [bld0 g15 n len off] _ en86
 exact za
 try exact zl
 exact zp
 exact rfl
 exactλ_ hw=>(p6 g15 (hinM zm) hw)
 rintro _ _ hO
 rcases hO with⟨h1,-⟩|⟨p,X,h1,rfl,hp,rfl⟩
 ·cases h1
 unfold PnM.val
 repeat'(first|refine zgc ?_|fail)
 apply Yv T (H2:=many X::H);(iterate 3 exact rfl);exact zm;exact rfl;exact rfl
 ·intro w hw
  have h5:St B w0 (many X::[many H]) w:=by
   revert w
   exact zk
  exact h5.perm (.cons _ (.openT H))
 exact .inr ⟨p,X,h1,rfl,hp [] Rd.nil,rfl⟩
theorem YpM(n:NetM)(len off:Int)(ht:TabsB B w0)(hin:n.In B w0 H)(hw:St B w0 H w):
 CX B w0 30 [n.val,.slice none 0 0,.int .i64 len,.int .i64 off] w (Yg0 B w0 H (newP n.net len off)):=by
 have p1:=λ{H':List HP}{w:World}(hin:n.In B w0 H') (hw:St B w0 H' w)=>Jv n hin hw
 have p2:=λ{H':List HP}{w:World}(hw:St B w0 H' w)=>YW n.nodes [] (Ti _) (A:=none) (cap:=0) Rd.nil hw
 have hop:∀w,St B w0 [many H] w->St B w0 H w:=λw hw=>hw.perm (.openT H)
 have hinM:∀{H':List HP},many H∈H'->n.In B w0 H':=λhm=>hin.mono λw hw=>hw.inM hm
 unfold newP
 by_cases hck:Yq n.net=0
 rotate_left
 ·rw[Tm hck]
  rw[Tu hck]at p1
  refine Ya Tryz.func30 Tryz.ntmps30 rfl rfl hw ?_
  unfold NetM.val at p1⊢
  refine Y8 [many H] (λw hw=>hw.perm (.closeT H)) ?_
  repeat'(first|(apply zg23;first|(refine zs52 ?_;intro _)|(refine zs53 ?_;intro _))|refine zgb ?_|(refine zgh ?_;intro _)|fail)
  first|apply Yb en39|apply Yc en39
  exact za
  exact rfl
  exactλ_ hw=>(p1 (hinM zm) hw)
  repeat'(first|refine zgd ?_|fail)
  apply Yv T (H2:=H);(iterate 3 exact rfl);exact zm;exact rfl;exact rfl
  ·intro w hw
   have h5:St B w0 [many H] w:=by
    revert w
    exact zk
   exact hop w h5
  exact .inl ⟨rfl,rfl,rfl⟩
 rw[Tf (λe=>e hck)]
 by_cases hr:len<1\/512<len\/off<1\/16<off
 rotate_left
 ·rw[Tf hr]
  exact YpN n hck len off (by omega) ht hin hw
 rw[Tm hr]
 rw[Tj hck]at p1
 rw[show Yx n.nodes []=(-1,0) from UB hck]at p2
 refine Ya Tryz.func30 Tryz.ntmps30 rfl rfl hw ?_
 unfold NetM.val at p1⊢
 refine Y8 [many H] (λw hw=>hw.perm (.closeT H)) ?_
 repeat'(first|((first|apply Yb en39|apply Yc en39);exact za;exact rfl;exactλ_ hw=>(p1 (hinM zm) hw))|((first|apply Yb en78|apply Yc en78);exact za;exact rfl;exactλ_ hw=>(p2 hw))|(apply zg23;first|(refine zs52 ?_;intro _)|(refine zs53 ?_;intro _))|refine zgd ?_|(refine zge ?_ ?_<;>intro _<;>try exact zo)|(refine zgh ?_;intro _)|fail)
 all_goals try exact zo
 all_goals(
  apply Yv T (H2:=H);(iterate 3 exact rfl);exact zm;exact rfl;exact rfl
  ·intro w hw
   have h5:St B w0 [many H] w:=by
    revert w
    exact zk
   exact hop w h5
  exact .inl ⟨rfl,rfl,rfl⟩)
def newG(n:Net)(len off:Int):Option Gwy×Int:=
 match newP n len off with
 |(some p,_)=>(some ⟨p,[],[]⟩,0)
 |(none,e)=>(none,e)
theorem Yki(n:Net)(len off:Int):(∃p,newP n len off=(some p,0))\/∃e,newP n len off=(none,e)/\e≠0:=by
 unfold newP
 split
 ·exact .inr ⟨_,rfl,by decide⟩
 split
 ·exact .inr ⟨_,rfl,by decide⟩
 ·exact .inl ⟨_,rfl⟩
theorem Ynw(n:NetM)(len off:Int)(ht:TabsB B w0)(hin:n.In B w0 H)(hw:St B w0 H w):
 CX B w0 20 [n.val,.int .i64 len,.int .i64 off] w (YbP B w0 H (newG n.net len off)):=by
 refine Ya Tryz.func20 Tryz.ntmps20 rfl rfl hw ?_
 have hop:∀w,St B w0 [many H] w->St B w0 H w:=λw hw=>hw.perm (.openT H)
 have hinM:∀{H':List HP},many H∈H'->n.In B w0 H':=λhm=>hin.mono λw hw=>hw.inM hm
 have p1:=λ{H':List HP}{w:World}(hin:n.In B w0 H') (hw:St B w0 H' w)=>YpM n len off ht hin hw
 unfold Yg0 PnM.val NetM.val at p1
 unfold NetM.val newG
 refine Y8 [many H] (λw hw=>hw.perm (.closeT H)) ?_
 rcases Yki n.net len off with⟨P,hP⟩|⟨e,hP,he⟩
 ·rw[hP]at p1⊢
  dsimp only at p1⊢
  repeat'(first|refine zgb ?_|(refine zgh ?_;intro _)|fail)
  apply Yg _ en30
  exact za
  exact rfl
  exactλ_ hw=>(p1 (hinM zm) (hw))
  rintro _ _ (⟨h,-⟩|⟨p,X,hp,rfl,hpi,rfl⟩)
  ·cases h
  obtain rfl:P=p.pln:=Tn hp
  repeat'(first|(apply Yf T;exact rfl;exact zm;exact rfl;exact zv;exact rfl;exact rfl)|refine zgd ?_|(refine zge ?_ ?_<;>intro _<;>try exact zo)|(refine zgh ?_;intro _)|fail)
  apply Yv T (H2:=many X::H);(iterate 3 exact rfl);exact zm;exact rfl;exact rfl
  ·intro w hw
   have h5:St B w0 (many X::[many H]) w:=by
    revert w
    exact zk
   exact h5.perm (.cons _ (.openT H))
  exact .inr ⟨⟨p,none,0,[],none,0,[]⟩,X,rfl,rfl,⟨hpi,Rd.nil,Rd.nil,Ti _,Ti _,Ti _,Ti _⟩,rfl⟩
 ·rw[hP]at p1⊢
  dsimp only at p1⊢
  repeat'(first|refine zgb ?_|(refine zgh ?_;intro _)|fail)
  apply Yg _ en30
  exact za
  exact rfl
  exactλ_ hw=>(p1 (hinM zm) (hw))
  rintro _ _ (⟨-,rfl,rfl⟩|⟨p,X,h,-⟩)
  rotate_left
  ·cases h
  unfold zeroPnV
  repeat'(first|(apply Yf T;exact rfl;exact zm;exact rfl;exact zv;exact rfl;exact rfl)|refine zgd ?_|(refine zge ?_ ?_<;>intro _<;>try exact zo)|(refine zgh ?_;intro _)|fail)
  apply Yv T (H2:=H);(iterate 3 exact rfl);exact zm;exact rfl;exact rfl
  ·intro w hw
   have h5:St B w0 [many H] w:=by
    revert w
    exact zk
   exact hop w h5
  exact .inl ⟨rfl,rfl,rfl⟩
end Go.Proofs.YtjlgijpmnfabcaaGreatDoor
