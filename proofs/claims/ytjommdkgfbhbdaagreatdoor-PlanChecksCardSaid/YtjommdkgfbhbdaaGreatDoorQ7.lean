/- Lemmas. -/
import Derived.Shelf.SlSortCmp.NoneTotal
import Derived.Test.YtjommdkgfbhbdaaGreatDoorQ4
import Derived.Test.YtjommdkgfbhbdaaGreatDoorQ5
set_option maxRecDepth 100000
set_option maxHeartbeats 8000000
set_option linter.all false
namespace Go.Proofs.YtjommdkgfbhbdaaGreatDoor
open Go.RowKit Go.Eng Go.Nw
def cmpV(a b:List Int):Int:=if X6 a b=true then -1 else if X6 b a=true then 1 else 0
theorem Yex(a b:List Int)(hla:a.length<=1000000000000)(hlb:b.length<=1000000000000){A1 A2:Option Addr}{c1 c2 B:Nat}{w0:World}{H:List HP}{w:World}(hr1:Rd B w0 H A1 (a.flatMap numF))(hr2:Rd B w0 H A2 (b.flatMap numF))(hw:St B w0 H w):
 CX B w0 381 [.slice A1 a.length c1,.slice A2 b.length c2] w λv K=>v=.int .i64 (cmpV a b)/\K=H:=by
 refine Ya Tryz.func381 Tryz.ntmps381 rfl rfl hw ?_
 refine zX7 ?_
 refine Ye (λ(i:Nat)=>[(11,.int .i64 i),(10,.int .i64 a.length),(9,.slice A1 a.length c1),(0,.slice A1 a.length c1),(1,.slice A2 b.length c2)]) (λ_=>H) (λi=>i<=a.length/\i<=b.length/\X6 a b=X6 (a.drop i) (b.drop i)/\X6 b a=X6 (b.drop i) (a.drop i)) (λi=>a.length-i) 0 ⟨Td _,Td _,rfl,rfl⟩ ?_ (λw hw=>hw) ?_
 ·exact zc1
 rintro i ⟨hi,hib,e1,e2⟩ K hK
 by_cases hlt:i<a.length
 ·obtain⟨x,hx⟩:∃x,a[i]? =some x:=⟨_,Ta hlt⟩
  by_cases hltb:i<b.length
  ·obtain⟨y,hy⟩:∃y,b[i]? =some y:=⟨_,Ta hltb⟩
   have d1:=Ydv hx hy
   have d2:=Ydv hy hx
   have hcm:=λ{w:World}(hw:St B w0 H w)=>WY x y hw
   by_cases hxy:x=y
   ·rw[Tj (λh=>h hxy)]at d1
    rw[Tj (λh=>h hxy.symm)]at d2
    rw[show cmpI x y=0 by unfold cmpI;rw[Tj (by omega),Tj (by omega)]]at hcm
    refine zX24 ?_<;>intros
    apply hK (i+1)
    ·exact⟨by omega,by omega,e1.trans d1,e2.trans d2⟩
    ·omega
    ·exact zc1
    exact zc21
   ·rw[Tn hxy]at d1
    rw[Tn (NF hxy)]at d2
    clear hK
    rcases Int.lt_or_gt_of_ne hxy with h|h
    ·rw[show cmpI x y= -1 by unfold cmpI;rw[Tn h]]at hcm
     have hv:cmpV a b= -1:=by unfold cmpV;rw[e1,d1,Tn (Tf h)]
     rw[hv]
     refine zX24 ?_<;>intros
     exact zc3
    ·rw[show cmpI x y=1 by unfold cmpI;rw[Tj (by omega),Tn h]]at hcm
     have hv:cmpV a b=1:=by unfold cmpV;rw[e1,d1,Ti (by omega),Tj (by decide),e2,d2,Tn (Tf h)]
     rw[hv]
     refine zX24 ?_<;>intros
     exact zc3
  ·obtain rfl:i=b.length:=by omega
   clear hK
   have hv:cmpV a b=1:=by
    unfold cmpV
    rw[e1,e2,SB,Rm hlt]
    rfl
   rw[hv]
   refine zX25 ?_<;>intros
   exact zc3
 ·obtain rfl:i=a.length:=by omega
  clear hK
  rw[SB]at e1 e2
  by_cases hl:a.length<b.length
  ·have hv:cmpV a b= -1:=by
    unfold cmpV
    rw[e1,Rm hl]
    rfl
   rw[hv]
   refine zX0 ?_<;>intros
   exact zc3
  ·have hv:cmpV a b=0:=by
    unfold cmpV
    rw[e1,e2,Rb (by omega)]
    rfl
   rw[hv]
   refine zX0 ?_<;>intros
   exact zc3
open Go.ChangeShapes Go.WideShapes Go.ChangeAt Go.RowKit Go.Eng Go.Nw
section
variable {H:Type}{enc:TypeId×Value->H}{W:World}{spare:Nat->Bool}{held:Bool}
abbrev I64(z:Int):Prop:=(Lit.int .i64 z).wf=true
theorem op_i:Opn enc Tryz.prog W spare held 3 numF I64:=Yve Tryz.underlying3
theorem Ygx:Opn enc Tryz.prog W spare held 24 (λs:SlM Int=>[s.val]) (SlG W numF I64):=Ja (q:=1) Tryz.underlying24 (by kernel_rfl) (by decide) op_i
theorem Yr4:Opn enc Tryz.prog W spare held 22 (λs:SlM (SlM Int)=>[s.val]) (SlG W (λs:SlM Int=>[s.val]) (SlG W numF I64)):=Ja (q:=1) Tryz.underlying22 (by kernel_rfl) (by decide) Ygx
theorem Yr2:Opn enc Tryz.prog W spare held 164 lkF (λl=>I64 l.1/\I64 l.2.1/\I64 l.2.2):=
 Uy (Jy (ts:=[3,3,3]) (by kernel_rfl) (YE op_i (YE op_i (YE op_i Um)))) (λx=>(x.1,x.2.1,x.2.2.1)) (λ_=>rfl) (λ_ h=>⟨h.1,h.2.1,h.2.2.1⟩)
theorem Yqa:Opn enc Tryz.prog W spare held 23 (λs:SlM Lk=>[s.val]) (SlG W lkF λl=>I64 l.1/\I64 l.2.1/\I64 l.2.2):=Ja (q:=3) Tryz.underlying23 (by kernel_rfl) (by decide) Yr2
structure NetG(W:World)(n:NetM):Prop where
 nodes:I64 n.nodes
 pw:Old W n.pA (n.rows.flatMap rowF)
 rw_:∀r∈n.rows,Old W r.A (r.xs.flatMap numF)
 noise:I64 n.noise
 thr:I64 n.thr
 lk:Old W n.lA (n.links.flatMap lkF)
 mg:Old W n.mA (n.margin.flatMap numF)
 s1:n.rows.length<=9223372036854775807
 s2:∀r∈n.rows,r.xs.length<=9223372036854775807
 s3:n.links.length<=9223372036854775807
 s4:n.margin.length<=9223372036854775807
 w1:∀r∈n.rows,∀z∈r.xs,I64 z
 w2:∀l∈n.links,I64 l.1/\I64 l.2.1/\I64 l.2.2
 w3:∀z∈n.margin,I64 z
 c3:n.links.length<=n.lcap
 c4:n.margin.length<=n.mcap
theorem NetG.In{n:NetM}{K:List HP}(h:NetG W n):n.In W.heap.size W K:=⟨h.pw.rd,λr hr=>(h.rw_ r hr).rd,h.lk.rd,h.mg.rd,h.s1,h.s2,h.s3,h.s4⟩
def netF(n:NetM):List Value:=[.int .i64 n.nodes,.slice n.pA n.rows.length n.pcap,.int .i64 n.noise,.int .i64 n.thr,.slice n.lA n.links.length n.lcap,.slice n.mA n.margin.length n.mcap]
def Ymc(s:SlM Int):RowM:=⟨s.A,s.cap,s.xs⟩
theorem Ykg(l:List (SlM Int)):(l.map Ymc).flatMap rowF=l.flatMap λs=>[s.val]:=by rw[List.flatMap_map];rfl
theorem maxL:maxLen<=9223372036854775807:=by decide
theorem Yvf:Opn enc Tryz.prog W spare held 26 netF (NetG W):=
 Uy (Jy (ts:=[3,22,3,3,23,24]) (by kernel_rfl) (YE op_i (YE Yr4 (YE op_i (YE op_i (YE Yqa (YE Ygx Um)))))))
  (λx=>⟨x.1,x.2.1.A,x.2.1.cap,x.2.1.xs.map Ymc,x.2.2.1,x.2.2.2.1,x.2.2.2.2.1.A,x.2.2.2.2.1.cap,x.2.2.2.2.1.xs,x.2.2.2.2.2.1.A,x.2.2.2.2.2.1.cap,x.2.2.2.2.2.1.xs⟩)
  (λx=>by simp[netF,numF,SlM.val])
  (λx h=>by
   obtain⟨h1,h2,h3,h4,h5,h6,_⟩:=h
   have hm:=maxL
   refine⟨h1,?_,?_,h3,h4,h5.old,h6.old,?_,?_,TX h5.len hm,TX h6.len hm,?_,h5.good,h6.good,h5.cap,h6.cap⟩
   ·rw[Ykg];exact h2.old
   ·intro r hr
    obtain⟨s,hs,rfl⟩:=TD.1 hr
    exact(h2.good s hs).old
   ·grind [Go.Eng.SlG.len]
   ·intro r hr
    obtain⟨s,hs,rfl⟩:=TD.1 hr
    exact TX (h2.good s hs).len hm
   ·intro r hr
    obtain⟨s,hs,rfl⟩:=TD.1 hr
    exact(h2.good s hs).good)
end
end Go.Proofs.YtjommdkgfbhbdaaGreatDoor
namespace Go.Eng
open Go.RowKit Go.Sort Go.Proofs
variable {α:Type}{q:Nat}
theorem Yc9[Inhabited α]{enc:α->List Value}(hq:∀x,(enc x).length=q)(h0:0<q)(l:List α):(flatK enc q l.toArray).toList=l.flatMap enc:=by
 have hlen:(l.flatMap enc).length=l.length*q:=Xb hq l
 have hs:(flatK enc q l.toArray).size=l.length*q:=by simp
 apply List.ext_getElem (by simp_all)
 intro t h1 h2
 rw[hlen]at h2
 have hd:t/q<l.length:=by simp_all [Nat.div_lt_of_lt_mul,Nat.mul_comm]
 have hm:=Nat.mod_lt t h0
 have h3:=UU hq l (t/q) (t%q) l[t/q] (Ta hd) hm
 rw[Nat.mul_comm,Nat.div_add_mod]at h3
 have h4:=get_flatK enc q l.toArray t (by omega)
 simp_all
theorem Yn3[Inhabited α]{enc:α->List Value}(hq:∀x,(enc x).length=q)(h0:0<q){l:List α}{k:Nat}(hk:k<=l.length){g cap:Nat}{e:TypeId}{B:Nat}{w0 w:World}{H:List HP}(hw:St B w0 (sl e q (some ⟨g,0,none⟩) l.length cap (l.flatMap enc)::H) w):
 HoldsK enc q w g (k*q) (l.drop k).toArray/\g<w.heap.size/\∀(d:List α) (n:Nat) (os:Array Obj),d.length=l.length-k->St B w0 (sl e q (some ⟨g,0,none⟩) l.length cap ((l.take k++d).flatMap enc)::H) (sortWorldK enc q w g (k*q) n d.toArray os):=by
 have ho:=hw.sl (TG)
 rcases ho.2 with⟨h1,_⟩|⟨g',c,cur,h1,h2,h3,h4,h5,h6,h7⟩
 ·cases h1
 injection h1 with h1 _ hc
 injection h1 with h1
 injection h1 with h1
 subst h1 hc
 have hmul:l.length*q=k*q+(l.length-k)*q:=by rw[<-SL];simp_all
 have hcq:l.length*q<=cap*q:=T8 q h4
 have hg:g<w.heap.size:=(Array.getElem?_eq_some_iff.1 h3).1
 refine⟨λj hj=>?_,hg,λd n os hd=>?_⟩
 ·have hs:(flatK enc q (l.drop k).toArray).size=(l.length-k)*q:=by simp
  rw[hs]at hj
  refine⟨?_,by simp[World.frozen?,h3]⟩
  have hcell:w.cell? ⟨g,k*q+j,none⟩=cur[k*q+j]? :=by simp[World.cell?,h3]
  rw[hcell]
  have e1:cur[k*q+j]? =(l.flatMap enc)[k*q+j]? :=by
   grind
  rw[e1,<-RS,<-UT hq,<-Yc9 hq h0,S0,R7 (by omega),getElem!_pos _ j (by omega)]
  rfl
 ·have hs:(flatK enc q d.toArray).size=(l.length-k)*q:=by simp[hd]
  have hF:(flatK enc q d.toArray).toList=d.flatMap enc:=Yc9 hq h0 d
  have hheap:(sortWorldK enc q w g (k*q) n d.toArray os).heap[g]? =some (.cells (putCells id (k*q) (flatK enc q d.toArray) cur) e (0,0)):=by
   unfold sortWorldK putRowK
   rw[heap_grow_old _ _ (by simpa using hg)]
   simp[putRow,mapBlock,Sort.ahead,Array.getElem?_modify,h3,onCells]
  have hgb:w.grownBy (sortWorldK enc q w g (k*q) n d.toArray os) (some g):=by
   refine⟨rfl,rfl,rfl,by simp[sortWorldK,putRowK],λb hb hne=>?_⟩
   unfold sortWorldK putRowK
   rw[heap_grow_old _ _ (by simpa using hb)]
   have:g≠b:=λe=>hne (by rw[e])
   simp[putRow,mapBlock,Sort.ahead,Array.getElem?_modify,this]
  have hlen:((l.take k++d).flatMap enc).length=l.length*q:=by
   rw[Xb hq,Tt,TU,hd,S8 hk];congr 1;omega
  refine hw.upd (Upd.here H) hgb.os hgb.tape hgb.output hgb.size λS1 hS=>⟨⟨⟨hlen,.inr ⟨g,cap,_,rfl,Td _,hheap,h4,h5,by simp[putCells,h6],?_⟩⟩,hS.2⟩,λb hb hlt=>hgb.block b hlt λe=>hb ?_⟩
  ·apply Si
   intro j
   by_cases hj:j<l.length*q
   ·rw[S9 hj,S0]
    have hjc:j<cur.size:=by rw[h6];omega
    have e1:cur[j]? =(l.flatMap enc)[j]? :=by rw[<-h7,S9 hj,S0]
    rw[RB,X0 hq]
    have hl1:((l.flatMap enc).take (k*q)).length=k*q:=by rw[TU,Xb hq];omega
    by_cases hjk:j<k*q
    ·rw[List.getElem?_append_left (by rw[hl1];exact hjk),S9 hjk,<-e1]
     simp[putCells,Array.getElem?_eq_getElem hjc,show¬k*q<=j by omega]
    ·rw[SD (by rw[hl1];omega),hl1,<-hF,S0]
     have hin:j-k*q<(flatK enc q d.toArray).size:=by rw[hs];omega
     rw[R7 hin]
     have hc2:k*q<=j/\j<k*q+(flatK enc q d.toArray).size:=⟨by omega,by rw[hs];omega⟩
     unfold putCells
     rw[Array.getElem?_mapIdx,R7 hjc]
     simp only[Ss]
     rw[Tn hc2]
     have h9:(flatK enc q d.toArray)[j-k*q]! =(flatK enc q d.toArray)[j-k*q]'hin:=getElem!_pos (flatK enc q d.toArray) (j-k*q) hin
     rw[h9]
     rfl
   ·rw[List.getElem?_take_eq_none (by omega),List.getElem?_eq_none (by rw[hlen];omega)]
  ·injection e with e
   rw[e]
   exact hS.2 _ rfl
end Go.Eng
