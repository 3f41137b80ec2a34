/- Lemmas. -/
import Derived.Test.YtjlgijpmnfabcaaGreatDoorQ14
import Derived.Test.YtjlgijpmnfabcaaGreatDoorQ15
set_option maxRecDepth 100000
set_option maxHeartbeats 8000000
set_option linter.all false
namespace Go.Proofs.YtjlgijpmnfabcaaGreatDoor
open Go.RowKit Go.Eng Go.Nw Go.Rt
def tchB(l:List Cel)(slot a b:Int):Bool:=l.any λd=>decide (d.1=slot)&&YI d (0,0,a,b,0)
def offI(n:Net)(l:List Cel)(slot a b:Int)(k:Nat):List Nat:=(List.range k).filter λo:Nat=>Jm n (l.filter (atP slot o)++[(0,0,a,b,0)])
def UD(n:Net)(s:Sch)(slot a b:Int):List (List Value):=if tchB s.cells slot a b=true then []else(offI n s.cells slot a b s.off.toNat).map λ(o:Nat)=>[Value.int .i64 (o:Int)]
variable {n:Net}{l:List Cel}{slot a b:Int}{k i:Nat}
theorem YpU(h:Jm n (l.filter (atP slot k)++[(0,0,a,b,0)])=true):offI n l slot a b (k+1)=offI n l slot a b k++[k]:=by
 grind [offI,RL]
theorem YrX(h:Jm n (l.filter (atP slot k)++[(0,0,a,b,0)])=false):offI n l slot a b (k+1)=offI n l slot a b k:=by
 grind [offI,RL]
theorem YpT{m:Nat}(h:Jm n (l.filter (atP slot k)++[(0,0,a,b,0)])=true)(hk:k<m):(offI n l slot a b m)[(offI n l slot a b k).length]? =some k:=by
 obtain⟨j,rfl⟩:∃j,m=k+(j+1):=⟨m-k-1,by omega⟩
 have e:offI n l slot a b (k+(j+1))=offI n l slot a b k++((List.range (j+1)).map (k+·)).filter λo:Nat=>Jm n (l.filter (atP slot o)++[(0,0,a,b,0)]):=by
  grind [offI,List.range_add]
 simp_all [List.range_succ_eq_map]
structure AiM where
 i:Nat
 A:Option Addr
 cap:Nat
 l:List Cel
variable {c:Cel}
theorem Ypo(hc:l[i]? =some c)(h:c.1=slot):(l.take (i+1)).filter (λd=>decide (d.1=slot))=(l.take i).filter (λd=>decide (d.1=slot))++[c]:=YdT
theorem YrC(hc:l[i]? =some c)(h:c.1≠slot):(l.take (i+1)).filter (λd=>decide (d.1=slot))=(l.take i).filter (λd=>decide (d.1=slot)):=YdT
theorem Yqv(hc:l[i]? =some c):tchB (l.take (i+1)) slot a b=(tchB (l.take i) slot a b||(decide (c.1=slot)&&YI c (0,0,a,b,0))):=by
 grind [tchB,TF]
theorem YvA(hc:l[i]? =some c)(h:c.1=slot)(ht:YI c (0,0,a,b,0)=true):tchB l slot a b=true:=
 Rf.2 ⟨c,Td hc,by simp_all⟩
theorem Ynz(n:NetM)(s:SchM)(l:Lk)(slot:Int)(g3 g5 g4:Nat)(hck:Yq n.net=0)(hl:s.cells.length<=900)(hoff:0<=s.off/\s.off<=16){B:Nat}{w0:World}{R:List HP}(hin:n.In B w0 [many R])(hr:Rd B w0 [many R] s.A (s.cells.flatMap celF)):
 YbN Tryz.prog 446 [.pointer (some ⟨g3,0,none⟩),.pointer (some ⟨g5,0,none⟩),.pointer (some ⟨g4,0,none⟩)] (UD n.net s.sch slot l.1 l.2.1) B w0 [intA g5 slot,lnkA g4 l,grdA g3 n s,many R]:=by
 refine YbO Tryz.func446 Tryz.ntmps446 rfl rfl ?_
 intro ly SS X hy L0 h0
 refine Xf 48 5 ?_
 have hsc:s.sch.cells=s.cells:=rfl
 refine zX7 ?_
 refine Yi (λ(x:AiM)=>[(14,.int .i64 x.i),(13,.int .i64 s.cells.length),(12,.slice s.A s.cells.length s.cap),(5,.slice x.A x.l.length x.cap),(0,.func (.yield ly) #[] #[]),(1,.pointer (some ⟨g3,0,none⟩)),(2,.pointer (some ⟨g5,0,none⟩)),(3,.pointer (some ⟨g4,0,none⟩))])
  (λx=>sl 48 5 x.A x.l.length x.cap (x.l.flatMap celF)::many L0::intA g5 slot::lnkA g4 l::grdA g3 n s::[many R]) (λx=>x.i<=s.cells.length/\x.l=(s.cells.take x.i).filter (λd=>decide (d.1=slot))/\tchB (s.cells.take x.i) slot l.1 l.2.1=false) (λx=>s.cells.length-x.i) ⟨0,none,0,[]⟩ ⟨Ti _,by simp,rfl⟩ ?_ ?_ ?_
 ·exact zc1
 ·dsimp only
  rw[show([]:List Cel).flatMap celF=[] from rfl,show([]:List Cel).length=0 from rfl]
  exact zc0
 rintro⟨i,A,cap,hs⟩ ⟨hi,hhs,htc⟩ K hK
 dsimp only at hi hhs htc⊢
 have hhl:hs.length<=900:=by
  have:=RG (λd:Cel=>decide (d.1=slot)) (s.cells.take i)
  rw[<-hhs,TK]at this
  omega
 by_cases hlt:i<s.cells.length
 ·obtain⟨c,hc⟩:∃c,s.cells[i]? =some c:=⟨_,Ta hlt⟩
  have hts:=Yqv (slot:=slot) (a:=l.1) (b:=l.2.1) hc
  rw[htc,NX]at hts
  have p1:=λ{H':List HP}{w:World}(hw:St B w0 H' w)=>Yi0 c l hw
  unfold celV lkV at p1
  by_cases hsl:c.1=slot
  rotate_left
  ·rw[Tu hsl,NV]at hts
   refine zX46 ?_<;>intros
   apply hK ⟨i+1,A,cap,hs⟩
   ·exact⟨by exact YdU,by rw[YrC hc hsl];exact hhs,hts⟩
   ·exact zc54
   ·exact zc1
   ·exact zc0
  cases ht:YI c (0,0,l.1,l.2.1,0)with
  |true=>
   rw[ht]at p1
   have hnil:UD n.net s.sch slot l.1 l.2.1=[]:=by
    unfold UD
    rw[Tm (by rw[hsc];exact YvA hc hsl ht)]
   clear hK
   repeat'(first|((first|apply Yb YlH|apply Yc YlH);exact za;exact rfl;exactλ_ hw=>(p1 hw))|refine zgd ?_|(refine zge ?_ ?_<;>intro _<;>try exact zo)|(refine zgh ?_;intro _)|fail)
   apply Yh (many L0::intA g5 slot::lnkA g4 l::grdA g3 n s::[many R])
   ·exact zc0
   apply ZR;exact rfl
   exact .inl ⟨L0,by rw[hnil];exact h0,rfl⟩
  |false=>
   rw[Tj hsl,ht,SB]at hts
   rw[ht]at p1
   repeat'(first|((first|apply Yb YlH|apply Yc YlH);exact za;exact rfl;exactλ_ hw=>(p1 hw))|refine zgd ?_|(refine zge ?_ ?_<;>intro _<;>try exact zo)|(refine zgh ?_;intro _)|(refine zgi ?_;intro _ _)|fail)
   rename_i A' cap'
   have hl1:(hs++[c]).length=hs.length+1:=by rw[Tt];rfl
   apply hK ⟨i+1,A',cap',hs++[c]⟩
   ·exact⟨by exact YdU,by rw[Ypo hc hsl,<-hhs],hts⟩
   ·exact zc54
   ·dsimp only
    rw[hl1]
    exact zc1
   ·dsimp only
    have e5:=Vs A' cap' hs c
    unfold cels at e5
    rw[<-e5]
    exact zc0
 ·obtain rfl:i=s.cells.length:=by omega
  rw[TL]at hhs htc
  clear hK
  refine zX1 ?_<;>intros
  have hxs:UD n.net s.sch slot l.1 l.2.1=(offI n.net s.cells slot l.1 l.2.1 s.off.toNat).map λ(o:Nat)=>[Value.int .i64 (o:Int)]:=by
   unfold UD
   rw[Tf (by rw[hsc,htc];decide)];rfl
  refine Yi (λ(x:Nat×List HP)=>[(33,.int .i64 (x.1:Nat)),(32,.int .i64 s.off),(5,.slice A hs.length cap),(0,.func (.yield ly) #[] #[]),(1,.pointer (some ⟨g3,0,none⟩)),(2,.pointer (some ⟨g5,0,none⟩)),(3,.pointer (some ⟨g4,0,none⟩))])
   (λx=>sl 48 5 A hs.length cap (hs.flatMap celF)::many x.2::intA g5 slot::lnkA g4 l::grdA g3 n s::[many R]) (λx=>(x.1:Int)<=s.off/\SS (offI n.net s.cells slot l.1 l.2.1 x.1).length x.2) (λx=>(s.off-x.1).toNat) (0,L0) ⟨by show((0:Nat):Int)<=_;omega,h0⟩ ?_ ?_ ?_
  ·exact zc1
  ·exact zc0
  rintro⟨o,L⟩ ⟨ho,hS⟩ K hK
  dsimp only at ho hS⊢
  by_cases hlt2:(o:Int)<s.off
  rotate_left
  ·obtain rfl:o=s.off.toNat:=by omega
   clear hK
   refine zX1 ?_<;>intros
   apply Yh (many L::intA g5 slot::lnkA g4 l::grdA g3 n s::[many R])
   ·exact zc0
   apply Zk;exact rfl
   exact .inl ⟨L,by rw[hxs,Tv];exact hS,rfl⟩
  obtain⟨own,hown⟩:∃own,s.cells.filter (atP slot o)=own:=⟨_,rfl⟩
  have hof:(hs.filter λc=>!!(decide (c.2.1=(o:Int))))=own:=by
   rw[<-hown,hhs,NP]
   refine NT λc _=>?_
   unfold atP
   rw[Bool.not_not,Bool.decide_and,Bool.and_comm]
  have hol:own.length<=900:=by
   have:=RG (atP slot o) s.cells
   rw[hown]at this
   omega
  have pg:=λ{A2:Option Addr}{cap2:Nat}{H':List HP}{w:World}(hin:n.In B w0 H') (hr:Rd B w0 H' A2 (own.flatMap celF++#[Value.int .i64 0,.int .i64 0,.int .i64 l.1,.int .i64 l.2.1,.int .i64 0].toList)) (hw:St B w0 H' w)=>YjZ n (own++[(0,0,l.1,l.2.1,0)]) hck (by rw[Tt];show own.length+1<=1000;omega) (A:=A2) (cap:=cap2) hin (by rw[TR];exact hr) hw
  have hol1:(own++[((0,0,l.1,l.2.1,0):Cel)]).length=own.length+1:=by rw[Tt];rfl
  rw[hol1]at pg
  unfold NetM.val at pg
  refine zX46 ?_<;>intros
  rename_i g8
  apply Yg _ Yln
  exact za
  exact rfl
  exactλ_ hw=>(VS hs (by omega) (.sl (by(focus exact zc2))) (hw))
  rintro _ _ ⟨A1,c1,rfl,rfl⟩
  refine YfD ?_
  apply Yg _ YsQ
  exact za
  exact rfl
  exactλ_ hw=>(YaJ (λc=>!(decide (c.2.1=(o:Int)))) hs 448 [.pointer (some ⟨g8,0,none⟩)] YwM (by omega) (λc _ X w hw=>Ykm c o g8 (Re _ (by(focus exact zc2))) hw) (hw))
  rintro _ _ ⟨rfl,rfl⟩
  rw[hof]
  unfold cels
  refine zX3 ?_
  apply Ymh [0,1,2,3,4,5,6,7,8,9,10,11,12,13] [14,15,16] [false,true,false,false,true,true,true,true]
  kernel_rfl
  kernel_rfl
  exact zy
  (simp only[Ye,nthO];rfl)
  (simp only[Ye,nthO];rfl)
  repeat'(first|(apply Yf T;exact rfl;exact zm;exact rfl;exact zv;exact rfl;exact rfl)|(apply Yj;try exact zl)|refine zgd ?_|(refine zgh ?_;intro _)|(refine zgi ?_;intro _ _)|fail)
  first|apply Yb Ytq|apply Yc Ytq
  exact za
  exact rfl
  exactλ_ hw=>(pg (hin.mono zc0) (.sl (by(focus exact zc2))) hw)
  cases hg:Jm n.net (own++[(0,0,l.1,l.2.1,0)])with
  |true=>
   have hg2:Jm n.net (s.cells.filter (atP slot o)++[(0,0,l.1,l.2.1,0)])=true:=by rw[hown];exact hg
   have hx:(UD n.net s.sch slot l.1 l.2.1)[(offI n.net s.cells slot l.1 l.2.1 o).length]? =some [.int .i64 (o:Int)]:=by
    rw[hxs,TS,YpT hg2 (by omega)];rfl
   have hY:=hy _ _ hx [sl 48 5 A hs.length cap (hs.flatMap celF)] L hS
   refine zX16 ?_
   apply Yh (sl 48 5 A hs.length cap (hs.flatMap celF)::many L::intA g5 slot::lnkA g4 l::grdA g3 n s::[many R])
   ·exact zc0
   apply Yox
   apply Yb1 _ _ (hy:=hY)
   ·exact Ybl (j:=11) (s:=51) rfl rfl rfl
   ·exact rfl
   ·exact YqP
   ·exact rfl
   ·exact Yjf
   ·rintro _ ⟨L',hS',rfl⟩
    refine zX2 ?_
    apply hK (o+1,L')
    ·exact⟨by show((o+1:Nat):Int)<=_;omega,by rw[YpU hg2,Tt];exact hS'⟩
    ·exact zc54
    ·exact zc1
    exact zc21
   ·rintro _ ⟨L',hX',rfl⟩
    refine zX2 ?_
    apply Yh (many L'::intA g5 slot::lnkA g4 l::grdA g3 n s::[many R])
    ·exact zc59
    apply ZR;exact rfl
    exact .inr ⟨L',hX',rfl⟩
  |false=>
   have hg2:Jm n.net (s.cells.filter (atP slot o)++[(0,0,l.1,l.2.1,0)])=false:=by rw[hown];exact hg
   refine zX16 ?_
   apply Yox
   apply Yhm Yjf
   refine zX9 ?_
   apply hK (o+1,L)
   ·exact⟨by show((o+1:Nat):Int)<=_;omega,by rw[YrX hg2];exact hS⟩
   ·exact zc54
   ·exact zc1
   ·exact zc0
theorem YpS:∀a b:List Int,a.length=b.length->Xp (List.zipWith cmpI a b)=cmpV a b
 |[],[],_=>rfl
 |[],_::_,h=>by cases h
 |_::_,[],h=>by cases h
 |x::a,y::b,h=>by
  have ih:=YpS a b (by simp_all)
  rw[List.zipWith_cons_cons,Xp]
  by_cases h1:x<y
  ·have e1:cmpI x y= -1:=Tm h1
   have e2:XN (x::a) (y::b)=true:=by rw[XN,Tm (show x≠y by omega)];simp_all
   simp_all [cmpV]
  ·by_cases h2:y<x
   ·have e1:cmpI x y=1:=by simp_all [cmpI]
    have e2:XN (x::a) (y::b)=false:=by rw[XN,Tm (show x≠y by omega)];simp_all
    have e3:XN (y::b) (x::a)=true:=by rw[XN,Tm (show y≠x by omega)];simp_all
    simp_all [cmpV]
   ·obtain rfl:x=y:=by omega
    simp_all [cmpI,XN,cmpV]
variable {B:Nat}{w0 w:World}{H:List HP}
theorem Ov(a b:Cel)(hw:St B w0 H w):
 CX B w0 169 [celV a,celV b] w λv K=>v=.int .i64 (cmpV (nums a) (nums b))/\K=H:=by
 refine Ya Tryz.func169 Tryz.ntmps169 rfl rfl hw ?_
 rw[<-YpS (nums a) (nums b) rfl]
 unfold celV
 refine zX14 ?_<;>intros
 apply Yz [0,1,2,3,5,6,7,8,10,11,12,13,15,16,17,18,20,21,22,23,4,9,14,19,24,25,26,27] [] [true,true]
 kernel_rfl
 kernel_rfl
 exact zy
 (simp only[Ye,nthO];rfl)
 exact rfl
 refine zX15 ?_<;>intros
 rename_i g
 first|apply Yb en72|apply Yc en72
 exact za
 exact rfl
 exactλ_ hw=>(Ygr (List.zipWith cmpI (nums a) (nums b)) (by simp[nums]) (Rd.blk (g:=g) (cs:=#[.int .i64 (cmpI a.1 b.1),.int .i64 (cmpI a.2.1 b.2.1),.int .i64 (cmpI a.2.2.1 b.2.2.1),.int .i64 (cmpI a.2.2.2.1 b.2.2.2.1),.int .i64 (cmpI a.2.2.2.2 b.2.2.2.2)]) (by(focus exact zc2))) hw)
 refine zX16 ?_
 apply Yh H
 ·exact zc0
 exact zc22
theorem YgG(l:List Cel)(c:Cel)(ho:Ord l)(hlen:l.length<=1000000000){A:Option Addr}{cap:Nat}(hr:Rd B w0 H A (l.flatMap celF))(hw:St B w0 H w):
 CX B w0 435 [.slice A l.length cap,celV c,.func (.func 169) #[] #[]] w λv K=>
  v=.tuple #[.int .i64 (posE l c),.bool (decide (c∈l))]/\K=H:=by
 refine Ya Tryz.func435 Tryz.ntmps435 rfl rfl hw ?_
 (apply Y7;apply YM;apply YO;exact rfl;exact rfl;intro g)
 refine zX7 ?_
 have hr:=hr.cons (X:=blk g (.cells (celF c).toArray 48 (0,0)))
 refine Uf (λ(lo hi:Nat)=>[(9,.int .i64 lo),(10,.int .i64 hi),(8,.int .i64 l.length),(0,.slice A l.length cap),(2,.func (.func 169) #[] #[]),(4,.pointer (some ⟨g,0,none⟩))]) (λ_ _=>blk g (.cells (celF c).toArray 48 (0,0))::H)
  (λlo hi=>lo<=hi/\hi<=l.length/\(∀i x,i<lo->l[i]? =some x->Xw x c=true)/\(∀i x,hi<=i->l[i]? =some x->Xw x c=false)) (λlo hi=>hi-lo) 0 l.length ⟨by omega,by omega,λj x hj=>by omega,λj x h1 h2=>by simp_all⟩ ?_ (λw hw=>hw) ?_
 ·exact zc1
 rintro lo hi ⟨h1,h2,h3,h4⟩ K hK
 by_cases hlt:lo<hi
 ·obtain⟨b,hb⟩:∃b,l[(((lo:Int)+hi)/2).toNat]? =some b:=⟨_,Ta (by omega)⟩
  have hm:(((lo:Int)+hi)/2).toNat=(lo+hi)/2:=by omega
  have hb2:l[(lo+hi)/2]? =some b:=by grind
  repeat'(first|((first|apply YK (cs:=[])|apply YU (cs:=[]));exact rfl;exact YsN;exact za;exact rfl;exactλ_ hw=>(Ov b c hw))|(apply zg28;refine zs84 ?_)|refine zgd ?_|(refine zge ?_ ?_<;>intro _<;>try exact zo)|fail)
  ·rename_i hc
   rw[Yci]at hc
   apply hK ((lo+hi)/2+1) hi
   ·refine⟨by omega,by omega,λj x hj hx=>?_,h4⟩
    by_cases e:j=(lo+hi)/2
    ·grind
    ·exact Uj (Ygs ho hx hb2 (by omega)) hc
   ·omega
   ·exact zc1
   exact zc21
  ·rename_i hc
   have hc:Xw b c=false:=by
    cases h:Xw b c with
    |false=>rfl
    |true=>rw[<-Yci]at h;omega
   apply hK lo ((lo+hi)/2)
   ·refine⟨by omega,by omega,h3,λj x hj hx=>?_⟩
    by_cases e:j=(lo+hi)/2
    ·rw[e,hb2]at hx
     injection hx with hx;subst hx;exact hc
    ·cases h:Xw x c with
     |false=>rfl
     |true=>rw[Uj (Ygs ho hb2 hx (by omega)) h]at hc;cases hc
   ·omega
   ·exact zc1
   exact zc21
 ·obtain rfl:lo=hi:=by omega
  have hp:Pos l c lo:=⟨h2,h3,h4⟩
  have hpe:=hp.posE ho
  have hpm:=Ysc ho hp
  by_cases hl:lo<l.length
  ·obtain⟨b,hb⟩:∃b,l[lo]? =some b:=⟨_,Ta hl⟩
   rw[hb]at hpm
   repeat'(first|((first|apply YK (cs:=[])|apply YU (cs:=[]));exact rfl;exact YsN;exact za;exact rfl;exactλ_ hw=>(Ov b c hw))|(apply zg28;refine zs84 ?_)|refine zgd ?_|(refine zgf ?_ ?_<;>intro _<;>try exact zo)|fail)
   all_goals(apply Yl;apply Yu;(iterate 3 exact rfl);rw[<-hpe])
   ·rename_i hc
    rw[YoO]at hc
    exact⟨by rw[Tj (hpm.1 (by rw[hc]))],rfl⟩
   ·rename_i hc
    rw[ne_eq,YoO]at hc
    exact⟨by rw[Tu λh=>hc (Tn (hpm.2 h))],rfl⟩
  ·refine zX17 ?_<;>intros
   apply Yl;apply Yu;(iterate 3 exact rfl);rw[<-hpe]
   rw[List.getElem?_eq_none (by omega)]at hpm
   exact⟨by rw[Tu λh=>by cases hpm.2 h],rfl⟩
theorem Ygo(n:NetM)(s:SchM)(l:Lk)(slot:Int)(hw:St B w0 H w):
 CX B w0 434 [grdV n s,lkV l,.int .i64 slot] w λv K=>∃g3 g4 g5,v=.func (.func 446) #[] #[.pointer (some ⟨g3,0,none⟩),.pointer (some ⟨g5,0,none⟩),.pointer (some ⟨g4,0,none⟩)]/\K=intA g5 slot::lnkA g4 l::grdA g3 n s::H:=by
 refine Ya Tryz.func434 Tryz.ntmps434 rfl rfl hw ?_
 refine zX26 ?_<;>intros
 exact Yl8
end Go.Proofs.YtjlgijpmnfabcaaGreatDoor
namespace Go.Eng
open Go.RowKit
section
variable {P:Program}{B:Nat}{w0:World}{env:Env}{H:List HP}
theorem YbZ{n:Nat}(T:Tab P){fn:Func}{Φ:Value->List HP->Prop}{p g k q g2 rt st:Nat}{v:Value}{cs:Array Value}{tt tt2:TypeId}{fr fr2:Nat×Nat}(hr:fn.results=#[.cell p rt,.cell q st])(hp:get env p=some (.pointer (some ⟨g,0,none⟩)))(hq:get env q=some (.pointer (some ⟨g2,0,none⟩)))
 (hm:blk g (.cells cs tt fr)∈H) (hm2:blk g2 (.cells #[v] tt2 fr2)∈H) (ht:look T.ag rt=some k) (hk:cs.size=k) (ht2:look T.sc st=some ()) {H2:List HP}(hH:∀w,St B w0 H w->St B w0 H2 w) (h:Φ (.tuple #[.agg cs,v]) H2):VQ ⟨n,[],none⟩ B w0 (bodyPost P fn (Post B w0 Φ)) .ret env H:=by
 refine⟨λa w ha hw=>bodyPost_ret (v:=.tuple #[.agg cs,v]) ?_ ha.defers ⟨_,H2,rfl,hH w hw,h⟩⟩
 have hp':=ha.slot p _ hp
 have hq':=ha.slot q _ hq
 have hc:=Y9 (i:=0) (hw.blk hm2).1
 have h2:(loadVar st ⟨g2,0,none⟩).run P w=.ok v w:=by simp[loadVar,Xv (T.scal ht2).1,hc]
 simp[results,hr,Array.getD_eq_getD_getElem?,hp',hq',asAddr,ZD T (hw.blk hm).1 ht hk,h2]
end
end Go.Eng
namespace Go.Proofs.YtjlgijpmnfabcaaGreatDoor
open Go.RowKit Go.Eng Go.Nw Go.Rt
theorem UU{α:Type}(p:α->Bool):∀l:List α,(l.filter p)[0]? =l.find? p
 |[]=>rfl
 |a::l=>by
  rw[Np,List.find?_cons]
  cases h:p a with
  |true=>rfl
  |false=>exact UU p l
variable {n:Net}{l:List Cel}{slot a b id:Int}
theorem YlN(h:tchB l slot a b=false):(λo:Nat=>fitE n l slot o a b)=λo:Nat=>Jm n (l.filter (atP slot o)++[(0,0,a,b,0)]):=by
 grind [fitE,tchB]
theorem Yu5(h:tchB l slot a b=true):(λo:Nat=>fitE n l slot o a b)=λ_=>false:=by
 grind [fitE,tchB]
variable {s:Sch}
theorem Ykk(hh:hasC s.cells slot a b id=false)(h:(UD n s slot a b).length=0):Jt n s a b id slot=none:=by
 unfold Jt
 have:((List.range s.off.toNat).find? λo:Nat=>fitE n s.cells slot o a b)=none:=by
  cases ht:tchB s.cells slot a b with
  |true=>simp_all [Yu5]
  |false=>
   rw[YlN ht,<-UU]
   unfold UD at h
   grind [offI]
 simp_all
theorem Ykl(hh:hasC s.cells slot a b id=false){args:List Value}(h:(UD n s slot a b)[0]? =some args):∃o:Nat,args=[.int .i64 (o:Int)]/\o<s.off.toNat/\fitE n s.cells slot o a b=true/\Jt n s a b id slot=some ⟨s.len,s.off,insC s.cells (slot,(o:Int),a,b,id)⟩:=by
 unfold UD at h
 cases ht:tchB s.cells slot a b with
 |true=>simp_all
 |false=>
  rw[ht,Tf (by decide),TS]at h
  unfold offI at h
  rw[UU]at h
  cases hf:(List.range s.off.toNat).find? λo:Nat=>Jm n (s.cells.filter (atP slot o)++[(0,0,a,b,0)])with
  |none=>simp_all
  |some o=>
   have hf2:(List.range s.off.toNat).find? (λo:Nat=>fitE n s.cells slot o a b)=some o:=by rw[YlN ht];exact hf
   unfold Jt
   grind
theorem YkG(n:NetM)(s:SchM)(l:Lk)(id slot:Int)(hck:Yq n.net=0)(hl:s.cells.length<=900)(hoff:0<=s.off/\s.off<=16)(ho:Ord s.cells){B:Nat}{w0:World}{R:List HP}{w:World}(hin:n.In B w0 [many R])(hr:Rd B w0 [many R] s.A (s.cells.flatMap celF))(hw:St B w0 [many R] w):
 CX B w0 409 [grdV n s,lkV l,.int .i64 id,.int .i64 slot] w λv K=>
  (v=.tuple #[grdV n s,.bool true]/\Jt n.net s.sch l.1 l.2.1 id slot=some s.sch/\K=[many R])\/
  (v=.tuple #[grdV n s,.bool false]/\Jt n.net s.sch l.1 l.2.1 id slot=none/\K=[many R])\/
  ∃A cap c,v=.tuple #[grdV n ⟨s.len,s.off,A,cap,insC s.cells c⟩,.bool true]/\Jt n.net s.sch l.1 l.2.1 id slot=some ⟨s.len,s.off,insC s.cells c⟩/\K=[cels A cap (insC s.cells c),many R]:=by
 refine X5 Tryz.func409 Tryz.ntmps409 rfl rfl hw ?_
 have p1:=λ{H':List HP}{w:World}(hr:Rd B w0 H' s.A (s.cells.flatMap celF)) (hw:St B w0 H' w)=>Ym8 n s l id slot (by omega) hr hw
 have p2:=λ{H':List HP}{w:World}(hw:St B w0 H' w)=>Ygo n s l slot hw
 cases hh:hasC s.cells slot l.1 l.2.1 id with
 |true=>
  rw[hh]at p1
  unfold grdV lkV at p1⊢
  refine YtF ?_<;>intros
  first|apply Yb YlG|apply Yc YlG
  exact za
  exact rfl
  exactλ_ hw=>(p1 hr.cons.cons.cons.cons.cons.cons hw)
  refine zX2 ?_
  apply VQ_m
  apply YbZ T (H2:=[many R]);(iterate 3 exact rfl);(focus exact zc2);(focus exact zc2);(iterate 3 exact rfl);(intro w hw;refine hw.perm ?_;focus exact zc5)
  refine .inl ⟨rfl,?_,rfl⟩
  unfold Jt
  rw[show s.sch.cells=s.cells from rfl,Tm hh]
 |false=>
 rw[hh]at p1
 unfold grdV lkV at p1 p2⊢
 refine YtF ?_<;>intros
 rename_i g4 g5 g6 g7 g8 g9
 first|apply Yb YlG|apply Yc YlG
 exact za
 exact rfl
 exactλ_ hw=>(p1 hr.cons.cons.cons.cons.cons.cons hw)
 refine zX7 ?_
 apply Yg _ YwF
 exact za
 exact rfl
 exactλ_ hw=>(p2 (hw))
 rintro _ _ ⟨k3,k4,k5,rfl,rfl⟩
 refine zX7 ?_
 have hlen0:∀args∈UD n.net s.sch slot l.1 l.2.1,args.length=[24].length:=by
  intro args h
  unfold UD at h
  split at h
  ·cases h
  ·obtain⟨o,_,rfl⟩:=TD.1 h
   rfl
 refine X7 (gf:=446) (lb:=[.pointer (some ⟨k3,0,none⟩),.pointer (some ⟨k5,0,none⟩),.pointer (some ⟨k4,0,none⟩)]) (xs:=UD n.net s.sch slot l.1 l.2.1) (intA k5 slot::lnkA k4 l::grdA k3 n s::[many R])
  (λ_:Unit=>[blk g9 (.cells #[.bool false] 4 (0,0)),blk g8 (.cells #[.int .i64 0,.slice none 0 0,.int .i64 0,.int .i64 0,.slice none 0 0,.slice none 0 0,.int .i64 0,.int .i64 0,.slice none 0 0] 410 (0,0)),intA g7 slot,intA g6 id,lnkA g5 l,grdA g4 n s])
  (λk _=>k=0) (λe K=>e=.ret/\∃A cap,∃o:Int,Jt n.net s.sch l.1 l.2.1 id slot=some ⟨s.len,s.off,insC s.cells (slot,o,l.1,l.2.1,id)⟩/\K=[blk g9 (.cells #[.bool true] 4 (0,0)),grdA g8 n ⟨s.len,s.off,A,cap,insC s.cells (slot,o,l.1,l.2.1,id)⟩,cels A cap (insC s.cells (slot,o,l.1,l.2.1,id))]) () rfl YwL (Ynz n s l slot k3 k5 k4 hck hl hoff hin hr) rfl hlen0 (by kernel_rfl) (by kernel_rfl) ?_ rfl ?_ ?_ ?_
 ·intro w hw
  have h5:St B w0 (blk g9 (.cells (Value.bool false).cells 4 (0,0))::blk g8 (.cells (Value.agg #[.int .i64 0,.slice none 0 0,.int .i64 0,.int .i64 0,.slice none 0 0,.slice none 0 0,.int .i64 0,.int .i64 0,.slice none 0 0]).cells 410 (0,0))::intA g7 slot::intA g6 id::lnkA g5 l::grdA g4 n s::intA k5 slot::lnkA k4 l::grdA k3 n s::[many R]) w:=by
   revert w
   exact zc0
  exact h5
 ·rintro ly k args R1 ⟨⟩ hk rfl
  obtain⟨o,rfl,hol,hfit,hsl⟩:=Ykl (id:=id) hh hk
  dsimp only[Uc,List.cons_append,List.nil_append]
  have hrx:∀{H':List HP},(∀w,St B w0 H' w->St B w0 [many R] w)->Rd B w0 H' s.A (s.cells.flatMap celF):=λh=>hr.mono h
  refine zX3 ?_
  apply JB Yy
  intro R2
  have hpl:posE s.cells (slot,(o:Int),l.1,l.2.1,id)<=s.cells.length:=(Ygz ho _).1
  refine zX24 ?_<;>intros
  rename_i g11
  first|apply Yb Ytn|apply Yc Ytn
  exact za
  exact rfl
  exactλ_ hw=>(YgG s.cells (slot,(o:Int),l.1,l.2.1,id) ho (by omega) (hrx zc0) hw)
  refine zX9 ?_
  apply Qa (.p1 0 (.p1 1 (.p1 2 (.p1 4 (.p1 5 (.d2 3 (.d1 6 (.d1 7 (.d1 8 (.d1 9 .done)))) 6 (.d1 3 (.d1 7 (.d1 8 (.d1 9 .done)))))))))) [10] [true,false,false,false,false,false,false,true,false,false,false,true]
  kernel_rfl
  kernel_rfl
  exact zy
  (simp only[Ye,nthO];rfl)
  repeat'(first|((apply Yg _ Yln);exact za;exact rfl;exactλ_ hw=>VS s.cells (by omega) (hrx zk) hw;rintro _ _ ⟨A1,cap1,rfl,rfl⟩)|(apply Vp T T2;(iterate 7 exact rfl);intro gv)|(apply XQ [cels A1 cap1 s.cells,blk gv (.cells #[.int .i64 slot,.int .i64 (o:Int),.int .i64 l.1,.int .i64 l.2.1,.int .i64 id] 48 (0,0))] _ YwG;exact za;try exact zl;exact zp;exact rfl;exactλ_ hw=>Ygf s.cells _ (slot,(o:Int),l.1,l.2.1,id) hpl (by omega) hw;rintro _ _ ⟨A2,cap2,rfl,rfl⟩)|(apply Yk8;(simp only[nthO];rfl))|(apply Yk6;(simp only[nthO];rfl);exact zp)|(apply Yk7;(simp only[nthO];rfl);(simp only[nthO];rfl);exact zp)|(apply Qe;try exact zl)|refine zgd ?_|fail)
  all_goals(
   refine Qd [blk g9 (.cells #[.bool true] 4 (0,0)),grdA g8 n ⟨s.len,s.off,A2,cap2,insC s.cells (slot,(o:Int),l.1,l.2.1,id)⟩,cels A2 cap2 (insC s.cells (slot,(o:Int),l.1,l.2.1,id))] ⟨rfl,A2,cap2,(o:Int),hsl,rfl⟩ ?_
   dsimp only[List.cons_append,List.nil_append]
   unfold insC
   exact zk)
 ·rintro D ⟨⟩ hI
  have hnone:=Ykk (id:=id) hh hI
  dsimp only[List.cons_append,List.nil_append]
  refine zX2 ?_
  apply Zx Yy
  apply VQ_m
  apply YbZ T (H2:=[many R]);(iterate 3 exact rfl);(focus exact zc2);(focus exact zc2);(iterate 3 exact rfl);(intro w hw;refine hw.perm ?_;focus exact zc5)
  exact .inr (.inl ⟨rfl,hnone,rfl⟩)
 ·rintro D e K ⟨rfl,A,cap,o,hsl,rfl⟩ hjmp
  dsimp only[List.cons_append,List.nil_append]
  refine zX2 ?_
  apply Zx Yy
  apply VQ_m
  apply YbZ T (H2:=[cels A cap (insC s.cells (slot,o,l.1,l.2.1,id)),many R]);(iterate 3 exact rfl);(focus exact zc2);(focus exact zc2);(iterate 3 exact rfl);(intro w hw;refine hw.perm ?_;focus exact zc5)
  exact .inr (.inr ⟨A,cap,_,rfl,hsl,rfl⟩)
variable {n:Net}
theorem Sm.few{l:List Flw}{s:Sch}(h:Sm n l s)(hl:s.len<=24):s.cells.length<=768:=by
 have hok:=YT h.ck
 have hnd:(s.cells.map λc=>c.1*32+Yr c).Nodup:=by
  refine NU.2 (h.once.imp_of_mem λ{a b} ha hb hab e=>?_)
  have h1:=Xu hok (h.good a ha).1
  have h2:=Xu hok (h.good b hb).1
  have hn:=hok.n1
  grind [YI]
 have:=Go.Nw.nodup_len 768 _ hnd λx hx=>by
  obtain⟨c,hc,rfl⟩:=TD.1 hx
  have h1:=Xu hok (h.good c hc).1
  have hn:=hok.n1
  have hf:=h.formed c hc
  unfold ZA ZC insE at hf
  grind
 simp_all
variable {B:Nat}{w0 w:World}{H:List HP}
theorem Yqn(n:NetM)(s:SchM)(l:Lk)(id slot:Int)(hck:Yq n.net=0)(hl:s.cells.length<=900)(hoff:0<=s.off/\s.off<=16)(ho:Ord s.cells)(hin:n.In B w0 H)(hr:Rd B w0 H s.A (s.cells.flatMap celF))(hw:St B w0 H w):
 CX B w0 409 [grdV n s,lkV l,.int .i64 id,.int .i64 slot] w λv K=>
  (v=.tuple #[grdV n s,.bool true]/\Jt n.net s.sch l.1 l.2.1 id slot=some s.sch/\K=H)\/
  (v=.tuple #[grdV n s,.bool false]/\Jt n.net s.sch l.1 l.2.1 id slot=none/\K=H)\/
  ∃A cap c,v=.tuple #[grdV n ⟨s.len,s.off,A,cap,insC s.cells c⟩,.bool true]/\Jt n.net s.sch l.1 l.2.1 id slot=some ⟨s.len,s.off,insC s.cells c⟩/\K=cels A cap (insC s.cells c)::H:=by
 have hop:∀w,St B w0 [many H] w->St B w0 H w:=λw hw=>hw.perm (.openT H)
 refine(YkG n s l id slot hck hl hoff ho (R:=H) (hin.mono hop) (hr.mono hop) (hw.perm (.closeT H))).mono ?_
 rintro e w' ⟨v,K,h1,hst,h⟩
 rcases h with⟨h2,h3,rfl⟩|⟨h2,h3,rfl⟩|⟨A,cap,c,h2,h3,rfl⟩
 ·exact⟨v,_,h1,hop _ hst,.inl ⟨h2,h3,rfl⟩⟩
 ·exact⟨v,_,h1,hop _ hst,.inr (.inl ⟨h2,h3,rfl⟩)⟩
 ·exact⟨v,_,h1,hst.perm (.cons _ (.openT H)),.inr (.inr ⟨A,cap,c,h2,h3,rfl⟩)⟩
structure ReM where
 i:Nat
 s:SchM
 z:Int
 L:List HP
theorem Ykv(m k:Nat)(h:k<m):(List.range m).drop k=k::(List.range m).drop (k+1):=by
 grind [Rb]
theorem Ykc{r:List Int}{k:Nat}(h:k+1<r.length):(YB n r).drop k=X9 n r k::(YB n r).drop (k+1):=by
 unfold YB
 rw[<-NY,<-NY,Ykv _ _ (by omega),Ro]
abbrev flwA(g:Nat)(f:Flw):HP:=blk g (.cells #[.int .i64 f.1,.int .i64 f.2.1,.int .i64 f.2.2.1,.int .i64 f.2.2.2.1,.int .i64 f.2.2.2.2.1,.int .i64 f.2.2.2.2.2] 66 (0,0))
theorem Ym9(n:Net)(a b id:Int)(f:Nat)(s:Sch)(z:Int):hopA n a b id f 0 s z=some (s,z):=by cases f<;>rfl
structure FilI(n:NetM)(L:List Flw)(len off:Int)(B:Nat)(w0:World)(H:List HP)(s:SchM)(P:List HP):Prop where
 sm:Sm n.net L s.sch
 len:s.len=len
 off:s.off=off
 rd:Rd B w0 (many P::[many H]) s.A (s.cells.flatMap celF)
theorem Yed(n:NetM)(L:List Flw)(s:SchM)(f:Flw)(r:RowM)(at_:Int)(hsm:Sm n.net L s.sch)(h24:s.len<=24)(hk:∀x∈YB n.net r.xs,LkOk n.net L x.1 x.2.1 f.1)(hkey:∀i,i+1<r.xs.length->0<=YA n.net (r.xs.getD i 0) (r.xs.getD (i+1) 0))
 (hrl:1<=r.xs.length/\r.xs.length<=9) (hat:0<=at_/\at_<=1000) (hd:0<=f.2.2.2.2.2/\f.2.2.2.2.2<=512) {R:List HP}(hin:n.In B w0 H) (hr:Rd B w0 H s.A (s.cells.flatMap celF)) (hrr:Rd B w0 H r.A (r.xs.flatMap numF)) (hw:St B w0 (many R::H) w):
 CX B w0 372 [grdV n s,flwV f,.slice r.A r.xs.length r.cap,.int .i64 at_] w λv K=>∃s' ok P,v=.tuple #[grdV n s',.bool ok]/\
  (ok=true->relA n.net f.1 (at_+f.2.2.2.2.2) (YB n.net r.xs) s.sch at_=some s'.sch/\Rd B w0 (many P::H) s'.A (s'.cells.flatMap celF))/\(ok=false->relA n.net f.1 (at_+f.2.2.2.2.2) (YB n.net r.xs) s.sch at_=none)/\K=many P::many R::H:=by
 refine Ya Tryz.func372 Tryz.ntmps372 rfl rfl hw ?_
 have hop:∀w,St B w0 [many H] w->St B w0 H w:=λw hw=>hw.perm (.openT H)
 have hin:=hin.mono hop
 have hr:=hr.mono hop
 have hrr:=hrr.mono hop
 have hok:=YT hsm.ck
 obtain⟨endd,hend⟩:∃e,at_+f.2.2.2.2.2=e:=⟨_,rfl⟩
 obtain⟨RR,hRR⟩:∃R,relA n.net f.1 endd (YB n.net r.xs) s.sch at_=R:=⟨_,rfl⟩
 rw[hend,hRR]
 have hsz:1<=s.len/\s.len<=512/\1<=s.off/\s.off<=16:=TV hsm.sized
 refine Y8 (many R::[many H]) (λw hw=>hw.perm (.cons _ (.closeT H))) ?_
 refine Y8 (many []::many R::[many H]) (λw hw=>hw.perm (.noMany _)) ?_
 unfold grdV flwV
 repeat'(first|refine zgc ?_|(refine zgh ?_;intro _)|fail)
 rename_i g4 g5 g8
 rw[hend]
 refine Yi (λz:ReM=>[(11,.int .i64 (z.i:Nat)),(10,.int .i64 endd),(9,.bool false),(3,.int .i64 z.z),(2,.slice r.A r.xs.length r.cap),(4,.pointer (some ⟨g4,0,none⟩)),(5,.pointer (some ⟨g5,0,none⟩)),(8,.pointer (some ⟨g8,0,none⟩))])
  (λz=>grdA g4 n z.s::flwA g5 f::blk g8 (.cells #[.int .i64 0,.slice none 0 0,.int .i64 0,.int .i64 0,.slice none 0 0,.slice none 0 0,.int .i64 0,.int .i64 0,.slice none 0 0] 410 (0,0))::many z.L::many R::[many H])
  (λz=>(1<=z.i/\z.i<=r.xs.length)/\FilI n L s.len s.off B w0 H z.s z.L/\(0<=z.z/\z.z<=endd)/\relA n.net f.1 endd ((YB n.net r.xs).drop (z.i-1)) z.s.sch z.z=RR) (λz=>r.xs.length-z.i) ⟨1,s,at_,[]⟩ ⟨⟨by show 1<=1;omega,hrl.1⟩,⟨hsm,rfl,rfl,hr.cons⟩,⟨hat.1,by show at_<=endd;omega⟩,hRR⟩ ?_ ?_ ?_
 ·exact zc1
 ·intro w hw
  have h5:St B w0 (grdA g4 n s::flwA g5 f::blk g8 (.cells (Value.agg #[.int .i64 0,.slice none 0 0,.int .i64 0,.int .i64 0,.slice none 0 0,.slice none 0 0,.int .i64 0,.int .i64 0,.slice none 0 0]).cells 410 (0,0))::many []::many R::[many H]) w:=by
   revert w
   exact zc0
  exact h5
 rintro⟨i,s1,z,P⟩ ⟨⟨hi1,hi2⟩,hF,hz,hrel⟩ K hK
 dsimp only at hi1 hi2 hF hz hrel⊢
 by_cases hlt:i<r.xs.length
 rotate_left
 ·obtain rfl:i=r.xs.length:=by omega
  clear hK
  rw[Rw (by unfold YB;simp)]at hrel
  refine zX1 ?_<;>intros
  apply Yv T (H2:=many P::many R::H);(iterate 3 exact rfl);(focus exact zc2);exact rfl;exact rfl
  ·intro w hw
   have h5:St B w0 (many P::many R::[many H]) w:=by
    revert w
    exact zc0
   exact Yl7
  exact zc96
 obtain⟨k,rfl⟩:∃k,i=k+1:=⟨i-1,by omega⟩
 rw[SY,Ykc hlt]at hrel
 obtain⟨a,ha⟩:∃a,r.xs[(((k+1:Nat):Int)-1).toNat]? =some a:=⟨_,Ta (by omega)⟩
 obtain⟨b,hb⟩:∃b,r.xs[((k+1:Nat):Int).toNat]? =some b:=⟨_,Ta (by omega)⟩
 have ha2:r.xs.getD k 0=a:=by rw[Tz,<-show(((k+1:Nat):Int)-1).toNat=k by omega,ha];rfl
 have hb2:r.xs.getD (k+1) 0=b:=by rw[Tz,<-show((k+1:Nat):Int).toNat=k+1 by omega,hb];rfl
 have hfi:=hkey k hlt
 rw[ha2,hb2]at hfi
 have hfl:=Zl hfi
 have hlk:n.links[(YA n.net a b).toNat]? =some (X9 n.net r.xs k):=by
  unfold X9
  rw[ha2,hb2]
  obtain⟨x,hx⟩:∃x,n.links[(YA n.net a b).toNat]? =some x:=⟨_,Ta hfl⟩
  rw[Ve (n:=n.net) hx];exact hx
 obtain⟨lk,hlkd⟩:∃lk,X9 n.net r.xs k=lk:=⟨_,rfl⟩
 rw[hlkd]at hlk hrel
 have pi:=λ{H':List HP}{w:World}(hin:n.In B w0 H') (hw:St B w0 H' w)=>XM n a b hin hw
 rw[show XG n.net a b=YA n.net a b by unfold XG;rw[Tf (λe=>e hsm.ck)]]at pi
 unfold NetM.val at pi
 have hnl:n.links.length<=128:=hok.k0
 have hnlk:=hin.lk
 have hfl2:(YA n.net a b).toNat<n.links.length:=hfl
 refine zX5 ?_<;>intros
 refine XE (λg12:Nat=>[(12,.pointer (some ⟨g12,0,none⟩)),(11,.int .i64 ((k+1:Nat):Int)),(10,.int .i64 endd),(9,.bool false),(3,.int .i64 z),(2,.slice r.A r.xs.length r.cap),(4,.pointer (some ⟨g4,0,none⟩)),(5,.pointer (some ⟨g5,0,none⟩)),(8,.pointer (some ⟨g8,0,none⟩))])
  (λg12=>lnkA g12 lk::grdA g4 n s1::flwA g5 f::blk g8 (.cells #[.int .i64 0,.slice none 0 0,.int .i64 0,.int .i64 0,.slice none 0 0,.slice none 0 0,.int .i64 0,.int .i64 0,.slice none 0 0] 410 (0,0))::many P::many R::[many H]) ?_ ?_
 ·intro K2 hK2
  apply J9 (.n1 0 (.n1 1 (.n1 2 (.n1 3 (.n1 4 (.n1 5 (.n1 6 (.n1 7 (.n1 8 (.n1 9 (.n1 10 (.n1 11 (.n1 12 (.n1 13 (.n2 14 (.n1 15 (.n1 16 (.n1 17 .done))) 17 (.n1 14 (.n1 15 (.n1 16 .done)))))))))))))))))) [18] [true,true,true,true,true,true]
  kernel_rfl
  kernel_rfl
  exact zy
  (simp only[Ye,nthO];rfl)
  repeat'(first|((first|apply Yb en69|apply Yc en69);exact za;exact rfl;exactλ_ hw=>(pi (hin.mono zk) hw))|(apply Yf T;exact rfl;exact zm;exact rfl;exact zv;exact rfl;exact rfl)|(apply Yj;try exact zl)|apply(zs91 ?_ ?_)|(apply Y3;try exact zl)|refine zgd ?_|(refine zgh ?_;intro _)|fail)
  all_goals(
   rename_i g12
   apply hK2 g12
   ·exact zu
   ·exact zk)
 rintro g12
 dsimp only
 have hlb:=YbB hok (r.xs.getD k 0) (r.xs.getD (k+1) 0)
 have hlb2:0<=lk.2.2/\lk.2.2<=7:=by rw[<-hlkd];exact hlb
 obtain⟨HR,hHR⟩:∃R,hopA n.net lk.1 lk.2.1 f.1 (endd-z).toNat (YV lk) s1.sch z=R:=⟨_,rfl⟩
 rw[relA,hHR]at hrel
 have hnd:lk.2.2+1=((YV lk:Nat):Int):=by unfold YV;omega
 have hkl:LkOk n.net L lk.1 lk.2.1 f.1:=hk lk (by rw[<-hlkd];exact RA (Ru.2 (by omega)))
 refine zX9 ?_
 rw[hnd]
 refine Yi (λy:ReM=>[(13,.int .i64 (y.i:Nat)),(12,.pointer (some ⟨g12,0,none⟩)),(11,.int .i64 ((k+1:Nat):Int)),(10,.int .i64 endd),(9,.bool false),(3,.int .i64 y.z),(2,.slice r.A r.xs.length r.cap),(4,.pointer (some ⟨g4,0,none⟩)),(5,.pointer (some ⟨g5,0,none⟩)),(8,.pointer (some ⟨g8,0,none⟩))])
  (λy=>lnkA g12 lk::grdA g4 n y.s::flwA g5 f::blk g8 (.cells #[.int .i64 0,.slice none 0 0,.int .i64 0,.int .i64 0,.slice none 0 0,.slice none 0 0,.int .i64 0,.int .i64 0,.slice none 0 0] 410 (0,0))::many y.L::many R::[many H])
  (λy=>FilI n L s.len s.off B w0 H y.s y.L/\(0<=y.z/\y.z<=endd)/\y.i<=8/\hopA n.net lk.1 lk.2.1 f.1 (endd-y.z).toNat y.i y.s.sch y.z=HR) (λy=>(endd-y.z).toNat) ⟨YV lk,s1,z,P⟩ ⟨hF,hz,by show YV lk<=8;omega,hHR⟩ ?_ ?_ ?_
 ·exact zc1
 ·exact zc0
 clear hF hz hHR
 rintro⟨m,s2,y,P2⟩ ⟨hF,hz,hm8,hHR⟩ K2 hK2
 dsimp only at hF hz hm8 hHR⊢
 cases m with
 |zero=>
  rw[Ym9]at hHR
  subst hHR
  dsimp only at hrel
  clear hK2
  refine zX1 ?_<;>intros
  apply hK ⟨k+1+1,s2,y,P2⟩
  ·exact⟨⟨by show 1<=k+1+1;omega,by show k+1+1<=_;omega⟩,hF,hz,hrel⟩
  ·exact zc54
  ·exact zc1
  ·exact zc0
 |succ m=>
 by_cases hlt2:y<endd
 rotate_left
 ·rw[show(endd-y).toNat=0 by omega,hopA]at hHR
  subst hHR
  dsimp only at hrel
  clear hK2 hK
  refine zX0 ?_<;>intros
  apply Yv T (H2:=many P2::many R::H);(iterate 3 exact rfl);(focus exact zc2);exact rfl;exact rfl
  ·intro w hw
   have h5:St B w0 (many P2::many R::[many H]) w:=by
    revert w
    exact zc0
   exact Yl7
  exact⟨s2,false,P2,rfl,λh=>(by cases h),λ_=>hrel.symm,rfl⟩
 have hfew:=hF.sm.few (by show s2.len<=24;rw[hF.len];exact h24)
 have h2l:=hF.len
 have h2o:=hF.off
 have ps:=λ{H':List HP}{w:World}(hin:n.In B w0 H') (hr:Rd B w0 H' s2.A (s2.cells.flatMap celF)) (hw:St B w0 H' w)=>Yqn n s2 lk f.1 (y%s2.len) hsm.ck (by have:s2.sch.cells.length=s2.cells.length:=rfl;omega) ⟨by omega,by omega⟩ hF.sm.ord hin hr hw
 unfold grdV lkV at ps
 rw[show(endd-y).toNat=(endd-(y+1)).toNat+1 by omega,hopA,Rj hz.1]at hHR
 refine zX1 ?_<;>intros
 apply Ue [0,1,2,3,4,5,6,7,8,9,10,12,11] [12,13,14] [13,14] [true,true,true,true,true,true,true]
 kernel_rfl
 kernel_rfl
 exact zy
 (simp only[Ye,nthO];rfl)
 (simp only[Ye,nthO];rfl)
 refine zX2 ?_
 apply Yg _ Ywz
 exact za
 exact rfl
 exactλ_ hw=>(ps (hin.mono zc0) (hF.rd.mono zc0) (hw))
 rintro _ _ (⟨rfl,hs,rfl⟩|⟨rfl,hs,rfl⟩|⟨A3,cap3,c3,rfl,hs,rfl⟩)
 ·rw[show Jt n.net s2.sch lk.1 lk.2.1 f.1 (y%s2.sch.len)=some s2.sch from hs]at hHR
  dsimp only at hHR
  refine zX16 ?_
  rw[show((m+1:Nat):Int)-1=(m:Nat) by omega]
  apply hK2 ⟨m,s2,y+1,P2⟩
  ·exact⟨hF,⟨by show 0<=y+1;omega,by show y+1<=endd;omega⟩,by show m<=8;omega,hHR⟩
  ·exact zc54
  ·exact zc1
  ·exact zc0
 ·rw[show Jt n.net s2.sch lk.1 lk.2.1 f.1 (y%s2.sch.len)=none from hs]at hHR
  dsimp only at hHR
  refine zX16 ?_
  apply hK2 ⟨m+1,s2,y+1,P2⟩
  ·exact⟨hF,⟨by show 0<=y+1;omega,by show y+1<=endd;omega⟩,hm8,hHR⟩
  ·exact zc54
  ·exact zc1
  ·exact zc0
 ·rw[show Jt n.net s2.sch lk.1 lk.2.1 f.1 (y%s2.sch.len)=some ⟨s2.len,s2.off,insC s2.cells c3⟩ from hs]at hHR
  dsimp only at hHR
  have hmz:0<=y%s2.len/\y%s2.len<s2.len:=⟨Ns _ (by omega),S0 _ (by omega)⟩
  obtain⟨hsm3,-,-⟩:=YiQ hF.sm hkl hmz hs
  have hop3:∀w,St B w0 (many (cels A3 cap3 (insC s2.cells c3)::[many P2])::[many H]) w->St B w0 (cels A3 cap3 (insC s2.cells c3)::many P2::[many H]) w:=λw hw=>hw.perm (.open_ [_,_] [many H])
  refine zX16 ?_
  rw[show((m+1:Nat):Int)-1=(m:Nat) by omega]
  apply hK2 ⟨m,⟨s2.len,s2.off,A3,cap3,insC s2.cells c3⟩,y+1,cels A3 cap3 (insC s2.cells c3)::[many P2]⟩
  ·exact⟨⟨hsm3,h2l,h2o,(Rd.sl (.head _)).mono hop3⟩,⟨by show 0<=y+1;omega,by show y+1<=endd;omega⟩,by show m<=8;omega,hHR⟩
  ·exact zc54
  ·exact zc1
  ·intro w hw
   have h5:St B w0 (lnkA g12 lk::grdA g4 n ⟨s2.len,s2.off,A3,cap3,insC s2.cells c3⟩::flwA g5 f::blk g8 (.cells #[.int .i64 0,.slice none 0 0,.int .i64 0,.int .i64 0,.slice none 0 0,.slice none 0 0,.int .i64 0,.int .i64 0,.slice none 0 0] 410 (0,0))::cels A3 cap3 (insC s2.cells c3)::many P2::many R::[many H]) w:=by
    revert w
    exact zc0
   exact h5.perm (.cons _ (.cons _ (.cons _ (.cons _ (.close [_,_] (many R::[many H]))))))
structure Yn9(n:NetM)(L:List Flw)(id:Int)(r:RowM):Prop where
 lk:∀x∈YB n.net r.xs,LkOk n.net L x.1 x.2.1 id
 key:∀i,i+1<r.xs.length->0<=YA n.net (r.xs.getD i 0) (r.xs.getD (i+1) 0)
 len:1<=r.xs.length/\r.xs.length<=9
structure PlM2 where
 i:Nat
 s:SchM
 P:List HP
theorem YiC(n:NetM)(L:List Flw)(s:SchM)(x:RqM)(hsm:Sm n.net L s.sch)(h24:s.len<=24)(hrow:∀r∈x.rows,Yn9 n L x.f.1 r)(hf:YX n.net.nodes x.f=0){B:Nat}{w0:World}{H:List HP}{w:World}(hin:n.In B w0 H)(hr:Rd B w0 H s.A (s.cells.flatMap celF))(hx:x.In B w0 H)(hw:St B w0 H w):
 CX B w0 293 [n.val,s.val,rqV x] w λv K=>∃(s':SchM) (ok:Bool) (P:List HP),v=.tuple #[s'.val,.bool ok]/\
  (ok=true->Ub n.net x.f (x.rows.map (·.xs)) s.sch=some s'.sch/\Rd B w0 (many P::H) s'.A (s'.cells.flatMap celF))/\(ok=false->Ub n.net x.f (x.rows.map (·.xs)) s.sch=none)/\K=many P::H:=by
 refine Ya Tryz.func293 Tryz.ntmps293 rfl rfl hw ?_
 have hop:∀w,St B w0 [many H] w->St B w0 H w:=λw hw=>hw.perm (.openT H)
 have hin:=hin.mono hop
 have hr:=hr.mono hop
 have hx:=hx.mono hop
 obtain⟨-,hper,hph,-,hd⟩:=JF hf
 have hxr:=hx.rt
 have hxl:=hx.ln
 obtain⟨RR,hRR⟩:∃R,Ub n.net x.f (x.rows.map (·.xs)) s.sch=R:=⟨_,rfl⟩
 rw[hRR]
 have hsz:1<=s.len/\s.len<=512/\1<=s.off/\s.off<=16:=TV hsm.sized
 refine Y8 [many H] (λw hw=>hw.perm (.closeT H)) ?_
 refine Y8 (many []::[many H]) (λw hw=>hw.perm (.noMany _)) ?_
 unfold NetM.val SchM.val rqV
 refine zX24 ?_<;>intros
 rename_i g3 g4 g5 g6 g8
 refine Yi (λz:PlM2=>[(19,.int .i64 (z.i:Nat)),(18,.int .i64 x.rows.length),(17,.slice x.A x.rows.length x.cap),(9,.bool true),(7,.bool false),(8,.pointer (some ⟨g8,0,none⟩)),(6,.pointer (some ⟨g6,0,none⟩)),(5,.pointer (some ⟨g5,0,none⟩)),(4,.pointer (some ⟨g4,0,none⟩)),(3,.pointer (some ⟨g3,0,none⟩))])
  (λz=>grdA g8 n z.s::blk g6 (.cells #[.int .i64 0,.int .i64 0,.slice none 0 0] 30 (0,0))::rqA g5 x::schA g4 s::many z.P::[many H])
  (λz=>z.i<=x.rows.length/\FilI n L s.len s.off B w0 H z.s z.P/\Ub n.net x.f ((x.rows.map (·.xs)).drop z.i) z.s.sch=RR) (λz=>x.rows.length-z.i) ⟨0,s,[]⟩ ⟨Ti _,⟨hsm,rfl,rfl,hr.cons⟩,hRR⟩ ?_ ?_ ?_
 ·exact zc1
 ·intro w hw
  have h5:St B w0 (grdA g8 n s::blk g6 (.cells (Value.agg #[.int .i64 0,.int .i64 0,.slice none 0 0]).cells 30 (0,0))::rqA g5 x::schA g4 s::many []::[many H]) w:=by
   revert w
   exact zc0
  exact h5
 rintro⟨i,s1,P⟩ ⟨hi,hF,hrel⟩ K hK
 dsimp only at hi hF hrel⊢
 by_cases hlt:i<x.rows.length
 rotate_left
 ·obtain rfl:i=x.rows.length:=by omega
  clear hK
  rw[Rw (by rw[Tv];exact TM _)]at hrel
  refine Yjd ?_<;>intros
  apply Yv T (H2:=many P::H);(iterate 3 exact rfl);(focus exact zc2);exact rfl;exact rfl
  ·intro w hw
   have h5:St B w0 (many P::[many H]) w:=by
    revert w
    exact zc0
   exact Yma
  exact zc96
 obtain⟨r,hrx⟩:∃r,x.rows[i]? =some r:=⟨_,Ta hlt⟩
 have hrm:r∈x.rows:=Td hrx
 have hro:=hrow r hrm
 have hdrop:(x.rows.map (·.xs)).drop i=r.xs::(x.rows.map (·.xs)).drop (i+1):=by
  have hl2:i<(x.rows.map (·.xs)).length:=by rw[Tv];exact hlt
  rw[Rb hl2]
  congr 1
  have h6:(x.rows.map (·.xs))[i]? =some r.xs:=by rw[TS,hrx];rfl
  rw[Ta hl2]at h6
  exact Tn h6
 rw[hdrop,Ub]at hrel
 obtain⟨HR,hHR⟩:∃R,Yfp n.net x.f (YB n.net r.xs) s1.sch.len.toNat s1.sch x.f.2.2.2.2.1=R:=⟨_,rfl⟩
 rw[hHR]at hrel
 have hl1:s1.sch.len=s.len:=hF.len
 rw[hl1]at hHR
 refine zX0 ?_<;>intros
 refine Yi (λz:PlM2=>[(12,.int .i64 (x.f.2.2.2.2.1+(z.i:Int)*x.f.2.2.2.1)),(11,.slice r.A r.xs.length r.cap),(19,.int .i64 (i:Nat)),(18,.int .i64 x.rows.length),(17,.slice x.A x.rows.length x.cap),(9,.bool true),(7,.bool false),(8,.pointer (some ⟨g8,0,none⟩)),(6,.pointer (some ⟨g6,0,none⟩)),(5,.pointer (some ⟨g5,0,none⟩)),(4,.pointer (some ⟨g4,0,none⟩)),(3,.pointer (some ⟨g3,0,none⟩))])
  (λz=>grdA g8 n z.s::blk g6 (.cells #[.int .i64 0,.int .i64 0,.slice none 0 0] 30 (0,0))::rqA g5 x::schA g4 s::many z.P::[many H])
  (λz=>z.i<=s.len.toNat/\FilI n L s.len s.off B w0 H z.s z.P/\Yfp n.net x.f (YB n.net r.xs) (s.len.toNat-z.i) z.s.sch (x.f.2.2.2.2.1+(z.i:Int)*x.f.2.2.2.1)=HR) (λz=>s.len.toNat-z.i) ⟨0,s1,P⟩ ⟨Ti _,hF,by simpa using hHR⟩ ?_ ?_ ?_
 ·dsimp only
  rw[show x.f.2.2.2.2.1+((0:Nat):Int)*x.f.2.2.2.1=x.f.2.2.2.2.1 by simp]
  exact zc1
 ·exact zc0
 clear hF hHR hl1
 rintro⟨j,s2,P2⟩ ⟨hj,hF,hHR⟩ K2 hK2
 dsimp only at hj hF hHR⊢
 have hl2:s2.sch.len=s.len:=hF.len
 obtain⟨y,hy⟩:∃y:Int,x.f.2.2.2.2.1+(j:Int)*x.f.2.2.2.1=y:=⟨_,rfl⟩
 have hjy:(j:Int)<=(j:Int)*x.f.2.2.2.1:=by
  have:=RH hper.1 (show(0:Int)<=j by omega)
  rw[Int.mul_one]at this
  exact this
 rw[hy]at hHR⊢
 by_cases hyl:y<s.len
 rotate_left
 ·have hHR2:HR=some s2.sch:=by
   rw[<-hHR]
   cases s.len.toNat-j with
   |zero=>rfl
   |succ k=>rw[Yfp,Tf (by rw[hl2];exact hyl)]
  rw[hHR2]at hrel
  dsimp only at hrel
  clear hK2
  refine zX1 ?_<;>intros
  apply hK ⟨i+1,s2,P2⟩
  ·exact⟨by exact YdU,hF,hrel⟩
  ·exact zc54
  ·exact zc1
  ·exact zc0
 obtain⟨k,hk⟩:∃k,s.len.toNat-j=k+1:=⟨s.len.toNat-j-1,by omega⟩
 rw[hk,Yfp,Tm (by rw[hl2];exact hyl)]at hHR
 have hxw:=hx.rw_ r hrm
 have pr:=λ{R':List HP}{w:World}(hw:St B w0 (many R'::many P2::[many H]) w)=>Yed n L s2 x.f r y hF.sm (by have:=hF.len;omega) hro.lk hro.key hro.len ⟨by omega,by omega⟩ ⟨by omega,by omega⟩ (R:=R') (H:=many P2::[many H]) hin.cons hF.rd hxw.cons hw
 unfold grdV flwV at pr
 repeat'(first|(apply Yf T;exact rfl;exact zm;exact rfl;exact zv;exact rfl;exact rfl)|refine zgb ?_|(refine zge ?_ ?_<;>intro _<;>try exact zo)|fail)
 apply Zn (many [grdA g8 n s2,blk g6 (.cells #[.int .i64 0,.int .i64 0,.slice none 0 0] 30 (0,0)),rqA g5 x,schA g4 s]::many P2::[many H])
 ·intro w hw
  have h5:St B w0 (grdA g8 n s2::blk g6 (.cells #[.int .i64 0,.int .i64 0,.slice none 0 0] 30 (0,0))::rqA g5 x::schA g4 s::many P2::[many H]) w:=by
   revert w
   exact zc0
  exact h5.perm (.close [_,_,_,_] (many P2::[many H]))
 apply Yg _ Yww
 exact za
 exact rfl
 exactλ_ hw=>(pr (hw))
 rintro _ _ ⟨s3,ok,P3,rfl,ho1,ho2,rfl⟩
 apply Zn (many P3::grdA g8 n s2::blk g6 (.cells #[.int .i64 0,.int .i64 0,.slice none 0 0] 30 (0,0))::rqA g5 x::schA g4 s::many P2::[many H])
 ·exactλw hw=>hw.perm (.cons _ (.open_ [_,_,_,_] (many P2::[many H])))
 cases ok with
 |false=>
  have hn:=ho2 rfl
  rw[hn]at hHR
  dsimp only at hHR
  rw[<-hHR]at hrel
  dsimp only at hrel
  clear hK hK2
  refine zX2 ?_
  apply Yv T (H2:=many P2::H);(iterate 3 exact rfl);(focus exact zc2);exact rfl;exact rfl
  ·intro w hw
   have h5:St B w0 (many P2::[many H]) w:=by
    revert w
    exact zc0
   exact Yma
  exact⟨s,false,P2,rfl,λh=>(by cases h),λ_=>hrel.symm,rfl⟩
 |true=>
  obtain⟨h1,hrd3⟩:=ho1 rfl
  rw[h1]at hHR
  dsimp only at hHR
  obtain⟨hsm3,hg3,-⟩:=YlX (YB n.net r.xs) hro.lk hF.sm (by omega) (by omega) (by rw[hl2];omega) h1
  have h3l:s3.len=s.len:=hg3.len.trans hF.len
  have h3o:s3.off=s.off:=hg3.off.trans hF.off
  have hyn:x.f.2.2.2.2.1+((j+1:Nat):Int)*x.f.2.2.2.1=y+x.f.2.2.2.1:=by
   rw[<-hy,show((j+1:Nat):Int)=(j:Int)+1 by omega,Int.add_mul];omega
  refine zX2 ?_
  apply hK2 ⟨j+1,s3,[many P3,many P2]⟩
  ·refine⟨by show j+1<=_;omega,⟨hsm3,h3l,h3o,hrd3.mono λw hw=>hw.perm (.open_ [_,_] [many H])⟩,?_⟩
   dsimp only
   rw[hyn,show s.len.toNat-(j+1)=k by omega]
   exact hHR
  ·exact zc54
  ·dsimp only
   rw[hyn]
   exact zc1
  ·intro w hw
   have h5:St B w0 (grdA g8 n s3::blk g6 (.cells #[.int .i64 0,.int .i64 0,.slice none 0 0] 30 (0,0))::rqA g5 x::schA g4 s::many P3::many P2::[many H]) w:=by
    revert w
    exact zc0
   exact h5.perm (.cons _ (.cons _ (.cons _ (.cons _ (.close [_,_] [many H])))))
theorem Ybe(n:NetM)(q:List RqM)(s:SchM){A:Option Addr}{cap B:Nat}{w0:World}{H:List HP}{w:World}(ht:TabsB B w0)(hin:n.In B w0 H)(hq:QIn B w0 H A q)(hrs:Rd B w0 H s.A (s.cells.flatMap celF))(hsl:s.cells.length<=1000000000000)(hw:St B w0 H w):
 CX B w0 166 [n.val,.slice A q.length cap,s.val] w λv K=>v=.bool (decide ((Y4 n.net (q.map RqM.rq) s.sch).2.2=0))/\K=H:=by
 refine Ya Tryz.func166 Tryz.ntmps166 rfl rfl hw ?_
 have p1:=λ{H':List HP}{w:World}(hin:n.In B w0 H') (hq:QIn B w0 H' A q) (hrs:Rd B w0 H' s.A (s.cells.flatMap celF)) (hw:St B w0 H' w)=>Uz n q s (cap:=cap) ht hin hq hrs hsl hw
 unfold OutC NetM.val SchM.val at p1
 obtain⟨⟨RC,ri,re⟩,hR⟩:∃R,Y4 n.net (q.map RqM.rq) s.sch=R:=⟨_,rfl⟩
 rw[hR]at p1⊢
 dsimp only at p1⊢
 unfold NetM.val SchM.val
 refine zX71 ?_<;>intros
 apply Yg _ en40
 exact za
 exact rfl
 exactλ_ hw=>(p1 hin.cons.cons hq.cons.cons hrs.cons.cons (hw))
 rintro _ _ ⟨A2,cap2,C,rfl,hC,hCl,rfl⟩
 by_cases h0:re=0
 ·rw[Tj h0]
  refine Wq ?_<;>intros
  apply Yh H
  ·exact zc0
  apply Yd;exact rfl;exact rfl;grind
 ·rw[Tu h0]
  refine Wq ?_<;>intros
  apply Yh H
  ·exact zc0
  exact zc12
def rqs(A:Option Addr)(cap:Nat)(l:List RqM):HP:=sl 69 7 A l.length cap (l.flatMap rqF)
theorem Yfq(A:Option Addr)(cap:Nat)(l:List RqM)(x:RqM):sl 69 7 A (l.length+1) cap (l.flatMap rqF++#[Value.int .i64 x.f.1,.int .i64 x.f.2.1,.int .i64 x.f.2.2.1,.int .i64 x.f.2.2.2.1,.int .i64 x.f.2.2.2.2.1,.int .i64 x.f.2.2.2.2.2,.slice x.A x.rows.length x.cap].toList)=rqs A cap (l++[x]):=by
 grind [rqs,rqF]
variable {A:Option Addr}{cap B k gv:Nat}{w0 w:World}{H:List HP}
theorem WD(l:List RqM)(hlen:l.length<=1000000)(hr:Rd B w0 H A (l.flatMap rqF))(hw:St B w0 H w):
 CX B w0 90 [.slice A l.length cap] w λv K=>∃A' cap',v=.slice A' l.length cap'/\K=rqs A' cap' l::H:=by
 cases A with
 |none=>
  have hl:l=[]:=by
   cases l with
   |nil=>rfl
   |cons x l=>
    exact zc30
  subst hl
  refine Ya Tryz.func90 Tryz.ntmps90 rfl rfl hw ?_
  refine zX6 ?_
  apply Xg 69 7;exact zc38
 |some a=>
  refine Ya Tryz.func90 Tryz.ntmps90 rfl rfl hw ?_
  repeat'(first|(apply Zc;(iterate 3 exact rfl))|(apply XA T;exact rfl;exact rfl;intro g2)|refine zga ?_|fail)
  apply Xn T (f:=rqF) (l2:=l) (e:=69) (size:=7) (xs:=[]);(iterate 3 exact rfl);exact hr.cons;exact(λ_=>rfl);exact(λ_=>rfl);exact rfl;(intro _ _;exact zd);omega;intro A' cap'
  exact zc63
section
variable {m:Eng.Mode}{n:Shp}{B d:Nat}{w0:World}{ops:Array Oper}{Q:Exit->Act->World->Prop}{rest:List Oper}{env:Env}{H:List HP}{ty:TypeId}{pos:String}{after:Array Edge}{x y lo:Operand}
variable {gv k cap:Nat}
theorem YfQ{g o la ca lb cb:Nat}{tt:TypeId}{cs:Array Value}{xs:List Value}{tys:Array TypeId}(hx:evo env x=some (.slice (some ⟨gv,0,none⟩) la ca))(hy:evo env y=some (.slice (subA (some ⟨g,0,none⟩) o cap 7) lb cb))(hm1:Eng.blk gv (.cells cs tt (0,0))∈H)(hm2:sl 69 7 (some ⟨g,0,none⟩) k cap xs∈H)
 (hne:∀w,St B w0 H w->gv≠g) (hc:0<cap/\cap≠o) (hn:Nat.ble (d+1) n.k=true) (h:VL Tryz.prog none n B w0 ops Q rest ((d,.bool false)::env) H):
 VL Tryz.prog none n B w0 ops Q (⟨some d,.call ⟨.value (.func 294),#[x,y],tys⟩,ty,pos,after,none⟩::rest) env H:=by
 have hsub:subA (some ⟨g,0,none⟩) o cap 7=some ⟨g,o*7,none⟩:=by
  simp_all [subA,Go.Addr.add_lit]
 rw[hsub]at hy
 refine Xi (λu K'=>u=.bool false/\K'=H) rfl rfl hn (λa w ha hw=>⟨.bool false,H,w,?_,hw,rfl,rfl⟩) zc47
 have hb:=(hw.blk hm1).1
 rcases ZF (hw.sl hm2)with⟨h0,_⟩|⟨g',cur,e0,g1,_,_,g4,_⟩
 ·cases h0
 injection e0 with e0
 injection e0 with e0
 subst e0
 obtain⟨bb,htl⟩:∃bb,Eng.look T.sl 27=some (69,7,bb):=⟨_,rfl⟩
 obtain⟨_,inf,_,hi,_,_,hsi,_⟩:=YJ (T.slic htl)
 have hr:=run_callFunc_extern (P:=Tryz.prog) Tryz.func294 (by kernel_rfl) (by kernel_rfl) (by kernel_rfl) (e:=Extern.SlicesOverlaps.overlaps #[27,27] #[4]) (by kernel_rfl) #[.slice (some ⟨gv,0,none⟩) la ca,.slice (some ⟨g,o*7,none⟩) lb cb] w
 have hov:=Lib.run_overlaps_apart (P:=Tryz.prog) w 27 4 69 Tryz.underlying27 7 (λw=>by simp[sizeOf,typeInfo,hi,hsi]) ⟨gv,0,none⟩ ⟨g,o*7,none⟩ la ca lb cb (hne w hw) tt 69 cs.size cur.size (by simp[World.shape?,hb]) (by simp[World.shape?,g1]) (by rw[g4];omega) Yji Yji
 have he:a.eval (.func 294)=.func (.func 294) #[] #[]:=rfl
 simp[execOp,resolve,invoke,ha.eval hx,ha.eval hy,he,Deferred.ofValue,hr,hov,Result.andThen]
end
theorem YrF(l:List RqM)(c:RqM)(i:Nat)(hk:k=1):(l.take i).take i++[c].take k++(l.take i).drop (i+k)=l.take i++[c]:=by
 grind [Rw]
theorem YrH(l:List RqM)(c:RqM)(i:Nat)(hi:i<=l.length)(hk:k=l.length-i):(l.take i++[c]).take (i+1)++(l.drop i).take k++(l.take i++[c]).drop (i+1+k)=l.take i++c::l.drop i:=Yq0
theorem YrJ(l:List RqM)(i:Nat)(hi:i<=l.length)(hk:k=l.length-i):l.take (i+1)++(l.drop i).take k++l.drop (i+1+k)=l.take (i+1)++l.drop i:=YqT
theorem YrL(l:List RqM)(c:RqM)(i:Nat)(hi:i<l.length)(hk:k=1):(l.take (i+1)++l.drop i).take i++[c].take k++(l.take (i+1)++l.drop i).drop (i+k)=l.take i++c::l.drop i:=by
 grind
theorem Oh(l:List RqM)(c:RqM)(i:Nat)(hi:i<=l.length):(l.take i++c::l.drop i).length=l.length+1:=by
 grind
theorem QC(l:List RqM)(i:Nat)(c:RqM)(hi:i<=l.length)(hlen:l.length<=1000)(hw:St B w0 (rqs A cap l::blk gv (.cells #[.int .i64 c.f.1,.int .i64 c.f.2.1,.int .i64 c.f.2.2.1,.int .i64 c.f.2.2.2.1,.int .i64 c.f.2.2.2.2.1,.int .i64 c.f.2.2.2.2.2,.slice c.A c.rows.length c.cap] 69 (0,0))::H) w):
 CX B w0 208 [.slice A l.length cap,.int .i64 i,.slice (some ⟨gv,0,none⟩) 1 1] w λv K=>∃A' cap',v=.slice A' (l.take i++c::l.drop i).length cap'/\K=rqs A' cap' (l.take i++c::l.drop i)::H:=by
 refine Ya Tryz.func208 Tryz.ntmps208 rfl rfl hw ?_
 unfold rqs
 refine Oa (k:=l.length) (cap:=cap) (by(focus exact zc2)) λhcap=>?_
 have hli:=Oh l c i hi
 have hrv:∀{L:List HP},blk gv (.cells #[.int .i64 c.f.1,.int .i64 c.f.2.1,.int .i64 c.f.2.2.1,.int .i64 c.f.2.2.2.1,.int .i64 c.f.2.2.2.2.1,.int .i64 c.f.2.2.2.2.2,.slice c.A c.rows.length c.cap] 69 (0,0))∈L->Rd B w0 L (some ⟨gv,0,none⟩) (([c]:List RqM).flatMap rqF):=λh=>by
  have h1:=Rd.blk (B:=B) (w0:=w0) (cs:=(rqF c).toArray) h
  rw[show([c]:List RqM).flatMap rqF=(rqF c).toArray.toList by simp]
  exact h1
 have hq7:∀c:RqM,(rqF c).length=7:=λ_=>rfl
 have ho7:∀c:RqM,ZX (rqF c)=true:=λ_=>rfl
 refine zX3 ?_
 apply Yt T i (l.length-i);(iterate 5 exact rfl);exact hi;exact rfl
 by_cases hin:i=l.length
 ·have e1:l.take i++c::l.drop i=l++[c]:=YqX
  rw[e1]
  refine YqJ ?_<;>intros
  rename_i A' cap'
  apply Yh (rqs A' cap' (l++[c])::H)
  ·intro w hw
   rw[<-Yfq]
   revert w
   exact zc0
  exact zc73
 have hlt:i<l.length:=by omega
 have hrs:∀{L:List HP}{g:Nat},sl 69 7 (some ⟨g,0,none⟩) l.length cap (l.flatMap rqF)∈L->Rd B w0 L (subA (some ⟨g,0,none⟩) i cap 7) ((l.drop i).flatMap rqF):=λh=>by
  have h1:=Rd.sub (B:=B) (w0:=w0) (q:=7) (o:=i) (k:=l.length-i) (cap:=cap) hq7 (Rd.sl h) hcap
  exact zc92
 apply Ybw (k:=l.length) (by(focus exact zc2)) (by omega)
 rintro g rfl
 have hA:∃g',(some ⟨g,0,none⟩:Option Addr)=some ⟨g',0,none⟩:=⟨g,rfl⟩
 repeat'(first|(apply UK T;(iterate 3 exact rfl))|refine zgc ?_|(refine zgf ?_ ?_<;>intro _<;>try exact zo)|fail)
 ·apply Zw T (n':=i);(iterate 4 exact rfl);omega;omega;exact hA
  refine zX2 ?_
  rw[show(l.length:Int)+((1:Nat):Int)-(i:Int)=((l.length+1-i:Nat):Int) by omega]
  apply Ww T (e:=69) (size:=7) (k:=l.length) (xs:=l.flatMap rqF);exact rfl;exact rfl;(focus exact zc2);exact rfl;kernel_rfl;exact rfl;kernel_rfl;omega;intro g2 c2 hc2
  rw[show i+(l.length+1-i)=l.length+1 by omega]at hc2⊢
  have e2:sl 69 7 (some ⟨g2,0,none⟩) i c2 ((l.flatMap rqF).take (i*7))=sl 69 7 (some ⟨g2,0,none⟩) (l.take i).length c2 ((l.take i).flatMap rqF):=by
   rw[Xz hq7,TK,Ss hi]
  rw[e2]
  have hA2:∃g',(some ⟨g2,0,none⟩:Option Addr)=some ⟨g',0,none⟩:=⟨g2,rfl⟩
  have htl:(l.take i).length=i:=YdS
  refine zX3 ?_
  apply Yt T i (l.length+1-i);(iterate 5 exact rfl);omega;exact rfl
  refine zX3 ?_
  apply Zb T (l.take i) [c] (l.take i++[c]) (f:=rqF) (o:=i) (cap:=c2);exact rfl;exact rfl;exact hrv (by(focus exact zc2));exact hq7;exact ho7;exact rfl;exact rfl;exact hA2;(simp only[TO];omega);exact YrF l c i (by omega);exact zd
  refine zX3 ?_
  apply Yz [0,1,2,3,4,5,6,7] [8] [true,true,true]
  kernel_rfl
  kernel_rfl
  exact zy
  (simp only[Ye,nthO];rfl)
  (simp only[Ye,nthO];rfl)
  refine zX9 ?_
  apply Yt T (i+1) (l.length+1-(i+1));(iterate 4 exact rfl);omega;omega;exact rfl
  refine zX3 ?_
  apply Yt T i (l.length-i);(iterate 5 exact rfl);omega;exact rfl
  refine zX2 ?_
  apply Zb T (l.take i++[c]) (l.drop i) (l.take i++c::l.drop i) (f:=rqF) (o:=i+1) (cap:=c2);exact rfl;exact rfl;exact hrs (by(focus exact zc2));exact hq7;exact ho7;exact rfl;exact rfl;exact hA2;(simp only[Tt,TK,TO,Rk];omega);exact YrH l c i hi (by omega);exact zd
  refine zX2 ?_
  apply Yh (rqs (some ⟨g2,0,none⟩) c2 (l.take i++c::l.drop i)::H)
  ·unfold rqs
   exact zc0
  exact YqM
 ·apply Zw T (n':=l.length+1);(iterate 4 exact rfl);omega;omega;exact hA
  refine zX9 ?_
  apply Yt T (i+1) (l.length+1-(i+1));(iterate 4 exact rfl);omega;omega;exact rfl
  apply YfQ (gv:=gv) (g:=g) (o:=i+1) (cap:=cap) (k:=l.length) (xs:=l.flatMap rqF);exact rfl;exact rfl;(focus exact zc2);(focus exact zc2);exactλw hw=>Q7 (hw.perm (.swap _ _ _));omega;exact rfl
  refine zX2 ?_
  apply Yz [0,1,2,3,4,5,6,7] [8] [true,true]
  kernel_rfl
  kernel_rfl
  exact zy
  (simp only[Ye,nthO];rfl)
  (simp only[Ye,nthO];rfl)
  refine zX9 ?_
  apply Yt T (i+1) (l.length+1-(i+1));(iterate 4 exact rfl);omega;omega;exact rfl
  refine zX3 ?_
  apply Yt T i (l.length+1-i);(iterate 5 exact rfl);omega;exact rfl
  refine zX2 ?_
  apply Zb T l (l.drop i) (l.take (i+1)++l.drop i) (f:=rqF) (o:=i+1) (cap:=cap);exact rfl;exact rfl;exact hrs (by(focus exact zc2));exact hq7;exact ho7;exact rfl;exact rfl;exact hA;(simp only[Rk];omega);exact YrJ l i hi (by omega);exact zd
  refine zX2 ?_
  apply Yt T i (l.length+1-i);(iterate 5 exact rfl);omega;exact rfl
  refine zX3 ?_
  apply Zb T (l.take (i+1)++l.drop i) [c] (l.take i++c::l.drop i) (f:=rqF) (o:=i) (cap:=cap);exact rfl;exact rfl;exact hrv (by(focus exact zc2));exact hq7;exact ho7;exact rfl;exact rfl;exact hA;(simp only[Tt,TK,TO,Rk];omega);exact YrL l c i hlt (by omega);exact zd
  refine zX7 ?_
  apply Yh (rqs (some ⟨g,0,none⟩) cap (l.take i++c::l.drop i)::H)
  ·unfold rqs
   exact zc0
  exact zc99
theorem YdJ{id:Int}:∀{q:List Rqs}{k:Nat},k<=q.length->(∀i (x:Rqs),i<k->q[i]? =some x->x.1.1<id)->(∀x:Rqs,q[k]? =some x->¬x.1.1<id)->posQ q id=k
 |[],k,hk,_,_=>by
  have:k=0:=by simp_all
  subst this;rfl
 |y::q,0,_,_,h2=>by
  simp_all [posQ]
 |y::q,k+1,hk,h1,h2=>by
  have ih:=YdJ (id:=id) (q:=q) (k:=k) (by grind) (λi x hi hx=>h1 (i+1) x (by omega) hx) λx hx=>h2 x hx
  unfold posQ at ih⊢
  rw[List.takeWhile_cons,Tm (Tj (h1 0 y (by omega) rfl)),TZ,ih]
theorem Ye1(a b:RqM)(hw:St B w0 H w):
 CX B w0 371 [rqV a,rqV b] w λv K=>v=.int .i64 (cmpI a.f.1 b.f.1)/\K=H:=by
 refine Ya Tryz.func371 Tryz.ntmps371 rfl rfl hw ?_
 unfold rqV
 repeat'(first|((first|apply Yb en73|apply Yc en73);exact za;exact rfl;exactλ_ hw=>(JP _ _ hw))|refine zgb ?_|(refine zgh ?_;intro _)|fail)
 apply Yh H
 ·exact zk
 apply Yd;exact rfl;exact rfl
 exact⟨rfl,rfl⟩
theorem Oe{a b:Int}:cmpI a b<0↔a<b:=by
 unfold cmpI
 omega
def YkY(l:List RqM):Prop:=∀(i j:Nat) (x y:RqM),i<j->l[i]? =some x->l[j]? =some y->x.f.1<y.f.1
theorem YgJ(l:List RqM)(c:RqM)(ho:YkY l)(hlen:l.length<=1000000000)(hr:Rd B w0 H A (l.flatMap rqF))(hw:St B w0 H w):
 CX B w0 370 [.slice A l.length cap,rqV c,.func (.func 371) #[] #[]] w λv K=>
  ∃b,v=.tuple #[.int .i64 (posQ (l.map RqM.rq) c.f.1:Nat),.bool b]/\K=H:=by
 refine Ya Tryz.func370 Tryz.ntmps370 rfl rfl hw ?_
 (apply Y7;apply YM;apply YO;exact rfl;exact rfl;intro g)
 refine zX7 ?_
 have hr:=hr.cons (X:=blk g (.cells (rqF c).toArray 69 (0,0)))
 refine Uf (λ(lo hi:Nat)=>[(9,.int .i64 lo),(10,.int .i64 hi),(8,.int .i64 l.length),(0,.slice A l.length cap),(2,.func (.func 371) #[] #[]),(4,.pointer (some ⟨g,0,none⟩))]) (λ_ _=>blk g (.cells (rqF c).toArray 69 (0,0))::H)
  (λlo hi=>lo<=hi/\hi<=l.length/\(∀i x,i<lo->l[i]? =some x->x.f.1<c.f.1)/\(∀i x,hi<=i->l[i]? =some x->¬x.f.1<c.f.1)) (λlo hi=>hi-lo) 0 l.length ⟨by omega,by omega,λj x hj=>by omega,λj x h1 h2=>by simp_all⟩ ?_ (λw hw=>hw) ?_
 ·exact zc1
 rintro lo hi ⟨h1,h2,h3,h4⟩ K hK
 by_cases hlt:lo<hi
 ·obtain⟨b,hb⟩:∃b,l[(((lo:Int)+hi)/2).toNat]? =some b:=⟨_,Ta (by omega)⟩
  have hm:(((lo:Int)+hi)/2).toNat=(lo+hi)/2:=by omega
  have hb2:l[(lo+hi)/2]? =some b:=by grind
  repeat'(first|((first|apply YK (cs:=[])|apply YU (cs:=[]));exact rfl;exact Ytg;exact za;exact rfl;exactλ_ hw=>(Ye1 b c hw))|(apply zg28;refine zs84 ?_)|refine zgd ?_|(refine zge ?_ ?_<;>intro _<;>try exact zo)|fail)
  ·rename_i hc
   rw[Oe]at hc
   apply hK ((lo+hi)/2+1) hi
   ·exact zc60
   ·omega
   ·exact zc1
   exact zc21
  ·rename_i hc
   have hc:¬b.f.1<c.f.1:=λh=>by have:=Oe.2 h;omega
   apply hK lo ((lo+hi)/2)
   ·exact zc53
   ·omega
   ·exact zc1
   exact zc21
 ·obtain rfl:lo=hi:=by omega
  have hpe:posQ (l.map RqM.rq) c.f.1=lo:=YdJ (by rw[Tv];exact h2) (λi x hi hx=>by
   rw[TS]at hx
   cases hl:l[i]? with
   |none=>rw[hl]at hx;cases hx
   |some y=>rw[hl]at hx;cases hx;exact h3 i y hi hl) λx hx=>by
   rw[TS]at hx
   cases hl:l[lo]? with
   |none=>rw[hl]at hx;cases hx
   |some y=>exact YuA
  rw[hpe]
  by_cases hl:lo<l.length
  ·obtain⟨b,hb⟩:∃b,l[lo]? =some b:=⟨_,Ta hl⟩
   repeat'(first|((first|apply YK (cs:=[])|apply YU (cs:=[]));exact rfl;exact Ytg;exact za;exact rfl;exactλ_ hw=>(Ye1 b c hw))|(apply zg28;refine zs84 ?_)|refine zgd ?_|(refine zgf ?_ ?_<;>intro _<;>try exact zo)|fail)
   all_goals(apply Yl;apply Yu;(iterate 3 exact rfl);exact⟨_,rfl,rfl⟩)
  ·refine zX17 ?_<;>intros
   apply Yl;exact YqL
theorem Yeb(q:List RqM)(x:RqM)(ho:YkY q)(hlen:q.length<=1000)(hr:Rd B w0 H A (q.flatMap rqF))(hw:St B w0 H w):
 CX B w0 292 [.slice A q.length cap,rqV x] w λv K=>∃A' cap',v=.slice A' (q.length+1) cap'/\
  K=rqs A' cap' (q.take (posQ (q.map RqM.rq) x.f.1)++x::q.drop (posQ (q.map RqM.rq) x.f.1))::H:=by
 refine Ya Tryz.func292 Tryz.ntmps292 rfl rfl hw ?_
 have hp:posQ (q.map RqM.rq) x.f.1<=q.length:=zc89
 generalize hP:posQ (q.map RqM.rq) x.f.1=k at hp
 have p1:=λ{H':List HP}{w:World}(hr:Rd B w0 H' A (q.flatMap rqF)) (hw:St B w0 H' w)=>YgJ q x ho (by omega) (cap:=cap) hr hw
 rw[hP]at p1
 have p2:=λ{A':Option Addr}{cap' gv:Nat}{H':List HP}{w:World}(hw:St B w0 (rqs A' cap' q::rqA gv x::H') w)=>QC q k x hp hlen hw
 rw[Oh q x k hp]at p2
 have hr:Rd B w0 [many H] A (q.flatMap rqF):=hr.mono λw hw=>hw.perm (.openT H)
 have hrx:∀{L:List HP},(∀w,St B w0 L w->St B w0 [many H] w)->Rd B w0 L A (q.flatMap rqF):=λh=>hr.mono h
 refine Y8 [many H] (λw hw=>hw.perm (.closeT H)) ?_
 unfold rqV at p1⊢
 (apply Y7;apply YM;apply YO;exact rfl;exact rfl;intro g)
 refine zX7 ?_
 apply Yg _ Ywv
 exact za
 exact rfl
 exactλ_ hw=>(p1 hr.cons (hw))
 rintro _ _ ⟨b,rfl,rfl⟩
 refine zX9 ?_
 apply Qa (.p1 0 (.p1 2 (.p1 3 (.d2 1 (.d1 4 (.d1 5 (.d1 6 .done))) 4 (.d1 1 (.d1 5 (.d1 6 .done))))))) [] [true,true]
 kernel_rfl
 kernel_rfl
 exact zy
 exact rfl
 repeat'(first|((apply Yg _ en90);exact za;exact rfl;exactλ_ hw=>WD q (by omega) (hrx zk) hw;rintro _ _ ⟨A1,cap1,rfl,rfl⟩)|(apply Vp T T2;(iterate 7 exact rfl);intro gv)|(apply XQ [rqs A1 cap1 q,rqA gv x] _ Yo1;exact za;try exact zl;exact zp;exact rfl;exactλ_ hw=>p2 hw;rintro _ _ ⟨A2,cap2,rfl,rfl⟩)|(apply Yk8;(simp only[nthO];rfl))|(apply Yk6;(simp only[nthO];rfl);exact zp)|(apply Yk7;(simp only[nthO];rfl);(simp only[nthO];rfl);exact zp)|(apply Qe;try exact zl)|refine zgd ?_|fail)
 all_goals(
  apply Yh (rqs A2 cap2 (q.take k++x::q.drop k)::H)
  ·intro w hw
   have h5:St B w0 (rqs A2 cap2 (q.take k++x::q.drop k)::[many H]) w:=by
    revert w
    exact zk
   exact h5.perm (.cons _ (.openT H))
  apply Yd;exact rfl;exact rfl
  exact⟨A2,cap2,rfl,rfl⟩)
variable {A:Option Addr}{cap B:Nat}{w0 w:World}{H:List HP}
theorem Yj1(p:RqM->Bool)(l:List RqM)(f:Nat)(cs:List Value)(hen:∀xs w,(callFunc f xs).run Tryz.prog w=.ok (.enter f xs) w)(hlen:l.length<=100000000)(hr:Rd B w0 H A (l.flatMap rqF))
 (hp:∀a∈l,∀w,St B w0 H w->Calls Tryz.prog f ([rqV a]++cs).toArray w (Post B w0 λv K=>v=.bool (p a)/\K=H)) (hw:St B w0 H w):
 CX B w0 87 [.slice A l.length cap,.func (.func f) #[] cs.toArray] w λv K=>v=.int .i64 (Yp p l 0)/\K=H:=by
 refine Ya Tryz.func87 Tryz.ntmps87 rfl rfl hw ?_
 refine zX7 ?_
 refine Yi (λ(k:Nat)=>[(8,.int .i64 k),(7,.int .i64 l.length),(0,.slice A l.length cap),(1,.func (.func f) #[] cs.toArray)]) (λ_=>H) (λk=>k<=l.length/\Yp p l 0=Yp p (l.drop k) k) (λk=>l.length-k) 0 ⟨Ti _,by simp⟩ ?_ (λw hw=>hw) ?_
 ·exact zc1
 rintro k ⟨hk,hi⟩ K hK
 by_cases hlt:k<l.length
 ·obtain⟨a,ha⟩:∃a,l[k]? =some a:=⟨_,Ta hlt⟩
  have hpa:=hp a (Td ha)
  rw[JR p l ha]at hi
  refine zX8 ?_<;>intros
  cases hpv:p a
  ·rw[hpv]at hi
   refine zX9 ?_
   apply hK (k+1)
   ·grind
   ·omega
   ·exact zc1
   exact zc21
  exact zc9
 exact zc6
theorem WG(p:RqM->Bool)(l:List RqM)(f:Nat)(cs:List Value)(hen:∀xs w,(callFunc f xs).run Tryz.prog w=.ok (.enter f xs) w)(hlen:l.length<=100000000)(hr:Rd B w0 H A (l.flatMap rqF))
 (hp:∀a∈l,∀w,St B w0 H w->Calls Tryz.prog f ([rqV a]++cs).toArray w (Post B w0 λv K=>v=.bool (p a)/\K=H)) (hw:St B w0 H w):
 CX B w0 264 [.slice A l.length cap,.func (.func f) #[] cs.toArray] w λv K=>v=.bool (l.any p)/\K=H:=by
 refine Ya Tryz.func264 Tryz.ntmps264 rfl rfl hw ?_
 rw[<-YcW]
 refine zX3 ?_
 first|apply Yb en87|apply Yc en87
 exact za
 exact rfl
 exactλ_ hw=>(Yj1 p l f cs hen hlen hr hp hw)
 by_cases h0:0<=Yp p l 0
 ·exact zc14
 ·exact zc14
theorem Yqm(n:Net)(l:List Flw):(schE n l JX).2≠0:=by
 have h:XW n l JX≠0:=by
  unfold XW
  split
  ·decide
  split
  ·decide
  rw[Tm (by decide)];decide
 simp_all [schE]
def Yf9(n:Net)(q:List Rqs):Bool:=decide (¬(Y4 n q JX).2.2=1\/0<=(Y4 n q JX).2.1)
variable {n:Net}{q:List Rqs}
theorem YeT(h:Yq n=0):Yf9 n q=decide ((rqsE n q).2≠0):=by
 unfold Yf9 Y4
 by_cases h1:(rqsE n q).2=0
 ·rw[Tf (λe=>e h1),Tm (Yqm n _)]
  simp_all
 ·have h3:decide ((rqsE n q).2≠0)=true:=Tj h1
  rw[Tm h1,h3]
  refine Tj ?_
  have hff:∀{f:Nat->Int}{r:Nat},(YG f r 0).2≠0->0<=(YG f r 0).1:=λ{f r} hne=>by
   have aux:∀{r i:Nat},(YG f r i).2≠0->0<=(YG f r i).1:=by
    intro r
    induction r with
    |zero=>intro i h;exact absurd rfl h
    |succ r ih=>
     intro i h
     unfold YG at h⊢
     split
     ·split at h
      ·exact ih h
      ·contradiction
     ·omega
   exact aux hne
  unfold rqsE at h1⊢
  rw[Tf (λe=>e h)]at h1⊢
  by_cases h2:(Yx n.nodes (YE q)).2=0
  ·rw[Tf (λe=>e h2)]at h1⊢
   exact .inr (hff h1)
  ·rw[Tm h2]at h1⊢
   unfold Yx at h2⊢
   split at h2
   ·rw[Tm (by assumption)];decide
   rw[Tf (by assumption)]
   split at h2
   ·rw[Tm (by assumption)];decide
   rw[Tf (by assumption)]
   exact .inr (hff h2)
theorem YaS(n:NetM)(q:List RqM)(ht:TabsB B w0)(hin:n.In B w0 H)(hq:QIn B w0 H A q)(hw:St B w0 H w):
 CX B w0 263 [n.val,.slice A q.length cap] w λv K=>v=.bool (Yf9 n.net (q.map RqM.rq))/\K=H:=by
 refine Ya Tryz.func263 Tryz.ntmps263 rfl rfl hw ?_
 have p1:=λ{H':List HP}{w:World}(hin:n.In B w0 H') (hq:QIn B w0 H' A q) (hw:St B w0 H' w)=>Uz n q ⟨0,0,none,0,[]⟩ (cap:=cap) ht hin hq (.nil) (by decide) hw
 unfold OutC NetM.val SchM.val at p1
 have hz:(⟨0,0,none,0,[]⟩:SchM).sch=JX:=rfl
 rw[hz]at p1
 unfold Yf9
 obtain⟨⟨RC,ri,re⟩,hR⟩:∃R,Y4 n.net (q.map RqM.rq) JX=R:=⟨_,rfl⟩
 rw[hR]at p1⊢
 dsimp only at p1⊢
 unfold NetM.val
 refine zX24 ?_<;>intros
 apply Yg _ en40
 exact za
 exact rfl
 exactλ_ hw=>(p1 hin.cons hq.cons (hw))
 rintro _ _ ⟨A2,cap2,C,rfl,hC,hCl,rfl⟩
 by_cases h0:re=1
 ·by_cases h1:0<=ri
  ·rw[Tj (.inr h1)]
   refine Wq ?_<;>intros
   all_goals(apply Yh H;((intro w hw;refine hw.perm ?_;focus exact zc5));exact zc97)
  ·rw[Tu (by rintro(h|h);exact h h0;exact h1 h)]
   refine Wq ?_<;>intros
   all_goals(apply Yh H;((intro w hw;refine hw.perm ?_;focus exact zc5));exact zc97)
 ·rw[Tj (.inl h0)]
  refine zX1 ?_<;>intros
  all_goals(apply Yh H;((intro w hw;refine hw.perm ?_;focus exact zc5));exact zc97)
theorem Ymu(y x:RqM)(g:Nat)(hm:rqA g x∈H)(hw:St B w0 H w):
 CX B w0 291 [rqV y,.pointer (some ⟨g,0,none⟩)] w λv K=>v=.bool (decide (y.f.1=x.f.1))/\K=H:=by
 refine Ya Tryz.func291 Tryz.ntmps291 rfl rfl hw ?_
 unfold rqV
 by_cases h:y.f.1=x.f.1
 ·rw[Tj h]
  refine zX45 ?_<;>intros
  all_goals(apply Yh H;((intro w hw;refine hw.perm ?_;focus exact zc5));exact zc12)
 ·rw[Tu h]
  refine zX45 ?_<;>intros
  all_goals(apply Yh H;((intro w hw;refine hw.perm ?_;focus exact zc5));exact zc12)
theorem Ymv{s:Sch}{x:Rqs}(hc:(Y4 n q s).2.2=0)(hx:(rqsE n (insQ q x)).2=0)(hm:s.len.tmod x.1.2.2.2.1=0):
 Sm n (YE (insQ q x)) s/\YX n.nodes x.1=0/\(∀r∈x.2,(∀y∈YB n r,LkOk n (YE (insQ q x)) y.1 y.2.1 x.1.1)/\(∀i,i+1<r.length->0<=YA n (r.getD i 0) (r.getD (i+1) 0))/\1<=r.length/\r.length<=9):=by
 obtain⟨h1,h2⟩:=Jh.1 hc
 have hsem:=YgS.1 (Vg.1 h1)
 obtain⟨-,hfl,hrt⟩:=W6 hx
 have hxm:x∈insQ q x:=by simp[QB]
 have hrx:=hrt x hxm
 have hfx:YX n.nodes x.1=0:=Ut hfl (TD.2 ⟨x,hxm,rfl⟩)
 obtain⟨hib,-⟩:=JF hfx
 have hsm:Sm n (YE (insQ q x)) s:=by
  have h0:=hsem.sm
  refine⟨h0.ck,hfl,λf hf=>?_,h0.sized,h0.formed,h0.ord,λc hcm=>⟨(h0.good c hcm).1,?_⟩,h0.once,h0.clear⟩
  ·obtain⟨y,hy,rfl⟩:=TD.1 hf
   rcases QB.1 hy with rfl|hy
   ·exact hm
   ·exact h0.per _ (TD.2 ⟨y,hy,rfl⟩)
  ·obtain⟨f,hf,e⟩:=Yad.1 (h0.good c hcm).2
   obtain⟨y,hy,rfl⟩:=TD.1 hf
   exact Yad.2 ⟨y.1,TD.2 ⟨y,QB.2 (.inr hy),rfl⟩,e⟩
 have hfi:0<=ZG (YE (insQ q x)) x.1.1:=Yad.2 ⟨x.1,TD.2 ⟨x,hxm,rfl⟩,rfl⟩
 refine⟨hsm,hfx,λr hr=>?_⟩
 have hck:=U6 hrx r hr
 obtain⟨-,hlen,hg⟩:=ZY hck
 refine⟨λy hy=>⟨Ykd hck y hy,hfi,hib⟩,λi hi=>?_,by omega,hlen.2⟩
 have:=hg i hi
 unfold Y5 at this
 rw[To]at this
 exact TV this.1
theorem QIn.insert{A':Option Addr}{cap':Nat}{q:List RqM}{x:RqM}(h:QIn B w0 H A q)(hx:x.In B w0 H)(hl:q.length<=1000)(k:Nat)(hk:k<=q.length):QIn B w0 (rqs A' cap' (q.take k++x::q.drop k)::H) A' (q.take k++x::q.drop k):=
 ⟨.sl TC,λy hy=>by
  rcases TJ.1 hy with hy|hy
  ·exact(h.x y (SN hy)).cons
  ·rcases Rr.1 hy with rfl|hy
   ·exact hx.cons
   ·exact(h.x y (List.mem_of_mem_drop hy)).cons,by grind⟩
theorem YrM(q:List RqM)(x:RqM):(q.take (posQ (q.map RqM.rq) x.f.1)++x::q.drop (posQ (q.map RqM.rq) x.f.1)).map RqM.rq=insQ (q.map RqM.rq) x.rq:=by
 rw[TP,Ro,List.map_take,NY];rfl
theorem Yps{q:List RqM}(h:(rqsE n (q.map RqM.rq)).2=0):YkY q:=λi j x y hij hi hj=>by
 have hl:=(Tc.1 hj).1
 have:=Yvl h hij (by simp_all)
 unfold rqAt at this
 rw[Tz,Tz,TS,TS,hi,hj]at this
 exact this
theorem Yjl(n:NetM)(q:List RqM)(s:SchM)(x:RqM)(h24:s.len<=24){A:Option Addr}{cap B:Nat}{w0:World}{H:List HP}{w:World}(ht:TabsB B w0)(hin:n.In B w0 H)(hq:QIn B w0 H A q)(hrs:Rd B w0 H s.A (s.cells.flatMap celF))(hsl:s.cells.length<=1000000000000)(hx:x.In B w0 H)(hw:St B w0 H w):
 CX B w0 207 [n.val,.slice A q.length cap,s.val,rqV x] w (OutS H (JC n.net (q.map RqM.rq) s.sch x.rq)):=by
 refine Ya Tryz.func207 Tryz.ntmps207 rfl rfl hw ?_
 have p1:=λ{H':List HP}{w:World}(hin:n.In B w0 H') (hq:QIn B w0 H' A q) (hrs:Rd B w0 H' s.A (s.cells.flatMap celF)) (hw:St B w0 H' w)=>Ybe n q s (cap:=cap) ht hin hq hrs hsl hw
 have pf:=λ{A':Option Addr}{cap':Nat}{q':List RqM}{H':List HP}{w:World}(hin:n.In B w0 H') (hq:QIn B w0 H' A' q') (hw:St B w0 H' w)=>YaS n q' (cap:=cap') ht hin hq hw
 have pp:=λ(hsm:Sm n.net (YE (insQ (q.map RqM.rq) x.rq)) s.sch) (hrow:∀r∈x.rows,Yn9 n (YE (insQ (q.map RqM.rq) x.rq)) x.f.1 r) (hf:YX n.net.nodes x.f=0) {H':List HP}{w:World}(hin:n.In B w0 H') (hr:Rd B w0 H' s.A (s.cells.flatMap celF)) (hx:x.In B w0 H') (hw:St B w0 H' w)=>YiC n _ s x hsm h24 hrow hf hin hr hx hw
 have hn1:n.val=.agg #[.int .i64 n.nodes,.slice n.pA n.rows.length n.pcap,.int .i64 n.noise,.int .i64 n.thr,.slice n.lA n.links.length n.lcap,.slice n.mA n.margin.length n.mcap]:=rfl
 unfold NetM.val SchM.val rqV at*
 clear hn1
 have hlenS:s.sch.len=s.len:=rfl
 have hxf:x.rq.1=x.f:=rfl
 have hop:∀w,St B w0 [many H] w->St B w0 H w:=λw hw=>hw.perm (.openT H)
 have hin:=hin.mono hop
 have hq:=hq.mono hop
 have hrs:=hrs.mono hop
 have hx:=hx.mono hop
 refine Y8 [many H] (λw hw=>hw.perm (.closeT H)) ?_
 refine zX71 ?_<;>intros
 rename_i g4 g6 g7 g8
 first|apply Yb Ylm|apply Yc Ylm
 exact za
 exact rfl
 exactλ_ hw=>(p1 hin.cons.cons.cons.cons hq.cons.cons.cons.cons hrs.cons.cons.cons.cons hw)
 by_cases hc:(Y4 n.net (q.map RqM.rq) s.sch).2.2=0
 rotate_left
 ·rw[Tu hc]
  refine zX2 ?_
  apply Yv T (H2:=cels none 0 []::H);(iterate 3 exact rfl);(focus exact zc2);exact rfl;exact rfl
  ·intro w hw
   have h5:St B w0 [many H] w:=by
    revert w
    exact zc0
   exact zc75
  exact Ol 1 (by rw[JC,Tm hc]) rfl
 rw[Tj hc]
 have hrq:(rqsE n.net (q.map RqM.rq)).2=0:=T8.1 λh1=>by
  unfold Y4 at hc;rw[Tm h1]at hc;exact h1 hc
 have hck:=(W6 hrq).1
 have hql:q.length<=16:=by
  have h1:=(W6 hrq).2.1
  unfold Yx at h1
  split at h1
  ·cases h1
  split at h1
  ·cases h1
  rename_i h2
  unfold YE at h2
  rw[Tv,Tv]at h2
  omega
 have hord:=Yps hrq
 repeat'(first|(apply zg29;(apply Ys;exact za;exact rfl))|refine zgd ?_|fail)
 first|apply Yb Yly|apply Yc Yly
 exact za
 exact rfl
 exactλ_ hw=>(WG (λy=>decide (y.f.1=x.f.1)) q 291 [.pointer (some ⟨g7,0,none⟩)] Ywk (by omega) hq.rd.cons.cons.cons.cons (λa _ w hw=>Ymu a x g7 (by(focus exact zc2)) hw) hw)
 have hhas:(q.any λy=>decide (y.f.1=x.f.1))=hasQ (q.map RqM.rq) x.f.1:=by
  unfold hasQ;rw[List.any_map];rfl
 rw[hhas]
 cases hh:hasQ (q.map RqM.rq) x.f.1 with
 |true=>
  refine zX2 ?_
  apply Yv T (H2:=cels none 0 []::H);(iterate 3 exact rfl);(focus exact zc2);exact rfl;exact rfl
  ·intro w hw
   have h5:St B w0 [many H] w:=by
    revert w
    exact zc0
   exact zc75
  exact Ol 6 (by rw[JC,Tf (λe=>e hc),Tm (show hasQ (q.map RqM.rq) x.rq.1.1=true from hh)]) rfl
 |false=>
 have hadm:JC n.net (q.map RqM.rq) s.sch x.rq=(if(rqsE n.net (insQ (q.map RqM.rq) x.rq)).2≠0 then(JX,1)
  else if s.sch.len.tmod x.rq.1.2.2.2.1≠0 then(JX,11)else match Ub n.net x.rq.1 x.rq.2 s.sch with
   |none=>(JX,18)
   |some t=>if 512<t.cells.length then(JX,8)else(t,0):Sch×Int):=by
  have hh2:¬hasQ (q.map RqM.rq) x.rq.1.1=true:=λh=>by rw[show hasQ (q.map RqM.rq) x.rq.1.1=false from hh]at h;cases h
  unfold JC
  rw[Tf (λe=>e hc),Tf hh2]
  rfl
 rw[hadm]
 have pi:=λ{H':List HP}{w:World}(hr:Rd B w0 H' A (q.flatMap rqF)) (hw:St B w0 H' w)=>Yeb q x hord (by omega) (cap:=cap) hr hw
 have hkl:posQ (q.map RqM.rq) x.f.1<=q.length:=zc89
 have hmap:=YrM q x
 have hins:=Oh q x _ hkl
 generalize posQ (q.map RqM.rq) x.f.1=k at*
 unfold rqV at pi
 refine zX3 ?_
 apply Yz [0,1,2,3,4,5] [] [true,true,true,true,true]
 kernel_rfl
 kernel_rfl
 exact zy
 (simp only[Ye,nthO];rfl)
 exact rfl
 refine zX2 ?_
 apply Yg _ Ywl
 exact za
 exact rfl
 exactλ_ hw=>(pi hq.rd.cons.cons.cons.cons (hw))
 rintro _ _ ⟨A1,cap1,rfl,rfl⟩
 rw[<-hins]
 have hqi:=hq.insert (A':=A1) (cap':=cap1) hx (by omega) k hkl
 refine zX16 ?_
 first|apply Yb Ylx|apply Yc Ylx
 exact za
 exact rfl
 exactλ_ hw=>(pf (hin.mono zc0) (hqi.mono zc0) hw)
 rw[hmap,YeT hck]
 by_cases hrx:(rqsE n.net (insQ (q.map RqM.rq) x.rq)).2=0
 rotate_left
 ·rw[Tj hrx]
  refine zX16 ?_
  apply Yv T (H2:=cels none 0 []::H);(iterate 3 exact rfl);(focus exact zc2);exact rfl;exact rfl
  ·intro w hw
   have h5:St B w0 [many H] w:=by
    revert w
    exact zc0
   exact zc75
  exact Ol 1 (by rw[Tm hrx]) rfl
 have hdf:decide ((rqsE n.net (insQ (q.map RqM.rq) x.rq)).2≠0)=false:=Tu (λe=>e hrx)
 rw[hdf,Tf (λe=>e hrx)]
 have hxm:x.rq∈insQ (q.map RqM.rq) x.rq:=QB.2 (.inl rfl)
 have hfx:YX n.net.nodes x.f=0:=Ut (W6 hrx).2.1 (TD.2 ⟨x.rq,hxm,rfl⟩)
 obtain⟨-,hper,hph,-,hd⟩:=JF hfx
 have hl1:1<=s.len:=by
  have h0:=(YgS.1 (Vg.1 (Jh.1 hc).1)).frm.sized
  unfold Zs at h0
  exact(TV h0).1
 have hmm:s.len.tmod x.f.2.2.2.1=s.len%x.f.2.2.2.1:=Rj (by omega)
 by_cases hm:s.len%x.f.2.2.2.1=0
 rotate_left
 ·rw[Tm (show s.sch.len.tmod x.rq.1.2.2.2.1≠0 fromλe=>hm (hmm.symm.trans e))]
  refine zX93 ?_<;>intros
  apply Yv T (H2:=cels none 0 []::H);(iterate 3 exact rfl);(focus exact zc2);exact rfl;exact rfl
  ·intro w hw
   have h5:St B w0 [many H] w:=by
    revert w
    exact zc0
   exact zc75
  exact Ol 11 rfl rfl
 rw[Tf (show¬s.sch.len.tmod x.rq.1.2.2.2.1≠0 fromλe=>e (hmm.trans hm))]
 obtain⟨hsm,-,hrd⟩:=Ymv hc hrx (hmm.trans hm)
 have hrow:∀r∈x.rows,Yn9 n (YE (insQ (q.map RqM.rq) x.rq)) x.f.1 r:=λr hr=>by
  obtain⟨h1,h2,h3⟩:=hrd r.xs (TD.2 ⟨r,hr,rfl⟩)
  exact⟨h1,h2,h3⟩
 have pl:=λ{H':List HP}{w:World}=>@pp hsm hrow hfx H' w
 clear pp
 apply Zn [many H,netA g4 n,schA g6 s,rqA g7 x,blk g8 (.cells (Value.agg #[.int .i64 0,.int .i64 0,.slice none 0 0]).cells 30 (0,0))]
 ·exact zc0
 refine zX93 ?_<;>intros
 apply Yg _ Ywm
 exact za
 exact rfl
 exactλ_ hw=>(pl (hin.mono zc0) (hrs.mono zc0) (hx.mono zc0) (hw))
 rintro _ _ ⟨s',ok,P,rfl,ho1,ho2,rfl⟩
 cases ok with
 |false=>
  rw[show Ub n.net x.rq.1 x.rq.2 s.sch=none from ho2 rfl]
  refine zX24 ?_<;>intros
  apply Yv T (H2:=cels none 0 []::H);(iterate 3 exact rfl);(focus exact zc2);exact rfl;exact rfl
  ·intro w hw
   have h5:St B w0 [many H] w:=by
    revert w
    exact zc0
   exact zc75
  exact Ol 18 rfl rfl
 |true=>
 obtain⟨h1,h2⟩:=ho1 rfl
 rw[show Ub n.net x.rq.1 x.rq.2 s.sch=some s'.sch from h1]
 have e3:s'.sch.cells=s'.cells:=rfl
 dsimp only
 rw[e3]
 by_cases h512:512<s'.cells.length
 ·rw[Tm h512]
  refine zX46 ?_<;>intros
  apply Yv T (H2:=cels none 0 []::H);(iterate 3 exact rfl);(focus exact zc2);exact rfl;exact rfl
  ·intro w hw
   have h5:St B w0 [many H] w:=by
    revert w
    exact zc0
   exact zc75
  exact Ol 8 rfl rfl
 rw[Tf h512]
 refine zX46 ?_<;>intros
 apply Yg _ Yln
 exact za
 exact rfl
 exactλ_ hw=>(VS s'.cells (by omega) (h2.mono zc0) (hw))
 rintro _ _ ⟨A2,c2,rfl,rfl⟩
 refine zX2 ?_
 apply Yv T (H2:=cels A2 c2 s'.cells::H);(iterate 3 exact rfl);(focus exact zc2);exact rfl;exact rfl
 ·intro w hw
  have h5:St B w0 (cels A2 c2 s'.cells::[many H]) w:=by
   revert w
   exact zc0
  exact Yma
 exact⟨A2,c2,rfl,rfl⟩
structure Pln where
 n:Net
 q:List Rqs
 s:Sch
 c:List Clm
 f:List Int
noncomputable def J8(n:Net)(f:Flw):Rqs×Int:=
 if(Zi n f.2.1 f.2.2.1).2≠0 then(Ymd,(Zi n f.2.1 f.2.2.1).2)else((f,[(Zi n f.2.1 f.2.2.1).1]),0)
noncomputable def Jr(n:Net)(f:Flw):Option (List Int×List Int)×Int:=(Vo 100000 n f.2.1 f.2.2.1).getD (none,0)
noncomputable def reqE(n:Net)(f:Flw):Rqs×Int:=
 match(Jr n f).1 with
 |some pq=>((f,[pq.1,pq.2]),0)
 |none=>J8 n f
noncomputable def Ydq(n:Net)(l:List Flw):Int×Int:=YG (λi=>(reqE n (Y1 l i)).2) l.length 0
noncomputable def J1(n:Net)(l:List Flw):List Rqs×(Int×Int):=
 if Yq n≠0 then([],(-1,1))else if(Yx n.nodes l).2≠0 then([],Yx n.nodes l)
 else if(Ydq n l).2≠0 then([],Ydq n l)else(l.map λf=>(reqE n f).1,(-1,0))
def YeS(a b:Int):Int:=if a=0 then b else a
def YcE(n:Net)(q:List Rqs)(s:Sch)(e:Int):Int:=if e≠0 then e else YeS (Y4 n q s).2.2 (ZH s).2
def finE(n:Net)(q:List Rqs)(s:Sch)(e:Int):Option Pln×Int:=
 if YcE n q s e≠0 then(none,YcE n q s e)else(some ⟨n,q,s,(Y4 n q s).1,(ZH s).1⟩,0)
def chkP(p:Pln):Int:=
 if Yq p.n≠0 then 1 else if(Y4 p.n p.q p.s).2.2=15\/(Y4 p.n p.q p.s).2.2=1/\(Y4 p.n p.q p.s).2.1<0 then 18
 else if(Y4 p.n p.q p.s).2.2≠0 then 1 else if(chkE p.n p.q p.s p.c).2≠0 then 20
 else if(ZH p.s).2≠0\/(ZH p.s).1≠p.f then 11 else 0
def ext1(p:Pln)(x:Rqs)(s:Sch×Int):Option Pln×Int:=if s.2≠0 then(none,18)else finE p.n (insQ p.q x) s.1 0
noncomputable def extP(p:Pln)(f:Flw):Option Pln×Int:=
 if chkP p≠0 then(none,1)else if hasQ p.q f.1=true then(none,6)
 else if(Yx p.n.nodes (YE (insQ p.q (f,[])))).2≠0 then(none,1)else if p.s.len.tmod f.2.2.2.1≠0 then(none,11)
 else if(J1 p.n [f]).2.2≠0 then(none,(J1 p.n [f]).2.2)
 else if(JC p.n p.q p.s (reqE p.n f).1).2=0 then finE p.n (insQ p.q (reqE p.n f).1) (JC p.n p.q p.s (reqE p.n f).1).1 0
 else if(J8 p.n f).2≠0 then(none,18)else ext1 p (J8 p.n f).1 (JC p.n p.q p.s (J8 p.n f).1)
end Go.Proofs.YtjlgijpmnfabcaaGreatDoor
namespace Go.Eng
open Go.RowKit
variable {B:Nat}{w0:World}{H:List HP}
theorem Yms{P:Program}{env:Env}{n:Nat}(T:Tab P){fn:Func}{Φ:Value->List HP->Prop}{p g k u s rt:Nat}{x y:Value}{cs:Array Value}{tt:TypeId}{fr:Nat×Nat}(hr:fn.results=#[.cell p rt,.tmp u,.tmp s])(hp:get env p=some (.pointer (some ⟨g,0,none⟩)))(hu:get env u=some x)(hs:get env s=some y)
 (hm:blk g (.cells cs tt fr)∈H) (ht:look T.ag rt=some k) (hk:cs.size=k) {H2:List HP}(hH:∀w,St B w0 H w->St B w0 H2 w) (h:Φ (.tuple #[.agg cs,x,y]) H2):VQ ⟨n,[],none⟩ B w0 (bodyPost P fn (Post B w0 Φ)) .ret env H:=by
 refine⟨λa w ha hw=>bodyPost_ret (v:=.tuple #[.agg cs,x,y]) ?_ ha.defers ⟨_,H2,rfl,hH w hw,h⟩⟩
 have hp':=ha.slot p _ hp
 simp[results,hr,Array.getD_eq_getD_getElem?,hp',ha.slot u _ hu,ha.slot s _ hs,asAddr,ZD T (hw.blk hm).1 ht hk]
end Go.Eng
namespace Go.Proofs.YtjlgijpmnfabcaaGreatDoor
open Go.RowKit Go.Eng Go.Nw Go.Rt
variable {B cap:Nat}{w0:World}{H:List HP}{A:Option Addr}
theorem YlW{l:List Cel}(h:cels A cap l∈H):Rd B w0 H A (l.flatMap celF):=Rd.sl h
theorem Yvi{l:List RqM}(h:rqs A cap l∈H):Rd B w0 H A (l.flatMap rqF):=Rd.sl h
theorem Yvk{n:NetM}{q:List RqM}(h:(rqsE n.net (q.map RqM.rq)).2=0):q.length<=16/\∀x∈q,1<=x.f.2.2.2.1:=by
 have h1:=(W6 h).2.1
 refine⟨?_,λx hx=>?_⟩
 ·grind [Yx,YE]
 ·have hfx:YX n.net.nodes x.f=0:=Ut h1 (TD.2 ⟨x.rq,TD.2 ⟨x,hx,rfl⟩,rfl⟩)
  obtain⟨-,hper,-⟩:=JF hfx
  omega
theorem YnD{n:Net}{f:Flw}(h:Vo 100000 n f.2.1 f.2.2.1=some (Jr n f)):((Jr n f).1=none/\(Jr n f).2≠0)\/∃p q,Jr n f=(some (p,q),0):=by
 generalize Jr n f=R at h⊢
 unfold Vo at h
 by_cases he:Jk n f.2.1 f.2.2.1=0
 rotate_left
 ·rw[Tm he]at h
  rw[<-Tn h]
  exact .inl ⟨rfl,he⟩
 rw[Tf (λe=>e he)]at h
 split at h
 ·cases h
 ·rw[<-Tn h];exact .inl ⟨rfl,by decide⟩
 ·rename_i pq _
  split at h
  ·rw[<-Tn h];exact .inl ⟨rfl,by decide⟩
  ·rw[<-Tn h];exact .inr ⟨pq.1,pq.2,rfl⟩
theorem Yvo(n:Net)(s t:Int):(Zi n s t).1.length<=9:=by
 unfold Zi
 repeat' split
 all_goals(first|(simp;done)|(simp only;omega))
variable {B:Nat}{w0 w:World}{H:List HP}
theorem Jv(n:NetM)(hin:n.In B w0 H)(hw:St B w0 H w):
 CX B w0 39 [n.val] w λv K=>v=.bool (decide (Yq n.net=0))/\K=H:=by
 refine Ya Tryz.func39 Tryz.ntmps39 rfl rfl hw ?_
 have p1:=λ{H':List HP}{w:World}(hin:n.In B w0 H') (hw:St B w0 H' w)=>Yme n [] (A:=none) (cap:=0) hin .nil (by decide) (by decide) hw
 have hc:(YgY n.net []).2=if Yq n.net≠0 then 1 else 9:=by
  unfold YgY
  by_cases h:Yq n.net=0
  ·rw[Tf (show¬Yq n.net≠0 fromλe=>e h),Tf (show¬Yq n.net≠0 fromλe=>e h)];rfl
  simp_all
 unfold NetM.val at p1⊢
 by_cases h:Yq n.net=0
 ·rw[Tf (λe=>e h)]at hc
  rw[hc]at p1
  rw[Tj h]
  refine zX71 ?_<;>intros
  first|apply Yb en98|apply Yc en98
  exact za
  exact rfl
  exactλ_ hw=>(p1 hin.cons hw)
  refine zX1 ?_<;>intros
  apply Yh H
  ·exact zc0
  exact zc12
 ·rw[Tm h]at hc
  rw[hc]at p1
  rw[Tu h]
  refine zX71 ?_<;>intros
  first|apply Yb en98|apply Yc en98
  exact za
  exact rfl
  exactλ_ hw=>(p1 hin.cons hw)
  refine zX1 ?_<;>intros
  apply Yh H
  ·exact zc0
  exact zc7
def rqQ(x:RqM):HP:=many [sl 104 1 x.A x.rows.length x.cap (x.rows.flatMap rowF),many (x.rows.map rowQ)]
def RqM.lens(x:RqM):Prop:=x.rows.length<=1000/\∀r∈x.rows,r.xs.length<=1000/\r.xs.length<=r.cap
theorem Yqk{x:RqM}(hm:rqQ x∈H)(hl:x.lens):x.In B w0 H:=by
 have hb:∀w,St B w0 H w->St B w0 [sl 104 1 x.A x.rows.length x.cap (x.rows.flatMap rowF),many (x.rows.map rowQ)] w:=λw hw=>hw.inM hm
 refine RqM.In.mono ⟨.sl (.head _),λr hr=>?_,TY hl.1 (by decide),λr hr=>⟨TY (hl.2 r hr).1 (by decide),(hl.2 r hr).2⟩⟩ hb
 exact Rd.many (L:=x.rows.map rowQ) (.tail _ (.head _)) (RA hr)
def Yjj:RqM:=⟨(0,0,0,0,0,0),none,0,[]⟩
theorem YwV(h:St B w0 H w):St B w0 (rqQ Yjj::H) w:=by
 exact((h.perm (.noMany H)).nilSlice 104 1).perm (.close [_,_] H)
def OutQ(H:List HP)(R:Rqs×Int)(v:Value)(K:List HP):Prop:=∃x:RqM,v=.tuple #[rqV x,.int .i64 R.2]/\x.rq=R.1/\x.lens/\K=rqQ x::H
theorem Yr9{R:Rqs×Int}{v:Value}(e:Int)(hR:R=(Ymd,e))(hv:v=.tuple #[rqV Yjj,.int .i64 e]):OutQ H R v (rqQ Yjj::H):=⟨Yjj,by simp_all,by rw[hR];rfl,⟨Ti _,λr hr=>by cases hr⟩,rfl⟩
theorem OK(n:NetM)(f:Flw)(hin:n.In B w0 H)(hw:St B w0 H w):
 CX B w0 165 [n.val,flwV f] w (OutQ H (J8 n.net f)):=by
 refine Ya Tryz.func165 Tryz.ntmps165 rfl rfl hw ?_
 have p1:=λ{H':List HP}{w:World}(hin:n.In B w0 H') (hw:St B w0 H' w)=>Yek n f.2.1 f.2.2.1 hin hw
 have hl9:=Yvo n.net f.2.1 f.2.2.1
 have hsing:J8 n.net f=if(Zi n.net f.2.1 f.2.2.1).2≠0 then(Ymd,(Zi n.net f.2.1 f.2.2.1).2)else((f,[(Zi n.net f.2.1 f.2.2.1).1]),0):=rfl
 rw[hsing]
 clear hsing
 generalize Zi n.net f.2.1 f.2.2.1=R at*
 unfold NetM.val at p1⊢
 unfold flwV
 refine zX71 ?_<;>intros
 apply Yg _ Ywg
 exact za
 exact rfl
 exactλ_ hw=>(p1 hin.cons.cons.cons (hw))
 rintro _ _ ⟨A,cap,rfl,-,-,rfl⟩
 apply UJ (e:=3) (size:=1) (k:=R.1.length) (cap:=cap) (A:=A) (xs:=R.1.flatMap numF) (by(focus exact zc2))
 intro hcap
 obtain⟨r,e⟩:=R
 dsimp only at hl9 hcap⊢
 by_cases he:e=0
 ·rw[Tf (λh=>h he)]
  refine zX46 ?_<;>intros
  rename_i gL
  apply Yv T (H2:=rqQ ⟨f,some ⟨gL,0,none⟩,1,[⟨A,cap,r⟩]⟩::H);(iterate 3 exact rfl);(focus exact zc2);exact rfl;exact rfl
  ·intro w hw
   have h5:St B w0 (blk gL (.cells #[.slice A r.length cap] 104 (0,0))::ints A cap r::H) w:=by
    revert w
    exact zc0
   have h6:=h5.blk_sl (cs:=[Value.slice A r.length cap]) (len:=1) (size:=1) rfl (by omega)
   exact(h6.perm (.cons _ (.close [_] H))).perm (.close [_,_] H)
  refine⟨_,rfl,rfl,⟨T9 rfl,λx hx=>?_⟩,rfl⟩
  rw[TU.1 hx]
  exact⟨by show r.length<=_;omega,hcap⟩
 ·rw[Tm he]
  refine zX0 ?_<;>intros
  apply Yv T (H2:=rqQ Yjj::H);(iterate 3 exact rfl);(focus exact zc2);exact rfl;exact rfl
  ·intro w hw
   have h5:St B w0 H w:=by
    revert w
    exact zc0
   exact YwV h5
  exact Yr9 e rfl rfl
theorem Ydr(n:NetM)(f:Flw)(hrun:Vo 100000 n.net f.2.1 f.2.2.1=some (Jr n.net f))(hin:n.In B w0 H)(hw:St B w0 H w):
 CX B w0 162 [n.val,flwV f] w (OutQ H (reqE n.net f)):=by
 refine Ya Tryz.func162 Tryz.ntmps162 rfl rfl hw ?_
 have p1:=λ{H':List HP}{w:World}(hin:n.In B w0 H') (hw:St B w0 H' w)=>Ymg n f.2.1 f.2.2.1 100000 (Jr n.net f) (TM _) hrun hin hw
 have p2:=λ{H':List HP}{w:World}(hin:n.In B w0 H') (hw:St B w0 H' w)=>OK n f hin hw
 have hreq:reqE n.net f=match(Jr n.net f).1 with|some pq=>((f,[pq.1,pq.2]),0)|none=>J8 n.net f:=rfl
 rw[hreq]
 clear hreq
 unfold NetM.val flwV at p2
 unfold NetM.val at p1⊢
 unfold flwV
 rcases YnD hrun with⟨h1,h2⟩|⟨a,b,h1⟩
 ·generalize Jr n.net f=R at*
  obtain⟨o,e⟩:=R
  dsimp only at h1 h2
  subst h1
  dsimp only at p1⊢
  refine zX71 ?_<;>intros
  first|apply Yb Yo4|apply Yc Yo4
  exact za
  exact rfl
  exactλ_ hw=>(p1 hin.cons.cons.cons hw)
  refine Wq ?_<;>intros
  apply Yg _ YsL
  exact za
  exact rfl
  exactλ_ hw=>(p2 hin.cons.cons.cons (hw))
  rintro _ _ ⟨x,rfl,hx,hxl,rfl⟩
  unfold rqV
  refine zX9 ?_
  apply Yv T (H2:=rqQ x::H);(iterate 3 exact rfl);(focus exact zc2);exact rfl;exact rfl
  ·exact zc0
  exact⟨x,rfl,hx,hxl,rfl⟩
 ·rw[h1]at p1⊢
  dsimp only at p1⊢
  refine zX71 ?_<;>intros
  apply Yg _ Yo4
  exact za
  exact rfl
  exactλ_ hw=>(p1 hin.cons.cons.cons (hw))
  rintro _ _ ⟨g,A1,c1,A2,c2,rfl,⟨l1,l2,l3⟩,-,rfl⟩
  apply UJ (e:=3) (size:=1) (k:=a.length) (cap:=c1) (A:=A1) (xs:=a.flatMap numF) (by(focus exact zc2))
  intro hc1
  apply UJ (e:=3) (size:=1) (k:=b.length) (cap:=c2) (A:=A2) (xs:=b.flatMap numF) (by(focus exact zc2))
  intro hc2
  try dsimp only at l1 l2 l3
  refine zX23 ?_<;>intros
  apply Yv T (H2:=rqQ ⟨f,some ⟨g,0,none⟩,2,[⟨A1,c1,a⟩,⟨A2,c2,b⟩]⟩::H);(iterate 3 exact rfl);(focus exact zc2);exact rfl;exact rfl
  ·intro w hw
   have h5:St B w0 (sl 104 1 (some ⟨g,0,none⟩) 2 2 ([⟨A1,c1,a⟩,⟨A2,c2,b⟩].flatMap rowF)::ints A1 c1 a::ints A2 c2 b::H) w:=by
    revert w
    exact zc0
   exact(h5.perm (.cons _ (.close [_,_] H))).perm (.close [_,_] H)
  refine⟨_,rfl,rfl,⟨T9 rfl,λx hx=>?_⟩,rfl⟩
  simp only[Rr,RN,NZ]at hx
  rcases hx with rfl|rfl
  ·exact⟨by show a.length<=_;omega,hc1⟩
  ·exact⟨by show b.length<=_;omega,hc2⟩
end Go.Proofs.YtjlgijpmnfabcaaGreatDoor
