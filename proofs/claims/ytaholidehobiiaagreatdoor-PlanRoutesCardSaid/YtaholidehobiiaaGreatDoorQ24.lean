/- Lemmas for the claim, part 24. -/
import Derived.Test.YtaholidehobiiaaGreatDoorQ6
import Derived.Test.YtaholidehobiiaaGreatDoorQ21
import Derived.Test.YtaholidehobiiaaGreatDoorQ22
set_option maxRecDepth 100000
set_option maxHeartbeats 8000000
set_option linter.all false
namespace Go.Eng
open Go.RowKit
variable {B cap:Nat}{w0:World}{H:List HP}{A:Option Addr}
theorem YsU{P:Program}{n:Shp}{Q:Exit->Act->World->Prop}{env:Env}{c:Code}{e size k:Nat}{xs:List Value}(hm:sl e size A k cap xs∈H)(h:k<=cap->VC P n B w0 c Q env H):VC P n B w0 c Q env H:=by
 refine⟨λa w ha hw=>?_⟩
 have hown:=hw.sl hm
 have hkc:k<=cap:=zc44
 exact(h hkc).run a w ha hw
end Go.Eng
namespace Go.Proofs.YtaholidehobiiaaGreatDoor
open Go.RowKit Go.Eng Go.Nw Go.Rt
theorem Ysk(A:Option Addr)(cap size:Nat):subA A 0 cap size=A:=by
 simp_all [subA,Go.Addr.add]
variable {A:Option Addr}{cap B:Nat}{w0 w:World}{H:List HP}
theorem Zi(l:List Lk)(hlen:l.length<=1000)(hr:Rd B w0 H A (l.flatMap lkF))(hw:St B w0 H w):
 CX B w0 317 [.slice A l.length cap] w λv K=>∃A' cap',v=.slice A' l.length cap'/\K=sl 298 3 A' l.length cap' (l.flatMap lkF)::H:=by
 cases A with
 |none=>
  have hl:l=[]:=by
   cases l with
   |nil=>rfl
   |cons x l=>
    exact zc35
  subst hl
  refine Yc Tryz.func317 Tryz.ntmps317 rfl rfl hw ?_
  refine zX7 ?_
  apply X9 298 3;exact zc36
 |some a=>
  refine Yc Tryz.func317 Tryz.ntmps317 rfl rfl hw ?_
  repeat'(first|(apply ZE;(iterate 3 exact rfl))|(apply Y1 T;exact rfl;exact rfl;intro g2)|refine zga ?_|fail)
  apply Xy T (f:=lkF) (l2:=l) (e:=298) (size:=3) (xs:=[]);(iterate 3 exact rfl);exact hr.cons;exact(λ_=>rfl);exact(λ_=>rfl);exact rfl;(intro _ _;exact zd);omega;intro A' cap'
  exact zc30
def arcV(a:Lk):Value:=.agg #[.int .i64 a.1,.int .i64 a.2.1,.int .i64 a.2.2]
theorem Ygh{α:Type}(p:α->Bool):∀(l:List α) (k:Int),(l.filter (λa=>!p a)=l/\Ym p l k= -1)\/∃j,j<l.length/\Ym p l k=k+j/\(l.take j).filter (λa=>!p a)=l.take j/\∃a,l[j]? =some a/\p a=true
 |[],_=>.inl ⟨rfl,rfl⟩
 |a::l,k=>by
  unfold Ym
  cases h:p a with
  |true=>exact .inr ⟨0,by simp,by simp,rfl,a,rfl,h⟩
  |false=>
   rw[Tf (by decide)]
   rcases Ygh p l (k+1)with⟨h1,h2⟩|⟨j,h1,h2,h3,b,h4,h5⟩
   ·simp_all
   exact YvR
theorem Yfn(p:Lk->Bool)(l:List Lk)(f:Nat)(cs:List Value)(hen:∀xs w,(callFunc f xs).run Tryz.prog w=.ok (.enter f xs) w)(hlen:l.length<=1000)(hr:Rd B w0 H A (l.flatMap lkF))
 (hp:∀a∈l,∀w,St B w0 H w->Calls Tryz.prog f ([arcV a]++cs).toArray w (Post B w0 λv K=>v=.bool (p a)/\K=H)) (hw:St B w0 H w):
 CX B w0 382 [.slice A l.length cap,.func (.func f) #[] cs.toArray] w λv K=>v=.int .i64 (Ym p l 0)/\K=H:=by
 refine Yc Tryz.func382 Tryz.ntmps382 rfl rfl hw ?_
 refine zX8 ?_
 refine Yg (λ(k:Nat)=>[(8,.int .i64 k),(7,.int .i64 l.length),(0,.slice A l.length cap),(1,.func (.func f) #[] cs.toArray)]) (λ_=>H) (λk=>k<=l.length/\Ym p l 0=Ym p (l.drop k) k) (λk=>l.length-k) 0 ⟨Tm _,by simp⟩ ?_ (λw hw=>hw) ?_
 ·exact zc1
 rintro k ⟨hk,hi⟩ K hK
 by_cases hlt:k<l.length
 ·obtain⟨a,ha⟩:∃a,l[k]? =some a:=⟨_,Ta hlt⟩
  have hpa:=hp a (Tc ha)
  rw[Z3 p l ha]at hi
  refine zX35 ?_<;>intros
  cases hpv:p a
  ·rw[hpv]at hi
   refine zX11 ?_
   apply hK (k+1)
   ·grind
   ·omega
   ·exact zc1
   exact zc17
  exact zc10
 exact zc7
structure Kz where
 i:Nat
 j:Nat
 M:List Lk
theorem Zj(p:Lk->Bool)(l:List Lk)(f:Nat)(cs:List Value)(hen:∀xs w,(callFunc f xs).run Tryz.prog w=.ok (.enter f xs) w)(hlen:l.length<=1000)
 (hp:∀a∈l,∀(X:List HP) w,St B w0 (X++H) w->Calls Tryz.prog f ([arcV a]++cs).toArray w (Post B w0 λv K=>v=.bool (p a)/\K=X++H)) (hw:St B w0 (JO A cap l::H) w):
 CX B w0 316 [.slice A l.length cap,.func (.func f) #[] cs.toArray] w λv K=>v=.slice A (l.filter λa=>!p a).length cap/\K=JO A cap (l.filter λa=>!p a)::H:=by
 refine Yc Tryz.func316 Tryz.ntmps316 rfl rfl hw ?_
 refine YsU (k:=l.length) (cap:=cap) (by(focus exact zc2)) λhcap=>?_
 have hif:=λ{w:World}(hw:St B w0 (JO A cap l::H) w)=>Yfn p l f cs hen hlen (cap:=cap) (.sl Tz) (λa ha w hw=>hp a ha [JO A cap l] w hw) hw
 rcases Ygh p l 0 with⟨h1,h2⟩|⟨i0,h1,h2,h3,a0,h4,h5⟩
 ·rw[h2]at hif
  rw[h1]
  repeat'(first|((first|apply Ya Ynm|apply Yb Ynm);exact za;exact rfl;exactλ_ hw=>(hif hw))|refine zgb ?_|(refine zge ?_ ?_<;>intro _<;>try exact zo)|fail)
  exact zc4
 rw[h2,Int.zero_add]at hif
 repeat'(first|((first|apply Ya Ynm|apply Yb Ynm);exact za;exact rfl;exactλ_ hw=>(hif hw))|refine zgc ?_|(refine zge ?_ ?_<;>intro _<;>try exact zo)|fail)
 refine Yg (λ(z:Kz)=>[(6,.int .i64 z.j),(5,.int .i64 z.i),(0,.slice A z.M.length cap),(1,.func (.func f) #[] cs.toArray)]) (λz=>JO A cap z.M::H) (λz=>z.M.length=l.length/\z.i<z.j/\z.j<=l.length/\z.M.take z.i=(l.take z.j).filter (λa=>!p a)/\z.M.drop z.j=l.drop z.j) (λz=>l.length-z.j) ⟨i0,i0+1,l⟩ ⟨rfl,by exact zc28,by exact zc28,?_,rfl⟩ ?_ (λw hw=>hw) ?_
 ·exact YvS
 ·exact zc1
 rintro⟨i,j,M⟩ ⟨hM,hij,hj,ht,hd⟩ K hK
 simp only at hM hij hj ht hd⊢
 by_cases hlt:j<l.length
 ·obtain⟨a,ha⟩:∃a,l[j]? =some a:=⟨_,Ta hlt⟩
  have hMa:M[j]? =some a:=zc87
  have hpa:=λ{X1 X2:HP}{w:World}(hw:St B w0 (X1::X2::H) w)=>hp a (Tc ha) [X1,X2] w hw
  have hft:(l.take (j+1)).filter (λa=>!p a)=M.take i++(if p a=true then []else [a]):=YvL
  obtain⟨b,hb⟩:∃b,p a=b:=⟨_,rfl⟩
  rw[hb]at hft hpa
  have hd1:∀x:Lk,(M.set i x).drop (j+1)=l.drop (j+1):=λx=>by
   exact YvM
  cases b with
  |true=>
   rw[Tn rfl,Ro]at hft
   refine zX38 ?_<;>intros
   apply hK ⟨i,j+1,M⟩
   ·exact⟨hM,by exact zc28,by exact zc28,hft.symm,by exact Yv0⟩
   ·exact zc28
   ·exact zc1
   ·exact zc51
  |false=>
   rw[Tf (by decide)]at hft
   have hMl:(M.set i a).length=M.length:=Rf
   repeat'(first|((first|apply Y3 (cs:=cs));exact rfl;exact hen;exact za;exact rfl;exactλ_ hw=>hpa hw)|(apply Zb T (f:=lkF) (l:=M) (i:=i) (a:=a);(iterate 3 exact rfl);exact zd;exactλ_=>rfl;(iterate 3 exact rfl);omega)|refine zgd ?_|(refine zge ?_ ?_<;>intro _<;>try exact zo)|(refine zgh ?_;intro _)|fail)
   apply hK ⟨i+1,j+1,M.set i a⟩
   ·refine⟨by exact zc28,by exact zc28,by exact zc28,?_,hd1 a⟩
    exact Yvy
   ·exact zc28
   ·dsimp only
    rw[hMl]
    exact zc1
   ·unfold JO
    dsimp only
    rw[hMl]
    exact zc51
 ·obtain rfl:j=l.length:=by omega
  clear hK
  rw[TV]at ht
  have hil:(l.filter λa=>!p a).length=i:=by rw[<-ht,TT];omega
  have hfl:(M.flatMap lkF).take (i*3)=(l.filter λa=>!p a).flatMap lkF:=by rw[<-XG (q:=3) (λ_=>rfl),ht]
  refine zX40 ?_<;>intros
  rw[RU]
  apply XU (sl 298 3 A i cap ((l.filter λa=>!p a).flatMap lkF)::H)
  ·intro w hw
   refine hw.shrink (e:=298) (size:=3) (cap:=cap) (A:=A) (xs:=M.flatMap lkF) (k:=M.length) (k':=i) (by omega) ?_
   rw[hfl]
   exact Upd.here _
  apply Yal T T2 (e:=298) (size:=3) (k:=i) (xs:=(l.filter λa=>!p a).flatMap lkF);exact rfl;exact Tz;(iterate 3 exact rfl);omega
  refine zX41 ?_
  rw[Ysk]
  refine zX9 ?_
  apply Yd;exact rfl;exact rfl
  exact⟨by rw[hil],by unfold JO;rw[hil]⟩
theorem Yfx(s t:Int)(gs gt:Nat)(a:Lk)(hs:blk gs (.cells #[.int .i64 s] 3 (0,0))∈H)(ht:blk gt (.cells #[.int .i64 t] 3 (0,0))∈H)(hw:St B w0 H w):
 CX B w0 381 [arcV a,.pointer (some ⟨gs,0,none⟩),.pointer (some ⟨gt,0,none⟩)] w λv K=>v=.bool (decide (a.1=s/\a.2.1=t))/\K=H:=by
 refine Yc Tryz.func381 Tryz.ntmps381 rfl rfl hw ?_
 unfold arcV
 by_cases h:a.1=s/\a.2.1=t
 ·rw[Td h]
  refine O8 ?_<;>intros
  all_goals(apply Yj;exact zc11)
 ·rw[Ti h]
  repeat'(first|refine zgd ?_|(refine zge ?_ ?_<;>intro _<;>try exact zo)|(refine zgh ?_;intro _)|fail)
  all_goals(apply Yj;apply Yd;exact rfl;exact rfl;exact⟨rfl,rfl⟩)
def U3(s t:Int)(l:List Lk):List Lk:=l.filter λa=>!decide (a.1=s/\a.2.1=t)
theorem Ya9(l:List Lk)(s t:Int)(hlen:l.length<=1000)(hr:Rd B w0 H A (l.flatMap lkF))(hw:St B w0 H w):
 CX B w0 315 [.slice A l.length cap,.int .i64 s,.int .i64 t] w λv K=>∃A' cap',v=.slice A' (U3 s t l).length cap'/\K=JO A' cap' (U3 s t l)::H:=by
 refine Yc Tryz.func315 Tryz.ntmps315 rfl rfl hw ?_
 repeat'(first|((refine zs53 ?_;intro _))|refine zga ?_|fail)
 rename_i g1 g2
 apply Ye _ Yf7
 exact za
 exact rfl
 exactλ_ hw=>(Zi l hlen (hr.cons.cons) (hw))
 rintro _ _ ⟨A',cap',rfl,rfl⟩
 repeat'(first|((apply Yw;exact za;exact rfl))|fail)
 apply Ye _ Yf6
 exact za
 exact rfl
 exactλ_ hw=>(Zj (λa=>decide (a.1=s/\a.2.1=t)) l 381 [.pointer (some ⟨g1,0,none⟩),.pointer (some ⟨g2,0,none⟩)] YxG hlen (λa _ X w hw=>Yfx s t g1 g2 a (TU _ (by simp_all)) (TU _ (by simp_all)) hw) (hw))
 rintro _ _ ⟨rfl,rfl⟩
 refine zX4 ?_
 apply Yi (JO A' cap' (U3 s t l)::H)
 ·exact Yv4
 apply Yd;exact rfl;exact rfl
 exact⟨A',cap',rfl,rfl⟩
end Go.Proofs.YtaholidehobiiaaGreatDoor
namespace Go.Eng
open Go.RowKit
variable {B:Nat}{w0:World}{H:List HP}
theorem Rd.manyT{K:List HP}{A:Option Addr}{xs:List Value}(h:Rd B w0 H A xs)(hm:Eng.many H∈K):Rd B w0 K A xs:=h.mono λw hw=>by
 obtain⟨S1,h1,h2⟩:=Yh7 hm hw.sep
 exact⟨hw.below,hw.le,V7 h2 h1⟩
end Go.Eng
namespace Go.Proofs.YtaholidehobiiaaGreatDoor
open Go.RowKit Go.Eng Go.Nw Go.Rt
def JI(pre:List Int)(v:Int):Bool:=decide (v∈pre.drop 1)
def Om(pre:List Int)(to v:Int):Bool:=!decide (v=to)&&JI pre v
def QG(pre:List Int):Int:=pre.getD 0 0
def Ycf(pre:List Int):Int:=pre.getD (pre.length-1) 0
def QI(l:List Lk)(pre:List Int)(to:Int):List Lk:=(if pre.length=2 then U3 (QG pre) to l else l).filter λa=>!(Om pre to a.1||Om pre to a.2.1)
def badB(pre:List Int)(a:Lk):Bool:=JI pre a.2.1||(JI pre a.1&&decide (a.1≠Ycf pre))||decide (a.2.1=QG pre)
def OI(l:List Lk)(pre:List Int):List Lk:=l.filter λa=>!badB pre a
noncomputable def QJ(fuel nodes:Nat)(l:List Lk)(pre:List Int)(to:Int):Option (Int×Bool):=
 if Ycf pre=to then some (Yf (Ze nodes (QI l pre to) to) (QG pre),decide (Yf (Ze nodes (QI l pre to) to) (QG pre)<YP))
 else match Wi fuel nodes (OI l pre) (Ycf pre) (QG pre) to (JI pre)with
  |none=>none
  |some r=>some (r.1,r.2.1)
variable {l:List Lk}
theorem ArcsOk.sub{nodes:Nat}{m:List Lk}(h:ArcsOk nodes l)(hm:∀a∈m,a∈l):ArcsOk nodes m:=λa ha=>h a (hm a ha)
theorem Ypf{pre:List Int}{to:Int}{a:Lk}(h:a∈QI l pre to):a∈l:=YvH
theorem Ype(l:List Lk)(pre:List Int)(to:Int):(QI l pre to).length<=l.length:=by
 unfold QI
 exact YvG
theorem Ypg(l:List Lk)(pre:List Int):(OI l pre).length<=l.length:=RX _ _
variable {B:Nat}{w0 w:World}{H:List HP}
theorem Yeq(gm gc clock:Nat)(es:Ents)(f:Int->Bool)(a:Lk)(hf:MB es f)(hm:blk gm (mobj es clock)∈H)(hc:blk gc (.cells #[.map (some gm)] 394 (0,0))∈H)(hw:St B w0 H w):
 CX B w0 379 [arcV a,.pointer (some ⟨gc,0,none⟩)] w λv K=>v=.bool (f a.1||f a.2.1)/\K=H:=by
 refine Yc Tryz.func379 Tryz.ntmps379 rfl rfl hw ?_
 unfold arcV
 obtain⟨b1,h1⟩:∃b,f a.1=b:=⟨_,rfl⟩
 obtain⟨b2,h2⟩:∃b,f a.2.1=b:=⟨_,rfl⟩
 rw[h1,h2]
 cases b1
 ·skip
  repeat'(first|(apply Yam (kt:=3) (et:=4);exact rfl;exact rfl;exact TA _ hm;kernel_rfl;exact rfl;kernel_rfl;exact hf;first|exact h1|exact h2)|refine zgc ?_|(refine zgh ?_;intro _)|fail)
  apply Yj;exact zc11
 ·skip
  repeat'(first|(apply Yam (kt:=3) (et:=4);exact rfl;exact rfl;exact TA _ hm;kernel_rfl;exact rfl;kernel_rfl;exact hf;first|exact h1|exact h2)|refine zgd ?_|(refine zgh ?_;intro _)|fail)
  apply Yj;exact zc11
theorem Yl6(gm gc ga gf clock:Nat)(es:Ents)(f:Int->Bool)(s t:Int)(a:Lk)(hf:MB es f)(hm:blk gm (mobj es clock)∈H)(hc:blk gc (.cells #[.map (some gm)] 394 (0,0))∈H)(ha:blk ga (.cells #[.int .i64 t] 3 (0,0))∈H)(hs:blk gf (.cells #[.int .i64 s] 3 (0,0))∈H)(hw:St B w0 H w):
 CX B w0 380 [arcV a,.pointer (some ⟨gc,0,none⟩),.pointer (some ⟨ga,0,none⟩),.pointer (some ⟨gf,0,none⟩)] w λv K=>v=.bool (f a.2.1||(f a.1&&decide (a.1≠t))||decide (a.2.1=s))/\K=H:=by
 refine Yc Tryz.func380 Tryz.ntmps380 rfl rfl hw ?_
 unfold arcV
 obtain⟨b1,h1⟩:∃b,f a.1=b:=⟨_,rfl⟩
 obtain⟨b2,h2⟩:∃b,f a.2.1=b:=⟨_,rfl⟩
 rw[h1,h2]
 by_cases e1:a.1=t<;>by_cases e2:a.2.1=s
 ·rw[Td e2,Ti (λh=>h e1)]
  exact zc6
 ·rw[Ti e2,Ti (λh=>h e1)]
  exact zc6
 ·rw[Td e2,Td (p:=a.1≠t) e1]
  exact zc6
 ·rw[Ti e2,Td (p:=a.1≠t) e1]
  exact zc6
structure Pz where
 ga:Nat
 gf:Nat
structure Qz where
 k:Nat
 es:Ents
 c:Nat
 f:Int->Bool
def OO(l:List Lk)(pre:List Int)(to:Int):List Lk:=if pre.length=2 then U3 (QG pre) to l else l
theorem YpB(nodes:Nat)(l:List Lk)(pre:List Int)(to:Int)(fuel:Nat)(s:Int×Bool)(hn:1<=nodes/\nodes<=40)(hl:l.length<=900)(hok:ArcsOk nodes l)(hpl:2<=pre.length/\pre.length<=1000)(hpi:∀v∈pre,0<=v/\v<nodes)(hto:0<=to/\to<nodes)(hfu:fuel<=100000)(hrun:QJ fuel nodes l pre to=some s)
 {AL AP:Option Addr}{capL capP B:Nat}{w0:World}{H:List HP}{w:World}(hr:Rd B w0 H AL (l.flatMap lkF)) (hp:Rd B w0 H AP (pre.flatMap numF)) (hcap:pre.length<=capP) (hw:St B w0 H w):
 CX B w0 314 [.int .i64 nodes,.slice AL l.length capL,.slice AP pre.length capP,.int .i64 to] w λv K=>v=.tuple #[.int .i64 s.1,.bool s.2]/\(-600000000000000<=s.1/\s.1<=3000000000)/\K=H:=by
 refine Yc Tryz.func314 Tryz.ntmps314 rfl rfl hw ?_
 have hg0:pre[0]? =some (QG pre):=Xa (by omega)
 have hg1:pre[((pre.length:Int)-1).toNat]? =some (Ycf pre):=by
  rw[show((pre.length:Int)-1).toNat=pre.length-1 by omega];exact Xa (by omega)
 have hfr:=hpi _ (Tc hg0)
 have har:=hpi _ (Tc hg1)
 obtain⟨fr,hfe⟩:∃x,QG pre=x:=⟨_,rfl⟩
 obtain⟨at_,hae⟩:∃x,Ycf pre=x:=⟨_,rfl⟩
 rw[hfe]at hg0 hfr
 rw[hae]at hg1 har
 iterate 7 (first|refine zga ?_|fail)
 refine ZW (many H::[]) (λw hw=>hw.perm (.closeT _)) ?_
 have hpT:Rd B w0 [many H] AP (pre.flatMap numF):=hp.manyT Tz
 refine Zf (λ(z:Pz)=>[(11,.pointer (some ⟨z.ga,0,none⟩)),(10,.pointer (some ⟨z.gf,0,none⟩)),(0,.int .i64 nodes),(1,.slice AL l.length capL),(2,.slice AP pre.length capP),(3,.int .i64 to)]) (λz=>blk z.gf (.cells #[.int .i64 fr] 3 (0,0))::blk z.ga (.cells #[.int .i64 at_] 3 (0,0))::H) ?_ ?_
 ·intro K hK
  apply ZN (.n1 0 (.n1 1 (.n1 2 (.n1 3 (.n1 4 (.n1 5 (.n1 6 (.n1 7 (.n1 8 (.n2 9 (.n1 10 (.n1 11 .done)) 10 (.n1 9 (.n1 11 .done)))))))))))) [12] [true]
  kernel_rfl
  kernel_rfl
  exact zy
  (simp only[Yh,nthO];rfl)
  repeat'(first|(apply Yl;try exact zl)|apply(zs91 ?_ ?_)|(apply YG;try exact zl)|refine zgd ?_|(refine zgh ?_;intro _)|fail)
  ·rename_i gf ga
   refine hK ⟨ga,gf⟩ _ _ ?_ ?_
   ·exact zc1
   ·dsimp only
    intro w hw
    have h5:St B w0 (blk gf (.cells #[.int .i64 fr] 3 (0,0))::blk ga (.cells #[.int .i64 at_] 3 (0,0))::[many H]) w:=by
     revert w
     exact zc0
    exact h5.perm (.cons _ (.cons _ (.openT _)))
  ·rename_i ga gf
   refine hK ⟨ga,gf⟩ _ _ ?_ ?_
   ·exact zc1
   ·dsimp only
    intro w hw
    have h5:St B w0 (blk gf (.cells #[.int .i64 fr] 3 (0,0))::blk ga (.cells #[.int .i64 at_] 3 (0,0))::[many H]) w:=by
     revert w
     exact zc0
    exact h5.perm (.cons _ (.cons _ (.openT _)))
 rintro⟨ga,gf⟩
 dsimp only
 have hdl:(pre.drop 1).length=pre.length-1:=Rq
 repeat'(first|(apply Yc4;exact rfl;intro gm)|(apply ZZ T (n':=(pre.drop 1).length);(iterate 4 exact rfl);omega;(rw[hdl];rfl))|refine zgd ?_|(refine zgh ?_;intro _)|fail)
 rename_i gc
 refine Yg (λ(z:Qz)=>[(34,.int .i64 z.k),(33,.int .i64 (pre.drop 1).length),(32,.slice (subA AP 1 capP 1) (pre.drop 1).length (capP-1)),(12,.pointer (some ⟨gc,0,none⟩)),(11,.pointer (some ⟨ga,0,none⟩)),(10,.pointer (some ⟨gf,0,none⟩)),(0,.int .i64 nodes),(1,.slice AL l.length capL),(2,.slice AP pre.length capP),(3,.int .i64 to)]) (λz=>blk gc (.cells #[.map (some gm)] 394 (0,0))::blk gm (mobj z.es z.c)::blk gf (.cells #[.int .i64 fr] 3 (0,0))::blk ga (.cells #[.int .i64 at_] 3 (0,0))::H)
  (λz=>z.k<=(pre.drop 1).length/\MB z.es z.f/\MOk z.es z.c/\∀v,z.f v=decide (v∈(pre.drop 1).take z.k)) (λz=>(pre.drop 1).length-z.k) ⟨0,[],0,λ_=>false⟩ ⟨Tm _,MB.nil,MOk.nil,λv=>by simp⟩ ?_ zc0 ?_
 ·exact zc1
 rintro⟨k,es,c,f⟩ ⟨hk,hmb,hmk,hf⟩ K hK
 simp only at hk hmb hmk hf⊢
 have hp1:∀{X1 X2 X3 X4:HP},Rd B w0 (X1::X2::X3::X4::H) (subA AP 1 capP 1) ((pre.drop 1).flatMap numF):=Yvg 1 (hp.cons.cons.cons.cons) hcap
 by_cases hlt:k<(pre.drop 1).length
 ·obtain⟨v,hv⟩:∃v,(pre.drop 1)[k]? =some v:=⟨_,Ta hlt⟩
  have hp1':=@hp1
  repeat'(first|(apply ZX T (f:=numF) (l:=pre.drop 1);exact rfl;exact rfl;exact hp1;exact rfl;exactλ_=>rfl;exact rfl;exact rfl;omega)|(apply JA T (f:=numF) (l:=pre.drop 1);exact rfl;exact hp1;exact hv;exactλ_=>rfl;(iterate 4 exact rfl))|(apply YmG (kt:=3) (et:=4);(iterate 3 exact rfl);kernel_rfl;(intro _ _;exact zd);exact hmb;exact hmk;intro es2 c2 m2 o2 _ _)|refine zgc ?_|(refine zge ?_ ?_<;>intro _<;>try exact zo)|fail)
  apply hK ⟨k+1,es2,c2,λu=>decide (u=v)||f u⟩
  ·refine⟨by exact zc28,m2,o2,λu=>?_⟩
   simp only
   rw[hf u,TN,hv]
   by_cases h1:u=v<;>by_cases h2:u∈(pre.drop 1).take k<;>simp[h1]
  ·exact zc28
  ·exact zc1
  exact zc17
 obtain rfl:k=(pre.drop 1).length:=by omega
 clear hK
 rw[TV]at hf
 have hmb2:MB es (JI pre):=hmb.ext hf
 clear hmb hf hp1
 unfold QJ at hrun
 rw[hfe,hae]at hrun
 by_cases hat:at_=to
 ·rw[Tn hat]at hrun
  have hin:to∈pre.drop 1:=by
   have h1:(pre.drop 1)[pre.length-2]? =some to:=by
    rw[RI,show 1+(pre.length-2)=((pre.length:Int)-1).toNat by omega,<-hat];exact hg1
   exact Tc h1
  have hsto:JI pre to=true:=Td hin
  have hll:(OO l pre to).length<=l.length:=by
   unfold OO
   split
   ·exact Yn2
   ·exact TJ _
  have hla:QI l pre to=(OO l pre to).filter λa=>!(Om pre to a.1||Om pre to a.2.1):=rfl
  have hAl:=Ype l pre to
  have hAok:ArcsOk nodes (QI l pre to):=ArcsOk.sub hok λa h=>Ypf h
  have hnn:YP=1073741824:=rfl
  by_cases h2:pre.length=2
  ·skip
   repeat'(first|(apply YmF (kt:=3) (et:=4);exact rfl;exact rfl;kernel_rfl;(intro _;exact zd);exact hmb2;exact hmk;exact hsto;intro es3 mb3 mk3)|refine zgc ?_|(refine zge ?_ ?_<;>intro _<;>try exact zo)|fail)
   have hrl:Rd B w0 (blk gc (.cells #[.map (some gm)] 394 (0,0))::blk gm (mobj es3 c)::blk gf (.cells #[.int .i64 fr] 3 (0,0))::blk ga (.cells #[.int .i64 at_] 3 (0,0))::H) AL (l.flatMap lkF):=hr.cons.cons.cons.cons
   have hlst:OO l pre to=U3 fr to l:=by unfold OO;rw[Tn h2,hfe]
   apply Ye _ YuT
   exact za
   exact rfl
   exactλ_ hw=>(Ya9 l fr to (by omega) hrl (hw))
   rintro _ _ ⟨A1,cap1,rfl,rfl⟩
   rw[<-hlst]
   refine zX4 ?_
   apply Ye _ Yf7
   exact za
   exact rfl
   exactλ_ hw=>(Zi (OO l pre to) (by omega) (.sl (by(focus exact zc2))) (hw))
   rintro _ _ ⟨A2,cap2,rfl,rfl⟩
   refine zX71 ?_
   apply Ye _ Yf6
   exact za
   exact rfl
   exactλ_ hw=>(Zj (λa=>Om pre to a.1||Om pre to a.2.1) (OO l pre to) 379 [.pointer (some ⟨gc,0,none⟩)] Yu6 (by omega) (λa _ X w hw=>Yeq gm gc c es3 (Om pre to) a mb3 (TU _ (by(focus exact zc2))) (TU _ (by(focus exact zc2))) hw) (hw))
   rintro _ _ ⟨rfl,rfl⟩
   rw[<-hla]
   refine zX4 ?_
   apply Ye _ Yq6
   exact za
   exact rfl
   exactλ_ hw=>(Uk nodes (QI l pre to) to hn.2 (by omega) hAok hto (.sl (by(focus exact zc2))) (hw))
   rintro _ _ ⟨gF,far,rfl,hd,rfl⟩
   rw[Wm hAok hd]at hrun
   obtain rfl:=Tv hrun
   have hflen:=hd.len
   have hgf:=X6 (far:=far) (i:=fr) (by omega)
   have hrf:=hd.range fr hfr.1 hfr.2
   rw[hnn]at hrf
   rw[hnn]
   apply XU (ints (some ⟨gF,0,none⟩) nodes far::blk gf (.cells #[.int .i64 fr] 3 (0,0))::H)
   ·exact zc0
   iterate 4 (first|refine zga ?_|fail)
   by_cases hlt:Yf far fr<1073741824
   ·rw[Td hlt]
    exact zc5
   ·rw[Ti hlt]
    exact zc5
  ·skip
   repeat'(first|(apply YmF (kt:=3) (et:=4);exact rfl;exact rfl;kernel_rfl;(intro _;exact zd);exact hmb2;exact hmk;exact hsto;intro es3 mb3 mk3)|refine zgc ?_|(refine zge ?_ ?_<;>intro _<;>try exact zo)|fail)
   have hrl:Rd B w0 (blk gc (.cells #[.map (some gm)] 394 (0,0))::blk gm (mobj es3 c)::blk gf (.cells #[.int .i64 fr] 3 (0,0))::blk ga (.cells #[.int .i64 at_] 3 (0,0))::H) AL (l.flatMap lkF):=hr.cons.cons.cons.cons
   have hlst:OO l pre to=l:=by unfold OO;rw[Tf h2]
   rw[<-hlst]at hrl⊢
   apply Ye _ Yf7
   exact za
   exact rfl
   exactλ_ hw=>(Zi (OO l pre to) (by omega) hrl (hw))
   rintro _ _ ⟨A2,cap2,rfl,rfl⟩
   refine zX71 ?_
   apply Ye _ Yf6
   exact za
   exact rfl
   exactλ_ hw=>(Zj (λa=>Om pre to a.1||Om pre to a.2.1) (OO l pre to) 379 [.pointer (some ⟨gc,0,none⟩)] Yu6 (by omega) (λa _ X w hw=>Yeq gm gc c es3 (Om pre to) a mb3 (TU _ (by(focus exact zc2))) (TU _ (by(focus exact zc2))) hw) (hw))
   rintro _ _ ⟨rfl,rfl⟩
   rw[<-hla]
   refine zX4 ?_
   apply Ye _ Yq6
   exact za
   exact rfl
   exactλ_ hw=>(Uk nodes (QI l pre to) to hn.2 (by omega) hAok hto (.sl (by(focus exact zc2))) (hw))
   rintro _ _ ⟨gF,far,rfl,hd,rfl⟩
   rw[Wm hAok hd]at hrun
   obtain rfl:=Tv hrun
   have hflen:=hd.len
   have hgf:=X6 (far:=far) (i:=fr) (by omega)
   have hrf:=hd.range fr hfr.1 hfr.2
   rw[hnn]at hrf
   rw[hnn]
   apply XU (ints (some ⟨gF,0,none⟩) nodes far::blk gf (.cells #[.int .i64 fr] 3 (0,0))::H)
   ·exact zc0
   iterate 4 (first|refine zga ?_|fail)
   by_cases hlt:Yf far fr<1073741824
   ·rw[Td hlt]
    exact zc5
   ·rw[Ti hlt]
    exact zc5
 ·rw[Tf hat]at hrun
  have hbad:∀a,badB pre a=(JI pre a.2.1||(JI pre a.1&&decide (a.1≠at_))||decide (a.2.1=fr)):=λa=>by unfold badB;rw[hae,hfe]
  have hBl:=Ypg l pre
  have hBok:ArcsOk nodes (OI l pre):=ArcsOk.sub hok λa h=>(Re.1 h).1
  have hlb:OI l pre=l.filter λa=>!badB pre a:=rfl
  cases hbo:Wi fuel nodes (OI l pre) at_ fr to (JI pre)with
  |none=>rw[hbo]at hrun;cases hrun
  |some r=>
   rw[hbo]at hrun
   obtain rfl:=Tv hrun
   have hrl:Rd B w0 (blk gc (.cells #[.map (some gm)] 394 (0,0))::blk gm (mobj es c)::blk gf (.cells #[.int .i64 fr] 3 (0,0))::blk ga (.cells #[.int .i64 at_] 3 (0,0))::H) AL (l.flatMap lkF):=hr.cons.cons.cons.cons
   refine zX1 ?_<;>intros
   apply Ye _ Yf7
   exact za
   exact rfl
   exactλ_ hw=>(Zi l (by omega) hrl (hw))
   rintro _ _ ⟨A2,cap2,rfl,rfl⟩
   refine zX71 ?_
   apply Ye _ Yf6
   exact za
   exact rfl
   exactλ_ hw=>(Zj (badB pre) l 380 [.pointer (some ⟨gc,0,none⟩),.pointer (some ⟨ga,0,none⟩),.pointer (some ⟨gf,0,none⟩)] YxF (by omega) (λa _ X w hw=>by rw[hbad a];exact Yl6 gm gc ga gf c es (JI pre) fr at_ a hmb2 (TU _ (by(focus exact zc2))) (TU _ (by(focus exact zc2))) (TU _ (by(focus exact zc2))) (TU _ (by(focus exact zc2))) hw) (hw))
   rintro _ _ ⟨rfl,rfl⟩
   rw[<-hlb]
   refine zX8 ?_
   apply Ye _ YuS
   exact za
   exact rfl
   exactλ_ hw=>(YfK nodes (OI l pre) at_ fr to (some gm) (JI pre) fuel r (by omega) (by omega) hBok har hfr hto hfu hbo ⟨es,c,by(focus exact zc2),hmb2,hmk⟩ (.sl (by(focus exact zc2))) (hw))
   rintro _ _ ⟨g,A,cap,rfl,⟨_,_,b3,b4⟩,rfl⟩
   refine zX11 ?_
   apply Yi H
   ·unfold gpcs
    exactλw hw=>hw.tail.tail.tail.tail.tail.tail.tail
   apply YM;(iterate 3 exact rfl)
   exact⟨rfl,⟨b3,b4⟩,rfl⟩
end Go.Proofs.YtaholidehobiiaaGreatDoor
namespace Go.Eng
open Go.RowKit
variable {B cap:Nat}{w0:World}{H:List HP}{A:Option Addr}
theorem UB{P:Program}{n:Shp}{ops:Array Oper}{Q:Exit->Act->World->Prop}{env:Env}{l:List Oper}{e size k:Nat}{xs:List Value}(hm:sl e size A k cap xs∈H)(h:k<=cap->VL P none n B w0 ops Q l env H):VL P none n B w0 ops Q l env H:=by
 refine⟨λa ha w hw=>?_⟩
 have hown:=hw.sl hm
 have hkc:k<=cap:=zc44
 exact(h hkc).run a ha w hw
end Go.Eng
namespace Go.Proofs.YtaholidehobiiaaGreatDoor
open Go.RowKit Go.Eng Go.Nw Go.Rt
section
variable (fuel nodes:Nat) (L:List Lk) (to total:Int)
noncomputable def WA(r:List Int)(spent at_:Int)(st:Int×Int)(a:Lk):Option (Int×Int):=
 if a.1≠at_\/a.2.1∈r\/(0<=st.1/\st.1<a.2.1)then some st else
  match QJ fuel nodes L (r++[a.2.1]) to with
  |none=>none
  |some s=>if s.2=true/\spent+a.2.2+s.1=total then some (a.2.1,a.2.2)else some st
noncomputable def JX(r:List Int)(spent at_:Int):List Lk->Int×Int->Option (Int×Int)
 |[],st=>some st
 |a::m,st=>match WA fuel nodes L to total r spent at_ st a with
  |none=>none
  |some st2=>JX r spent at_ m st2
noncomputable def VB:Nat->List Int->Int->Int->Option (List Int)
 |0,_,_,_=>none
 |k+1,r,spent,at_=>if at_=to then some r else
  match JX fuel nodes L to total r spent at_ L (-1,0)with
  |none=>none
  |some st=>if st.1<0 then none else VB k (r++[st.1]) (spent+st.2) st.1
end
def midP(r:List Int):List Int:=(r.drop 1).take (r.length-2)
def UR(l:List Lk)(s to:Int)(r:List Int):List Lk:=(if r.length=2 then U3 s to l else l).filter λa=>!(decide (a.1∈midP r)||decide (a.2.1∈midP r))
noncomputable def Jn(nodes:Nat)(l:List Lk)(s to:Int)(r:List Int):List Int:=wayF (UR l s to r) (Ze nodes (UR l s to r) to) s to
noncomputable def YaT(fuel nodes:Nat)(L:List Lk)(s to:Int):Option (Option (List Int×List Int)):=
 match Wi fuel nodes L s s to (λ_=>false)with
 |none=>none
 |some r=>if r.2.1=false then some none else
  match VB fuel nodes L to r.1 400 [s] 0 s with
  |none=>none
  |some p=>some (some (p,Jn nodes L s to p))
theorem Ypi{l:List Lk}{s to:Int}{r:List Int}{a:Lk}(h:a∈UR l s to r):a∈l:=YvH
theorem Yph(l:List Lk)(s to:Int)(r:List Int):(UR l s to r).length<=l.length:=by
 unfold UR
 exact YvG
variable {A:Option Addr}{cap B:Nat}{w0:World}{H:List HP}
theorem Yef(gi:Nat)(m:List Int)(a:Lk)(hlen:m.length<=1000){w:World}(hi:blk gi (.cells #[.slice A m.length cap] 93 (0,0))∈H)(hr:Rd B w0 H A (m.flatMap numF))(hw:St B w0 H w):
 CX B w0 318 [arcV a,.pointer (some ⟨gi,0,none⟩)] w λv K=>v=.bool (decide (a.1∈m)||decide (a.2.1∈m))/\K=H:=by
 refine Yc Tryz.func318 Tryz.ntmps318 rfl rfl hw ?_
 unfold arcV
 have h1:=λ{X:HP}{w:World}(hw:St B w0 (X::H) w)=>JP m a.1 (by omega) (cap:=cap) (hr.cons (X:=X)) hw
 have h2:=λ{X:HP}{w:World}(hw:St B w0 (X::H) w)=>JP m a.2.1 (by omega) (cap:=cap) (hr.cons (X:=X)) hw
 obtain⟨b1,hb1⟩:∃b,decide (a.1∈m)=b:=⟨_,rfl⟩
 obtain⟨b2,hb2⟩:∃b,decide (a.2.1∈m)=b:=⟨_,rfl⟩
 rw[hb1]at h1
 rw[hb2]at h2
 rw[hb1,hb2]
 cases b1
 ·skip
  refine zX70 ?_<;>intros
  first|apply Ya VO|apply Yb VO
  exact za
  exact rfl
  exactλ_ hw=>(h1 hw)
  refine zX11 ?_
  first|apply Ya VO|apply Yb VO
  exact za
  exact rfl
  exactλ_ hw=>(h2 hw)
  refine zX11 ?_
  apply Yj;exact zc11
 ·skip
  refine zX70 ?_<;>intros
  first|apply Ya VO|apply Yb VO
  exact za
  exact rfl
  exactλ_ hw=>(h1 hw)
  refine zX2 ?_
  apply Yj;exact zc11
structure Oz where
 k:Nat
 r:List Int
 A:Option Addr
 cap:Nat
 spent:Int
 at_:Int
structure OzOk(fuel nodes:Nat)(L:List Lk)(s to total:Int)(p:List Int)(z:Oz):Prop where
 run:VB fuel nodes L to total z.k z.r z.spent z.at_=some p
 len:1<=z.r.length/\z.r.length+z.k<=401
 mem:∀v∈z.r,0<=v/\v<nodes
 sp:0<=z.spent/\z.spent<=1000000*(z.r.length:Int)
 one:z.r.length=1->z.at_=s
structure Iz where
 j:Nat
 best:Int
 price:Int
theorem YjE(A:Option Addr)(cap:Nat)(r:List Int)(x:Int):sl 3 1 A (r.length+1) cap (r.flatMap numF++#[Value.int .i64 x].toList)=ints A cap (r++[x]):=by simp_all [ints,numF]
theorem Ypu(n:NetM)(s to:Int)(nodes fuel:Nat)(res:Option (List Int×List Int))(hck:Yo n.net=0)(hnn:n.nodes=nodes)(hs:0<=s/\s<nodes)(ht:0<=to/\to<nodes)(hst:s≠to)(hfu:fuel<=100000)(hrun:YaT fuel nodes (YI n.net) s to=some res)
 {B:Nat}{w0:World}{H:List HP}{w:World}(hin:n.In B w0 H) (hw:St B w0 H w):
 CX B w0 240 [n.val,.int .i64 s,.int .i64 to] w λv K=>match res with
  |none=>v=.slice none 0 0/\K=H
  |some pq=>∃g A1 c1 A2 c2,v=.slice (some ⟨g,0,none⟩) 2 2/\(2<=pq.1.length/\pq.1.length<=401/\pq.2.length<=1073741824)/\WayV A2 pq.2/\K=sl 93 1 (some ⟨g,0,none⟩) 2 2 ([⟨A1,c1,pq.1⟩,⟨A2,c2,pq.2⟩].flatMap rowF)::ints A1 c1 pq.1::ints A2 c2 pq.2::H:=by
 have hok:=YC hck
 have hn0:=hok.n0
 have hn1:=hok.n1
 have hnn2:n.net.nodes=n.nodes:=rfl
 have hal:(YI n.net).length<=128:=T9 (WJ _ _) hok.k0
 have hLo:=YmM hok (nodes:=nodes) hnn
 obtain⟨L,hL⟩:∃L,YI n.net=L:=⟨_,rfl⟩
 have hspecA:=λ{H:List HP}{w:World}(hin:n.In B w0 H) (hw:St B w0 H w)=>YfH n hin hck hw
 rw[hL]at hal hLo hrun hspecA
 have hno:YP=1073741824:=rfl
 refine Yc Tryz.func240 Tryz.ntmps240 rfl rfl hw ?_
 (apply YY;apply Yx;apply Yr;exact rfl;exact rfl;intro g)
 refine zX8 ?_
 apply Ye _ YuR
 exact za
 exact rfl
 exactλ_ hw=>(hspecA hin.cons (hw))
 rintro _ _ ⟨A,cap,rfl,rfl⟩
 unfold YaT at hrun
 cases hbo:Wi fuel nodes L s s to (λ_=>false)with
 |none=>rw[hbo]at hrun;cases hrun
 |some r0=>
  rw[hbo]at hrun
  obtain⟨total,ok,es0⟩:=r0
  dsimp only at hrun
  have hboth:=λ{H:List HP}{w:World}(hr:Rd B w0 H A (L.flatMap lkF)) (hw:St B w0 H w)=>YfK nodes L s s to none (λ_=>false) fuel (total,ok,es0) (capL:=cap) (by omega) (by omega) hLo hs hs ht hfu hbo (λ_=>rfl) hr hw
  rw[<-hnn]at hboth
  refine zX8 ?_
  apply Ye _ YuS
  exact za
  exact rfl
  exactλ_ hw=>(hboth (.sl (by(focus exact zc2))) (hw))
  rintro _ _ ⟨g0,A0,cap0,rfl,⟨_,_,b3,b4⟩,rfl⟩
  dsimp only at b3 b4⊢
  apply XU (JO A cap L::netB g n::H)
  ·unfold gpcs
   exactλw hw=>hw.tail.tail
  cases ok with
  |false=>
   rw[Tn rfl]at hrun
   obtain rfl:=Tv hrun
   refine zX2 ?_
   apply Yi H
   ·exactλw hw=>hw.tail.tail
   exact zc74
  |true=>
   rw[Tf (by decide)]at hrun
   cases hlo:VB fuel nodes L to total 400 [s] 0 s with
   |none=>rw[hlo]at hrun;cases hrun
   |some p=>
    rw[hlo]at hrun
    obtain rfl:=Tv hrun
    dsimp only
    refine zX26 ?_<;>intros
    rename_i g1
    refine Yg (λ(z:Oz)=>[(13,.int .i64 z.at_),(12,.int .i64 z.spent),(11,.slice z.A z.r.length z.cap),(8,.int .i64 total),(7,.slice A L.length cap),(3,.pointer (some ⟨g,0,none⟩)),(1,.int .i64 s),(2,.int .i64 to)]) (λz=>ints z.A z.cap z.r::JO A cap L::netB g n::H) (λz=>OzOk fuel nodes L s to total p z) (λz=>z.k) ⟨400,[s],some ⟨g1,0,none⟩,1,0,s⟩ ⟨hlo,by simp,λv hv=>by obtain rfl:=TG.1 hv;exact hs,by simp,λ_=>rfl⟩ ?_ (λw hw=>hw.blk_sl (cs:=numF s) (len:=1) (size:=1) rfl (by omega)) ?_
    ·exact zc1
    rintro⟨k,r,Ar,capr,spent,at_⟩ ⟨hrun2,⟨hl1,hl2⟩,hmem,⟨hsp0,hsp1⟩,hone⟩ K hK
    simp only at hrun2 hl1 hl2 hmem hsp0 hsp1 hone⊢
    cases k with
    |zero=>cases hrun2
    |succ k=>
     unfold VB at hrun2
     by_cases hat:at_=to
     ·rw[Tn hat]at hrun2
      obtain rfl:=Tv hrun2
      have hr2:2<=r.length:=by
       rcases Su 1 r.length with h|h
       ·exact h
       ·have:=hone (by omega)
        exact absurd (this.symm.trans hat) hst
      clear hK
      have hml:(midP r).length=r.length-2:=by unfold midP;rw[TT,Rq];omega
      have hPl:=Yph L s to r
      have hPok:ArcsOk nodes (UR L s to r):=ArcsOk.sub hLo λa h=>Ypi h
      obtain⟨LL,hLL⟩:∃LL,(if r.length=2 then U3 s to L else L)=LL:=⟨_,rfl⟩
      have hLLl:LL.length<=L.length:=by
       rw[<-hLL]
       split
       ·exact Yn2
       ·exact TJ _
      have hlp:UR L s to r=LL.filter λa=>!(decide (a.1∈midP r)||decide (a.2.1∈midP r)):=by rw[<-hLL];rfl
      have hfirst:=λ{A:Option Addr}{cap:Nat}{H:List HP}{w:World}(hr:Rd B w0 H A ((UR L s to r).flatMap lkF)) (hw:St B w0 H w)=>YdM nodes (UR L s to r) s to (capL:=cap) (by omega) (by omega) hPok hs ht hr hw
      rw[<-hnn]at hfirst
      by_cases h2:r.length=2
      ·skip
       rw[Tn h2]at hLL
       refine zX1 ?_<;>intros
       apply Ye _ YuT
       exact za
       exact rfl
       exactλ_ hw=>(Ya9 L s to (by omega) (.sl (by(focus exact zc2))) (hw))
       rintro _ _ ⟨A1,cap1,rfl,rfl⟩
       rw[hLL]
       refine zX2 ?_
       refine UB (e:=3) (size:=1) (k:=r.length) (cap:=capr) (A:=Ar) (xs:=r.flatMap numF) (by(focus exact zc2)) λhcapr=>?_
       apply Ou T (n':=(midP r).length);(iterate 5 exact rfl);omega;omega
       rw[Int.toNat_one]
       refine zX26 ?_<;>intros
       rename_i gi
       have hmid:∀{HH:List HP},Rd B w0 HH Ar (r.flatMap numF)->Rd B w0 HH (subA Ar 1 capr 1) ((midP r).flatMap numF):=λh=>Rd.sub (f:=numF) (q:=1) (o:=1) (k:=r.length-2) (λ_=>rfl) h hcapr
       apply Ye _ Yf7
       exact za
       exact rfl
       exactλ_ hw=>(Zi LL (by omega) (.sl (by(focus exact zc2))) (hw))
       rintro _ _ ⟨A2,cap2,rfl,rfl⟩
       refine zX71 ?_
       apply Ye _ Yf6
       exact za
       exact rfl
       exactλ_ hw=>(Zj (λa=>decide (a.1∈midP r)||decide (a.2.1∈midP r)) LL 318 [.pointer (some ⟨gi,0,none⟩)] YuU (by omega) (λa _ X w hw=>Yef gi (midP r) a (by omega) (TU _ (by(focus exact zc2))) (hmid (.sl (TU _ (by(focus exact zc2))))) hw) (hw))
       rintro _ _ ⟨rfl,rfl⟩
       rw[<-hlp]
       refine zX8 ?_
       apply Ye _ Yq5
       exact za
       exact rfl
       exactλ_ hw=>(hfirst (.sl (by(focus exact zc2))) (hw))
       rintro _ _ ⟨A9,cap9,rfl,hway,hdl,hdd,rfl⟩
       have hop:wayF (UR L s to r) (Ze nodes (UR L s to r) to) s to=Jn nodes L s to r:=rfl
       rw[hop]at hway⊢
       have hq:(Jn nodes L s to r).length<=1073741824:=Yih _ _ _ _
       refine zX16 ?_<;>intros
       rename_i gL
       apply Yi (sl 93 1 (some ⟨gL,0,none⟩) 2 2 ([⟨Ar,capr,r⟩,⟨A9,cap9,Jn nodes L s to r⟩].flatMap rowF)::ints Ar capr r::ints A9 cap9 (Jn nodes L s to r)::H)
       ·intro w hw
        have h5:St B w0 (blk gL (.cells #[.slice Ar r.length capr,.slice A9 (Jn nodes L s to r).length cap9] 93 (0,0))::ints Ar capr r::ints A9 cap9 (Jn nodes L s to r)::H) w:=by
         revert w
         exact zc0
        exact zc82
       apply Yd;exact rfl;exact rfl
       exact YvQ
      ·skip
       rw[Tf h2]at hLL
       rw[hLL]
       refine zX0 ?_<;>intros
       refine UB (e:=3) (size:=1) (k:=r.length) (cap:=capr) (A:=Ar) (xs:=r.flatMap numF) (by(focus exact zc2)) λhcapr=>?_
       apply Ou T (n':=(midP r).length);(iterate 5 exact rfl);omega;omega
       rw[Int.toNat_one]
       refine zX26 ?_<;>intros
       rename_i gi
       have hmid:∀{HH:List HP},Rd B w0 HH Ar (r.flatMap numF)->Rd B w0 HH (subA Ar 1 capr 1) ((midP r).flatMap numF):=λh=>Rd.sub (f:=numF) (q:=1) (o:=1) (k:=r.length-2) (λ_=>rfl) h hcapr
       apply Ye _ Yf7
       exact za
       exact rfl
       exactλ_ hw=>(Zi LL (by omega) (.sl (by(focus exact zc2))) (hw))
       rintro _ _ ⟨A2,cap2,rfl,rfl⟩
       refine zX71 ?_
       apply Ye _ Yf6
       exact za
       exact rfl
       exactλ_ hw=>(Zj (λa=>decide (a.1∈midP r)||decide (a.2.1∈midP r)) LL 318 [.pointer (some ⟨gi,0,none⟩)] YuU (by omega) (λa _ X w hw=>Yef gi (midP r) a (by omega) (TU _ (by(focus exact zc2))) (hmid (.sl (TU _ (by(focus exact zc2))))) hw) (hw))
       rintro _ _ ⟨rfl,rfl⟩
       rw[<-hlp]
       refine zX8 ?_
       apply Ye _ Yq5
       exact za
       exact rfl
       exactλ_ hw=>(hfirst (.sl (by(focus exact zc2))) (hw))
       rintro _ _ ⟨A9,cap9,rfl,hway,hdl,hdd,rfl⟩
       have hop:wayF (UR L s to r) (Ze nodes (UR L s to r) to) s to=Jn nodes L s to r:=rfl
       rw[hop]at hway⊢
       have hq:(Jn nodes L s to r).length<=1073741824:=Yih _ _ _ _
       refine zX16 ?_<;>intros
       rename_i gL
       apply Yi (sl 93 1 (some ⟨gL,0,none⟩) 2 2 ([⟨Ar,capr,r⟩,⟨A9,cap9,Jn nodes L s to r⟩].flatMap rowF)::ints Ar capr r::ints A9 cap9 (Jn nodes L s to r)::H)
       ·intro w hw
        have h5:St B w0 (blk gL (.cells #[.slice Ar r.length capr,.slice A9 (Jn nodes L s to r).length cap9] 93 (0,0))::ints Ar capr r::ints A9 cap9 (Jn nodes L s to r)::H) w:=by
         revert w
         exact zc0
        exact zc82
       apply Yd;exact rfl;exact rfl
       rw[<-hLL]
       exact YvQ
     ·rw[Tf hat]at hrun2
      cases hsc:JX fuel nodes L to total r spent at_ L (-1,0)with
      |none=>rw[hsc]at hrun2;cases hrun2
      |some bp=>
       rw[hsc]at hrun2
       obtain⟨bf,pf⟩:=bp
       dsimp only at hrun2
       refine zX3 ?_<;>intros
       refine Yg (λ(z:Iz)=>[(45,.int .i64 z.j),(44,.int .i64 L.length),(43,.slice A L.length cap),(15,.int .i64 z.price),(14,.int .i64 z.best),(13,.int .i64 at_),(12,.int .i64 spent),(11,.slice Ar r.length capr),(8,.int .i64 total),(7,.slice A L.length cap),(3,.pointer (some ⟨g,0,none⟩)),(1,.int .i64 s),(2,.int .i64 to)]) (λ_=>ints Ar capr r::JO A cap L::netB g n::H) (λz=>z.j<=L.length/\JX fuel nodes L to total r spent at_ (L.drop z.j) (z.best,z.price)=some (bf,pf)/\(z.best= -1\/(0<=z.best/\z.best<nodes))/\(0<=z.price/\z.price<=1000000)) (λz=>L.length-z.j) ⟨0,-1,0⟩ ⟨Tm _,hsc,.inl rfl,by exact zc28⟩ ?_ (λw hw=>hw) ?_
       ·exact zc1
       rintro⟨j,best,price⟩ ⟨hj,hsc2,hbest,⟨hpr0,hpr1⟩⟩ K2 hK2
       simp only at hj hsc2 hbest hpr0 hpr1⊢
       by_cases hlt:j<L.length
       ·obtain⟨a,ha⟩:∃a,L[j]? =some a:=⟨_,Ta hlt⟩
        obtain⟨⟨a1,a2⟩,⟨a3,a4⟩,⟨a5,a6⟩⟩:=hLo a (Tc ha)
        have hdrop:L.drop j=a::L.drop (j+1):=YvF
        rw[hdrop]at hsc2
        unfold JX WA at hsc2
        have hcon:=λ{X:HP}{w:World}(hw:St B w0 (X::ints Ar capr r::JO A cap L::netB g n::H) w)=>JP r a.2.1 (by omega) (cap:=capr) (.sl (TA _ Tz)) hw
        by_cases h1:a.1=at_
        rotate_left
        ·rw[Tn (.inl h1)]at hsc2
         refine zX48 ?_<;>intros
         apply hK2 ⟨j+1,best,price⟩
         ·exact⟨by exact zc28,hsc2,hbest,hpr0,hpr1⟩
         ·exact zc28
         ·exact zc1
         ·exact zc51
        by_cases h2:a.2.1∈r
        ·rw[Tn (.inr (.inl h2))]at hsc2
         rw[Td h2]at hcon
         repeat'(first|((first|apply Ya VO|apply Yb VO);exact za;exact rfl;exactλ_ hw=>(hcon hw))|refine zgd ?_|(refine zge ?_ ?_<;>intro _<;>try exact zo)|(refine zgh ?_;intro _)|fail)
         apply hK2 ⟨j+1,best,price⟩
         ·exact⟨by exact zc28,hsc2,hbest,hpr0,hpr1⟩
         ·exact zc28
         ·exact zc1
         ·exact zc51
        rw[Ti h2]at hcon
        by_cases h3:0<=best/\best<a.2.1
        ·rw[Tn (.inr (.inr h3))]at hsc2
         repeat'(first|((first|apply Ya VO|apply Yb VO);exact za;exact rfl;exactλ_ hw=>(hcon hw))|refine zgd ?_|(refine zgf ?_ ?_<;>intro _<;>try exact zo)|(refine zgh ?_;intro _)|fail)
         apply hK2 ⟨j+1,best,price⟩
         ·exact⟨by exact zc28,hsc2,hbest,hpr0,hpr1⟩
         ·exact zc28
         ·exact zc1
         ·exact zc51
        rw[Tf (by rintro(h|h|h);exact h h1;exact h2 h;exact h3 h)]at hsc2
        cases hrs:QJ fuel nodes L (r++[a.2.1]) to with
        |none=>rw[hrs]at hsc2;cases hsc2
        |some s2=>
         rw[hrs]at hsc2
         obtain⟨sum,fine⟩:=s2
         dsimp only at hsc2
         have hlen1:(r++[a.2.1]).length=r.length+1:=by simp
         have hfl1:(r++[a.2.1]).flatMap numF=r.flatMap numF++#[Value.int .i64 a.2.1].toList:=by simp[List.flatMap_append,numF]
         have hrest:=λ{AP:Option Addr}{capP:Nat}{H:List HP}{w:World}(hr:Rd B w0 H A (L.flatMap lkF)) (hp:Rd B w0 H AP ((r++[a.2.1]).flatMap numF)) (hcap:(r++[a.2.1]).length<=capP) (hw:St B w0 H w)=>YpB nodes L (r++[a.2.1]) to fuel (sum,fine) (capL:=cap) (by omega) (by omega) hLo ⟨by omega,by omega⟩ (λv hv=>by
          rcases TI.1 hv with hv|hv
          ·exact hmem v hv
          ·obtain rfl:=TG.1 hv
           exact⟨a3,a4⟩) ht hfu hrs hr hp hcap hw
         rw[hlen1,hfl1,<-hnn]at hrest
         dsimp only at hrest
         repeat'(first|((first|apply Ya VO|apply Yb VO);exact za;exact rfl;exactλ_ hw=>(hcon hw))|refine zgd ?_|(refine zgf ?_ ?_<;>intro _<;>try exact zo)|(refine zgh ?_;intro _)|fail)
         all_goals(
          apply ZN (.n1 0 (.n1 1 (.n1 2 (.n1 3 (.n1 5 (.n1 6 (.n1 9 (.n2 4 (.n1 7 (.n1 8 (.n1 10 (.n1 11 (.n1 12 (.n1 13 (.n1 14 (.n1 15 .done)))))))) 7 (.n1 4 (.n1 8 (.n1 10 (.n1 11 (.n1 12 (.n1 13 (.n1 14 (.n1 15 .done)))))))))))))))) [] [true,true,true,true]
          kernel_rfl
          kernel_rfl
          exact zy
          exact rfl
          repeat'(first|(apply Yl;try exact zl)|apply(zs91 ?_ ?_)|(apply YG;try exact zl)|refine zgd ?_|(refine zgh ?_;intro _)|fail)
          all_goals(
           apply Ye _ Yq3
           exact za
           exact rfl
           exactλ_ hw=>(VI r (by omega) (.sl zm) (hw))
           rintro _ _ ⟨A5,cap5,rfl,rfl⟩
           repeat'(first|(apply Yl;try exact zl)|(apply YG;try exact zl)|refine zgd ?_|(refine zgh ?_;intro _)|(refine zgi ?_;intro _ _)|fail)
           rename_i A6 cap6
           refine UB (e:=3) (size:=1) (k:=r.length+1) (cap:=cap6) (A:=A6) (xs:=r.flatMap numF++#[Value.int .i64 a.2.1].toList) zm λhcap=>?_
           apply Ye _ YxA
           exact za
           exact rfl
           exactλ_ hw=>(hrest (.sl zm) (.sl zm) hcap (hw))
           rintro _ _ ⟨rfl,⟨q1,q2⟩,rfl⟩
           by_cases hgo:fine=true/\spent+a.2.2+sum=total
           ·rw[Tn hgo]at hsc2
            obtain⟨rfl,heq⟩:=hgo
            repeat'(first|(apply Yl;try exact zl)|(apply YG;try exact zl)|refine zgd ?_|(refine zge ?_ ?_<;>intro _<;>try exact zo)|fail)
            apply hK2 ⟨j+1,a.2.1,a.2.2⟩
            ·exact⟨by simp only;omega,hsc2,.inr ⟨a3,a4⟩,by simp only;omega⟩
            ·simp only;omega
            ·exact zu
            ·exact zk
           ·rw[Tf hgo]at hsc2
            cases fine with
            |false=>
             repeat'(first|(apply Yl;try exact zl)|(apply YG;try exact zl)|refine zgd ?_|fail)
             apply hK2 ⟨j+1,best,price⟩
             ·exact⟨by simp only;omega,hsc2,hbest,hpr0,hpr1⟩
             ·simp only;omega
             ·exact zu
             ·exact zk
            |true=>
             have hne:¬spent+a.2.2+sum=total:=λh=>hgo ⟨rfl,h⟩
             repeat'(first|(apply Yl;try exact zl)|(apply YG;try exact zl)|refine zgd ?_|(refine zge ?_ ?_<;>intro _<;>try exact zo)|fail)
             apply hK2 ⟨j+1,best,price⟩
             ·exact⟨by simp only;omega,hsc2,hbest,hpr0,hpr1⟩
             ·simp only;omega
             ·exact zu
             ·exact zk))
       ·obtain rfl:j=L.length:=by omega
        rw[SG]at hsc2
        obtain⟨rfl,rfl⟩:=N7 (Tv hsc2)
        clear hK2
        by_cases hneg:best<0
        ·rw[Tn hneg]at hrun2;cases hrun2
        rw[Tf hneg]at hrun2
        refine YnW ?_<;>intros
        rename_i A3 cap3
        apply hK ⟨k,r++[best],A3,cap3,spent+price,best⟩
        ·refine⟨hrun2,?_,λv hv=>?_,?_,λh=>?_⟩
         ·exact YvW
         ·rcases TI.1 hv with hv|hv
          ·exact hmem v hv
          ·obtain rfl:=TG.1 hv
           omega
         ·exact YvW
         ·simp only[To,TO]at h;omega
        ·exact zc28
        ·dsimp only
         rw[To,TO];exact zc1
        ·dsimp only
         rw[<-YjE]
         exact zc0
def XF(n:Net)(u v:Int):Int:=Jq n u v+1
variable {n:Net}
theorem Ypl(h:Ok n){u v c:Int}:(u,v,c)∈YI n↔Yz n u v=true/\c=Jq n u v+1:=by
 unfold YI
 rw[Wv]
 constructor
 ·rintro⟨i,hi,hu,he⟩
  unfold Wd at he
  rw[JM h hi]at hu
  grind [Jq,Qg]
 ·rintro⟨hg,rfl⟩
  have hf:=JD hg
  have hl:=XR hf
  obtain⟨e1,e2⟩:=Vv hf
  refine⟨(Yt n u v).toNat,hl,?_,?_⟩
  all_goals grind [JM,Wd,Jq]
theorem net0(h:Ok n):Net3 (Yz n) (XF n) (YI n):=⟨λu v c=>Ypl h,λu v _=>by have:=US h u v;grind [XF]⟩
theorem Ydf(h:Ok n):Arcs8 n.nodes.toNat (YI n):=by
 intro a ha
 obtain⟨i,hi,_,rfl⟩:=Wv.1 ha
 have hl:=h.lk i hi
 have h1:=hl.f0;have h2:=hl.f1;have h3:=hl.t0;have h4:=hl.t1;have h5:=hl.l0;have h6:=hl.l1
 grind [Wd]
theorem QS{n:Net}(h:Ok n):∀k,k<=n.links.length->(ZI n k).Nodup
 |0,_=>by simp[ZI]
 |k+1,hk=>by
  have ih:=QS h k (by omega)
  cases hu:ZU n k with
  |false=>grind [Ybc]
  |true=>
   rw[QR hu]
   grind [Wv,Wd,Qg]
def rt(s t:Int)(ms:List Int):List Int:=s::(ms++[t])
structure IsRt(n:Net)(s t:Int)(ms:List Int):Prop where
 path:Yai (Yz n) n.nodes.toNat t s ms
 nd:(rt s t ms).Nodup
variable {s t:Int}{ms:List Int}
theorem QL(h:(rt s t ms).Nodup):s≠t/\s∉ms/\t∉ms/\ms.Nodup:=by
 unfold rt at h
 grind
theorem YnF(h1:s≠t)(h2:s∉ms)(h3:t∉ms)(h4:ms.Nodup):(rt s t ms).Nodup:=by
 unfold rt
 grind
theorem O0(s t:Int)(ms:List Int):(rt s t ms).length=ms.length+2:=by simp[rt]
theorem YbF{p q:List Int}(h:rt s t p=rt s t q):p=q:=by
 grind [rt,List.append_cancel_right]
structure Two(n:Net)(s t:Int)(mp mq:List Int):Prop where
 p:IsRt n s t mp
 q:IsRt n s t mq
 ne:mp≠mq
 dis:∀x∈mp,x∉mq
theorem Two.symm{mp mq:List Int}(h:Two n s t mp mq):Two n s t mq mp:=⟨h.q,h.p,NU h.ne,λx hx hy=>h.dis x hy hx⟩
def key(n:Net)(s t:Int)(ms:List Int):Int:=keyG (XF n) (rt s t ms)
theorem Ykx(a b to:Int)(closed:Int->Bool)(x:Int):Y5 a b to closed x=false↔(x≠a/\x≠b/\x≠to)/\closed x=false:=by
 unfold Y5
 rw[Bool.or_eq_false_iff,TP]
 constructor
 ·rintro⟨h1,h2⟩;exact⟨⟨λh=>h1 (.inl h),λh=>h1 (.inr (.inl h)),λh=>h1 (.inr (.inr h))⟩,h2⟩
 ·rintro⟨⟨h1,h2,h3⟩,h4⟩;exact⟨by rintro(h|h|h);exact h1 h;exact h2 h;exact h3 h,h4⟩
theorem YpU(hok:Ok n)(hs:0<=s/\s<n.nodes)(ht:0<=t/\t<n.nodes)(hst:s≠t):∃r,Wi 100000 n.nodes.toNat (YI n) s s t (λ_=>false)=some r/\((r.2.1=true/\(∃L π,YcE n.nodes.toNat (YI n) s s t r.1 (Y5 s s t (λ_=>false)) r.2.2 L π)/\(∃mp mq,Two n s t mp mq/\key n s t mp+key n s t mq=r.1)/\∀mp mq,Two n s t mp mq->r.1<=key n s t mp+key n s t mq)\/(r.2.1=false/\∀mp mq,¬Two n s t mp mq)):=by
 have hn0:=hok.n0
 have hn1:=hok.n1
 have hnet:=net0 hok
 have h8:=Ydf hok
 have hsh:∀x,Y5 s s t (λ_=>false) x=false↔x≠s/\x≠t:=λx=>by rw[Ykx];simp
 have hto:Y5 s s t (λ_=>false) t=true:=by unfold Y5;simp
 have hm:2*n.nodes.toNat*(48*n.nodes.toNat+1)<100000:=by
  have h1:n.nodes.toNat<=32:=by omega
  have h2:2*n.nodes.toNat*(48*n.nodes.toNat+1)<=64*1537:=Nat.mul_le_mul (by omega) (by omega)
  omega
 obtain⟨r,hr,h⟩:=YiV (closed:=λ_=>false) (fuel:=100000) ⟨by omega,by omega⟩ h8 (QS hok n.links.length (TJ _)) ⟨hs.1,by omega⟩ ⟨hs.1,by omega⟩ ⟨ht.1,by omega⟩ hm
 refine⟨r,hr,?_⟩
 --two routes are two ways
 have hto2:∀mp mq,Two n s t mp mq->∃ps qs,Cand (YI n) (Y5 s s t (λ_=>false)) s s t ps qs/\Zp ps+Zp qs=key n s t mp+key n s t mq:=by
  intro mp mq h2
  obtain⟨_,p1,p2,p3⟩:=QL h2.p.nd
  obtain⟨_,q1,q2,q3⟩:=QL h2.q.nd
  obtain⟨ps,a1,a2,a3⟩:=VF (sh:=Y5 s s t (λ_=>false)) hnet mp s h2.p.path λx hx=>(hsh x).2 ⟨λe=>p1 (e▸hx),λe=>p2 (e▸hx)⟩
  obtain⟨qs,b1,b2,b3⟩:=VF (sh:=Y5 s s t (λ_=>false)) hnet mq s h2.q.path λx hx=>(hsh x).2 ⟨λe=>q1 (e▸hx),λe=>q2 (e▸hx)⟩
  have hnn:(Xs ps++Xs qs).Nodup:=by
   rw[a2,b2]
   exact Rk.2 ⟨p3,q3,λa ha b hb e=>h2.dis a ha (e▸hb)⟩
  refine⟨ps,qs,⟨a1,b1,?_,hnn⟩,by rw[a3,b3];rfl⟩
  --the arcs are not the same
  have hta:=Qv a1
  have htb:=Qv b1
  rw[a2]at hta
  rw[b2]at htb
  have n1:ps.Nodup:=JW (f:=λa:Lk=>a.1) (by rw[hta];exact S9.2 ⟨p1,p3⟩)
  have n2:qs.Nodup:=JW (f:=λa:Lk=>a.1) (by rw[htb];exact S9.2 ⟨q1,q3⟩)
  refine Rk.2 ⟨n1,n2,λa ha b hb e=>?_⟩
  subst e
  have e1:a.1∈s::mp:=by rw[<-hta];exact TC.2 ⟨a,ha,rfl⟩
  have e2:a.1∈s::mq:=by rw[<-htb];exact TC.2 ⟨a,hb,rfl⟩
  have e3:=YgR a1 a ha
  have e4:=YgR b1 a hb
  rw[a2]at e3
  rw[b2]at e4
  have hhead:a.2.1=t:=by
   rcases e3 with h|h
   ·exact h
   ·rcases e4 with h'|h'
    ·exact h'
    ·exact absurd h' (h2.dis _ h)
  --an arc to t is the last one of a way
  have hfirst:∀{u:Int}{cs:List Lk}{ms:List Int},Rt.Way (YI n) (Y5 s s t (λ_=>false)) t u cs->Xs cs=ms->u∉ms->ms.Nodup->a∈cs->a.1=u->a.2.1=t->ms=[]:=by
   intro u cs ms hw hi hu hnd hac hau hat
   cases hw with
   |last _ _=>rw[<-hi];rfl
   |@step c cs hc hs2 hw=>
    rcases TL.1 hac with rfl|hac
    ·rw[hat,hto]at hs2;cases hs2
    ·exfalso
     apply hu
     rw[<-hi]
     have:Xs (c::cs)=cs.map λa=>a.1:=rfl
     rw[this,<-hau]
     exact TC.2 ⟨a,hac,rfl⟩
  rcases TL.1 e1 with h3|h3
  ·have m1:=hfirst a1 a2 p1 p3 ha h3 hhead
   have m2:=hfirst b1 b2 q1 q3 hb h3 hhead
   exact h2.ne (m1.trans m2.symm)
  ·rcases TL.1 e2 with h4|h4
   ·rw[h4]at h3;exact p1 h3
   ·exact h2.dis _ h3 h4
 have hfrom:∀ps qs,Cand (YI n) (Y5 s s t (λ_=>false)) s s t ps qs->Two n s t (Xs ps) (Xs qs)/\Zp ps+Zp qs=key n s t (Xs ps)+key n s t (Xs qs):=by
  intro ps qs hc
  obtain⟨p1,p2⟩:=UV hnet h8 hto hc.p hst
  obtain⟨q1,q2⟩:=UV hnet h8 hto hc.q hst
  obtain⟨n1,n2,n3⟩:=Rk.1 hc.nodes
  have hps:=hc.p.open_
  have hqs:=hc.q.open_
  have hrp:(rt s t (Xs ps)).Nodup:=YnF hst (λh=>((hsh s).1 (hps s h)).1 rfl) (λh=>((hsh t).1 (hps t h)).2 rfl) n1
  have hrq:(rt s t (Xs qs)).Nodup:=YnF hst (λh=>((hsh s).1 (hqs s h)).1 rfl) (λh=>((hsh t).1 (hqs t h)).2 rfl) n2
  refine⟨⟨⟨p1,hrp⟩,⟨q1,hrq⟩,λe=>?_,λx hx hy=>n3 x hx x hy rfl⟩,by rw[p2,q2];rfl⟩
  cases hia:Xs ps with
  |cons x xs=>
   rw[<-e,hia]at n3
   exact n3 x Tz x Tz rfl
  |nil=>
   rw[hia]at e p1
   rw[<-e]at q1
   have hone:∀{cs:List Lk},Rt.Way (YI n) (Y5 s s t (λ_=>false)) t s cs->Xs cs=[]->cs=[(s,t,XF n s t)]:=by
    intro cs hw hi
    generalize hu:s=u at hw
    cases hw with
    |@last a ha hat=>
     obtain⟨a1,a2,a3⟩:=a
     simp only at hat hu
     subst hat hu
     rw[((hnet.iff _ _ _).1 ha).2]
    |step _ _ hw=>
     rw[hw.inner_cons]at hi
     cases hi
   have ha:=hone hc.p hia
   have hb:=hone hc.q e.symm
   have:=(Rk.1 hc.arcs).2.2 (s,t,XF n s t) (by rw[ha];simp) (s,t,XF n s t) (by rw[hb];simp)
   exact this rfl
 rcases h with⟨h1,h2,⟨ps,qs,hc,he⟩,h4⟩|⟨h1,h2⟩
 ·obtain⟨k1,k2⟩:=hfrom ps qs hc
  refine .inl ⟨h1,h2,⟨_,_,k1,by rw[<-k2];exact he⟩,λmp mq hm=>?_⟩
  obtain⟨ps,qs,hc,he⟩:=hto2 mp mq hm
  rw[<-he]
  exact h4 ps qs hc
 ·refine .inr ⟨h1,λmp mq hm=>?_⟩
  obtain⟨ps,qs,hc,_⟩:=hto2 mp mq hm
  exact h2 ps qs hc
variable {t u s v:Int}{p mp mq:List Int}
theorem Yeg{st st2:Int->Int->Bool}{nodes:Nat}(h:PathG st nodes t u p)(hs:∀x y,st x y=true->st2 x y=true):PathG st2 nodes t u p:=h.mono λx y _ _=>hs x y
theorem YlY{st:Int->Int->Bool}{nodes:Nat}(h:PathG st nodes t u p):∀x∈p,∃y,st y x=true:=by
 induction h with
 |done=>simp_all
 |@step u v r hu hs hv h ih=>
  grind
variable {a b:Bool}
theorem Wb(h:(a&&b)=true):a=true:=by simp_all
theorem QQ(h:(a&&b)=true):b=true:=by simp_all
variable {n:Net}
theorem Q6(h:Ok n)(g:Lk->Bool):Net3 (λu v=>Yz n u v&&g (u,v,XF n u v)) (XF n) ((YI n).filter g):=by
 refine⟨λu v c=>?_,λu v hs=>(net0 h).pos u v (Wb hs)⟩
 rw[Re]
 constructor
 ·rintro⟨h1,h2⟩
  obtain⟨hg,rfl⟩:=((net0 h).iff u v c).1 h1
  simp_all
 ·rintro⟨h1,rfl⟩
  exact⟨((net0 h).iff u v _).2 ⟨Wb h1,rfl⟩,QQ h1⟩
def ZJ(s t:Int)(mp:List Int)(a:Lk):Bool:=!(decide (a.1∈mp)||decide (a.2.1∈mp))&&!(decide (mp=[])&&decide (a.1=s/\a.2.1=t))
theorem YnC{l:List Lk}{g:Lk->Bool}(k:Nat)(hk:k=2↔mp=[])(hg:∀a,g a=!(decide (a.1∈mp)||decide (a.2.1∈mp))):((if k=2 then U3 s t l else l).filter g)=l.filter (ZJ s t mp):=by
 by_cases h:mp=[]
 ·rw[Tn (hk.2 h)]
  unfold U3
  rw[SN]
  apply SJ
  simp_all [ZJ]
 ·rw[Tf (λe=>h (hk.1 e))]
  apply SJ
  simp_all [ZJ]
theorem Yse(s t:Int)(mp:List Int):(rt s t mp).length=2↔mp=[]:=by
 grind [O0]
theorem YnP(s t:Int)(mp:List Int):Ycf (rt s t mp)=t:=by
 simp_all [Ycf,rt]
theorem Yrw(l:List Lk)(s t:Int)(mp:List Int):UR l s t (rt s t mp)=l.filter (ZJ s t mp):=by
 apply YnC _ (Yse s t mp)
 grind [midP,rt]
theorem Yrv(l:List Lk)(h:t∉mp):QI l (rt s t mp) t=l.filter (ZJ s t mp):=by
 apply YnC _ (Yse s t mp)
 have:∀v,Om (rt s t mp) t v=decide (v∈mp):=λv=>by
  unfold Om JI rt
  grind
 simp_all
def stA(n:Net)(s t:Int)(mp:List Int)(u v:Int):Bool:=Yz n u v&&ZJ s t mp (u,v,XF n u v)
theorem We{c:Int}:ZJ s t mp (u,v,c)=true↔(u∉mp/\v∉mp)/\¬(mp=[]/\u=s/\v=t):=by
 unfold ZJ
 grind
theorem WW(hp:IsRt n s t mp):(Yai (stA n s t mp) n.nodes.toNat t s mq/\(rt s t mq).Nodup)↔Two n s t mp mq:=by
 obtain⟨hst,p1,p2,p3⟩:=QL hp.nd
 constructor
 ·rintro⟨h,hnd⟩
  have hd:∀x∈mq,x∉mp:=λx hx=>by
   obtain⟨y,hy⟩:=YlY h x (RN _ hx)
   exact(We.1 (QQ hy)).1.2
  refine⟨hp,⟨Yeg h λx y hxy=>Wb hxy,hnd⟩,λe=>?_,λx hx hy=>hd x hy hx⟩
  subst e
  cases mp with
  |cons x xs=>grind [Tz]
  |nil=>
   cases h with
   |step _ hs _ _=>exact(We.1 (QQ hs)).2 ⟨rfl,rfl,rfl⟩
 ·intro h2
  refine⟨?_,h2.q.nd⟩
  obtain⟨_,q1,q2,q3⟩:=QL h2.q.nd
  have hx:∀x,x=s\/x∈mq++[t]->x∉mp:=λx hx hm=>by
   rcases hx with rfl|hx
   ·simp_all
   ·rcases TI.1 hx with h|h
    ·exact h2.dis x hm h
    simp_all
  by_cases he:mp=[]
  ·cases mq with
   |nil=>exact absurd he h2.ne
   |cons m ms=>
    have hpa:=h2.q.path
    cases hpa with
    |step hu hs hv h=>
     have hmt:m≠t:=by grind
     refine .step hu ?_ hv (h.mono λx y hx2 hy hxy=>?_)
     ·simp_all [stA,We]
     ·unfold stA
      rw[hxy]
      have hxm:x∈(m::ms)++[t]:=by
       simp_all
      refine We.2 ⟨⟨hx x (.inr hxm),hx y (.inr (TA _ hy))⟩,λh=>?_⟩
      simp_all
  ·refine h2.q.path.mono λx y hx2 hy hxy=>?_
   unfold stA
   rw[hxy]
   exact We.2 ⟨⟨hx x hx2,hx y (.inr hy)⟩,λh=>he h.1⟩
theorem YnO(hok:Ok n)(hs:0<=s/\s<n.nodes)(hp:IsRt n s t mp):mp.length+2<=n.nodes.toNat:=by
 have:=Rt.nodup_len n.nodes.toNat _ hp.nd λx hx=>by
  rcases TL.1 hx with rfl|hx
  ·omega
  ·exact Yeh hp.path x hx
 grind [O0]
theorem Ygy(hok:Ok n)(hs:0<=s/\s<n.nodes)(ht:0<=t/\t<n.nodes)(hp:IsRt n s t mp):
 (Yf (Ze n.nodes.toNat ((YI n).filter (ZJ s t mp)) t) s<YP/\∃mq,Two n s t mp mq/\Jn n.nodes.toNat (YI n) s t (rt s t mp)=rt s t mq/\key n s t mq=Yf (Ze n.nodes.toNat ((YI n).filter (ZJ s t mp)) t) s/\FirstMin (keyG (XF n)) (XJ (stA n s t mp) n.nodes.toNat t (n.nodes.toNat-1) [s]) (rt s t mq))\/(YP<=Yf (Ze n.nodes.toNat ((YI n).filter (ZJ s t mp)) t) s/\∀mq,¬Two n s t mp mq):=by
 have hn0:=hok.n0
 have hn1:=hok.n1
 obtain⟨hst,_⟩:=QL hp.nd
 have hnet:Net3 (stA n s t mp) (XF n) ((YI n).filter (ZJ s t mp)):=Q6 hok _
 have h8:Arcs8 n.nodes.toNat ((YI n).filter (ZJ s t mp)):=(Ydf hok).sub λa ha=>(Re.1 ha).1
 have hd:=Ydx (to:=t) (by omega) h8 ⟨ht.1,by omega⟩
 unfold Jn
 rw[Yrw]
 obtain⟨far,hfar⟩:∃far,Ze n.nodes.toNat ((YI n).filter (ZJ s t mp)) t=far:=⟨_,rfl⟩
 rw[hfar]at hd⊢
 rcases Me (Yf far s) YP with hlt|hge
 ·left
  refine⟨hlt,?_⟩
  obtain⟨h1,h2⟩:=YgQ hnet h8.ok hd ⟨ht.1,by omega⟩ (λu v hg=>by
   have:=h8 (u,v,XF n u v) ((hnet.iff u v _).2 ⟨hg,rfl⟩)
   simp_all) (by omega) (Yf far s).toNat (n.nodes.toNat-1) [s] s (by simp) (by simp) rfl hs.1 (by omega) hlt (TJ _) (λx hx=>by grind) (by grind)
  have hmem:=h1.mem
  obtain⟨p,hpe,hpath⟩:=VE _ _ _ hmem
  have hnd:=Ux _ _ _ (by simp) hmem
  obtain⟨mq,rfl⟩:=YbA hpath hst
  rw[hpe]at h1 h2 hnd
  have hwf:wayF ((YI n).filter (ZJ s t mp)) far s t=rt s t mq:=by
   unfold wayF
   rw[Tf (by omega)]
   exact hpe
  refine⟨mq,(WW hp).1 ⟨hpath,hnd⟩,hwf,?_,h1⟩
  have:keyG (XF n) [s]=0:=rfl
  have h3:key n s t mq=keyG (XF n) [s]+Yf far s:=h2
  omega
 ·right
  refine⟨hge,λmq h2=>?_⟩
  have hl:=YnO hok hs h2.q
  have:=(YaU hnet hd ((WW hp).2 h2).1 (by grind)).2
  omega
theorem Yj3(hok:Ok n)(hs:0<=s/\s<n.nodes)(ht:0<=t/\t<n.nodes)(h2:Two n s t mp mq):Yf (Ze n.nodes.toNat ((YI n).filter (ZJ s t mp)) t) s<=key n s t mq:=by
 have hn1:=hok.n1
 have hnet:Net3 (stA n s t mp) (XF n) ((YI n).filter (ZJ s t mp)):=Q6 hok _
 have h8:Arcs8 n.nodes.toNat ((YI n).filter (ZJ s t mp)):=(Ydf hok).sub λa ha=>(Re.1 ha).1
 have hd:=Ydx (to:=t) (by omega) h8 ⟨ht.1,by omega⟩
 have hl:=YnO hok hs h2.q
 exact(YaU hnet hd ((WW h2.p).2 h2).1 (by grind)).1
theorem Yr5(hok:Ok n)(hs:0<=s/\s<n.nodes)(ht:0<=t/\t<n.nodes)(hp:IsRt n s t mp)(fuel:Nat):∃c,QJ fuel n.nodes.toNat (YI n) (rt s t mp) t=some c/\((c.2=true/\(∃mq,Two n s t mp mq/\key n s t mq=c.1)/\∀mq,Two n s t mp mq->c.1<=key n s t mq)\/(c.2=false/\∀mq,¬Two n s t mp mq)):=by
 obtain⟨_,_,p2,_⟩:=QL hp.nd
 unfold QJ
 rw[Tn (YnP s t mp),Yrv _ p2]
 refine⟨_,rfl,?_⟩
 have hh:QG (rt s t mp)=s:=rfl
 rcases Ygy hok hs ht hp with⟨h1,mq,h2,_,h3,_⟩|⟨h1,h2⟩
 ·exact .inl ⟨Td h1,⟨mq,h2,h3⟩,λmq h2=>Yj3 hok hs ht h2⟩
 simp_all
theorem Yr6(hok:Ok n){ms:List Int}(hs:0<=s/\s<n.nodes)(ht:0<=t/\t<n.nodes)(hv:0<=v/\v<n.nodes)(hst:s≠t)(hvt:v≠t)(htm:t∉ms)(hnd:(s::(ms++[v])).Nodup)(hext:∀p,PathG (Yz n) n.nodes.toNat t v p->PathG (Yz n) n.nodes.toNat t s (ms++v::p)):
 ∃c,QJ 100000 n.nodes.toNat (YI n) (s::(ms++[v])) t=some c/\((c.2=true/\(∃x mq,Two n s t (ms++v::x) mq/\keyG (XF n) (v::(x++[t]))+key n s t mq=c.1)/\∀x mq,Two n s t (ms++v::x) mq->c.1<=keyG (XF n) (v::(x++[t]))+key n s t mq)\/(c.2=false/\∀x mq,¬Two n s t (ms++v::x) mq)):=by
 have hn0:=hok.n0
 have hn1:=hok.n1
 obtain⟨pre,hpre⟩:∃pre,s::(ms++[v])=pre:=⟨_,rfl⟩
 have hlast:Ycf pre=v:=by rw[<-hpre];exact YnP s v ms
 have hhead:QG pre=s:=by rw[<-hpre];rfl
 have hshP:∀x,JI pre x=decide (x∈ms++[v]):=λx=>by rw[<-hpre];rfl
 obtain⟨hnd1,hnd2⟩:=S9.1 hnd
 obtain⟨hnd3,_,hnd4⟩:=Rk.1 hnd2
 have hvm:v∉ms:=λh=>hnd4 v h v (by simp) rfl
 have hsv:s≠v:=λe=>hnd1 (by rw[e];simp)
 have hsm:s∉ms:=λe=>hnd1 (RN _ e)
 unfold QJ
 rw[hpre,hlast,hhead,Tf hvt]
 have hbad:∀u x c:Int,(!badB pre (u,x,c))=true↔x∉ms++[v]/\(u∈ms++[v]->u=v)/\x≠s:=λu x c=>by
  unfold badB
  rw[hlast,hhead,hshP,hshP]
  simp only[RS,Bool.or_eq_false_iff,TP,Bool.and_eq_false_iff,ne_eq,Rn]
  constructor
  ·rintro⟨⟨h1,h2⟩,h3⟩
   refine⟨h1,λh4=>?_,h3⟩
   rcases h2 with h2|h2
   ·exact absurd h4 h2
   ·exact h2
  ·rintro⟨h1,h2,h3⟩
   refine⟨⟨h1,?_⟩,h3⟩
   by_cases h4:u∈ms++[v]
   ·exact .inr (h2 h4)
   ·exact .inl h4
 have hnet:Net3 (λu x=>Yz n u x&&!badB pre (u,x,XF n u x)) (XF n) (OI (YI n) pre):=Q6 hok λa=>!badB pre a
 have h8:Arcs8 n.nodes.toNat (OI (YI n) pre):=(Ydf hok).sub λa ha=>(Re.1 ha).1
 have hlnd:(OI (YI n) pre).Nodup:=(S8 (l:=YI n)).nodup (QS hok n.links.length (TJ _))
 have hsh:∀x,Y5 v s t (JI pre) x=false↔(x≠v/\x≠s/\x≠t)/\x∉ms++[v]:=λx=>by rw[Ykx,hshP,TP]
 have hto:Y5 v s t (JI pre) t=true:=by unfold Y5;simp
 have hm:2*n.nodes.toNat*(48*n.nodes.toNat+1)<100000:=by
  have h1:n.nodes.toNat<=32:=by omega
  have h2:2*n.nodes.toNat*(48*n.nodes.toNat+1)<=64*1537:=Nat.mul_le_mul (by omega) (by omega)
  omega
 obtain⟨r,hr,h⟩:=YiV (closed:=JI pre) (fuel:=100000) ⟨by omega,by omega⟩ h8 hlnd (a:=v) (b:=s) (to:=t) ⟨hv.1,by omega⟩ ⟨hs.1,by omega⟩ ⟨ht.1,by omega⟩ hm
 rw[hr]
 refine⟨_,rfl,?_⟩
 have hto2:∀x mq,Two n s t (ms++v::x) mq->∃ps qs,Cand (OI (YI n) pre) (Y5 v s t (JI pre)) v s t ps qs/\Zp ps+Zp qs=keyG (XF n) (v::(x++[t]))+key n s t mq:=by
  intro x mq h2
  obtain⟨_,p1,p2,p3⟩:=QL h2.p.nd
  obtain⟨_,q1,q2,q3⟩:=QL h2.q.nd
  obtain⟨p4,p5,p6⟩:=Rk.1 p3
  obtain⟨p7,p8⟩:=S9.1 p5
  have hx1:∀y∈x,(y≠v/\y≠s/\y≠t)/\y∉ms++[v]:=λy hy=>by
   have h1:y≠v:=λe=>p7 (e▸hy)
   have h2:y∈ms++v::x:=by simp[hy]
   refine⟨⟨h1,λe=>p1 (e▸h2),λe=>p2 (e▸h2)⟩,λh=>?_⟩
   rcases TI.1 h with h|h
   ·exact p6 y h y (TA _ hy) rfl
   ·exact h1 (TG.1 h)
  have hq1:∀y∈mq,(y≠v/\y≠s/\y≠t)/\y∉ms++[v]:=λy hy=>by
   refine⟨⟨λe=>h2.dis v (by simp) (e▸hy),λe=>q1 (e▸hy),λe=>q2 (e▸hy)⟩,λh=>?_⟩
   rcases TI.1 h with h|h
   ·exact h2.dis y (by simp[h]) hy
   ·obtain rfl:=TG.1 h
    exact h2.dis y (by simp) hy
  have htv:t∉ms++[v]:=λh=>by
   rcases TI.1 h with h|h
   ·exact htm h
   ·exact hvt (TG.1 h).symm
  have hend:∀{z:List Int},(∀y∈z,(y≠v/\y≠s/\y≠t)/\y∉ms++[v])->∀y∈z++[t],y∉ms++[v]/\y≠s:=λhz y hy=>by
   rcases TI.1 hy with h|h
   ·exact⟨(hz y h).2,(hz y h).1.2.1⟩
   ·obtain rfl:=TG.1 h
    exact⟨htv,NU hst⟩
  have hpath:Yai (Yz n) n.nodes.toNat t v x:=by
   have:=h2.p.path
   unfold Yai at this
   rw[TY,TD]at this
   exact PathG.append this
  obtain⟨ps,a1,a2,a3⟩:=VF (sh:=Y5 v s t (JI pre)) hnet x v (hpath.mono λy z hy hz hyz=>by
   rw[hyz,RO,hbad]
   refine⟨(hend hx1 z hz).1,λh=>?_,(hend hx1 z hz).2⟩
   rcases hy with rfl|hy
   ·rfl
   ·exact absurd h (hend hx1 y hy).1) λy hy=>(hsh y).2 (hx1 y hy)
  obtain⟨qs,b1,b2,b3⟩:=VF (sh:=Y5 v s t (JI pre)) hnet mq s (h2.q.path.mono λy z hy hz hyz=>by
   rw[hyz,RO,hbad]
   refine⟨(hend hq1 z hz).1,λhin4=>?_,(hend hq1 z hz).2⟩
   rcases hy with hy|hy
   ·rw[hy]at hin4;exact absurd hin4 hnd1
   ·exact absurd hin4 (hend hq1 y hy).1) λy hy=>(hsh y).2 (hq1 y hy)
  have hnn:(x++mq).Nodup:=Rk.2 ⟨p8,q3,λa ha b hb e=>h2.dis a (by simp[ha]) (e▸hb)⟩
  refine⟨ps,qs,⟨a1,b1,?_,by rw[a2,b2];exact hnn⟩,by rw[a3,b3];rfl⟩
  apply JW (f:=λa:Lk=>a.1)
  rw[Rb,Qv a1,Qv b1,a2,b2]
  refine Rk.2 ⟨p5,S9.2 ⟨q1,q3⟩,λa ha b hb e=>?_⟩
  subst e
  have ha2:a∈ms++v::x:=TU _ ha
  rcases TL.1 hb with rfl|hb
  ·exact p1 ha2
  ·exact h2.dis a ha2 hb
 have hfrom:∀ps qs,Cand (OI (YI n) pre) (Y5 v s t (JI pre)) v s t ps qs->Two n s t (ms++v::Xs ps) (Xs qs)/\Zp ps+Zp qs=keyG (XF n) (v::(Xs ps++[t]))+key n s t (Xs qs):=by
  intro ps qs hc
  obtain⟨p1,p2⟩:=UV hnet h8 hto hc.p hvt
  obtain⟨q1,q2⟩:=UV hnet h8 hto hc.q hst
  obtain⟨n1,n2,n3⟩:=Rk.1 hc.nodes
  have hps:=λx hx=>(hsh x).1 (hc.p.open_ x hx)
  have hqs:=λx hx=>(hsh x).1 (hc.q.open_ x hx)
  have hgp:Yai (Yz n) n.nodes.toNat t s (ms++v::Xs ps):=by
   have:=hext _ (Yeg p1 λx y hxy=>Wb hxy)
   unfold Yai
   rw[TY,TD]
   exact this
  have hmpn:(ms++v::Xs ps).Nodup:=Rk.2 ⟨hnd3,S9.2 ⟨λh=>(hps v h).1.1 rfl,n1⟩,λa ha b hb e=>by
   subst e
   rcases TL.1 hb with rfl|hb
   ·exact hvm ha
   ·exact(hps a hb).2 (RN _ ha)⟩
  have hrp:(rt s t (ms++v::Xs ps)).Nodup:=YnF hst (λh=>by
   rcases TI.1 h with h|h
   ·exact hsm h
   ·rcases TL.1 h with h|h
    ·exact hsv h
    ·exact(hps s h).1.2.1 rfl) (λh=>by
   rcases TI.1 h with h|h
   ·exact htm h
   ·rcases TL.1 h with h|h
    ·exact hvt h.symm
    ·exact(hps t h).1.2.2 rfl) hmpn
  have hrq:(rt s t (Xs qs)).Nodup:=YnF hst (λh=>(hqs s h).1.2.1 rfl) (λh=>(hqs t h).1.2.2 rfl) n2
  refine⟨⟨⟨hgp,hrp⟩,⟨Yeg q1 λx y hxy=>Wb hxy,hrq⟩,λe=>?_,λx hx hy=>?_⟩,by rw[p2,q2];rfl⟩
  ·have:v∈Xs qs:=by rw[<-e];simp
   exact(hqs v this).1.1 rfl
  ·rcases TI.1 hx with h|h
   ·exact(hqs x hy).2 (RN _ h)
   ·rcases TL.1 h with rfl|h
    ·exact(hqs x hy).1.1 rfl
    ·exact n3 x h x hy rfl
 rcases h with⟨h1,_,⟨ps,qs,hc,he⟩,h4⟩|⟨h1,h2⟩
 ·obtain⟨k1,k2⟩:=hfrom ps qs hc
  refine .inl ⟨h1,⟨_,_,k1,by rw[<-k2];exact he⟩,λx mq hm=>?_⟩
  obtain⟨ps,qs,hc,he⟩:=hto2 x mq hm
  rw[<-he]
  exact h4 ps qs hc
 ·refine .inr ⟨h1,λx mq hm=>?_⟩
  obtain⟨ps,qs,hc,_⟩:=hto2 x mq hm
  exact h2 ps qs hc
end Go.Proofs.YtaholidehobiiaaGreatDoor
