/- Lemmas. -/
import Derived.Test.YtjlgijpmnfabcaaGreatDoorQ11
import Derived.Test.YtjlgijpmnfabcaaGreatDoorQ12
set_option maxRecDepth 100000
set_option maxHeartbeats 8000000
set_option linter.all false
namespace Go.Eng
open Go.RowKit
variable {B cap:Nat}{w0:World}{H:List HP}{A:Option Addr}
theorem Yqb{P:Program}{n:Shp}{Q:Exit->Act->World->Prop}{env:Env}{c:Code}{e size k:Nat}{xs:List Value}(hm:sl e size A k cap xs∈H)(h:k<=cap->VC P n B w0 c Q env H):VC P n B w0 c Q env H:=by
 refine⟨λa w ha hw=>?_⟩
 have hown:=hw.sl hm
 have hkc:k<=cap:=zc50
 exact(h hkc).run a w ha hw
end Go.Eng
namespace Go.Proofs.YtjlgijpmnfabcaaGreatDoor
open Go.RowKit Go.Eng Go.Nw Go.Rt
theorem Ypu(A:Option Addr)(cap size:Nat):subA A 0 cap size=A:=by
 simp_all [subA,Go.Addr.add]
variable {A:Option Addr}{cap B:Nat}{w0 w:World}{H:List HP}
theorem X8(l:List Lk)(hlen:l.length<=1000)(hr:Rd B w0 H A (l.flatMap lkF))(hw:St B w0 H w):
 CX B w0 395 [.slice A l.length cap] w λv K=>∃A' cap',v=.slice A' l.length cap'/\K=sl 383 3 A' l.length cap' (l.flatMap lkF)::H:=by
 cases A with
 |none=>
  have hl:l=[]:=by
   cases l with
   |nil=>rfl
   |cons x l=>
    exact zc39
  subst hl
  refine Yc Tryz.func395 Tryz.ntmps395 rfl rfl hw ?_
  refine zX6 ?_
  apply Xk 383 3;exact zc42
 |some a=>
  refine Yc Tryz.func395 Tryz.ntmps395 rfl rfl hw ?_
  repeat'(first|(apply Zo;(iterate 3 exact rfl))|(apply Yr T;exact rfl;exact rfl;intro g2)|refine zga ?_|fail)
  apply YU T (f:=lkF) (l2:=l) (e:=383) (size:=3) (xs:=[]);(iterate 3 exact rfl);exact hr.cons;exact(λ_=>rfl);exact(λ_=>rfl);exact rfl;(intro _ _;exact zd);omega;intro A' cap'
  exact zc29
def arcV(a:Lk):Value:=.agg #[.int .i64 a.1,.int .i64 a.2.1,.int .i64 a.2.2]
theorem YeS{α:Type}(p:α->Bool):∀(l:List α) (k:Int),(l.filter (λa=>!p a)=l/\Yq p l k= -1)\/∃j,j<l.length/\Yq p l k=k+j/\(l.take j).filter (λa=>!p a)=l.take j/\∃a,l[j]? =some a/\p a=true
 |[],_=>.inl ⟨rfl,rfl⟩
 |a::l,k=>by
  unfold Yq
  cases h:p a with
  |true=>exact .inr ⟨0,by simp,by simp,rfl,a,rfl,h⟩
  |false=>
   rw[Tf (by decide)]
   rcases YeS p l (k+1)with⟨h1,h2⟩|⟨j,h1,h2,h3,b,h4,h5⟩
   ·simp_all
   exact Ytq
theorem YdM(p:Lk->Bool)(l:List Lk)(f:Nat)(cs:List Value)(hen:∀xs w,(callFunc f xs).run Tryz.prog w=.ok (.enter f xs) w)(hlen:l.length<=1000)(hr:Rd B w0 H A (l.flatMap lkF))
 (hp:∀a∈l,∀w,St B w0 H w->Calls Tryz.prog f ([arcV a]++cs).toArray w (Post B w0 λv K=>v=.bool (p a)/\K=H)) (hw:St B w0 H w):
 CX B w0 425 [.slice A l.length cap,.func (.func f) #[] cs.toArray] w λv K=>v=.int .i64 (Yq p l 0)/\K=H:=by
 refine Yc Tryz.func425 Tryz.ntmps425 rfl rfl hw ?_
 refine zX7 ?_
 refine Yf (λ(k:Nat)=>[(8,.int .i64 k),(7,.int .i64 l.length),(0,.slice A l.length cap),(1,.func (.func f) #[] cs.toArray)]) (λ_=>H) (λk=>k<=l.length/\Yq p l 0=Yq p (l.drop k) k) (λk=>l.length-k) 0 ⟨Tc _,by simp⟩ ?_ (λw hw=>hw) ?_
 ·exact zc1
 rintro k ⟨hk,hi⟩ K hK
 by_cases hlt:k<l.length
 ·obtain⟨a,ha⟩:∃a,l[k]? =some a:=⟨_,Ta hlt⟩
  have hpa:=hp a (Td ha)
  rw[ZX p l ha]at hi
  refine zX8 ?_<;>intros
  cases hpv:p a
  ·rw[hpv]at hi
   refine zX9 ?_
   apply hK (k+1)
   ·grind
   ·omega
   ·exact zc1
   exact zc20
  exact zc10
 exact zc7
structure Kz where
 i:Nat
 j:Nat
 M:List Lk
theorem X9(p:Lk->Bool)(l:List Lk)(f:Nat)(cs:List Value)(hen:∀xs w,(callFunc f xs).run Tryz.prog w=.ok (.enter f xs) w)(hlen:l.length<=1000)
 (hp:∀a∈l,∀(X:List HP) w,St B w0 (X++H) w->Calls Tryz.prog f ([arcV a]++cs).toArray w (Post B w0 λv K=>v=.bool (p a)/\K=X++H)) (hw:St B w0 (Jg A cap l::H) w):
 CX B w0 394 [.slice A l.length cap,.func (.func f) #[] cs.toArray] w λv K=>v=.slice A (l.filter λa=>!p a).length cap/\K=Jg A cap (l.filter λa=>!p a)::H:=by
 refine Yc Tryz.func394 Tryz.ntmps394 rfl rfl hw ?_
 refine Yqb (k:=l.length) (cap:=cap) (by(focus exact zc2)) λhcap=>?_
 have hif:=λ{w:World}(hw:St B w0 (Jg A cap l::H) w)=>YdM p l f cs hen hlen (cap:=cap) (.sl TM) (λa ha w hw=>hp a ha [Jg A cap l] w hw) hw
 rcases YeS p l 0 with⟨h1,h2⟩|⟨i0,h1,h2,h3,a0,h4,h5⟩
 ·rw[h2]at hif
  rw[h1]
  repeat'(first|((first|apply Ya Ylc|apply Yb Ylc);exact za;exact rfl;exactλ_ hw=>(hif hw))|refine zgb ?_|(refine zge ?_ ?_<;>intro _<;>try exact zo)|fail)
  exact zc3
 rw[h2,Int.zero_add]at hif
 repeat'(first|((first|apply Ya Ylc|apply Yb Ylc);exact za;exact rfl;exactλ_ hw=>(hif hw))|refine zgc ?_|(refine zge ?_ ?_<;>intro _<;>try exact zo)|fail)
 refine Yf (λ(z:Kz)=>[(6,.int .i64 z.j),(5,.int .i64 z.i),(0,.slice A z.M.length cap),(1,.func (.func f) #[] cs.toArray)]) (λz=>Jg A cap z.M::H) (λz=>z.M.length=l.length/\z.i<z.j/\z.j<=l.length/\z.M.take z.i=(l.take z.j).filter (λa=>!p a)/\z.M.drop z.j=l.drop z.j) (λz=>l.length-z.j) ⟨i0,i0+1,l⟩ ⟨rfl,by exact zc37,by exact zc37,?_,rfl⟩ ?_ (λw hw=>hw) ?_
 ·exact Ytu
 ·exact zc1
 rintro⟨i,j,M⟩ ⟨hM,hij,hj,ht,hd⟩ K hK
 simp only at hM hij hj ht hd⊢
 by_cases hlt:j<l.length
 ·obtain⟨a,ha⟩:∃a,l[j]? =some a:=⟨_,Ta hlt⟩
  have hMa:M[j]? =some a:=YsY
  have hpa:=λ{X1 X2:HP}{w:World}(hw:St B w0 (X1::X2::H) w)=>hp a (Td ha) [X1,X2] w hw
  have hft:(l.take (j+1)).filter (λa=>!p a)=M.take i++(if p a=true then []else [a]):=Yth
  obtain⟨b,hb⟩:∃b,p a=b:=⟨_,rfl⟩
  rw[hb]at hft hpa
  have hd1:∀x:Lk,(M.set i x).drop (j+1)=l.drop (j+1):=λx=>by
   exact Ytl
  cases b with
  |true=>
   rw[Tm rfl,Rw]at hft
   refine zX36 ?_<;>intros
   apply hK ⟨i,j+1,M⟩
   ·exact⟨hM,by exact zc37,by exact zc37,hft.symm,by exact YtD⟩
   ·exact zc37
   ·exact zc1
   ·exact zc62
  |false=>
   rw[Tf (by decide)]at hft
   have hMl:(M.set i a).length=M.length:=TY
   repeat'(first|((first|apply YV (cs:=cs));exact rfl;exact hen;exact za;exact rfl;exactλ_ hw=>hpa hw)|(apply ZT T (f:=lkF) (l:=M) (i:=i) (a:=a);(iterate 3 exact rfl);exact zd;exactλ_=>rfl;(iterate 3 exact rfl);omega)|refine zgd ?_|(refine zge ?_ ?_<;>intro _<;>try exact zo)|(refine zgh ?_;intro _)|fail)
   apply hK ⟨i+1,j+1,M.set i a⟩
   ·refine⟨by exact zc37,by exact zc37,by exact zc37,?_,hd1 a⟩
    exact Ys4
   ·exact zc37
   ·dsimp only
    rw[hMl]
    exact zc1
   ·unfold Jg
    dsimp only
    rw[hMl]
    exact zc62
 ·obtain rfl:j=l.length:=by omega
  clear hK
  rw[TC]at ht
  have hil:(l.filter λa=>!p a).length=i:=by rw[<-ht,TJ];omega
  have hfl:(M.flatMap lkF).take (i*3)=(l.filter λa=>!p a).flatMap lkF:=by rw[<-XO (q:=3) (λ_=>rfl),ht]
  refine zX38 ?_<;>intros
  rw[RD]
  apply Zz (sl 383 3 A i cap ((l.filter λa=>!p a).flatMap lkF)::H)
  ·intro w hw
   refine hw.shrink (e:=383) (size:=3) (cap:=cap) (A:=A) (xs:=M.flatMap lkF) (k:=M.length) (k':=i) (by omega) ?_
   rw[hfl]
   exact Upd.here _
  apply YgJ T T2 (e:=383) (size:=3) (k:=i) (xs:=(l.filter λa=>!p a).flatMap lkF);exact rfl;exact TM;(iterate 3 exact rfl);omega
  refine zX39 ?_
  rw[Ypu]
  repeat'(first|fail)
  apply Yd;exact rfl;exact rfl
  exact⟨by rw[hil],by unfold Jg;rw[hil]⟩
theorem Yea(s t:Int)(gs gt:Nat)(a:Lk)(hs:blk gs (.cells #[.int .i64 s] 3 (0,0))∈H)(ht:blk gt (.cells #[.int .i64 t] 3 (0,0))∈H)(hw:St B w0 H w):
 CX B w0 424 [arcV a,.pointer (some ⟨gs,0,none⟩),.pointer (some ⟨gt,0,none⟩)] w λv K=>v=.bool (decide (a.1=s/\a.2.1=t))/\K=H:=by
 refine Yc Tryz.func424 Tryz.ntmps424 rfl rfl hw ?_
 unfold arcV
 by_cases h:a.1=s/\a.2.1=t
 ·rw[Ti h]
  refine zX99 ?_<;>intros
  all_goals(apply Yk;exact zc13)
 ·rw[Tj h]
  repeat'(first|refine zgc ?_|(refine zge ?_ ?_<;>intro _<;>try exact zo)|(refine zgh ?_;intro _)|fail)
  all_goals(apply Yk;apply Yd;exact rfl;exact rfl;exact⟨rfl,rfl⟩)
def WU(s t:Int)(l:List Lk):List Lk:=l.filter λa=>!decide (a.1=s/\a.2.1=t)
theorem Q6(l:List Lk)(s t:Int)(hlen:l.length<=1000)(hr:Rd B w0 H A (l.flatMap lkF))(hw:St B w0 H w):
 CX B w0 393 [.slice A l.length cap,.int .i64 s,.int .i64 t] w λv K=>∃A' cap',v=.slice A' (WU s t l).length cap'/\K=Jg A' cap' (WU s t l)::H:=by
 refine Yc Tryz.func393 Tryz.ntmps393 rfl rfl hw ?_
 repeat'(first|refine zga ?_|(refine zgh ?_;intro _)|fail)
 rename_i g1 g2
 apply Yi _ YeH
 exact za
 exact rfl
 exactλ_ hw=>(X8 l hlen (hr.cons.cons) (hw))
 rintro _ _ ⟨A',cap',rfl,rfl⟩
 repeat'(first|(apply zg29;(apply Ys;exact za;exact rfl))|fail)
 apply Yi _ YeG
 exact za
 exact rfl
 exactλ_ hw=>(X9 (λa=>decide (a.1=s/\a.2.1=t)) l 424 [.pointer (some ⟨g1,0,none⟩),.pointer (some ⟨g2,0,none⟩)] YvA hlen (λa _ X w hw=>Yea s t g1 g2 a (T9 _ zm) (T9 _ zm) hw) (hw))
 rintro _ _ ⟨rfl,rfl⟩
 repeat'(first|refine zga ?_|fail)
 apply Yg (Jg A' cap' (WU s t l)::H)
 ·exactλw hw=>hw.perm (.cons _ (.dropK (.drop _ _)))
 apply Yd;exact rfl;exact rfl
 exact⟨A',cap',rfl,rfl⟩
end Go.Proofs.YtjlgijpmnfabcaaGreatDoor
namespace Go.Eng
open Go.RowKit
variable {B:Nat}{w0:World}{H:List HP}
theorem Rd.manyT{K:List HP}{A:Option Addr}{xs:List Value}(h:Rd B w0 H A xs)(hm:Eng.many H∈K):Rd B w0 K A xs:=h.mono λw hw=>by
 obtain⟨S1,h1,h2⟩:=Ygt hm hw.sep
 exact⟨hw.below,hw.le,Vn h2 h1⟩
end Go.Eng
namespace Go.Proofs.YtjlgijpmnfabcaaGreatDoor
open Go.RowKit Go.Eng Go.Nw Go.Rt
def W6(pre:List Int)(v:Int):Bool:=decide (v∈pre.drop 1)
def OS(pre:List Int)(to v:Int):Bool:=!decide (v=to)&&W6 pre v
def YaS(pre:List Int):Int:=pre.getD 0 0
def YhO(pre:List Int):Int:=pre.getD (pre.length-1) 0
def QH(l:List Lk)(pre:List Int)(to:Int):List Lk:=(if pre.length=2 then WU (YaS pre) to l else l).filter λa=>!(OS pre to a.1||OS pre to a.2.1)
def badB(pre:List Int)(a:Lk):Bool:=W6 pre a.2.1||(W6 pre a.1&&decide (a.1≠YhO pre))||decide (a.2.1=YaS pre)
def YeY(l:List Lk)(pre:List Int):List Lk:=l.filter λa=>!badB pre a
noncomputable def Ylt(fuel nodes:Nat)(l:List Lk)(pre:List Int)(to:Int):Option (Int×Bool):=
 if YhO pre=to then some (Yl (J8 nodes (QH l pre to) to) (YaS pre),decide (Yl (J8 nodes (QH l pre to) to) (YaS pre)<Xo))
 else match Oy fuel nodes (YeY l pre) (YhO pre) (YaS pre) to (W6 pre)with
  |none=>none
  |some r=>some (r.1,r.2.1)
variable {l:List Lk}
theorem ArcsOk.sub{nodes:Nat}{m:List Lk}(h:ArcsOk nodes l)(hm:∀a∈m,a∈l):ArcsOk nodes m:=λa ha=>h a (hm a ha)
theorem YmH{pre:List Int}{to:Int}{a:Lk}(h:a∈QH l pre to):a∈l:=Ytc
theorem YmG(l:List Lk)(pre:List Int)(to:Int):(QH l pre to).length<=l.length:=by
 unfold QH
 exact Ytb
theorem YmI(l:List Lk)(pre:List Int):(YeY l pre).length<=l.length:=RO _ _
variable {B:Nat}{w0 w:World}{H:List HP}
theorem Yc6(gm gc clock:Nat)(es:Ents)(f:Int->Bool)(a:Lk)(hf:MB es f)(hm:blk gm (mobj es clock)∈H)(hc:blk gc (.cells #[.map (some gm)] 452 (0,0))∈H)(hw:St B w0 H w):
 CX B w0 422 [arcV a,.pointer (some ⟨gc,0,none⟩)] w λv K=>v=.bool (f a.1||f a.2.1)/\K=H:=by
 refine Yc Tryz.func422 Tryz.ntmps422 rfl rfl hw ?_
 unfold arcV
 obtain⟨b1,h1⟩:∃b,f a.1=b:=⟨_,rfl⟩
 obtain⟨b2,h2⟩:∃b,f a.2.1=b:=⟨_,rfl⟩
 rw[h1,h2]
 cases b1
 ·skip
  refine YsP ?_<;>intros
  apply Yk;exact zc13
 ·skip
  refine YsP ?_<;>intros
  apply Yk;exact zc13
theorem Yj5(gm gc ga gf clock:Nat)(es:Ents)(f:Int->Bool)(s t:Int)(a:Lk)(hf:MB es f)(hm:blk gm (mobj es clock)∈H)(hc:blk gc (.cells #[.map (some gm)] 452 (0,0))∈H)(ha:blk ga (.cells #[.int .i64 t] 3 (0,0))∈H)(hs:blk gf (.cells #[.int .i64 s] 3 (0,0))∈H)(hw:St B w0 H w):
 CX B w0 423 [arcV a,.pointer (some ⟨gc,0,none⟩),.pointer (some ⟨ga,0,none⟩),.pointer (some ⟨gf,0,none⟩)] w λv K=>v=.bool (f a.2.1||(f a.1&&decide (a.1≠t))||decide (a.2.1=s))/\K=H:=by
 refine Yc Tryz.func423 Tryz.ntmps423 rfl rfl hw ?_
 unfold arcV
 obtain⟨b1,h1⟩:∃b,f a.1=b:=⟨_,rfl⟩
 obtain⟨b2,h2⟩:∃b,f a.2.1=b:=⟨_,rfl⟩
 rw[h1,h2]
 by_cases e1:a.1=t<;>by_cases e2:a.2.1=s
 ·rw[Ti e2,Tj (λh=>h e1)]
  exact zc5
 ·rw[Tj e2,Tj (λh=>h e1)]
  exact zc5
 ·rw[Ti e2,Ti (p:=a.1≠t) e1]
  exact zc5
 ·rw[Tj e2,Ti (p:=a.1≠t) e1]
  exact zc5
structure Pz where
 ga:Nat
 gf:Nat
structure Qz where
 k:Nat
 es:Ents
 c:Nat
 f:Int->Bool
def WT(l:List Lk)(pre:List Int)(to:Int):List Lk:=if pre.length=2 then WU (YaS pre) to l else l
theorem Ym2(nodes:Nat)(l:List Lk)(pre:List Int)(to:Int)(fuel:Nat)(s:Int×Bool)(hn:1<=nodes/\nodes<=40)(hl:l.length<=900)(hok:ArcsOk nodes l)(hpl:2<=pre.length/\pre.length<=1000)(hpi:∀v∈pre,0<=v/\v<nodes)(hto:0<=to/\to<nodes)(hfu:fuel<=100000)(hrun:Ylt fuel nodes l pre to=some s)
 {AL AP:Option Addr}{capL capP B:Nat}{w0:World}{H:List HP}{w:World}(hr:Rd B w0 H AL (l.flatMap lkF)) (hp:Rd B w0 H AP (pre.flatMap numF)) (hcap:pre.length<=capP) (hw:St B w0 H w):
 CX B w0 392 [.int .i64 nodes,.slice AL l.length capL,.slice AP pre.length capP,.int .i64 to] w λv K=>v=.tuple #[.int .i64 s.1,.bool s.2]/\(-600000000000000<=s.1/\s.1<=3000000000)/\K=H:=by
 refine Yc Tryz.func392 Tryz.ntmps392 rfl rfl hw ?_
 have hg0:pre[0]? =some (YaS pre):=Xd (by omega)
 have hg1:pre[((pre.length:Int)-1).toNat]? =some (YhO pre):=by
  rw[show((pre.length:Int)-1).toNat=pre.length-1 by omega];exact Xd (by omega)
 have hfr:=hpi _ (Td hg0)
 have har:=hpi _ (Td hg1)
 obtain⟨fr,hfe⟩:∃x,YaS pre=x:=⟨_,rfl⟩
 obtain⟨at_,hae⟩:∃x,YhO pre=x:=⟨_,rfl⟩
 rw[hfe]at hg0 hfr
 rw[hae]at hg1 har
 iterate 7 (first|refine zga ?_|fail)
 refine YW (many H::[]) (λw hw=>hw.perm (.closeT _)) ?_
 have hpT:Rd B w0 [many H] AP (pre.flatMap numF):=hp.manyT TM
 refine Zt (λ(z:Pz)=>[(11,.pointer (some ⟨z.ga,0,none⟩)),(10,.pointer (some ⟨z.gf,0,none⟩)),(0,.int .i64 nodes),(1,.slice AL l.length capL),(2,.slice AP pre.length capP),(3,.int .i64 to)]) (λz=>blk z.gf (.cells #[.int .i64 fr] 3 (0,0))::blk z.ga (.cells #[.int .i64 at_] 3 (0,0))::H) ?_ ?_
 ·intro K hK
  apply JR (.n1 0 (.n1 1 (.n1 2 (.n1 3 (.n1 4 (.n1 5 (.n1 6 (.n1 7 (.n1 8 (.n2 9 (.n1 10 (.n1 11 .done)) 10 (.n1 9 (.n1 11 .done)))))))))))) [12] [true]
  kernel_rfl
  kernel_rfl
  exact zy
  (simp only[Yh,nthO];rfl)
  repeat'(first|(apply Yj;try exact zl)|apply(zs91 ?_ ?_)|(apply Y4;try exact zl)|refine zgd ?_|(refine zgh ?_;intro _)|fail)
  ·rename_i gf ga
   refine hK ⟨ga,gf⟩ _ _ ?_ ?_
   ·exact zc1
   ·dsimp only
    intro w hw
    have h5:St B w0 (blk gf (.cells #[.int .i64 fr] 3 (0,0))::blk ga (.cells #[.int .i64 at_] 3 (0,0))::[many H]) w:=by
     revert w
     exact zc0
    exact h5.perm (.cons _ (.cons _ (.openT _)))
  ·rename_i ga gf
   refine hK ⟨ga,gf⟩ _ _ ?_ ?_
   ·exact zc1
   ·dsimp only
    intro w hw
    have h5:St B w0 (blk gf (.cells #[.int .i64 fr] 3 (0,0))::blk ga (.cells #[.int .i64 at_] 3 (0,0))::[many H]) w:=by
     revert w
     exact zc0
    exact h5.perm (.cons _ (.cons _ (.openT _)))
 rintro⟨ga,gf⟩
 dsimp only
 have hdl:(pre.drop 1).length=pre.length-1:=Rh
 repeat'(first|(apply YbQ;exact rfl;intro gm)|(apply JV T (n':=(pre.drop 1).length);(iterate 4 exact rfl);omega;(rw[hdl];rfl))|refine zgd ?_|(refine zgh ?_;intro _)|fail)
 rename_i gc
 refine Yf (λ(z:Qz)=>[(34,.int .i64 z.k),(33,.int .i64 (pre.drop 1).length),(32,.slice (subA AP 1 capP 1) (pre.drop 1).length (capP-1)),(12,.pointer (some ⟨gc,0,none⟩)),(11,.pointer (some ⟨ga,0,none⟩)),(10,.pointer (some ⟨gf,0,none⟩)),(0,.int .i64 nodes),(1,.slice AL l.length capL),(2,.slice AP pre.length capP),(3,.int .i64 to)]) (λz=>blk gc (.cells #[.map (some gm)] 452 (0,0))::blk gm (mobj z.es z.c)::blk gf (.cells #[.int .i64 fr] 3 (0,0))::blk ga (.cells #[.int .i64 at_] 3 (0,0))::H)
  (λz=>z.k<=(pre.drop 1).length/\MB z.es z.f/\MOk z.es z.c/\∀v,z.f v=decide (v∈(pre.drop 1).take z.k)) (λz=>(pre.drop 1).length-z.k) ⟨0,[],0,λ_=>false⟩ ⟨Tc _,MB.nil,MOk.nil,λv=>by simp⟩ ?_ zc0 ?_
 ·exact zc1
 rintro⟨k,es,c,f⟩ ⟨hk,hmb,hmk,hf⟩ K hK
 simp only at hk hmb hmk hf⊢
 have hp1:∀{X1 X2 X3 X4:HP},Rd B w0 (X1::X2::X3::X4::H) (subA AP 1 capP 1) ((pre.drop 1).flatMap numF):=YsM 1 (hp.cons.cons.cons.cons) hcap
 by_cases hlt:k<(pre.drop 1).length
 ·obtain⟨v,hv⟩:∃v,(pre.drop 1)[k]? =some v:=⟨_,Ta hlt⟩
  have hp1':=@hp1
  repeat'(first|(apply Zf T (f:=numF) (l:=pre.drop 1);exact rfl;exact rfl;exact hp1;exact rfl;exactλ_=>rfl;exact rfl;exact rfl;omega)|(apply Ja T (f:=numF) (l:=pre.drop 1);exact rfl;exact hp1;exact hv;exactλ_=>rfl;(iterate 4 exact rfl))|(apply YkB (kt:=3) (et:=4);(iterate 3 exact rfl);kernel_rfl;(intro _ _;exact zd);exact hmb;exact hmk;intro es2 c2 m2 o2 _ _)|refine zgc ?_|(refine zge ?_ ?_<;>intro _<;>try exact zo)|fail)
  apply hK ⟨k+1,es2,c2,λu=>decide (u=v)||f u⟩
  ·refine⟨by exact zc37,m2,o2,λu=>?_⟩
   simp only
   rw[hf u,TB,hv]
   by_cases h1:u=v<;>by_cases h2:u∈(pre.drop 1).take k<;>simp[h1]
  ·exact zc37
  ·exact zc1
  exact zc20
 obtain rfl:k=(pre.drop 1).length:=by omega
 clear hK
 rw[TC]at hf
 have hmb2:MB es (W6 pre):=hmb.ext hf
 clear hmb hf hp1
 unfold Ylt at hrun
 rw[hfe,hae]at hrun
 by_cases hat:at_=to
 ·rw[Tm hat]at hrun
  have hin:to∈pre.drop 1:=by
   have h1:(pre.drop 1)[pre.length-2]? =some to:=by
    rw[Ss,show 1+(pre.length-2)=((pre.length:Int)-1).toNat by omega,<-hat];exact hg1
   exact Td h1
  have hsto:W6 pre to=true:=Ti hin
  have hll:(WT l pre to).length<=l.length:=by
   unfold WT
   exact YtA
  have hla:QH l pre to=(WT l pre to).filter λa=>!(OS pre to a.1||OS pre to a.2.1):=rfl
  have hAl:=YmG l pre to
  have hAok:ArcsOk nodes (QH l pre to):=ArcsOk.sub hok λa h=>YmH h
  have hnn:Xo=1073741824:=rfl
  by_cases h2:pre.length=2
  ·skip
   repeat'(first|(apply Yky (kt:=3) (et:=4);exact rfl;exact rfl;kernel_rfl;(intro _;exact zd);exact hmb2;exact hmk;exact hsto;intro es3 mb3 mk3)|refine zgc ?_|(refine zge ?_ ?_<;>intro _<;>try exact zo)|fail)
   have hrl:Rd B w0 (blk gc (.cells #[.map (some gm)] 452 (0,0))::blk gm (mobj es3 c)::blk gf (.cells #[.int .i64 fr] 3 (0,0))::blk ga (.cells #[.int .i64 at_] 3 (0,0))::H) AL (l.flatMap lkF):=hr.cons.cons.cons.cons
   have hlst:WT l pre to=WU fr to l:=by unfold WT;rw[Tm h2,hfe]
   apply Yi _ YsB
   exact za
   exact rfl
   exactλ_ hw=>(Q6 l fr to (by omega) hrl (hw))
   rintro _ _ ⟨A1,cap1,rfl,rfl⟩
   rw[<-hlst]
   refine zX4 ?_
   apply Yi _ YeH
   exact za
   exact rfl
   exactλ_ hw=>(X8 (WT l pre to) (by omega) (.sl (by(focus exact zc2))) (hw))
   rintro _ _ ⟨A2,cap2,rfl,rfl⟩
   refine Yfq ?_
   apply Yi _ YeG
   exact za
   exact rfl
   exactλ_ hw=>(X9 (λa=>OS pre to a.1||OS pre to a.2.1) (WT l pre to) 422 [.pointer (some ⟨gc,0,none⟩)] YsF (by omega) (λa _ X w hw=>Yc6 gm gc c es3 (OS pre to) a mb3 (T9 _ (by(focus exact zc2))) (T9 _ (by(focus exact zc2))) hw) (hw))
   rintro _ _ ⟨rfl,rfl⟩
   rw[<-hla]
   refine zX4 ?_
   apply Yi _ Yon
   exact za
   exact rfl
   exactλ_ hw=>(Vv nodes (QH l pre to) to hn.2 (by omega) hAok hto (.sl (by(focus exact zc2))) (hw))
   rintro _ _ ⟨gF,far,rfl,hd,rfl⟩
   rw[Qs hAok hd]at hrun
   obtain rfl:=Tz hrun
   have hflen:=hd.len
   have hgf:=XN (far:=far) (i:=fr) (by omega)
   have hrf:=hd.range fr hfr.1 hfr.2
   rw[hnn]at hrf
   rw[hnn]
   apply Zz (ints (some ⟨gF,0,none⟩) nodes far::blk gf (.cells #[.int .i64 fr] 3 (0,0))::H)
   ·exact zc0
   iterate 4 (first|refine zga ?_|fail)
   by_cases hlt:Yl far fr<1073741824
   ·rw[Ti hlt]
    exact zc4
   ·rw[Tj hlt]
    exact zc4
  ·skip
   repeat'(first|(apply Yky (kt:=3) (et:=4);exact rfl;exact rfl;kernel_rfl;(intro _;exact zd);exact hmb2;exact hmk;exact hsto;intro es3 mb3 mk3)|refine zgc ?_|(refine zge ?_ ?_<;>intro _<;>try exact zo)|fail)
   have hrl:Rd B w0 (blk gc (.cells #[.map (some gm)] 452 (0,0))::blk gm (mobj es3 c)::blk gf (.cells #[.int .i64 fr] 3 (0,0))::blk ga (.cells #[.int .i64 at_] 3 (0,0))::H) AL (l.flatMap lkF):=hr.cons.cons.cons.cons
   have hlst:WT l pre to=l:=by unfold WT;rw[Tf h2]
   rw[<-hlst]at hrl⊢
   apply Yi _ YeH
   exact za
   exact rfl
   exactλ_ hw=>(X8 (WT l pre to) (by omega) hrl (hw))
   rintro _ _ ⟨A2,cap2,rfl,rfl⟩
   refine Yfq ?_
   apply Yi _ YeG
   exact za
   exact rfl
   exactλ_ hw=>(X9 (λa=>OS pre to a.1||OS pre to a.2.1) (WT l pre to) 422 [.pointer (some ⟨gc,0,none⟩)] YsF (by omega) (λa _ X w hw=>Yc6 gm gc c es3 (OS pre to) a mb3 (T9 _ (by(focus exact zc2))) (T9 _ (by(focus exact zc2))) hw) (hw))
   rintro _ _ ⟨rfl,rfl⟩
   rw[<-hla]
   refine zX4 ?_
   apply Yi _ Yon
   exact za
   exact rfl
   exactλ_ hw=>(Vv nodes (QH l pre to) to hn.2 (by omega) hAok hto (.sl (by(focus exact zc2))) (hw))
   rintro _ _ ⟨gF,far,rfl,hd,rfl⟩
   rw[Qs hAok hd]at hrun
   obtain rfl:=Tz hrun
   have hflen:=hd.len
   have hgf:=XN (far:=far) (i:=fr) (by omega)
   have hrf:=hd.range fr hfr.1 hfr.2
   rw[hnn]at hrf
   rw[hnn]
   apply Zz (ints (some ⟨gF,0,none⟩) nodes far::blk gf (.cells #[.int .i64 fr] 3 (0,0))::H)
   ·exact zc0
   iterate 4 (first|refine zga ?_|fail)
   by_cases hlt:Yl far fr<1073741824
   ·rw[Ti hlt]
    exact zc4
   ·rw[Tj hlt]
    exact zc4
 ·rw[Tf hat]at hrun
  have hbad:∀a,badB pre a=(W6 pre a.2.1||(W6 pre a.1&&decide (a.1≠at_))||decide (a.2.1=fr)):=λa=>by unfold badB;rw[hae,hfe]
  have hBl:=YmI l pre
  have hBok:ArcsOk nodes (YeY l pre):=ArcsOk.sub hok λa h=>(RH.1 h).1
  have hlb:YeY l pre=l.filter λa=>!badB pre a:=rfl
  cases hbo:Oy fuel nodes (YeY l pre) at_ fr to (W6 pre)with
  |none=>rw[hbo]at hrun;cases hrun
  |some r=>
   rw[hbo]at hrun
   obtain rfl:=Tz hrun
   have hrl:Rd B w0 (blk gc (.cells #[.map (some gm)] 452 (0,0))::blk gm (mobj es c)::blk gf (.cells #[.int .i64 fr] 3 (0,0))::blk ga (.cells #[.int .i64 at_] 3 (0,0))::H) AL (l.flatMap lkF):=hr.cons.cons.cons.cons
   refine zX1 ?_<;>intros
   apply Yi _ YeH
   exact za
   exact rfl
   exactλ_ hw=>(X8 l (by omega) hrl (hw))
   rintro _ _ ⟨A2,cap2,rfl,rfl⟩
   refine Yfq ?_
   apply Yi _ YeG
   exact za
   exact rfl
   exactλ_ hw=>(X9 (badB pre) l 423 [.pointer (some ⟨gc,0,none⟩),.pointer (some ⟨ga,0,none⟩),.pointer (some ⟨gf,0,none⟩)] Yvz (by omega) (λa _ X w hw=>by rw[hbad a];exact Yj5 gm gc ga gf c es (W6 pre) fr at_ a hmb2 (T9 _ (by(focus exact zc2))) (T9 _ (by(focus exact zc2))) (T9 _ (by(focus exact zc2))) (T9 _ (by(focus exact zc2))) hw) (hw))
   rintro _ _ ⟨rfl,rfl⟩
   rw[<-hlb]
   refine zX7 ?_
   apply Yi _ YsA
   exact za
   exact rfl
   exactλ_ hw=>(Yen nodes (YeY l pre) at_ fr to (some gm) (W6 pre) fuel r (by omega) (by omega) hBok har hfr hto hfu hbo ⟨es,c,by(focus exact zc2),hmb2,hmk⟩ (.sl (by(focus exact zc2))) (hw))
   rintro _ _ ⟨g,A,cap,rfl,⟨_,_,b3,b4⟩,rfl⟩
   refine zX9 ?_
   apply Yg H
   ·unfold gpcs
    exactλw hw=>hw.tail.tail.tail.tail.tail.tail.tail
   apply Yo;(iterate 3 exact rfl)
   exact⟨rfl,⟨b3,b4⟩,rfl⟩
end Go.Proofs.YtjlgijpmnfabcaaGreatDoor
namespace Go.Eng
open Go.RowKit
variable {B cap:Nat}{w0:World}{H:List HP}{A:Option Addr}
theorem UG{P:Program}{n:Shp}{ops:Array Oper}{Q:Exit->Act->World->Prop}{env:Env}{l:List Oper}{e size k:Nat}{xs:List Value}(hm:sl e size A k cap xs∈H)(h:k<=cap->VL P none n B w0 ops Q l env H):VL P none n B w0 ops Q l env H:=by
 refine⟨λa ha w hw=>?_⟩
 have hown:=hw.sl hm
 have hkc:k<=cap:=zc50
 exact(h hkc).run a ha w hw
end Go.Eng
namespace Go.Proofs.YtjlgijpmnfabcaaGreatDoor
open Go.RowKit Go.Eng Go.Nw Go.Rt
section
variable (fuel nodes:Nat) (L:List Lk) (to total:Int)
noncomputable def Yia(r:List Int)(spent at_:Int)(st:Int×Int)(a:Lk):Option (Int×Int):=
 if a.1≠at_\/a.2.1∈r\/(0<=st.1/\st.1<a.2.1)then some st else
  match Ylt fuel nodes L (r++[a.2.1]) to with
  |none=>none
  |some s=>if s.2=true/\spent+a.2.2+s.1=total then some (a.2.1,a.2.2)else some st
noncomputable def WW(r:List Int)(spent at_:Int):List Lk->Int×Int->Option (Int×Int)
 |[],st=>some st
 |a::m,st=>match Yia fuel nodes L to total r spent at_ st a with
  |none=>none
  |some st2=>WW r spent at_ m st2
noncomputable def WV:Nat->List Int->Int->Int->Option (List Int)
 |0,_,_,_=>none
 |k+1,r,spent,at_=>if at_=to then some r else
  match WW fuel nodes L to total r spent at_ L (-1,0)with
  |none=>none
  |some st=>if st.1<0 then none else WV k (r++[st.1]) (spent+st.2) st.1
end
def midP(r:List Int):List Int:=(r.drop 1).take (r.length-2)
def Us(l:List Lk)(s to:Int)(r:List Int):List Lk:=(if r.length=2 then WU s to l else l).filter λa=>!(decide (a.1∈midP r)||decide (a.2.1∈midP r))
noncomputable def Jo(nodes:Nat)(l:List Lk)(s to:Int)(r:List Int):List Int:=wayF (Us l s to r) (J8 nodes (Us l s to r) to) s to
noncomputable def Ya3(fuel nodes:Nat)(L:List Lk)(s to:Int):Option (Option (List Int×List Int)):=
 match Oy fuel nodes L s s to (λ_=>false)with
 |none=>none
 |some r=>if r.2.1=false then some none else
  match WV fuel nodes L to r.1 400 [s] 0 s with
  |none=>none
  |some p=>some (some (p,Jo nodes L s to p))
theorem YmK{l:List Lk}{s to:Int}{r:List Int}{a:Lk}(h:a∈Us l s to r):a∈l:=Ytc
theorem YmJ(l:List Lk)(s to:Int)(r:List Int):(Us l s to r).length<=l.length:=by
 unfold Us
 exact Ytb
variable {A:Option Addr}{cap B:Nat}{w0:World}{H:List HP}
theorem YcY(gi:Nat)(m:List Int)(a:Lk)(hlen:m.length<=1000){w:World}(hi:blk gi (.cells #[.slice A m.length cap] 104 (0,0))∈H)(hr:Rd B w0 H A (m.flatMap numF))(hw:St B w0 H w):
 CX B w0 396 [arcV a,.pointer (some ⟨gi,0,none⟩)] w λv K=>v=.bool (decide (a.1∈m)||decide (a.2.1∈m))/\K=H:=by
 refine Yc Tryz.func396 Tryz.ntmps396 rfl rfl hw ?_
 unfold arcV
 have h1:=λ{X:HP}{w:World}(hw:St B w0 (X::H) w)=>Ji m a.1 (by omega) (cap:=cap) (hr.cons (X:=X)) hw
 have h2:=λ{X:HP}{w:World}(hw:St B w0 (X::H) w)=>Ji m a.2.1 (by omega) (cap:=cap) (hr.cons (X:=X)) hw
 obtain⟨b1,hb1⟩:∃b,decide (a.1∈m)=b:=⟨_,rfl⟩
 obtain⟨b2,hb2⟩:∃b,decide (a.2.1∈m)=b:=⟨_,rfl⟩
 rw[hb1]at h1
 rw[hb2]at h2
 rw[hb1,hb2]
 cases b1
 ·skip
  refine zX70 ?_<;>intros
  first|apply Ya VP|apply Yb VP
  exact za
  exact rfl
  exactλ_ hw=>(h1 hw)
  refine zX9 ?_
  first|apply Ya VP|apply Yb VP
  exact za
  exact rfl
  exactλ_ hw=>(h2 hw)
  refine zX9 ?_
  apply Yk;exact zc13
 ·skip
  refine zX70 ?_<;>intros
  first|apply Ya VP|apply Yb VP
  exact za
  exact rfl
  exactλ_ hw=>(h1 hw)
  refine zX9 ?_
  apply Yk;exact zc13
structure Oz where
 k:Nat
 r:List Int
 A:Option Addr
 cap:Nat
 spent:Int
 at_:Int
structure OzOk(fuel nodes:Nat)(L:List Lk)(s to total:Int)(p:List Int)(z:Oz):Prop where
 run:WV fuel nodes L to total z.k z.r z.spent z.at_=some p
 len:1<=z.r.length/\z.r.length+z.k<=401
 mem:∀v∈z.r,0<=v/\v<nodes
 sp:0<=z.spent/\z.spent<=1000000*(z.r.length:Int)
 one:z.r.length=1->z.at_=s
structure Iz where
 j:Nat
 best:Int
 price:Int
theorem YoM(A:Option Addr)(cap:Nat)(r:List Int)(x:Int):sl 3 1 A (r.length+1) cap (r.flatMap numF++#[Value.int .i64 x].toList)=ints A cap (r++[x]):=by simp_all [ints,numF]
theorem YmX(n:NetM)(s to:Int)(nodes fuel:Nat)(res:Option (List Int×List Int))(hck:Ym n.net=0)(hnn:n.nodes=nodes)(hs:0<=s/\s<nodes)(ht:0<=to/\to<nodes)(hst:s≠to)(hfu:fuel<=100000)(hrun:Ya3 fuel nodes (JW n.net) s to=some res)
 {B:Nat}{w0:World}{H:List HP}{w:World}(hin:n.In B w0 H) (hw:St B w0 H w):
 CX B w0 340 [n.val,.int .i64 s,.int .i64 to] w λv K=>match res with
  |none=>v=.slice none 0 0/\K=H
  |some pq=>∃g A1 c1 A2 c2,v=.slice (some ⟨g,0,none⟩) 2 2/\(2<=pq.1.length/\pq.1.length<=401/\pq.2.length<=1073741824)/\WayV A2 pq.2/\K=sl 104 1 (some ⟨g,0,none⟩) 2 2 ([⟨A1,c1,pq.1⟩,⟨A2,c2,pq.2⟩].flatMap rowF)::ints A1 c1 pq.1::ints A2 c2 pq.2::H:=by
 have hok:=YN hck
 have hn0:=hok.n0
 have hn1:=hok.n1
 have hnn2:n.net.nodes=n.nodes:=rfl
 have hal:(JW n.net).length<=128:=T0 (UM _ _) hok.k0
 have hLo:=YkD hok (nodes:=nodes) hnn
 obtain⟨L,hL⟩:∃L,JW n.net=L:=⟨_,rfl⟩
 have hspecA:=λ{H:List HP}{w:World}(hin:n.In B w0 H) (hw:St B w0 H w)=>Yem n hin hck hw
 rw[hL]at hal hLo hrun hspecA
 have hno:Xo=1073741824:=rfl
 refine Yc Tryz.func340 Tryz.ntmps340 rfl rfl hw ?_
 (apply Y0;apply YL;apply Yy;exact rfl;exact rfl;intro g)
 refine zX7 ?_
 apply Yi _ Ysp
 exact za
 exact rfl
 exactλ_ hw=>(hspecA hin.cons (hw))
 rintro _ _ ⟨A,cap,rfl,rfl⟩
 unfold Ya3 at hrun
 cases hbo:Oy fuel nodes L s s to (λ_=>false)with
 |none=>rw[hbo]at hrun;cases hrun
 |some r0=>
  rw[hbo]at hrun
  obtain⟨total,ok,es0⟩:=r0
  dsimp only at hrun
  have hboth:=λ{H:List HP}{w:World}(hr:Rd B w0 H A (L.flatMap lkF)) (hw:St B w0 H w)=>Yen nodes L s s to none (λ_=>false) fuel (total,ok,es0) (capL:=cap) (by omega) (by omega) hLo hs hs ht hfu hbo (λ_=>rfl) hr hw
  rw[<-hnn]at hboth
  refine zX7 ?_
  apply Yi _ YsA
  exact za
  exact rfl
  exactλ_ hw=>(hboth (.sl (by(focus exact zc2))) (hw))
  rintro _ _ ⟨g0,A0,cap0,rfl,⟨_,_,b3,b4⟩,rfl⟩
  dsimp only at b3 b4⊢
  apply Zz (Jg A cap L::netB g n::H)
  ·unfold gpcs
   exactλw hw=>hw.tail.tail
  cases ok with
  |false=>
   rw[Tm rfl]at hrun
   obtain rfl:=Tz hrun
   refine zX2 ?_
   apply Yg H
   ·exactλw hw=>hw.tail.tail
   apply Yd;exact rfl;exact rfl
   exact OX
  |true=>
   rw[Tf (by decide)]at hrun
   cases hlo:WV fuel nodes L to total 400 [s] 0 s with
   |none=>rw[hlo]at hrun;cases hrun
   |some p=>
    rw[hlo]at hrun
    obtain rfl:=Tz hrun
    dsimp only
    refine zX25 ?_<;>intros
    rename_i g1
    refine Yf (λ(z:Oz)=>[(13,.int .i64 z.at_),(12,.int .i64 z.spent),(11,.slice z.A z.r.length z.cap),(8,.int .i64 total),(7,.slice A L.length cap),(3,.pointer (some ⟨g,0,none⟩)),(1,.int .i64 s),(2,.int .i64 to)]) (λz=>ints z.A z.cap z.r::Jg A cap L::netB g n::H) (λz=>OzOk fuel nodes L s to total p z) (λz=>z.k) ⟨400,[s],some ⟨g1,0,none⟩,1,0,s⟩ ⟨hlo,by simp,λv hv=>by obtain rfl:=Rk.1 hv;exact hs,by simp,λ_=>rfl⟩ ?_ (λw hw=>hw.blk_sl (cs:=numF s) (len:=1) (size:=1) rfl (by omega)) ?_
    ·exact zc1
    rintro⟨k,r,Ar,capr,spent,at_⟩ ⟨hrun2,⟨hl1,hl2⟩,hmem,⟨hsp0,hsp1⟩,hone⟩ K hK
    simp only at hrun2 hl1 hl2 hmem hsp0 hsp1 hone⊢
    cases k with
    |zero=>cases hrun2
    |succ k=>
     unfold WV at hrun2
     by_cases hat:at_=to
     ·rw[Tm hat]at hrun2
      obtain rfl:=Tz hrun2
      have hr2:2<=r.length:=by
       rcases SE 1 r.length with h|h
       ·exact h
       ·have:=hone (by omega)
        exact absurd (this.symm.trans hat) hst
      clear hK
      have hml:(midP r).length=r.length-2:=by unfold midP;rw[TJ,Rh];omega
      have hPl:=YmJ L s to r
      have hPok:ArcsOk nodes (Us L s to r):=ArcsOk.sub hLo λa h=>YmK h
      obtain⟨LL,hLL⟩:∃LL,(if r.length=2 then WU s to L else L)=LL:=⟨_,rfl⟩
      have hLLl:LL.length<=L.length:=by
       rw[<-hLL]
       exact YtA
      have hlp:Us L s to r=LL.filter λa=>!(decide (a.1∈midP r)||decide (a.2.1∈midP r)):=by rw[<-hLL];rfl
      have hfirst:=λ{A:Option Addr}{cap:Nat}{H:List HP}{w:World}(hr:Rd B w0 H A ((Us L s to r).flatMap lkF)) (hw:St B w0 H w)=>Ycw nodes (Us L s to r) s to (capL:=cap) (by omega) (by omega) hPok hs ht hr hw
      rw[<-hnn]at hfirst
      by_cases h2:r.length=2
      ·skip
       rw[Tm h2]at hLL
       refine zX1 ?_<;>intros
       apply Yi _ YsB
       exact za
       exact rfl
       exactλ_ hw=>(Q6 L s to (by omega) (.sl (by(focus exact zc2))) (hw))
       rintro _ _ ⟨A1,cap1,rfl,rfl⟩
       rw[hLL]
       refine zX2 ?_
       refine UG (e:=3) (size:=1) (k:=r.length) (cap:=capr) (A:=Ar) (xs:=r.flatMap numF) (by(focus exact zc2)) λhcapr=>?_
       apply YaC T (n':=(midP r).length);(iterate 5 exact rfl);omega;omega
       rw[Int.toNat_one]
       refine zX25 ?_<;>intros
       rename_i gi
       have hmid:∀{HH:List HP},Rd B w0 HH Ar (r.flatMap numF)->Rd B w0 HH (subA Ar 1 capr 1) ((midP r).flatMap numF):=λh=>Rd.sub (f:=numF) (q:=1) (o:=1) (k:=r.length-2) (λ_=>rfl) h hcapr
       apply Yi _ YeH
       exact za
       exact rfl
       exactλ_ hw=>(X8 LL (by omega) (.sl (by(focus exact zc2))) (hw))
       rintro _ _ ⟨A2,cap2,rfl,rfl⟩
       refine Yfq ?_
       apply Yi _ YeG
       exact za
       exact rfl
       exactλ_ hw=>(X9 (λa=>decide (a.1∈midP r)||decide (a.2.1∈midP r)) LL 396 [.pointer (some ⟨gi,0,none⟩)] YsC (by omega) (λa _ X w hw=>YcY gi (midP r) a (by omega) (T9 _ (by(focus exact zc2))) (hmid (.sl (T9 _ (by(focus exact zc2))))) hw) (hw))
       rintro _ _ ⟨rfl,rfl⟩
       rw[<-hlp]
       refine zX7 ?_
       apply Yi _ Yom
       exact za
       exact rfl
       exactλ_ hw=>(hfirst (.sl (by(focus exact zc2))) (hw))
       rintro _ _ ⟨A9,cap9,rfl,hway,hdl,hdd,rfl⟩
       have hop:wayF (Us L s to r) (J8 nodes (Us L s to r) to) s to=Jo nodes L s to r:=rfl
       rw[hop]at hway⊢
       have hq:(Jo nodes L s to r).length<=1073741824:=Ygz _ _ _ _
       refine zX14 ?_<;>intros
       rename_i gL
       apply Yg (sl 104 1 (some ⟨gL,0,none⟩) 2 2 ([⟨Ar,capr,r⟩,⟨A9,cap9,Jo nodes L s to r⟩].flatMap rowF)::ints Ar capr r::ints A9 cap9 (Jo nodes L s to r)::H)
       ·intro w hw
        have h5:St B w0 (blk gL (.cells #[.slice Ar r.length capr,.slice A9 (Jo nodes L s to r).length cap9] 104 (0,0))::ints Ar capr r::ints A9 cap9 (Jo nodes L s to r)::H) w:=by
         revert w
         exact zc0
        exact zc93
       apply Yd;exact rfl;exact rfl
       exact Ytp
      ·skip
       rw[Tf h2]at hLL
       rw[hLL]
       refine zX0 ?_<;>intros
       refine UG (e:=3) (size:=1) (k:=r.length) (cap:=capr) (A:=Ar) (xs:=r.flatMap numF) (by(focus exact zc2)) λhcapr=>?_
       apply YaC T (n':=(midP r).length);(iterate 5 exact rfl);omega;omega
       rw[Int.toNat_one]
       refine zX25 ?_<;>intros
       rename_i gi
       have hmid:∀{HH:List HP},Rd B w0 HH Ar (r.flatMap numF)->Rd B w0 HH (subA Ar 1 capr 1) ((midP r).flatMap numF):=λh=>Rd.sub (f:=numF) (q:=1) (o:=1) (k:=r.length-2) (λ_=>rfl) h hcapr
       apply Yi _ YeH
       exact za
       exact rfl
       exactλ_ hw=>(X8 LL (by omega) (.sl (by(focus exact zc2))) (hw))
       rintro _ _ ⟨A2,cap2,rfl,rfl⟩
       refine Yfq ?_
       apply Yi _ YeG
       exact za
       exact rfl
       exactλ_ hw=>(X9 (λa=>decide (a.1∈midP r)||decide (a.2.1∈midP r)) LL 396 [.pointer (some ⟨gi,0,none⟩)] YsC (by omega) (λa _ X w hw=>YcY gi (midP r) a (by omega) (T9 _ (by(focus exact zc2))) (hmid (.sl (T9 _ (by(focus exact zc2))))) hw) (hw))
       rintro _ _ ⟨rfl,rfl⟩
       rw[<-hlp]
       refine zX7 ?_
       apply Yi _ Yom
       exact za
       exact rfl
       exactλ_ hw=>(hfirst (.sl (by(focus exact zc2))) (hw))
       rintro _ _ ⟨A9,cap9,rfl,hway,hdl,hdd,rfl⟩
       have hop:wayF (Us L s to r) (J8 nodes (Us L s to r) to) s to=Jo nodes L s to r:=rfl
       rw[hop]at hway⊢
       have hq:(Jo nodes L s to r).length<=1073741824:=Ygz _ _ _ _
       refine zX14 ?_<;>intros
       rename_i gL
       apply Yg (sl 104 1 (some ⟨gL,0,none⟩) 2 2 ([⟨Ar,capr,r⟩,⟨A9,cap9,Jo nodes L s to r⟩].flatMap rowF)::ints Ar capr r::ints A9 cap9 (Jo nodes L s to r)::H)
       ·intro w hw
        have h5:St B w0 (blk gL (.cells #[.slice Ar r.length capr,.slice A9 (Jo nodes L s to r).length cap9] 104 (0,0))::ints Ar capr r::ints A9 cap9 (Jo nodes L s to r)::H) w:=by
         revert w
         exact zc0
        exact zc93
       apply Yd;exact rfl;exact rfl
       rw[<-hLL]
       exact Ytp
     ·rw[Tf hat]at hrun2
      cases hsc:WW fuel nodes L to total r spent at_ L (-1,0)with
      |none=>rw[hsc]at hrun2;cases hrun2
      |some bp=>
       rw[hsc]at hrun2
       obtain⟨bf,pf⟩:=bp
       dsimp only at hrun2
       refine zX3 ?_<;>intros
       refine Yf (λ(z:Iz)=>[(45,.int .i64 z.j),(44,.int .i64 L.length),(43,.slice A L.length cap),(15,.int .i64 z.price),(14,.int .i64 z.best),(13,.int .i64 at_),(12,.int .i64 spent),(11,.slice Ar r.length capr),(8,.int .i64 total),(7,.slice A L.length cap),(3,.pointer (some ⟨g,0,none⟩)),(1,.int .i64 s),(2,.int .i64 to)]) (λ_=>ints Ar capr r::Jg A cap L::netB g n::H) (λz=>z.j<=L.length/\WW fuel nodes L to total r spent at_ (L.drop z.j) (z.best,z.price)=some (bf,pf)/\(z.best= -1\/(0<=z.best/\z.best<nodes))/\(0<=z.price/\z.price<=1000000)) (λz=>L.length-z.j) ⟨0,-1,0⟩ ⟨Tc _,hsc,.inl rfl,by exact zc37⟩ ?_ (λw hw=>hw) ?_
       ·exact zc1
       rintro⟨j,best,price⟩ ⟨hj,hsc2,hbest,⟨hpr0,hpr1⟩⟩ K2 hK2
       simp only at hj hsc2 hbest hpr0 hpr1⊢
       by_cases hlt:j<L.length
       ·obtain⟨a,ha⟩:∃a,L[j]? =some a:=⟨_,Ta hlt⟩
        obtain⟨⟨a1,a2⟩,⟨a3,a4⟩,⟨a5,a6⟩⟩:=hLo a (Td ha)
        have hdrop:L.drop j=a::L.drop (j+1):=Ys8
        rw[hdrop]at hsc2
        unfold WW Yia at hsc2
        have hcon:=λ{X:HP}{w:World}(hw:St B w0 (X::ints Ar capr r::Jg A cap L::netB g n::H) w)=>Ji r a.2.1 (by omega) (cap:=capr) (.sl (TP _ TM)) hw
        by_cases h1:a.1=at_
        rotate_left
        ·rw[Tm (.inl h1)]at hsc2
         refine zX44 ?_<;>intros
         apply hK2 ⟨j+1,best,price⟩
         ·exact⟨by exact zc37,hsc2,hbest,hpr0,hpr1⟩
         ·exact zc37
         ·exact zc1
         ·exact zc62
        by_cases h2:a.2.1∈r
        ·rw[Tm (.inr (.inl h2))]at hsc2
         rw[Ti h2]at hcon
         repeat'(first|((first|apply Ya VP|apply Yb VP);exact za;exact rfl;exactλ_ hw=>(hcon hw))|refine zgd ?_|(refine zge ?_ ?_<;>intro _<;>try exact zo)|(refine zgh ?_;intro _)|fail)
         apply hK2 ⟨j+1,best,price⟩
         ·exact⟨by exact zc37,hsc2,hbest,hpr0,hpr1⟩
         ·exact zc37
         ·exact zc1
         ·exact zc62
        rw[Tj h2]at hcon
        by_cases h3:0<=best/\best<a.2.1
        ·rw[Tm (.inr (.inr h3))]at hsc2
         repeat'(first|((first|apply Ya VP|apply Yb VP);exact za;exact rfl;exactλ_ hw=>(hcon hw))|refine zgd ?_|(refine zgf ?_ ?_<;>intro _<;>try exact zo)|(refine zgh ?_;intro _)|fail)
         apply hK2 ⟨j+1,best,price⟩
         ·exact⟨by exact zc37,hsc2,hbest,hpr0,hpr1⟩
         ·exact zc37
         ·exact zc1
         ·exact zc62
        rw[Tf (by rintro(h|h|h);exact h h1;exact h2 h;exact h3 h)]at hsc2
        cases hrs:Ylt fuel nodes L (r++[a.2.1]) to with
        |none=>rw[hrs]at hsc2;cases hsc2
        |some s2=>
         rw[hrs]at hsc2
         obtain⟨sum,fine⟩:=s2
         dsimp only at hsc2
         have hlen1:(r++[a.2.1]).length=r.length+1:=by simp
         have hfl1:(r++[a.2.1]).flatMap numF=r.flatMap numF++#[Value.int .i64 a.2.1].toList:=by simp[List.flatMap_append,numF]
         have hrest:=λ{AP:Option Addr}{capP:Nat}{H:List HP}{w:World}(hr:Rd B w0 H A (L.flatMap lkF)) (hp:Rd B w0 H AP ((r++[a.2.1]).flatMap numF)) (hcap:(r++[a.2.1]).length<=capP) (hw:St B w0 H w)=>Ym2 nodes L (r++[a.2.1]) to fuel (sum,fine) (capL:=cap) (by omega) (by omega) hLo ⟨by omega,by omega⟩ (λv hv=>by
          rcases Re.1 hv with hv|hv
          ·exact hmem v hv
          ·obtain rfl:=Rk.1 hv
           exact⟨a3,a4⟩) ht hfu hrs hr hp hcap hw
         rw[hlen1,hfl1,<-hnn]at hrest
         dsimp only at hrest
         repeat'(first|((first|apply Ya VP|apply Yb VP);exact za;exact rfl;exactλ_ hw=>(hcon hw))|refine zgd ?_|(refine zgf ?_ ?_<;>intro _<;>try exact zo)|(refine zgh ?_;intro _)|fail)
         all_goals(
          apply JR (.n1 0 (.n1 1 (.n1 2 (.n1 3 (.n1 5 (.n1 6 (.n1 9 (.n2 4 (.n1 7 (.n1 8 (.n1 10 (.n1 11 (.n1 12 (.n1 13 (.n1 14 (.n1 15 .done)))))))) 7 (.n1 4 (.n1 8 (.n1 10 (.n1 11 (.n1 12 (.n1 13 (.n1 14 (.n1 15 .done)))))))))))))))) [] [true,true,true,true]
          kernel_rfl
          kernel_rfl
          exact zy
          exact rfl
          repeat'(first|(apply Yj;try exact zl)|apply(zs91 ?_ ?_)|(apply Y4;try exact zl)|refine zgd ?_|(refine zgh ?_;intro _)|fail)
          all_goals(
           apply Yi _ Yoi
           exact za
           exact rfl
           exactλ_ hw=>(J4 r (by omega) (.sl zm) (hw))
           rintro _ _ ⟨A5,cap5,rfl,rfl⟩
           repeat'(first|(apply Yj;try exact zl)|(apply Y4;try exact zl)|refine zgd ?_|(refine zgh ?_;intro _)|(refine zgi ?_;intro _ _)|fail)
           rename_i A6 cap6
           refine UG (e:=3) (size:=1) (k:=r.length+1) (cap:=cap6) (A:=A6) (xs:=r.flatMap numF++#[Value.int .i64 a.2.1].toList) zm λhcap=>?_
           apply Yi _ Yvu
           exact za
           exact rfl
           exactλ_ hw=>(hrest (.sl zm) (.sl zm) hcap (hw))
           rintro _ _ ⟨rfl,⟨q1,q2⟩,rfl⟩
           by_cases hgo:fine=true/\spent+a.2.2+sum=total
           ·rw[Tm hgo]at hsc2
            obtain⟨rfl,heq⟩:=hgo
            repeat'(first|(apply Yj;try exact zl)|(apply Y4;try exact zl)|refine zgd ?_|(refine zge ?_ ?_<;>intro _<;>try exact zo)|fail)
            apply hK2 ⟨j+1,a.2.1,a.2.2⟩
            ·exact⟨by simp only;omega,hsc2,.inr ⟨a3,a4⟩,by simp only;omega⟩
            ·simp only;omega
            ·exact zu
            ·exact zk
           ·rw[Tf hgo]at hsc2
            cases fine with
            |false=>
             repeat'(first|(apply Yj;try exact zl)|(apply Y4;try exact zl)|refine zgd ?_|fail)
             apply hK2 ⟨j+1,best,price⟩
             ·exact⟨by simp only;omega,hsc2,hbest,hpr0,hpr1⟩
             ·simp only;omega
             ·exact zu
             ·exact zk
            |true=>
             have hne:¬spent+a.2.2+sum=total:=λh=>hgo ⟨rfl,h⟩
             repeat'(first|(apply Yj;try exact zl)|(apply Y4;try exact zl)|refine zgd ?_|(refine zge ?_ ?_<;>intro _<;>try exact zo)|fail)
             apply hK2 ⟨j+1,best,price⟩
             ·exact⟨by simp only;omega,hsc2,hbest,hpr0,hpr1⟩
             ·simp only;omega
             ·exact zu
             ·exact zk))
       ·obtain rfl:j=L.length:=by omega
        rw[RV]at hsc2
        obtain⟨rfl,rfl⟩:=Nx (Tz hsc2)
        clear hK2
        by_cases hneg:best<0
        ·rw[Tm hneg]at hrun2;cases hrun2
        rw[Tf hneg]at hrun2
        refine YpL ?_<;>intros
        rename_i A3 cap3
        apply hK ⟨k,r++[best],A3,cap3,spent+price,best⟩
        ·refine⟨hrun2,?_,λv hv=>?_,?_,λh=>?_⟩
         ·exact YtB
         ·rcases Re.1 hv with hv|hv
          ·exact hmem v hv
          ·obtain rfl:=Rk.1 hv
           omega
         ·exact YtB
         ·simp only[Tq,TL]at h;omega
        ·exact zc37
        ·dsimp only
         rw[Tq,TL];exact zc1
        ·dsimp only
         rw[<-YoM]
         exact zc0
noncomputable def Vp(fuel:Nat)(n:Net)(s t:Int):Option (Option (List Int×List Int)×Int):=
 if Zm n s t≠0 then some (none,Zm n s t)else
  match Ya3 fuel n.nodes.toNat (JW n) s t with
  |none=>none
  |some none=>some (none,17)
  |some (some pq)=>if 9<pq.1.length\/9<pq.2.length then some (none,21)else some (some pq,0)
theorem YlP(n:NetM)(s to:Int)(fuel:Nat)(res:Option (List Int×List Int)×Int)(hfu:fuel<=100000)(hrun:Vp fuel n.net s to=some res){B:Nat}{w0:World}{H:List HP}{w:World}(hin:n.In B w0 H)(hw:St B w0 H w):
 CX B w0 262 [n.val,.int .i64 s,.int .i64 to] w λv K=>match res.1 with
  |none=>v=.tuple #[.slice none 0 0,.int .i64 res.2]/\K=H
  |some pq=>∃g A1 c1 A2 c2,v=.tuple #[.slice (some ⟨g,0,none⟩) 2 2,.int .i64 res.2]/\(2<=pq.1.length/\pq.1.length<=9/\pq.2.length<=9)/\WayV A2 pq.2/\K=sl 104 1 (some ⟨g,0,none⟩) 2 2 ([⟨A1,c1,pq.1⟩,⟨A2,c2,pq.2⟩].flatMap rowF)::ints A1 c1 pq.1::ints A2 c2 pq.2::H:=by
 refine Yc Tryz.func262 Tryz.ntmps262 rfl rfl hw ?_
 (apply Y0;apply YL;apply Yy;exact rfl;exact rfl;intro g)
 unfold Vp at hrun
 by_cases he:Zm n.net s to=0
 rotate_left
 ·rw[Tm he]at hrun
  obtain rfl:=Tz hrun
  repeat'(first|((first|apply Ya OI|apply Yb OI);exact za;exact rfl;exactλ_ hw=>(Vk n s to hin.cons hw))|refine zgb ?_|(refine zge ?_ ?_<;>intro _<;>try exact zo)|fail)
  (repeat apply Yk)
  apply Yo;(iterate 3 exact rfl)
  simp_all
 rw[Tf (λh=>h he)]at hrun
 obtain⟨hck,⟨s0,s1⟩,⟨t0,t1⟩,hst⟩:=Ylh he
 have hen:=λ{H:List HP}{w:World}(hin:n.In B w0 H) (hw:St B w0 H w)=>Vk n s to hin hw
 rw[he]at hen
 have hok:=YN hck
 have hn0:=hok.n0
 have hn1:=hok.n1
 have hnn:((n.net.nodes.toNat:Nat):Int)=n.net.nodes:=by omega
 have hnn2:n.nodes=((n.net.nodes.toNat:Nat):Int):=by rw[hnn];rfl
 cases hpf:Ya3 fuel n.net.nodes.toNat (JW n.net) s to with
 |none=>simp_all
 |some o=>
  rw[hpf]at hrun
  have hp:=λ{H:List HP}{w:World}(hin:n.In B w0 H) (hw:St B w0 H w)=>YmX n s to n.net.nodes.toNat fuel o hck hnn2 ⟨s0,by omega⟩ ⟨t0,by omega⟩ hst hfu hpf hin hw
  cases o with
  |none=>
   obtain rfl:=Tz hrun
   refine YpM ?_<;>intros
   apply Yi _ Yso
   exact za
   exact rfl
   exactλ_ hw=>(hp hin.cons (hw))
   rintro _ _ ⟨rfl,rfl⟩
   refine zX6 ?_
   apply Yk
   apply Yo;(iterate 3 exact rfl)
   exact OX
  |some pq=>
   obtain⟨p,q⟩:=pq
   dsimp only at hrun
   refine YpM ?_<;>intros
   apply Yi _ Yso
   exact za
   exact rfl
   exactλ_ hw=>(hp hin.cons (hw))
   rintro _ _ ⟨gL,A1,c1,A2,c2,rfl,⟨k1,k2,k3⟩,hway,rfl⟩
   dsimp only at k1 k2 k3 hway⊢
   refine zX6 ?_
   have hs1:=λ{H:List HP}{w:World}(hw:St B w0 H w)=>U9 p.length (A:=A1) (cap:=c1) (by omega) hw
   have hs2:=λ{H:List HP}{w:World}(hw:St B w0 H w)=>U9 q.length (A:=A2) (cap:=c2) (by omega) hw
   refine Yf (λ(k:Nat)=>[(28,.int .i64 k),(27,.int .i64 2),(26,.slice (some ⟨gL,0,none⟩) 2 2),(9,.slice (some ⟨gL,0,none⟩) 2 2)]) (λ_=>sl 104 1 (some ⟨gL,0,none⟩) 2 2 ([(⟨A1,c1,p⟩:RowM),⟨A2,c2,q⟩].flatMap rowF)::ints A1 c1 p::ints A2 c2 q::netB g n::H) (λk=>k<=2/\(1<=k->p.length<=9)/\(2<=k->q.length<=9)) (λk=>2-k) 0 ⟨by omega,by omega,by omega⟩ ?_ (λw hw=>hw) ?_
   ·exact zc1
   rintro k ⟨hk,hk1,hk2⟩ K hK
   obtain rfl|rfl|rfl:k=0\/k=1\/k=2:=by omega
   ·have hx0:[(⟨A1,c1,p⟩:RowM),⟨A2,c2,q⟩][0]? =some ⟨A1,c1,p⟩:=rfl
    by_cases h9:9<p.length
    ·rw[Tm h9]at hs1
     rw[Tm (.inl h9)]at hrun
     obtain rfl:=Tz hrun
     clear hK
     repeat'(first|(apply Zf T (f:=rowF) (l:=[(⟨A1,c1,p⟩:RowM),⟨A2,c2,q⟩]);exact rfl;exact rfl;exact .sl zm;exact rfl;exactλ_=>rfl;exact rfl;exact rfl;(simp only[TS,Rr];omega))|(apply Ja T (f:=rowF) (l:=[(⟨A1,c1,p⟩:RowM),⟨A2,c2,q⟩]);exact rfl;exact .sl zm;exact hx0;exactλ_=>rfl;(iterate 4 exact rfl))|((first|apply Ya Wm|apply Yb Wm);exact za;exact rfl;exactλ_ hw=>(hs1 hw))|refine zgd ?_|(refine zge ?_ ?_<;>intro _<;>try exact zo)|fail)
     exact YsZ
    ·rw[Tf h9]at hs1
     repeat'(first|(apply Zf T (f:=rowF) (l:=[(⟨A1,c1,p⟩:RowM),⟨A2,c2,q⟩]);exact rfl;exact rfl;exact .sl zm;exact rfl;exactλ_=>rfl;exact rfl;exact rfl;(simp only[TS,Rr];omega))|(apply Ja T (f:=rowF) (l:=[(⟨A1,c1,p⟩:RowM),⟨A2,c2,q⟩]);exact rfl;exact .sl zm;exact hx0;exactλ_=>rfl;(iterate 4 exact rfl))|((first|apply Ya Wm|apply Yb Wm);exact za;exact rfl;exactλ_ hw=>(hs1 hw))|refine zgc ?_|(refine zge ?_ ?_<;>intro _<;>try exact zo)|fail)
     apply hK 1
     ·exact⟨by omega,λ_=>by omega,by omega⟩
     ·omega
     ·exact zc1
     exact zc20
   ·have hx1:[(⟨A1,c1,p⟩:RowM),⟨A2,c2,q⟩][1]? =some ⟨A2,c2,q⟩:=rfl
    by_cases h9:9<q.length
    ·rw[Tm h9]at hs2
     rw[Tm (.inr h9)]at hrun
     obtain rfl:=Tz hrun
     clear hK
     repeat'(first|(apply Zf T (f:=rowF) (l:=[(⟨A1,c1,p⟩:RowM),⟨A2,c2,q⟩]);exact rfl;exact rfl;exact .sl zm;exact rfl;exactλ_=>rfl;exact rfl;exact rfl;(simp only[TS,Rr];omega))|(apply Ja T (f:=rowF) (l:=[(⟨A1,c1,p⟩:RowM),⟨A2,c2,q⟩]);exact rfl;exact .sl zm;exact hx1;exactλ_=>rfl;(iterate 4 exact rfl))|((first|apply Ya Wm|apply Yb Wm);exact za;exact rfl;exactλ_ hw=>(hs2 hw))|refine zgd ?_|(refine zge ?_ ?_<;>intro _<;>try exact zo)|fail)
     exact YsZ
    ·rw[Tf h9]at hs2
     repeat'(first|(apply Zf T (f:=rowF) (l:=[(⟨A1,c1,p⟩:RowM),⟨A2,c2,q⟩]);exact rfl;exact rfl;exact .sl zm;exact rfl;exactλ_=>rfl;exact rfl;exact rfl;(simp only[TS,Rr];omega))|(apply Ja T (f:=rowF) (l:=[(⟨A1,c1,p⟩:RowM),⟨A2,c2,q⟩]);exact rfl;exact .sl zm;exact hx1;exactλ_=>rfl;(iterate 4 exact rfl))|((first|apply Ya Wm|apply Yb Wm);exact za;exact rfl;exactλ_ hw=>(hs2 hw))|refine zgc ?_|(refine zge ?_ ?_<;>intro _<;>try exact zo)|fail)
     apply hK 2
     ·exact⟨by omega,λ_=>hk1 (by omega),λ_=>by omega⟩
     ·omega
     ·exact zc1
     exact zc20
   ·have h1:=hk1 (by omega)
    have h2:=hk2 (by omega)
    rw[Tf (by omega)]at hrun
    obtain rfl:=Tz hrun
    clear hK
    refine zX1 ?_<;>intros
    apply Yg (sl 104 1 (some ⟨gL,0,none⟩) 2 2 ([(⟨A1,c1,p⟩:RowM),⟨A2,c2,q⟩].flatMap rowF)::ints A1 c1 p::ints A2 c2 q::H)
    ·exact zc0
    apply Yo;(iterate 3 exact rfl)
    exact⟨gL,A1,c1,A2,c2,rfl,⟨k1,h1,h2⟩,hway,rfl⟩
def YuG(n:Net)(u v:Int):Int:=QJ n u v+1
def rt(s t:Int)(ms:List Int):List Int:=s::(ms++[t])
structure IsRt(n:Net)(s t:Int)(ms:List Int):Prop where
 path:YuC (YX n) n.nodes.toNat t s ms
 nd:(rt s t ms).Nodup
structure Two(n:Net)(s t:Int)(mp mq:List Int):Prop where
 p:IsRt n s t mp
 q:IsRt n s t mq
 ne:mp≠mq
 dis:∀x∈mp,x∉mq
theorem Two.symm{n:Net}{s t:Int}{mp mq:List Int}(h:Two n s t mp mq):Two n s t mq mp:=⟨h.q,h.p,Nn h.ne,λx hx hy=>h.dis x hy hx⟩
def key(n:Net)(s t:Int)(ms:List Int):Int:=keyG (YuG n) (rt s t ms)
theorem getD_some{l:List (List Int)}{i:Nat}{x:List Int}(h:l[i]? =some x):l.getD i []=x:=by
 rw[TA,h];rfl
open Go.ChangeShapes Go.WideShapes Go.ChangeAt Go.RowKit Go.Eng Go.Nw Go.Rt
section
variable {H:Type}{enc:TypeId×Value->H}{W:World}{spare:Nat->Bool}{held:Bool}
structure RtG(W:World)(r:RowM):Prop where
 old:Old W r.A (r.xs.flatMap numF)
 len:r.xs.length<=9223372036854775807
 cap:r.xs.length<=r.cap
 good:∀z∈r.xs,I64 z
theorem Ypa:Opn enc Tryz.prog W spare held 104 rowF (RtG W):=
 JL (Zn (q:=1) Tryz.underlying104 (by kernel_rfl) (by decide) op_i) Ylu (λ_=>rfl) (λ_ h=>⟨h.old,T0 h.len maxL,h.cap,h.good⟩)
theorem Yf8:Opn enc Tryz.prog W spare held 24 rowF (RtG W):=
 JL Yf7 Ylu (λ_=>rfl) (λ_ h=>⟨h.old,T0 h.len maxL,h.cap,h.good⟩)
theorem Ye6:Opn enc Tryz.prog W spare held 67 (λs:SlM RowM=>[s.val]) (SlG W rowF (RtG W)):=Zn (q:=1) Tryz.underlying67 (by kernel_rfl) (by decide) Ypa
theorem Yo8:Opn enc Tryz.prog W spare held 22 (λs:SlM RowM=>[s.val]) (SlG W rowF (RtG W)):=Zn (q:=1) Tryz.underlying22 (by kernel_rfl) (by decide) Yf8
structure RqG(W:World)(x:RqM):Prop where
 f:FlwG x.f
 old:Old W x.A (x.rows.flatMap rowF)
 len:x.rows.length<=9223372036854775807
 cap:x.rows.length<=x.cap
 good:∀r∈x.rows,RtG W r
theorem YjX:Opn enc Tryz.prog W spare held 69 rqF (RqG W):=
 JL (Zd (ts:=[66,67]) (by kernel_rfl) (Yt Yq7 (Yt Ye6 Jl)))
  (λx=>⟨x.1,x.2.1.A,x.2.1.cap,x.2.1.xs⟩) (λx=>by simp[rqF,flwF,SlM.val]) (λx h=>by
   obtain⟨h1,h2,_⟩:=h
   exact⟨h1,h2.old,T0 h2.len maxL,h2.cap,h2.good⟩)
theorem Yh9:Opn enc Tryz.prog W spare held 27 (λs:SlM RqM=>[s.val]) (SlG W rqF (RqG W)):=Zn (q:=7) Tryz.underlying27 (by kernel_rfl) (by decide) YjX
structure ClG(W:World)(c:ClM):Prop where
 f:I64 c.flow
 rt:Old W c.rA (c.rs.flatMap rowF)
 rg:∀r∈c.rs,RtG W r
 bd:RtG W ⟨c.bA,c.bcap,c.bs⟩
 ws:RtG W ⟨c.wA,c.wcap,c.ws⟩
 st:Old W c.sA (c.ss.flatMap rowF)
 sg:∀r∈c.ss,RtG W r
 rl:c.rs.length<=9223372036854775807
 sl:c.ss.length<=9223372036854775807
 rc:c.rs.length<=c.rcap
 sc:c.ss.length<=c.scap
theorem Yo6:Opn enc Tryz.prog W spare held 116 clF (ClG W):=
 JL (Zd (ts:=[3,67,24,24,22]) (by kernel_rfl) (Yt op_i (Yt Ye6 (Yt Yf8 (Yt Yf8 (Yt Yo8 Jl))))))
  (λx=>⟨x.1,x.2.1.A,x.2.1.cap,x.2.1.xs,x.2.2.1.A,x.2.2.1.cap,x.2.2.1.xs,x.2.2.2.1.A,x.2.2.2.1.cap,x.2.2.2.1.xs,x.2.2.2.2.1.A,x.2.2.2.2.1.cap,x.2.2.2.2.1.xs⟩) (λx=>by simp[clF,numF,rowF,SlM.val]) (λx h=>by
   obtain⟨h1,h2,h3,h4,h5,_⟩:=h
   exact⟨h1,h2.old,h2.good,h3,h4,h5.old,h5.good,T0 h2.len maxL,T0 h5.len maxL,h2.cap,h5.cap⟩)
theorem YmU:Opn enc Tryz.prog W spare held 32 (λs:SlM ClM=>[s.val]) (SlG W clF (ClG W)):=Zn (q:=5) Tryz.underlying32 (by kernel_rfl) (by decide) Yo6
end
open Go.RowKit Go.Eng Go.Nw
variable {B cap:Nat}{w0 w:World}{H:List HP}
theorem U5(a lo hi:Int)(hw:St B w0 H w):
 CX B w0 297 [.int .i64 a,.int .i64 lo,.int .i64 hi] w λv K=>v=.bool (decide (lo<=a/\a<=hi))/\K=H:=by
 refine Yc Tryz.func297 Tryz.ntmps297 rfl rfl hw ?_
 exact zc27
theorem U3(nodes:Int)(f:Flw)(hn:2<=nodes/\nodes<=32)(hw:St B w0 H w):
 CX B w0 298 [.int .i64 nodes,flwV f] w λv K=>v=.int .i64 (Xl nodes f)/\K=H:=by
 refine Yc Tryz.func298 Tryz.ntmps298 rfl rfl hw ?_
 have hi:∀x:Int,insE x nodes=false↔¬(0<=x/\x<nodes):=λx=>by grind [insE]
 have hE:Xl nodes f=if f.1<0\/255<f.1\/¬(0<=f.2.1/\f.2.1<nodes)\/¬(0<=f.2.2.1/\f.2.2.1<nodes)then 2
  else if f.2.2.2.1<1\/512<f.2.2.2.1\/f.2.2.2.2.1<0\/f.2.2.2.1<=f.2.2.2.2.1\/f.2.2.2.2.2<1\/f.2.2.2.1<f.2.2.2.2.2 then 2
  else if f.2.1=f.2.2.1 then 1 else 0:=by grind [Xl]
 rw[hE]
 repeat'(first|((first|apply Yx YaI|apply Yw YaI);exact za;exact rfl;exactλ_ hw=>(U5 _ _ _ hw);all_goals(intro hB;(try simp only[To,Tv]at hB);try exact zo))|refine zgd ?_|(refine zge ?_ ?_<;>intro _<;>try exact zo)|(refine zgh ?_;intro _)|fail)
 all_goals(
  apply Yg H
  ·exact zk
  apply Yd;exact rfl;exact rfl
  refine⟨TD _ ?_,rfl⟩
  first
   |(rw[Tm (by omega)];done)
   |(rw[Tf (by omega),Tm (by omega)];done)
   |(rw[Tf (by omega),Tf (by omega),Tm (by omega)];done)
   |(rw[Tf (by omega),Tf (by omega),Tf (by omega)];done))
variable {A:Option Addr}
theorem ZL(nodes:Int)(l:List Flw)(hl:l.length<=9223372036854775807)(hr:Rd B w0 H A (l.flatMap flwF))(hw:St B w0 H w):
 CX B w0 212 [.int .i64 nodes,.slice A l.length cap] w λv K=>v=.tuple #[.int .i64 (YA nodes l).1,.int .i64 (YA nodes l).2]/\K=H:=by
 refine Yc Tryz.func212 Tryz.ntmps212 rfl rfl hw ?_
 by_cases hn:nodes<2\/32<nodes
 ·have hE:YA nodes l=(-1,2):=by simp_all [YA]
  rw[hE]
  repeat'(first|((first|apply Yx YaI|apply Yw YaI);exact za;exact rfl;exactλ_ hw=>(U5 _ _ _ hw);all_goals(intro hB;(try simp only[To,Tv]at hB);try exact zo))|refine zgd ?_|fail)
  all_goals(exact zc47)
 by_cases h16:16<l.length
 ·have hE:YA nodes l=(-1,8):=by simp_all [YA]
  rw[hE]
  repeat'(first|((first|apply Yx YaI|apply Yw YaI);exact za;exact rfl;exactλ_ hw=>(U5 _ _ _ hw);all_goals(intro hB;(try simp only[To,Tv]at hB);try exact zo))|refine zgd ?_|(refine zgf ?_ ?_<;>intro _<;>try exact zo)|fail)
  exact zc47
 have hE:YA nodes l=YC (YT nodes l) l.length 0:=by simp_all [YA,if_neg]
 rw[hE]
 repeat'(first|((first|apply Yx YaI|apply Yw YaI);exact za;exact rfl;exactλ_ hw=>(U5 _ _ _ hw);all_goals(intro hB;(try simp only[To,Tv]at hB);try exact zo))|refine zgd ?_|(refine zgf ?_ ?_<;>intro _<;>try exact zo)|fail)
 refine Yf (λ(i:Nat)=>[(6,.int .i64 i),(0,.int .i64 nodes),(1,.slice A l.length cap)]) (λ_=>H) (λi=>i<=l.length/\∀k,k<i->YT nodes l k=0) (λi=>l.length-i) 0 ⟨Tc _,λk hk=>absurd hk (Rj _)⟩ ?_ (λw hw=>hw) ?_
 ·exact zc1
 rintro i ⟨hi,hall⟩ K hK
 by_cases hlt:i<l.length
 ·have hget:l[i]? =some (Y3 l i):=Vy hlt
  have hbad:YT nodes l i≠0->YC (YT nodes l) l.length 0=((i:Int),YT nodes l i):=λh=>Xa (λk _ hk=>hall k hk) (Tc _) (by omega) h
  have hstep:YT nodes l i=0->∀k,k<i+1->YT nodes l k=0:=λh k hk=>by
   exact YpV
  by_cases he:Xl nodes (Y3 l i)≠0
  ·have hf:YT nodes l i=Xl nodes (Y3 l i):=by unfold YT;exact Tm he
   rw[hbad (by rw[hf];exact he),hf]
   repeat'(first|((first|apply Ya OG|apply Yb OG);exact za;exact rfl;exactλ_ hw=>(U3 nodes (Y3 l i) (by omega) hw))|refine zgd ?_|(refine zge ?_ ?_<;>intro _<;>try exact zo)|fail)
   exact zc8
  have he0:=TK.1 he
  have hck:=λ{H':List HP}{w:World}(hw:St B w0 H' w)=>U3 nodes (Y3 l i) (by omega) hw
  rw[he0]at hck
  rcases RE i with h0|h0
  ·subst h0
   have hf:YT nodes l 0=0:=by unfold YT;rw[Tf he,Tf (by omega)]
   refine YpQ ?_<;>intros
   apply hK (0+1)
   ·exact YlF
   ·omega
   ·exact zc1
   ·exact zc0
  have hget2:l[((i:Int)-1).toNat]? =some (Y3 l (i-1)):=Yto
  by_cases hle:(Y3 l i).1<=(Y3 l (i-1)).1
  ·have hf:YT nodes l i=5:=by unfold YT;rw[Tf he,Tm ⟨h0,hle⟩]
   rw[hbad (by rw[hf];decide),hf]
   refine YpQ ?_<;>intros
   exact zc8
  ·have hf:YT nodes l i=0:=YtF
   refine YpQ ?_<;>intros
   apply hK (i+1)
   ·exact YlF
   ·omega
   ·exact zc1
   ·exact zc0
 ·refine zX1 ?_<;>intros
  rw[show i=l.length by omega]at hall
  rw[Xj λk _ hk=>hall k (by omega)]
  exact zc8
theorem YnV{α:Type}{p:α->Bool}{l:List α}{i:Nat}{x:α}(h:l[i]? =some x):(l.take (i+1)).any p=((l.take i).any p||p x):=zc81
theorem Yix(n:NetM)(l:List Flw)(s:SchM)(hlf:l.length<=9223372036854775807)(hl:s.cells.length<=1000000000000)(hin:n.In B w0 H)(hrf:Rd B w0 H A (l.flatMap flwF))(hw:St B w0 H w):
 CX B w0 383 [n.val,.slice A l.length cap,s.val] w λv K=>v=.int .i64 (Xs n.net l s.sch)/\K=H:=by
 refine Yc Tryz.func383 Tryz.ntmps383 rfl rfl hw ?_
 have e5:s.sch.len=s.len:=rfl
 have hE:Xs n.net l s.sch=if Ym n.net≠0 then 1 else if(YA n.nodes l).2≠0 then 1 else if XU s.sch=false then 2
  else if(l.any λf=>decide (s.len.tmod f.2.2.2.1≠0))=true then 11 else if 512<s.cells.length then 8 else 0:=rfl
 obtain⟨ck,hck⟩:∃z,Ym n.net=z:=⟨_,rfl⟩
 have h31:=λ{H':List HP}{w:World}(hin:n.In B w0 H') (hw:St B w0 H' w)=>ZE n hin hw
 rw[hck]at h31 hE
 by_cases h1:ck≠0
 ·rw[Tm h1]at hE
  rw[hE]
  refine YsW ?_<;>intros
  all_goals(
   apply Yg H
   ·exact zc0
   exact zc3)
 rw[Tf h1]at hE
 by_cases h2:(YA n.nodes l).2≠0
 ·rw[Tm h2]at hE
  rw[hE]
  refine YsW ?_<;>intros
  all_goals(
   apply Yg H
   ·exact zc0
   exact zc3)
 rw[Tf h2]at hE
 have hper:=Yak (TK.1 h2)
 have hsd:XU s.sch=false↔¬(1<=s.len/\s.len<=512/\1<=s.off/\s.off<=16):=by unfold XU;rw[Tv];rfl
 by_cases h3:1<=s.len/\s.len<=512/\1<=s.off/\s.off<=16
 rotate_left
 ·rw[Tm (hsd.2 h3)]at hE
  rw[hE]
  repeat'(first|((first|apply Ya Jy|apply Yb Jy);exact za;exact rfl;exactλ_ hw=>(ZL n.nodes l hlf hrf.cons.cons hw))|((first|apply Ya Xy|apply Yb Xy);exact za;exact rfl;exactλ_ hw=>(h31 hin.cons.cons hw))|((first|apply Yx ZN|apply Yw ZN);exact za;exact rfl;exactλ_ hw=>(ZF _ _ _ hw);all_goals(intro hB;(try simp only[To,Tv]at hB);try exact zo))|refine zgd ?_|(refine zge ?_ ?_<;>intro _<;>try exact zo)|(refine zgh ?_;intro _)|fail)
  all_goals(
   apply Yg H
   ·exact zk
   apply Yd;exact rfl;exact rfl;exact⟨rfl,rfl⟩)
 rw[Tf (λh=>hsd.1 h h3)]at hE
 rw[hE]
 repeat'(first|((first|apply Ya Jy|apply Yb Jy);exact za;exact rfl;exactλ_ hw=>(ZL n.nodes l hlf hrf.cons.cons hw))|((first|apply Ya Xy|apply Yb Xy);exact za;exact rfl;exactλ_ hw=>(h31 hin.cons.cons hw))|((first|apply Yx ZN|apply Yw ZN);exact za;exact rfl;exactλ_ hw=>(ZF _ _ _ hw);all_goals(intro hB;(try simp only[To,Tv]at hB);try exact zo))|refine zgd ?_|(refine zge ?_ ?_<;>intro _<;>try exact zo)|(refine zgh ?_;intro _)|fail)
 first|(rename_i gn gs;guard_hyp gn:Nat;guard_hyp gs:Nat)|(rename_i gn gs _;guard_hyp gn:Nat;guard_hyp gs:Nat)|(rename_i gn gs _ _;guard_hyp gn:Nat;guard_hyp gs:Nat)|(rename_i gn gs _ _ _;guard_hyp gn:Nat;guard_hyp gs:Nat)|(rename_i gn gs _ _ _ _;guard_hyp gn:Nat;guard_hyp gs:Nat)|(rename_i gn gs _ _ _ _ _;guard_hyp gn:Nat;guard_hyp gs:Nat)|(rename_i gn gs _ _ _ _ _ _;guard_hyp gn:Nat;guard_hyp gs:Nat)|(rename_i gn gs _ _ _ _ _ _ _;guard_hyp gn:Nat;guard_hyp gs:Nat)|(rename_i gn gs _ _ _ _ _ _ _ _;guard_hyp gn:Nat;guard_hyp gs:Nat)|(rename_i gn gs _ _ _ _ _ _ _ _ _;guard_hyp gn:Nat;guard_hyp gs:Nat)
 refine Yf (λ(k:Nat)=>[(9,.int .i64 k),(1,.slice A l.length cap),(3,.pointer (some ⟨gn,0,none⟩)),(5,.pointer (some ⟨gs,0,none⟩))]) (λ_=>blk gs (.cells #[.int .i64 s.len,.int .i64 s.off,.slice s.A s.cells.length s.cap] 30 (0,0))::netN gn n::H) (λk=>k<=l.length/\(l.take k).any (λf=>decide (s.len.tmod f.2.2.2.1≠0))=false) (λk=>l.length-k) 0 ⟨Tc _,rfl⟩ ?_ (λw hw=>hw) ?_
 ·exact zc1
 rintro k ⟨hk,hall⟩ K hK
 unfold netN
 by_cases hlt:k<l.length
 ·have hget:l[k]? =some (Y3 l k):=Vy hlt
  have hpk:=hper _ (Td hget)
  have hst:=YnV (p:=λf:Flw=>decide (s.len.tmod f.2.2.2.1≠0)) hget
  rw[hall,Nu]at hst
  have hem:s.len.tmod (Y3 l k).2.2.2.1=s.len%(Y3 l k).2.2.2.1:=Rb (by omega)
  rw[hem]at hst
  by_cases hz:s.len%(Y3 l k).2.2.2.1=0
  ·rw[Tj (λh=>h hz)]at hst
   refine zX0 ?_<;>intros
   apply hK (k+1)
   ·exact YlK
   ·omega
   ·exact zc1
   ·unfold netN
    exact zc0
  ·have ha:(l.any λf=>decide (s.len.tmod f.2.2.2.1≠0))=true:=by
    rw[TZ]
    exact⟨_,Td hget,by rw[hem];exact Ti hz⟩
   rw[ha,Tm rfl]
   refine zX0 ?_<;>intros
   apply Yg H
   ·exact zc0
   exact zc3
 rw[show k=l.length by omega,TC]at hall
 rw[hall,Tf (by decide)]
 clear hK
 by_cases h5:512<s.cells.length
 ·rw[Tm h5]
  refine zX41 ?_<;>intros
  apply Yg H
  ·exact zc0
  exact zc3
 ·rw[Tf h5]
  refine zX41 ?_<;>intros
  apply Yg H
  ·exact zc0
  exact zc3
variable {B:Nat}{w0 w:World}{H:List HP}
theorem QT(n:NetM)(v:Int)(hw:St B w0 H w):
 CX B w0 439 [n.val,.int .i64 v] w λu K=>u=.bool (insE v n.net.nodes)/\K=H:=by
 have e1:n.net.nodes=n.nodes:=rfl
 refine Yc Tryz.func439 Tryz.ntmps439 rfl rfl hw ?_
 exact zc15
theorem V3(n:NetM)(a b:Int)(hok:Ok n.net)(hin:n.In B w0 H)(hw:St B w0 H w):
 CX B w0 418 [n.val,.int .i64 a,.int .i64 b] w λv K=>v=.int .i64 (powN n.net a b)/\K=H:=by
 refine Yc Tryz.func418 Tryz.ntmps418 rfl rfl hw ?_
 have e1:n.net.nodes=n.nodes:=rfl
 have na:=λ{H':List HP}{w:World}(hw:St B w0 H' w)=>QT n a hw
 have nb:=λ{H':List HP}{w:World}(hw:St B w0 H' w)=>QT n b hw
 cases ha:insE a n.net.nodes with
 |false=>
  rw[ha]at na
  rw[show powN n.net a b=0 by grind [powN]]
  repeat'(first|((first|apply Ya OJ|apply Yb OJ);exact za;exact rfl;exactλ_ hw=>(na hw))|refine zgd ?_|(refine zgh ?_;intro _)|fail)
  apply Yg H
  ·exact zc0
  exact zc13
 |true=>
 rw[ha]at na
 cases hb:insE b n.net.nodes with
 |false=>
  rw[hb]at nb
  rw[show powN n.net a b=0 by grind [powN]]
  refine zX70 ?_<;>intros
  first|apply Ya OJ|apply Yb OJ
  exact za
  exact rfl
  exactλ_ hw=>(na hw)
  refine zX2 ?_
  first|apply Ya OJ|apply Yb OJ
  exact za
  exact rfl
  exactλ_ hw=>(nb hw)
  refine zX2 ?_
  apply Yg H
  ·exact zc0
  exact zc13
 |true=>
 rw[hb]at nb
 have ha2:0<=a/\a<n.net.nodes:=TR ha
 have hb2:0<=b/\b<n.net.nodes:=TR hb
 have hp0:(n.rows.length:Int)=n.net.nodes:=Ys7
 obtain⟨r,hrw⟩:∃r,n.rows[a.toNat]? =some r:=⟨_,Ta (by omega)⟩
 have hrm:=Td hrw
 have hrl:(r.xs.length:Int)=n.net.nodes:=hok.p1 r.xs (TI.2 ⟨r,hrm,rfl⟩)
 obtain⟨q,hq⟩:∃q,r.xs[b.toNat]? =some q:=⟨_,Ta (by omega)⟩
 have hpw:powN n.net a b=q:=by
  unfold powN
  rw[Tm ⟨ha,hb⟩]
  exact Ytw
 rw[hpw]
 have hpd:=hin.pw
 have hrd:=hin.rw_ r hrm
 have hs1:=hin.s1
 have hs2:=hin.s2 r hrm
 refine zX70 ?_<;>intros
 first|apply Ya OJ|apply Yb OJ
 exact za
 exact rfl
 exactλ_ hw=>(na hw)
 refine zX2 ?_
 first|apply Ya OJ|apply Yb OJ
 exact za
 exact rfl
 exactλ_ hw=>(nb hw)
 refine zX2 ?_
 apply Yg H
 ·exact zc0
 exact zc13
theorem Yil(n:NetM)(l:List Cel)(i:Nat)(c:Cel)(hok:Ok n.net)(hci:l[i]? =some c)(hg:YX n.net c.2.2.1 c.2.2.2.1=true)(hto:∀k x,l[k]? =some x->k≠i->YE c x=false)(hlen:l.length<=16){A:Option Addr}{cap:Nat}(hin:n.In B w0 H)(hr:Rd B w0 H A (l.flatMap celF))(hw:St B w0 H w):
 CX B w0 385 [n.val,.slice A l.length cap,.int .i64 i] w λv K=>v=.bool (!(XJ n.net (mar n.net (Yu n.net c.2.2.1 c.2.2.2.1).toNat) (Yz n.net l i c.2.2.2.1 l.length))||!(XJ n.net (mar n.net (Yu n.net c.2.2.2.1 c.2.2.1).toNat) (Yz n.net l i c.2.2.1 l.length)))/\K=H:=by
 refine Yc Tryz.func385 Tryz.ntmps385 rfl rfl hw ?_
 have hil:i<l.length:=(Tn.1 hci).1
 obtain⟨⟨f0,f1⟩,⟨t0,t1⟩,_,k1,k2⟩:(0<=c.2.2.1/\c.2.2.1<n.net.nodes)/\(0<=c.2.2.2.1/\c.2.2.2.1<n.net.nodes)/\c.2.2.1≠c.2.2.2.1/\0<=Yu n.net c.2.2.1 c.2.2.2.1/\0<=Yu n.net c.2.2.2.1 c.2.2.1:=Xr hok hg
 have x1:=XM k1
 have x2:=XM k2
 have hml:n.margin.length=n.net.links.length:=hok.k1
 have mb1:=O6 hok x1
 have mb2:=O6 hok x2
 have hgs:=λ{H':List HP}{w:World}(hin:n.In B w0 H') (hw:St B w0 H' w)=>Yao n c.2.2.1 c.2.2.2.1 hin hok hw
 rw[hg]at hgs
 have p1:=λ{H':List HP}{w:World}(hin:n.In B w0 H') (hw:St B w0 H' w)=>VF n c.2.2.1 c.2.2.2.1 hin hw
 have p2:=λ{H':List HP}{w:World}(hin:n.In B w0 H') (hw:St B w0 H' w)=>VF n c.2.2.2.1 c.2.2.1 hin hw
 obtain⟨i1,hi1⟩:∃z,Yu n.net c.2.2.1 c.2.2.2.1=z:=⟨_,rfl⟩
 obtain⟨i2,hi2⟩:∃z,Yu n.net c.2.2.2.1 c.2.2.1=z:=⟨_,rfl⟩
 rw[hi1]at p1 k1 x1 mb1⊢
 rw[hi2]at p2 k2 x2 mb2⊢
 repeat'(first|((first|apply Ya VR|apply Yb VR);exact za;exact rfl;exactλ_ hw=>(hgs hin.cons.cons hw))|refine zgd ?_|(refine zgh ?_;intro _)|fail)
 first|(rename_i gn gc;guard_hyp gn:Nat;guard_hyp gc:Nat)|(rename_i gn gc _;guard_hyp gn:Nat;guard_hyp gc:Nat)|(rename_i gn gc _ _;guard_hyp gn:Nat;guard_hyp gc:Nat)|(rename_i gn gc _ _ _;guard_hyp gn:Nat;guard_hyp gc:Nat)
 have hTo:=λk=>Qt hok l i c.2.2.2.1 k
 have hFr:=λk=>Qt hok l i c.2.2.1 k
 refine Yf (λ(k:Nat)=>[(10,.int .i64 k),(8,.int .i64 (Yz n.net l i c.2.2.2.1 k)),(9,.int .i64 (Yz n.net l i c.2.2.1 k)),(1,.slice A l.length cap),(2,.int .i64 i),(3,.pointer (some ⟨gn,0,none⟩)),(7,.pointer (some ⟨gc,0,none⟩))]) (λ_=>blk gc (.cells (celF c).toArray 48 (0,0))::netN gn n::H) (λk=>k<=l.length) (λk=>l.length-k) 0 (Tc _) ?_ (λw hw=>hw) ?_
 ·exact zc1
 rintro k hk K hK
 have b1:=hTo k
 have b2:=hFr k
 unfold netN
 by_cases hlt:k<l.length
 ·obtain⟨x,hx⟩:∃x,l[k]? =some x:=⟨_,Ta hlt⟩
  have hcl:celL l k=x:=by unfold celL;rw[TA,hx];rfl
  have s1:∀node,Yz n.net l i node (k+1)=Yz n.net l i node k+if k=i then 0 else powN n.net x.2.2.1 node+powN n.net x.2.2.2.1 node:=λnode=>by
   rw[Yz,hcl];rfl
  have s2:=s1 c.2.2.2.1
  have s3:=s1 c.2.2.1
  by_cases hki:k=i
  ·rw[Tm hki,Ny]at s2 s3
   refine zX1 ?_<;>intros
   apply hK (k+1)
   ·exact Yfs
   ·omega
   ·rw[s2,s3]
    exact zc1
   ·unfold netN
    exact zc0
  rw[Tf hki]at s2 s3
  have ht:=hto k x hx hki
  have ht2:¬(c.2.2.1=x.2.2.1\/c.2.2.1=x.2.2.2.1\/c.2.2.2.1=x.2.2.1\/c.2.2.2.1=x.2.2.2.1):=by
   unfold YE YM toC at ht
   exact of_decide_eq_false ht
  have q1:=λ{H':List HP}{w:World}(hin:n.In B w0 H') (hw:St B w0 H' w)=>V3 n x.2.2.1 c.2.2.2.1 hok hin hw
  have q2:=λ{H':List HP}{w:World}(hin:n.In B w0 H') (hw:St B w0 H' w)=>V3 n x.2.2.2.1 c.2.2.2.1 hok hin hw
  have q3:=λ{H':List HP}{w:World}(hin:n.In B w0 H') (hw:St B w0 H' w)=>V3 n x.2.2.1 c.2.2.1 hok hin hw
  have q4:=λ{H':List HP}{w:World}(hin:n.In B w0 H') (hw:St B w0 H' w)=>V3 n x.2.2.2.1 c.2.2.1 hok hin hw
  have w1:=Jq hok x.2.2.1 c.2.2.2.1
  have w2:=Jq hok x.2.2.2.1 c.2.2.2.1
  have w3:=Jq hok x.2.2.1 c.2.2.1
  have w4:=Jq hok x.2.2.2.1 c.2.2.1
  repeat'(first|(apply zg28;first|refine zs83 ?_|refine zs84 ?_)|refine zgd ?_|(refine zge ?_ ?_<;>intro _<;>try exact zo)|fail)
  first|apply Ya YaL|apply Yb YaL
  exact za
  exact rfl
  exactλ_ hw=>(q1 zc32 hw)
  refine zX2 ?_
  first|apply Ya YaL|apply Yb YaL
  exact za
  exact rfl
  exactλ_ hw=>(q2 zc32 hw)
  refine zX81 ?_
  first|apply Ya YaL|apply Yb YaL
  exact za
  exact rfl
  exactλ_ hw=>(q3 zc32 hw)
  refine zX2 ?_
  first|apply Ya YaL|apply Yb YaL
  exact za
  exact rfl
  exactλ_ hw=>(q4 zc32 hw)
  refine zX2 ?_
  apply hK (k+1)
  ·exact Yfs
  ·omega
  ·rw[s2,s3,<-Int.add_assoc,<-Int.add_assoc]
   exact zc1
  ·unfold netN
   exact zc0
 obtain rfl:k=l.length:=by omega
 clear hK
 have r1:=λ{H':List HP}{w:World}(hw:St B w0 H' w)=>W3 n (mar n.net i1.toNat) (Yz n.net l i c.2.2.2.1 l.length) hok (by omega) (by omega) hw
 have r2:=λ{H':List HP}{w:World}(hw:St B w0 H' w)=>W3 n (mar n.net i2.toNat) (Yz n.net l i c.2.2.1 l.length) hok (by omega) (by omega) hw
 obtain⟨v1,hv1⟩:∃b,XJ n.net (mar n.net i1.toNat) (Yz n.net l i c.2.2.2.1 l.length)=b:=⟨_,rfl⟩
 obtain⟨v2,hv2⟩:∃b,XJ n.net (mar n.net i2.toNat) (Yz n.net l i c.2.2.1 l.length)=b:=⟨_,rfl⟩
 rw[hv1]at r1⊢
 rw[hv2]at r2⊢
 have hm1:n.margin[i1.toNat]? =some (mar n.net i1.toNat):=zc31
 have hm2:n.margin[i2.toNat]? =some (mar n.net i2.toNat):=zc31
 have hmg:=hin.mg
 have hs4:=hin.s4
 cases v1 with
 |false=>
  repeat'(first|(apply zg28;refine zs84 ?_)|refine zgc ?_|(refine zge ?_ ?_<;>intro _<;>try exact zo)|fail)
  first|apply Ya Wn|apply Yb Wn
  exact za
  exact rfl
  exactλ_ hw=>(p1 zc32 hw)
  refine zX2 ?_
  first|apply Ya YaK|apply Yb YaK
  exact za
  exact rfl
  exactλ_ hw=>(r1 hw)
  refine zX2 ?_
  apply Yg H
  ·exact zc0
  exact zc3
 |true=>
  cases v2
  all_goals(
   repeat'(first|(apply zg28;refine zs84 ?_)|refine zgc ?_|(refine zge ?_ ?_<;>intro _<;>try exact zo)|fail)
   first|apply Ya Wn|apply Yb Wn
   exact za
   exact rfl
   exactλ_ hw=>(p1 (by repeat(first|exact hin|apply NetM.In.cons)) hw)
   repeat'(first|refine zgd ?_|fail)
   first|apply Ya YaK|apply Yb YaK
   exact za
   exact rfl
   exactλ_ hw=>(r1 hw)
   repeat'(first|refine zgd ?_|fail)
   first|apply Ya Wn|apply Yb Wn
   exact za
   exact rfl
   exactλ_ hw=>(p2 (by repeat(first|exact hin|apply NetM.In.cons)) hw)
   repeat'(first|refine zgd ?_|fail)
   first|apply Ya YaK|apply Yb YaK
   exact za
   exact rfl
   exactλ_ hw=>(r2 hw)
   repeat'(first|refine zgd ?_|fail)
   apply Yg H
   ·exact zk
   apply Yd;exact rfl;exact rfl;exact⟨rfl,rfl⟩)
variable {n:Net}{s:Sch}{i:Nat}
theorem YiC(hf:Fine n s)(hi:i<s.cells.length):∀k x,(YI s i)[k]? =some x->k≠YJ s i->YE (Yn s i) x=false:=by
 intro k x hx hk
 have ha:=W5 hi
 have hpw:(YI s i).Pairwise λa b=>a.1=b.1->YE a b=false:=hf.once.sublist SL
 have hsx:x.1=(Yn s i).1:=by
  have:=(RH.1 (Td hx)).2
  simp_all [Xb]
 obtain⟨l1,l2⟩:=Tn.1 hx
 obtain⟨l3,l4⟩:=Tn.1 ha
 rcases Nat.lt_or_gt_of_ne hk with h|h
 ·grind [TT,Z7]
 ·have:=TT.1 hpw (YJ s i) k l3 l1 h
  simp_all
theorem Ym3{l:List Cel}{c:Cel}(hci:l[i]? =some c)(hg:YX n c.2.2.1 c.2.2.2.1=true)(hto:∀k x,l[k]? =some x->k≠i->YE c x=false):
 Vh n l i=(!(XJ n (mar n (Yu n c.2.2.1 c.2.2.2.1).toNat) (Yz n l i c.2.2.2.1 l.length))||!(XJ n (mar n (Yu n c.2.2.2.1 c.2.2.1).toNat) (Yz n l i c.2.2.1 l.length))):=by
 have hcl:celL l i=c:=by grind [celL]
 have hany:((List.range l.length).any λk=>decide (k≠i)&&YE c (celL l k))=false:=by
  rw[RL]
  intro k hk
  have hx:l[k]? =some (celL l k):=by grind [celL]
  grind
 unfold Vh
 rw[hcl,hany]
 show(!(YX n c.2.2.1 c.2.2.2.1)||false||_)=_
 rw[hg]
 rfl
theorem Yjz{l:List Flw}(h1:∀k,k<s.cells.length->Zu n l s k=0)(h2:∀k,k<s.cells.length->XV s k=false):Fine n s:=
 YfU (l:=l) (by grind [XT,YF]) (by grind [Zj,YF])
theorem Ydb(n:NetM)(l:List Flw)(s:SchM)(hlf:l.length<=9223372036854775807)(hl:s.cells.length<=1000000000000){A:Option Addr}{cap B:Nat}{w0:World}{H:List HP}{w:World}(hin:n.In B w0 H)(hrf:Rd B w0 H A (l.flatMap flwF))(hr:Rd B w0 H s.A (s.cells.flatMap celF))(hw:St B w0 H w):
 CX B w0 313 [n.val,.slice A l.length cap,s.val] w λv K=>v=.tuple #[.int .i64 (schE n.net l s.sch).1,.int .i64 (schE n.net l s.sch).2]/\K=H:=by
 refine Yc Tryz.func313 Tryz.ntmps313 rfl rfl hw ?_
 have e4:s.sch.cells.length=s.cells.length:=rfl
 rw[Yrl]
 have hinm:n.In B w0 [many H]:=⟨hin.pw.tail,λr hr=>(hin.rw_ r hr).tail,hin.lk.tail,hin.mg.tail,hin.s1,hin.s2,hin.s3,hin.s4⟩
 have hrm:Rd B w0 [many H] s.A (s.cells.flatMap celF):=hr.tail
 have hrfm:Rd B w0 [many H] A (l.flatMap flwF):=hrf.tail
 clear hr hrf hin
 refine YW [many H] (λw hw=>hw.perm (.closeT H)) ?_
 have hwl:=λ{H':List HP}{w:World}(hin:n.In B w0 H') (hrf:Rd B w0 H' A (l.flatMap flwF)) (hw:St B w0 H' w)=>Yix n l s hlf hl (cap:=cap) hin hrf hw
 obtain⟨wh,hwh⟩:∃z,Xs n.net l s.sch=z:=⟨_,rfl⟩
 rw[hwh]at hwl
 by_cases h0:wh≠0
 ·have hS:Yff n.net l s.sch=(-1,wh):=by unfold Yff;rw[hwh];exact Tm h0
  rw[hS]
  refine YsX ?_<;>intros
  apply Yg H
  ·intro w hw
   have h5:St B w0 [many H] w:=by
    revert w
    exact zc0
   exact Q7
  exact zc8
 obtain rfl:wh=0:=TK.1 h0
 obtain⟨hck,hfl,hsd,_,hle⟩:=UD hwh
 have hle:s.cells.length<=512:=hle
 have hl16:=YeO hfl
 have hok:=YN hck
 have hsz:1<=s.len/\s.len<=512/\1<=s.off/\s.off<=16:=TR hsd
 have hS:Yff n.net l s.sch=if(XT n.net l s.sch).2≠0 then XT n.net l s.sch else if(Zj s.sch).2≠0 then Zj s.sch else Ygh n.net s.sch:=by
  unfold Yff;rw[hwh];rfl
 rw[hS]
 have hC:XT n.net l s.sch=YC (Zu n.net l s.sch) s.cells.length 0:=rfl
 have hF:Zj s.sch=YC (λi=>if XV s.sch i=true then 6 else 0) s.cells.length 0:=rfl
 have hR:Ygh n.net s.sch=YC (λi=>if Vh n.net (YI s.sch i) (YJ s.sch i)=true then 16 else 0) s.cells.length 0:=rfl
 refine YsX ?_<;>intros
 first|(rename_i gn gs;guard_hyp gn:Nat;guard_hyp gs:Nat)|(rename_i gn gs _;guard_hyp gn:Nat;guard_hyp gs:Nat)|(rename_i gn gs _ _;guard_hyp gn:Nat;guard_hyp gs:Nat)|(rename_i gn gs _ _ _;guard_hyp gn:Nat;guard_hyp gs:Nat)|(rename_i gn gs _ _ _ _;guard_hyp gn:Nat;guard_hyp gs:Nat)|(rename_i gn gs _ _ _ _ _;guard_hyp gn:Nat;guard_hyp gs:Nat)
 refine Yf (λ(k:Nat)=>[(9,.int .i64 k),(3,.pointer (some ⟨gn,0,none⟩)),(5,.pointer (some ⟨gs,0,none⟩)),(1,.slice A l.length cap)]) (λ_=>blk gs (.cells #[.int .i64 s.len,.int .i64 s.off,.slice s.A s.cells.length s.cap] 30 (0,0))::netN gn n::[many H]) (λk=>k<=s.cells.length/\∀j,j<k->Zu n.net l s.sch j=0) (λk=>s.cells.length-k) 0 ⟨Tc _,λj hj=>absurd hj (Rj _)⟩ ?_ (λw hw=>hw) ?_
 ·exact zc1
 rintro k ⟨hk,hall⟩ K hK
 unfold netN
 by_cases hlt:k<s.cells.length
 ·have hget:s.cells[k]? =some (Yn s.sch k):=YS (s:=s.sch) hlt
  have hbad:Zu n.net l s.sch k≠0->XT n.net l s.sch=((k:Int),Zu n.net l s.sch k):=λh=>hC.trans (Xa (λj _ hj=>hall j hj) (Tc _) (by omega) h)
  have hstep:Zu n.net l s.sch k=0->∀j,j<k+1->Zu n.net l s.sch j=0:=λh j hj=>by
   by_cases e:j=k
   ·rw[e];exact h
   ·exact hall j (by omega)
  obtain⟨c,hc⟩:∃c,Yn s.sch k=c:=⟨_,rfl⟩
  have hce:Zu n.net l s.sch k=if XE s.sch c=false then 2 else if YX n.net c.2.2.1 c.2.2.2.1=false\/Zv l c.2.2.2.2<0 then 7 else if 0<k/\Xn (Yn s.sch (k-1)) c=false then 5 else 0:=by
   unfold Zu
   rw[hc];rfl
  rw[hc]at hget
  have hpl:XE s.sch c=false↔¬((0<=c.1/\c.1<=s.len-1)/\(0<=c.2.1/\c.2.1<=s.off-1)):=by
   unfold XE insE
   rw[RB]
   simp only[ne_eq,Tt,To]
   show¬((0<=c.1/\c.1<s.len)/\0<=c.2.1/\c.2.1<s.off)↔_
   omega
  by_cases hp:(0<=c.1/\c.1<=s.len-1)/\(0<=c.2.1/\c.2.1<=s.off-1)
  rotate_left
  ·rw[Tm (hpl.2 hp)]at hce
   rw[hbad (by rw[hce];decide),hce,Tm (show(2:Int)≠0 by decide)]
   clear hK
   repeat'(first|((first|apply Yx ZN|apply Yw ZN);exact za;exact rfl;exactλ_ hw=>(ZF _ _ _ hw);all_goals(intro hB;(try simp only[To,Tv]at hB);try exact zo))|refine zgd ?_|(refine zge ?_ ?_<;>intro _<;>try exact zo)|(refine zgh ?_;intro _)|fail)
   all_goals(
    apply Yg H
    ·intro w hw
     have h5:St B w0 [many H] w:=by
      revert w
      exact zk
     exact h5.perm (.openT H)
    apply Yo;(iterate 3 exact rfl);exact⟨rfl,rfl⟩)
  rw[Tf (λh=>hpl.1 h hp)]at hce
  have hgs:=λ{H':List HP}{w:World}(hin:n.In B w0 H') (hw:St B w0 H' w)=>Yao n c.2.2.1 c.2.2.2.1 hin hok hw
  have hfi:=λ{H':List HP}{w:World}(hr:Rd B w0 H' A (l.flatMap flwF)) (hw:St B w0 H' w)=>Yim l c.2.2.2.2 (by omega) (cap:=cap) hr hw
  obtain⟨gd,hgd⟩:∃b,YX n.net c.2.2.1 c.2.2.2.1=b:=⟨_,rfl⟩
  rw[hgd]at hgs hce
  cases gd with
  |false=>
   rw[Tm (.inl rfl)]at hce
   rw[hbad (by rw[hce];decide),hce,Tm (show(7:Int)≠0 by decide)]
   clear hK
   repeat'(first|((first|apply Yx ZN|apply Yw ZN);exact za;exact rfl;exactλ_ hw=>(ZF _ _ _ hw);all_goals(intro hB;(try simp only[To,Tv]at hB);try exact zo))|((first|apply Ya VR|apply Yb VR);exact za;exact rfl;exactλ_ hw=>(hgs (by repeat(first|exact hinm|apply NetM.In.cons)) hw))|refine zgd ?_|(refine zge ?_ ?_<;>intro _<;>try exact zo)|(refine zgh ?_;intro _)|fail)
   apply Yg H
   ·intro w hw
    have h5:St B w0 [many H] w:=by
     revert w
     exact zc0
    exact Q7
   exact zc8
  |true=>
  by_cases hneg:Zv l c.2.2.2.2<0
  ·rw[Tm (.inr hneg)]at hce
   rw[hbad (by rw[hce];decide),hce,Tm (show(7:Int)≠0 by decide)]
   clear hK
   repeat'(first|((first|apply Yx ZN|apply Yw ZN);exact za;exact rfl;exactλ_ hw=>(ZF _ _ _ hw);all_goals(intro hB;(try simp only[To,Tv]at hB);try exact zo))|((first|apply Ya VR|apply Yb VR);exact za;exact rfl;exactλ_ hw=>(hgs (by repeat(first|exact hinm|apply NetM.In.cons)) hw))|((first|apply Ya YaJ|apply Yb YaJ);exact za;exact rfl;exactλ_ hw=>(hfi zr hw))|refine zgd ?_|(refine zge ?_ ?_<;>intro _<;>try exact zo)|(refine zgh ?_;intro _)|fail)
   apply Yg H
   ·intro w hw
    have h5:St B w0 [many H] w:=by
     revert w
     exact zc0
    exact Q7
   exact zc8
  rw[Tf (by rintro(h|h);cases h;exact hneg h)]at hce
  rcases RE k with h0|h0
  ·subst h0
   rw[Tf (by omega)]at hce
   repeat'(first|((first|apply Yx ZN|apply Yw ZN);exact za;exact rfl;exactλ_ hw=>(ZF _ _ _ hw);all_goals(intro hB;(try simp only[To,Tv]at hB);try exact zo))|((first|apply Ya VR|apply Yb VR);exact za;exact rfl;exactλ_ hw=>(hgs (by repeat(first|exact hinm|apply NetM.In.cons)) hw))|((first|apply Ya YaJ|apply Yb YaJ);exact za;exact rfl;exactλ_ hw=>(hfi zr hw))|(apply zg28;refine zs84 ?_)|refine zgd ?_|(refine zgf ?_ ?_<;>intro _<;>try exact zo)|(refine zgh ?_;intro _)|fail)
   apply hK (0+1)
   ·exact YlE
   ·omega
   ·exact zc1
   ·unfold netN
    exact zc0
  have hget2:s.cells[((k:Int)-1).toNat]? =some (Yn s.sch (k-1)):=by
   rw[show((k:Int)-1).toNat=k-1 by omega]
   exact YS (s:=s.sch) (show k-1<s.cells.length by omega)
  obtain⟨p,hpv⟩:∃p,Yn s.sch (k-1)=p:=⟨_,rfl⟩
  rw[hpv]at hce hget2
  have hls:=λ{H':List HP}{w:World}(hw:St B w0 H' w)=>Yc9 p c hw
  cases hlv:Xn p c with
  |true=>
   rw[hlv]at hls hce
   rw[Tf (by simp)]at hce
   repeat'(first|((first|apply Yx ZN|apply Yw ZN);exact za;exact rfl;exactλ_ hw=>(ZF _ _ _ hw);all_goals(intro hB;(try simp only[To,Tv]at hB);try exact zo))|((first|apply Ya VR|apply Yb VR);exact za;exact rfl;exactλ_ hw=>(hgs (by repeat(first|exact hinm|apply NetM.In.cons)) hw))|((first|apply Ya YaJ|apply Yb YaJ);exact za;exact rfl;exactλ_ hw=>(hfi zr hw))|((first|apply Ya YeD|apply Yb YeD);exact za;exact rfl;exactλ_ hw=>(hls hw))|(apply zg28;refine zs84 ?_)|refine zgd ?_|(refine zgf ?_ ?_<;>intro _<;>try exact zo)|(refine zgh ?_;intro _)|fail)
   apply hK (k+1)
   ·exact YlE
   ·omega
   ·exact zc1
   ·unfold netN
    exact zc0
  |false=>
   rw[hlv]at hls hce
   rw[Tm ⟨h0,rfl⟩]at hce
   rw[hbad (by rw[hce];decide),hce,Tm (show(5:Int)≠0 by decide)]
   clear hK
   repeat'(first|((first|apply Yx ZN|apply Yw ZN);exact za;exact rfl;exactλ_ hw=>(ZF _ _ _ hw);all_goals(intro hB;(try simp only[To,Tv]at hB);try exact zo))|((first|apply Ya VR|apply Yb VR);exact za;exact rfl;exactλ_ hw=>(hgs (by repeat(first|exact hinm|apply NetM.In.cons)) hw))|((first|apply Ya YaJ|apply Yb YaJ);exact za;exact rfl;exactλ_ hw=>(hfi zr hw))|((first|apply Ya YeD|apply Yb YeD);exact za;exact rfl;exactλ_ hw=>(hls hw))|(apply zg28;refine zs84 ?_)|refine zgd ?_|(refine zgf ?_ ?_<;>intro _<;>try exact zo)|(refine zgh ?_;intro _)|fail)
   apply Yg H
   ·intro w hw
    have h5:St B w0 [many H] w:=by
     revert w
     exact zc0
    exact Q7
   exact zc8
 have hcells:∀j,j<s.cells.length->Zu n.net l s.sch j=0:=λj hj=>hall j (by omega)
 rw[Tf (λh=>h (by rw[hC,YF];exactλj _ hj=>hcells j (by omega)))]
 clear hK
 refine zX1 ?_<;>intros
 refine Yf (λ(i:Nat)=>[(11,.int .i64 i),(3,.pointer (some ⟨gn,0,none⟩)),(5,.pointer (some ⟨gs,0,none⟩))]) (λ_=>blk gs (.cells #[.int .i64 s.len,.int .i64 s.off,.slice s.A s.cells.length s.cap] 30 (0,0))::netN gn n::[many H]) (λi=>i<=s.cells.length/\∀m,m<i->XV s.sch m=false) (λi=>s.cells.length-i) 0 ⟨Tc _,λj hj=>absurd hj (Rj _)⟩ ?_ (λw hw=>hw) ?_
 ·exact zc1
 rintro i ⟨hi,htw⟩ K2 hK
 unfold netN
 by_cases hli:i<s.cells.length
 ·have hgi:s.cells[i]? =some (Yn s.sch i):=YS (s:=s.sch) hli
  obtain⟨c,hc⟩:∃c,Yn s.sch i=c:=⟨_,rfl⟩
  refine zX3 ?_<;>intros
  refine Yf (λ(j:Nat)=>[(12,.int .i64 j),(11,.int .i64 i),(3,.pointer (some ⟨gn,0,none⟩)),(5,.pointer (some ⟨gs,0,none⟩))]) (λ_=>blk gs (.cells #[.int .i64 s.len,.int .i64 s.off,.slice s.A s.cells.length s.cap] 30 (0,0))::netN gn n::[many H]) (λj=>j<=i/\∀m,m<j->(decide ((Yn s.sch m).1=c.1)&&YE c (Yn s.sch m))=false) (λj=>i-j) 0 ⟨Tc _,λj hj=>absurd hj (Rj _)⟩ ?_ (λw hw=>hw) ?_
  ·exact zc1
  rintro j ⟨hj,hnt⟩ K3 hK2
  unfold netN
  by_cases hlj:j<i
  ·have hgj:s.cells[j]? =some (Yn s.sch j):=YS (s:=s.sch) (show j<s.cells.length by omega)
   obtain⟨d,hd⟩:∃d,Yn s.sch j=d:=⟨_,rfl⟩
   rw[hc]at hgi
   rw[hd]at hgj
   have htc:YE c d=true↔(c.2.2.1=d.2.2.1\/c.2.2.1=d.2.2.2.1\/c.2.2.2.1=d.2.2.1\/c.2.2.2.1=d.2.2.2.1):=by unfold YE YM toC;rw[To]
   have hyes:d.1=c.1->YE c d=true->Zj s.sch=((i:Int),6):=λh1 h2=>by
    have htr:XV s.sch i=true:=Yfp hlj (by rw[hd,hc];exact h1) (by rw[hd,hc];exact h2)
    rw[hF,Xa (i:=i) (λm _ hm=>by simp only[htw m hm];rfl) (Tc _) (by omega) (by simp only[htr];decide)]
    simp[htr]
   refine zX3 ?_<;>intros
   apply YbM (.p1 0 (.p1 1 (.p1 2 (.p1 3 (.p1 4 (.p1 5 (.p1 6 (.p1 7 (.p1 8 (.p1 9 (.d2 10 (.d1 11 (.d1 12 (.d1 13 .done))) 11 (.d1 10 (.d1 12 (.d1 13 .done)))))))))))))) [] [true,false,true]
   kernel_rfl
   kernel_rfl
   exact zy
   exact rfl
   repeat'(first|(apply YnU;(simp only[nthO];rfl))|(apply YnS;(simp only[nthO];rfl);exact zp)|(apply YnT;(simp only[nthO];rfl);(simp only[nthO];rfl);exact zp)|(apply YbU;try exact zl)|refine zgd ?_|(refine zge ?_ ?_<;>intro _<;>try exact zo)|(refine zgh ?_;intro _)|fail)
   all_goals first
    |(apply hK2 (j+1)
      ·refine⟨by omega,λm hm=>?_⟩
       by_cases e:m=j
       ·rw[e,hd,RB,ne_eq,Tt,To,htc]
        omega
       ·exact hnt m (by omega)
      ·omega
      ·exact zu
      ·unfold netN
       exact zk
      done)
    |(have hT:=hyes (by omega) (htc.2 (by omega))
      rw[hT,Tm (show(6:Int)≠0 by decide)]
      apply Yg H
      ·intro w hw
       have h5:St B w0 [many H] w:=by
        revert w
        exact zk
       exact h5.perm (.openT H)
      apply Yo;(iterate 3 exact rfl);exact⟨rfl,rfl⟩
      done)
  ·refine zX1 ?_<;>intros
   apply hK (i+1)
   ·refine⟨by omega,λm hm=>?_⟩
    by_cases e:m=i
    ·rw[e]
     unfold XV
     rw[RL]
     intro q hq
     have:=hnt q (by have:=Ro.1 hq;omega)
     rw[hc,this]
     decide
    ·exact htw m (by omega)
   ·omega
   ·exact zc1
   ·unfold netN
    exact zc0
 have htwa:∀m,m<s.cells.length->XV s.sch m=false:=λm hm=>htw m (by omega)
 have hfine:Fine n.net s.sch:=Yjz (l:=l) hcells htwa
 rw[Tf (λh=>h (by rw[hF,YF];exactλj _ hj=>by simp only[htwa j (by omega)];rfl)),hR]
 clear hK
 refine zX1 ?_<;>intros
 refine Yf (λ(i:Nat)=>[(15,.int .i64 i),(3,.pointer (some ⟨gn,0,none⟩)),(5,.pointer (some ⟨gs,0,none⟩))]) (λ_=>blk gs (.cells #[.int .i64 s.len,.int .i64 s.off,.slice s.A s.cells.length s.cap] 30 (0,0))::netN gn n::[many H]) (λi=>i<=s.cells.length/\∀m,m<i->Vh n.net (YI s.sch m) (YJ s.sch m)=false) (λi=>s.cells.length-i) 0 ⟨Tc _,λj hj=>absurd hj (Rj _)⟩ ?_ (λw hw=>hw) ?_
 ·exact zc1
 rintro i ⟨hi,hrfa⟩ K4 hK
 unfold netN
 by_cases hli:i<s.cells.length
 ·have hgi:s.cells[i]? =some (Yn s.sch i):=YS (s:=s.sch) hli
  have hsa:=W5 (s:=s.sch) hli
  have hap:=YiC hfine (i:=i) hli
  have hsl:=Yfk hok hfine i
  have hgc:=hfine.good _ (Jb (s:=s.sch) hli)
  obtain⟨c,hc⟩:∃c,Yn s.sch i=c:=⟨_,rfl⟩
  rw[hc]at hsa hap hgc
  have hgc:YX n.net c.2.2.1 c.2.2.2.1=true:=hgc
  have hrq:=Ym3 hsa hgc hap
  have hfq:=λ{A:Option Addr}{cap:Nat}{H':List HP}{w:World}(hin:n.In B w0 H') (hr:Rd B w0 H' A ((YI s.sch i).flatMap celF)) (hw:St B w0 H' w)=>Yil n (YI s.sch i) (YJ s.sch i) c hok hsa hgc hap hsl (cap:=cap) hin hr hw
  rw[<-hrq]at hfq
  obtain⟨b,hb⟩:∃b,Vh n.net (YI s.sch i) (YJ s.sch i)=b:=⟨_,rfl⟩
  rw[hb]at hfq
  refine zX3 ?_<;>intros
  apply Yi _ Yvs
  exact za
  exact rfl
  exactλ_ hw=>(Yir s i hli (by omega) zr (hw))
  rintro _ _ ⟨A5,cap5,rfl,rfl⟩
  refine zX9 ?_
  first|apply Ya Ysz|apply Yb Ysz
  exact za
  exact rfl
  exactλ_ hw=>(hfq zc23 (Rd.cels (cap:=cap5) (by(focus exact zc2))) hw)
  cases b with
  |true=>
   rw[Xa (i:=i) (λm _ hm=>by simp only[hrfa m hm];rfl) (Tc _) (by omega) (by simp only[hb];decide)]
   simp only[hb]
   refine zX2 ?_
   apply Yg H
   ·intro w hw
    have h5:St B w0 [many H] w:=by
     revert w
     exact zc0
    exact Q7
   exact zc8
  |false=>
   refine zX9 ?_
   apply hK (i+1)
   ·refine⟨by omega,λm hm=>?_⟩
    by_cases e:m=i
    ·rw[e];exact hb
    ·exact hrfa m (by omega)
   ·omega
   ·exact zc1
   ·unfold netN
    exact zc0
 ·rw[Xj λm _ hm=>by simp only[hrfa m (by omega)];rfl]
  refine zX1 ?_<;>intros
  apply Yg H
  ·intro w hw
   have h5:St B w0 [many H] w:=by
    revert w
    exact zc0
   exact Q7
  exact zc8
end Go.Proofs.YtjlgijpmnfabcaaGreatDoor
