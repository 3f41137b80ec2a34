/- Lemmas. -/
import Derived.Test.YtjlgijpmnfabcaaGreatDoorQ12
import Derived.Test.YtjlgijpmnfabcaaGreatDoorQ13
set_option maxRecDepth 100000
set_option maxHeartbeats 8000000
set_option linter.all false
namespace Go.Eng
open Go.RowKit
variable {B cap:Nat}{w0:World}{H:List HP}{A:Option Addr}
theorem Yq2{P:Program}{n:Shp}{Q:Exit->Act->World->Prop}{env:Env}{c:Code}{e size k:Nat}{xs:List Value}(hm:sl e size A k cap xs∈H)(h:k<=cap->VC P n B w0 c Q env H):VC P n B w0 c Q env H:=by
 refine⟨λa w ha hw=>?_⟩
 have hown:=hw.sl hm
 have hkc:k<=cap:=zc49
 exact(h hkc).run a w ha hw
end Go.Eng
namespace Go.Proofs.YtjlgijpmnfabcaaGreatDoor
open Go.RowKit Go.Eng Go.Nw Go.Rt
theorem Yqp(A:Option Addr)(cap size:Nat):subA A 0 cap size=A:=by
 simp_all [subA,Go.Addr.add]
variable {A:Option Addr}{cap B:Nat}{w0 w:World}{H:List HP}
theorem XS(l:List Lk)(hlen:l.length<=1000)(hr:Rd B w0 H A (l.flatMap lkF))(hw:St B w0 H w):
 CX B w0 395 [.slice A l.length cap] w λv K=>∃A' cap',v=.slice A' l.length cap'/\K=sl 383 3 A' l.length cap' (l.flatMap lkF)::H:=by
 cases A with
 |none=>
  have hl:l=[]:=by
   cases l with
   |nil=>rfl
   |cons x l=>
    exact zc30
  subst hl
  refine Ya Tryz.func395 Tryz.ntmps395 rfl rfl hw ?_
  refine zX6 ?_
  apply Xg 383 3;exact zc38
 |some a=>
  refine Ya Tryz.func395 Tryz.ntmps395 rfl rfl hw ?_
  repeat'(first|(apply Zc;(iterate 3 exact rfl))|(apply XA T;exact rfl;exact rfl;intro g2)|refine zga ?_|fail)
  apply Xn T (f:=lkF) (l2:=l) (e:=383) (size:=3) (xs:=[]);(iterate 3 exact rfl);exact hr.cons;exact(λ_=>rfl);exact(λ_=>rfl);exact rfl;(intro _ _;exact zd);omega;intro A' cap'
  exact zc23
def arcV(a:Lk):Value:=.agg #[.int .i64 a.1,.int .i64 a.2.1,.int .i64 a.2.2]
theorem YeZ{α:Type}(p:α->Bool):∀(l:List α) (k:Int),(l.filter (λa=>!p a)=l/\Yp p l k= -1)\/∃j,j<l.length/\Yp p l k=k+j/\(l.take j).filter (λa=>!p a)=l.take j/\∃a,l[j]? =some a/\p a=true
 |[],_=>.inl ⟨rfl,rfl⟩
 |a::l,k=>by
  unfold Yp
  cases h:p a with
  |true=>exact .inr ⟨0,by simp,by simp,rfl,a,rfl,h⟩
  |false=>
   rw[Tf (by decide)]
   rcases YeZ p l (k+1)with⟨h1,h2⟩|⟨j,h1,h2,h3,b,h4,h5⟩
   ·simp_all
   exact Yuh
theorem Yd8(p:Lk->Bool)(l:List Lk)(f:Nat)(cs:List Value)(hen:∀xs w,(callFunc f xs).run Tryz.prog w=.ok (.enter f xs) w)(hlen:l.length<=1000)(hr:Rd B w0 H A (l.flatMap lkF))
 (hp:∀a∈l,∀w,St B w0 H w->Calls Tryz.prog f ([arcV a]++cs).toArray w (Post B w0 λv K=>v=.bool (p a)/\K=H)) (hw:St B w0 H w):
 CX B w0 425 [.slice A l.length cap,.func (.func f) #[] cs.toArray] w λv K=>v=.int .i64 (Yp p l 0)/\K=H:=by
 refine Ya Tryz.func425 Tryz.ntmps425 rfl rfl hw ?_
 refine zX7 ?_
 refine Yi (λ(k:Nat)=>[(8,.int .i64 k),(7,.int .i64 l.length),(0,.slice A l.length cap),(1,.func (.func f) #[] cs.toArray)]) (λ_=>H) (λk=>k<=l.length/\Yp p l 0=Yp p (l.drop k) k) (λk=>l.length-k) 0 ⟨Ti _,by simp⟩ ?_ (λw hw=>hw) ?_
 ·exact zc1
 rintro k ⟨hk,hi⟩ K hK
 by_cases hlt:k<l.length
 ·obtain⟨a,ha⟩:∃a,l[k]? =some a:=⟨_,Ta hlt⟩
  have hpa:=hp a (Td ha)
  rw[JR p l ha]at hi
  refine zX8 ?_<;>intros
  cases hpv:p a
  ·rw[hpv]at hi
   refine zX9 ?_
   apply hK (k+1)
   ·grind
   ·omega
   ·exact zc1
   exact zc21
  exact zc9
 exact zc6
structure Kz where
 i:Nat
 j:Nat
 M:List Lk
theorem XT(p:Lk->Bool)(l:List Lk)(f:Nat)(cs:List Value)(hen:∀xs w,(callFunc f xs).run Tryz.prog w=.ok (.enter f xs) w)(hlen:l.length<=1000)
 (hp:∀a∈l,∀(X:List HP) w,St B w0 (X++H) w->Calls Tryz.prog f ([arcV a]++cs).toArray w (Post B w0 λv K=>v=.bool (p a)/\K=X++H)) (hw:St B w0 (Jg A cap l::H) w):
 CX B w0 394 [.slice A l.length cap,.func (.func f) #[] cs.toArray] w λv K=>v=.slice A (l.filter λa=>!p a).length cap/\K=Jg A cap (l.filter λa=>!p a)::H:=by
 refine Ya Tryz.func394 Tryz.ntmps394 rfl rfl hw ?_
 refine Yq2 (k:=l.length) (cap:=cap) (by(focus exact zc2)) λhcap=>?_
 have hif:=λ{w:World}(hw:St B w0 (Jg A cap l::H) w)=>Yd8 p l f cs hen hlen (cap:=cap) (.sl TC) (λa ha w hw=>hp a ha [Jg A cap l] w hw) hw
 rcases YeZ p l 0 with⟨h1,h2⟩|⟨i0,h1,h2,h3,a0,h4,h5⟩
 ·rw[h2]at hif
  rw[h1]
  repeat'(first|((first|apply Yb YlF|apply Yc YlF);exact za;exact rfl;exactλ_ hw=>(hif hw))|refine zgb ?_|(refine zgf ?_ ?_<;>intro _<;>try exact zo)|fail)
  exact zc7
 rw[h2,Int.zero_add]at hif
 repeat'(first|((first|apply Yb YlF|apply Yc YlF);exact za;exact rfl;exactλ_ hw=>(hif hw))|refine zgc ?_|(refine zgf ?_ ?_<;>intro _<;>try exact zo)|fail)
 refine Yi (λ(z:Kz)=>[(6,.int .i64 z.j),(5,.int .i64 z.i),(0,.slice A z.M.length cap),(1,.func (.func f) #[] cs.toArray)]) (λz=>Jg A cap z.M::H) (λz=>z.M.length=l.length/\z.i<z.j/\z.j<=l.length/\z.M.take z.i=(l.take z.j).filter (λa=>!p a)/\z.M.drop z.j=l.drop z.j) (λz=>l.length-z.j) ⟨i0,i0+1,l⟩ ⟨rfl,by exact zc28,by exact zc28,?_,rfl⟩ ?_ (λw hw=>hw) ?_
 ·exact Yun
 ·exact zc1
 rintro⟨i,j,M⟩ ⟨hM,hij,hj,ht,hd⟩ K hK
 simp only at hM hij hj ht hd⊢
 by_cases hlt:j<l.length
 ·obtain⟨a,ha⟩:∃a,l[j]? =some a:=⟨_,Ta hlt⟩
  have hMa:M[j]? =some a:=YtK
  have hpa:=λ{X1 X2:HP}{w:World}(hw:St B w0 (X1::X2::H) w)=>hp a (Td ha) [X1,X2] w hw
  have hft:(l.take (j+1)).filter (λa=>!p a)=M.take i++(if p a=true then []else [a]):=Yua
  obtain⟨b,hb⟩:∃b,p a=b:=⟨_,rfl⟩
  rw[hb]at hft hpa
  have hd1:∀x:Lk,(M.set i x).drop (j+1)=l.drop (j+1):=λx=>by
   exact Yue
  cases b with
  |true=>
   rw[Tm rfl,Rm]at hft
   refine zX37 ?_<;>intros
   apply hK ⟨i,j+1,M⟩
   ·exact⟨hM,by exact zc28,by exact zc28,hft.symm,by exact Yuy⟩
   ·exact zc28
   ·exact zc1
   ·exact zc59
  |false=>
   rw[Tf (by decide)]at hft
   have hMl:(M.set i a).length=M.length:=TT
   repeat'(first|((first|apply YK (cs:=cs));exact rfl;exact hen;exact za;exact rfl;exactλ_ hw=>hpa hw)|(apply Zd T (f:=lkF) (l:=M) (i:=i) (a:=a);(iterate 3 exact rfl);exact zd;exactλ_=>rfl;(iterate 3 exact rfl);omega)|refine zgd ?_|(refine zge ?_ ?_<;>intro _<;>try exact zo)|(refine zgh ?_;intro _)|fail)
   apply hK ⟨i+1,j+1,M.set i a⟩
   ·refine⟨by exact zc28,by exact zc28,by exact zc28,?_,hd1 a⟩
    exact YtS
   ·exact zc28
   ·dsimp only
    rw[hMl]
    exact zc1
   ·unfold Jg
    dsimp only
    rw[hMl]
    exact zc59
 ·obtain rfl:j=l.length:=by omega
  clear hK
  rw[TL]at ht
  have hil:(l.filter λa=>!p a).length=i:=by rw[<-ht,TK];omega
  have hfl:(M.flatMap lkF).take (i*3)=(l.filter λa=>!p a).flatMap lkF:=by rw[<-Xz (q:=3) (λ_=>rfl),ht]
  refine zX39 ?_<;>intros
  rw[Rq]
  apply Zn (sl 383 3 A i cap ((l.filter λa=>!p a).flatMap lkF)::H)
  ·intro w hw
   refine hw.shrink (e:=383) (size:=3) (cap:=cap) (A:=A) (xs:=M.flatMap lkF) (k:=M.length) (k':=i) (by omega) ?_
   rw[hfl]
   exact Upd.here _
  apply Yg5 T T2 (e:=383) (size:=3) (k:=i) (xs:=(l.filter λa=>!p a).flatMap lkF);exact rfl;exact TC;(iterate 3 exact rfl);omega
  refine zX40 ?_
  rw[Yqp]
  repeat'(first|fail)
  apply Yd;exact rfl;exact rfl
  exact⟨by rw[hil],by unfold Jg;rw[hil]⟩
theorem Yel(s t:Int)(gs gt:Nat)(a:Lk)(hs:blk gs (.cells #[.int .i64 s] 3 (0,0))∈H)(ht:blk gt (.cells #[.int .i64 t] 3 (0,0))∈H)(hw:St B w0 H w):
 CX B w0 424 [arcV a,.pointer (some ⟨gs,0,none⟩),.pointer (some ⟨gt,0,none⟩)] w λv K=>v=.bool (decide (a.1=s/\a.2.1=t))/\K=H:=by
 refine Ya Tryz.func424 Tryz.ntmps424 rfl rfl hw ?_
 unfold arcV
 by_cases h:a.1=s/\a.2.1=t
 ·rw[Tj h]
  refine zX99 ?_<;>intros
  all_goals(apply Yl;exact zc12)
 ·rw[Tu h]
  repeat'(first|refine zgc ?_|(refine zgf ?_ ?_<;>intro _<;>try exact zo)|(refine zgh ?_;intro _)|fail)
  all_goals(apply Yl;apply Yd;exact rfl;exact rfl;exact⟨rfl,rfl⟩)
def WW(s t:Int)(l:List Lk):List Lk:=l.filter λa=>!decide (a.1=s/\a.2.1=t)
theorem QX(l:List Lk)(s t:Int)(hlen:l.length<=1000)(hr:Rd B w0 H A (l.flatMap lkF))(hw:St B w0 H w):
 CX B w0 393 [.slice A l.length cap,.int .i64 s,.int .i64 t] w λv K=>∃A' cap',v=.slice A' (WW s t l).length cap'/\K=Jg A' cap' (WW s t l)::H:=by
 refine Ya Tryz.func393 Tryz.ntmps393 rfl rfl hw ?_
 repeat'(first|refine zga ?_|(refine zgh ?_;intro _)|fail)
 rename_i g1 g2
 apply Yg _ YeO
 exact za
 exact rfl
 exactλ_ hw=>(XS l hlen (hr.cons.cons) (hw))
 rintro _ _ ⟨A',cap',rfl,rfl⟩
 repeat'(first|(apply zg29;(apply Ys;exact za;exact rfl))|fail)
 apply Yg _ YeN
 exact za
 exact rfl
 exactλ_ hw=>(XT (λa=>decide (a.1=s/\a.2.1=t)) l 424 [.pointer (some ⟨g1,0,none⟩),.pointer (some ⟨g2,0,none⟩)] YwC hlen (λa _ X w hw=>Yel s t g1 g2 a (Re _ zm) (Re _ zm) hw) (hw))
 rintro _ _ ⟨rfl,rfl⟩
 repeat'(first|refine zga ?_|fail)
 apply Yh (Jg A' cap' (WW s t l)::H)
 ·exactλw hw=>hw.perm (.cons _ (.dropK (.drop _ _)))
 apply Yd;exact rfl;exact rfl
 exact⟨A',cap',rfl,rfl⟩
end Go.Proofs.YtjlgijpmnfabcaaGreatDoor
namespace Go.Eng
open Go.RowKit
variable {B:Nat}{w0:World}{H:List HP}
theorem Rd.manyT{K:List HP}{A:Option Addr}{xs:List Value}(h:Rd B w0 H A xs)(hm:Eng.many H∈K):Rd B w0 K A xs:=h.mono λw hw=>by
 obtain⟨S1,h1,h2⟩:=YgL hm hw.sep
 exact⟨hw.below,hw.le,Vm h2 h1⟩
end Go.Eng
namespace Go.Proofs.YtjlgijpmnfabcaaGreatDoor
open Go.RowKit Go.Eng Go.Nw Go.Rt
def W7(pre:List Int)(v:Int):Bool:=decide (v∈pre.drop 1)
def OJ(pre:List Int)(to v:Int):Bool:=!decide (v=to)&&W7 pre v
def YaV(pre:List Int):Int:=pre.getD 0 0
def Yic(pre:List Int):Int:=pre.getD (pre.length-1) 0
def QE(l:List Lk)(pre:List Int)(to:Int):List Lk:=(if pre.length=2 then WW (YaV pre) to l else l).filter λa=>!(OJ pre to a.1||OJ pre to a.2.1)
def badB(pre:List Int)(a:Lk):Bool:=W7 pre a.2.1||(W7 pre a.1&&decide (a.1≠Yic pre))||decide (a.2.1=YaV pre)
def Ye8(l:List Lk)(pre:List Int):List Lk:=l.filter λa=>!badB pre a
noncomputable def YlY(fuel nodes:Nat)(l:List Lk)(pre:List Int)(to:Int):Option (Int×Bool):=
 if Yic pre=to then some (Yk (J3 nodes (QE l pre to) to) (YaV pre),decide (Yk (J3 nodes (QE l pre to) to) (YaV pre)<Xl))
 else match Ou fuel nodes (Ye8 l pre) (Yic pre) (YaV pre) to (W7 pre)with
  |none=>none
  |some r=>some (r.1,r.2.1)
variable {l:List Lk}
theorem ArcsOk.sub{nodes:Nat}{m:List Lk}(h:ArcsOk nodes l)(hm:∀a∈m,a∈l):ArcsOk nodes m:=λa ha=>h a (hm a ha)
theorem Ynm{pre:List Int}{to:Int}{a:Lk}(h:a∈QE l pre to):a∈l:=Yt5
theorem Ynl(l:List Lk)(pre:List Int)(to:Int):(QE l pre to).length<=l.length:=by
 unfold QE
 exact Yt3
theorem Ynn(l:List Lk)(pre:List Int):(Ye8 l pre).length<=l.length:=RG _ _
variable {B:Nat}{w0 w:World}{H:List HP}
theorem Yds(gm gc clock:Nat)(es:Ents)(f:Int->Bool)(a:Lk)(hf:MB es f)(hm:blk gm (mobj es clock)∈H)(hc:blk gc (.cells #[.map (some gm)] 452 (0,0))∈H)(hw:St B w0 H w):
 CX B w0 422 [arcV a,.pointer (some ⟨gc,0,none⟩)] w λv K=>v=.bool (f a.1||f a.2.1)/\K=H:=by
 refine Ya Tryz.func422 Tryz.ntmps422 rfl rfl hw ?_
 unfold arcV
 obtain⟨b1,h1⟩:∃b,f a.1=b:=⟨_,rfl⟩
 obtain⟨b2,h2⟩:∃b,f a.2.1=b:=⟨_,rfl⟩
 rw[h1,h2]
 cases b1
 ·skip
  refine Yty ?_<;>intros
  apply Yl;exact zc12
 ·skip
  refine Yty ?_<;>intros
  apply Yl;exact zc12
theorem Ykz(gm gc ga gf clock:Nat)(es:Ents)(f:Int->Bool)(s t:Int)(a:Lk)(hf:MB es f)(hm:blk gm (mobj es clock)∈H)(hc:blk gc (.cells #[.map (some gm)] 452 (0,0))∈H)(ha:blk ga (.cells #[.int .i64 t] 3 (0,0))∈H)(hs:blk gf (.cells #[.int .i64 s] 3 (0,0))∈H)(hw:St B w0 H w):
 CX B w0 423 [arcV a,.pointer (some ⟨gc,0,none⟩),.pointer (some ⟨ga,0,none⟩),.pointer (some ⟨gf,0,none⟩)] w λv K=>v=.bool (f a.2.1||(f a.1&&decide (a.1≠t))||decide (a.2.1=s))/\K=H:=by
 refine Ya Tryz.func423 Tryz.ntmps423 rfl rfl hw ?_
 unfold arcV
 obtain⟨b1,h1⟩:∃b,f a.1=b:=⟨_,rfl⟩
 obtain⟨b2,h2⟩:∃b,f a.2.1=b:=⟨_,rfl⟩
 rw[h1,h2]
 by_cases e1:a.1=t<;>by_cases e2:a.2.1=s
 ·rw[Tj e2,Tu (λh=>h e1)]
  exact zc4
 ·rw[Tu e2,Tu (λh=>h e1)]
  exact zc4
 ·rw[Tj e2,Tj (p:=a.1≠t) e1]
  exact zc4
 ·rw[Tu e2,Tj (p:=a.1≠t) e1]
  exact zc4
structure Pz where
 ga:Nat
 gf:Nat
structure Qz where
 k:Nat
 es:Ents
 c:Nat
 f:Int->Bool
def WV(l:List Lk)(pre:List Int)(to:Int):List Lk:=if pre.length=2 then WW (YaV pre) to l else l
theorem YnK(nodes:Nat)(l:List Lk)(pre:List Int)(to:Int)(fuel:Nat)(s:Int×Bool)(hn:1<=nodes/\nodes<=40)(hl:l.length<=900)(hok:ArcsOk nodes l)(hpl:2<=pre.length/\pre.length<=1000)(hpi:∀v∈pre,0<=v/\v<nodes)(hto:0<=to/\to<nodes)(hfu:fuel<=100000)(hrun:YlY fuel nodes l pre to=some s)
 {AL AP:Option Addr}{capL capP B:Nat}{w0:World}{H:List HP}{w:World}(hr:Rd B w0 H AL (l.flatMap lkF)) (hp:Rd B w0 H AP (pre.flatMap numF)) (hcap:pre.length<=capP) (hw:St B w0 H w):
 CX B w0 392 [.int .i64 nodes,.slice AL l.length capL,.slice AP pre.length capP,.int .i64 to] w λv K=>v=.tuple #[.int .i64 s.1,.bool s.2]/\(-600000000000000<=s.1/\s.1<=3000000000)/\K=H:=by
 refine Ya Tryz.func392 Tryz.ntmps392 rfl rfl hw ?_
 have hg0:pre[0]? =some (YaV pre):=XU (by omega)
 have hg1:pre[((pre.length:Int)-1).toNat]? =some (Yic pre):=by
  rw[show((pre.length:Int)-1).toNat=pre.length-1 by omega];exact XU (by omega)
 have hfr:=hpi _ (Td hg0)
 have har:=hpi _ (Td hg1)
 obtain⟨fr,hfe⟩:∃x,YaV pre=x:=⟨_,rfl⟩
 obtain⟨at_,hae⟩:∃x,Yic pre=x:=⟨_,rfl⟩
 rw[hfe]at hg0 hfr
 rw[hae]at hg1 har
 iterate 7 (first|refine zga ?_|fail)
 refine Y8 (many H::[]) (λw hw=>hw.perm (.closeT _)) ?_
 have hpT:Rd B w0 [many H] AP (pre.flatMap numF):=hp.manyT TC
 refine XE (λ(z:Pz)=>[(11,.pointer (some ⟨z.ga,0,none⟩)),(10,.pointer (some ⟨z.gf,0,none⟩)),(0,.int .i64 nodes),(1,.slice AL l.length capL),(2,.slice AP pre.length capP),(3,.int .i64 to)]) (λz=>blk z.gf (.cells #[.int .i64 fr] 3 (0,0))::blk z.ga (.cells #[.int .i64 at_] 3 (0,0))::H) ?_ ?_
 ·intro K hK
  apply J9 (.n1 0 (.n1 1 (.n1 2 (.n1 3 (.n1 4 (.n1 5 (.n1 6 (.n1 7 (.n1 8 (.n2 9 (.n1 10 (.n1 11 .done)) 10 (.n1 9 (.n1 11 .done)))))))))))) [12] [true]
  kernel_rfl
  kernel_rfl
  exact zy
  (simp only[Ye,nthO];rfl)
  repeat'(first|(apply Yj;try exact zl)|apply(zs91 ?_ ?_)|(apply Y3;try exact zl)|refine zgd ?_|(refine zgh ?_;intro _)|fail)
  ·rename_i gf ga
   refine hK ⟨ga,gf⟩ _ _ ?_ ?_
   ·exact zc1
   ·dsimp only
    intro w hw
    have h5:St B w0 (blk gf (.cells #[.int .i64 fr] 3 (0,0))::blk ga (.cells #[.int .i64 at_] 3 (0,0))::[many H]) w:=by
     revert w
     exact zc0
    exact h5.perm (.cons _ (.cons _ (.openT _)))
  ·rename_i ga gf
   refine hK ⟨ga,gf⟩ _ _ ?_ ?_
   ·exact zc1
   ·dsimp only
    intro w hw
    have h5:St B w0 (blk gf (.cells #[.int .i64 fr] 3 (0,0))::blk ga (.cells #[.int .i64 at_] 3 (0,0))::[many H]) w:=by
     revert w
     exact zc0
    exact h5.perm (.cons _ (.cons _ (.openT _)))
 rintro⟨ga,gf⟩
 dsimp only
 have hdl:(pre.drop 1).length=pre.length-1:=Rk
 repeat'(first|(apply UM;exact rfl;intro gm)|(apply Z7 T (n':=(pre.drop 1).length);(iterate 4 exact rfl);omega;(rw[hdl];rfl))|refine zgd ?_|(refine zgh ?_;intro _)|fail)
 rename_i gc
 refine Yi (λ(z:Qz)=>[(34,.int .i64 z.k),(33,.int .i64 (pre.drop 1).length),(32,.slice (subA AP 1 capP 1) (pre.drop 1).length (capP-1)),(12,.pointer (some ⟨gc,0,none⟩)),(11,.pointer (some ⟨ga,0,none⟩)),(10,.pointer (some ⟨gf,0,none⟩)),(0,.int .i64 nodes),(1,.slice AL l.length capL),(2,.slice AP pre.length capP),(3,.int .i64 to)]) (λz=>blk gc (.cells #[.map (some gm)] 452 (0,0))::blk gm (mobj z.es z.c)::blk gf (.cells #[.int .i64 fr] 3 (0,0))::blk ga (.cells #[.int .i64 at_] 3 (0,0))::H)
  (λz=>z.k<=(pre.drop 1).length/\MB z.es z.f/\MOk z.es z.c/\∀v,z.f v=decide (v∈(pre.drop 1).take z.k)) (λz=>(pre.drop 1).length-z.k) ⟨0,[],0,λ_=>false⟩ ⟨Ti _,MB.nil,MOk.nil,λv=>by simp⟩ ?_ zc0 ?_
 ·exact zc1
 rintro⟨k,es,c,f⟩ ⟨hk,hmb,hmk,hf⟩ K hK
 simp only at hk hmb hmk hf⊢
 have hp1:∀{X1 X2 X3 X4:HP},Rd B w0 (X1::X2::X3::X4::H) (subA AP 1 capP 1) ((pre.drop 1).flatMap numF):=Ytv 1 (hp.cons.cons.cons.cons) hcap
 by_cases hlt:k<(pre.drop 1).length
 ·obtain⟨v,hv⟩:∃v,(pre.drop 1)[k]? =some v:=⟨_,Ta hlt⟩
  have hp1':=@hp1
  repeat'(first|(apply XZ T (f:=numF) (l:=pre.drop 1);exact rfl;exact rfl;exact hp1;exact rfl;exactλ_=>rfl;exact rfl;exact rfl;omega)|(apply Z6 T (f:=numF) (l:=pre.drop 1);exact rfl;exact hp1;exact hv;exactλ_=>rfl;(iterate 4 exact rfl))|(apply Yk4 (kt:=3) (et:=4);(iterate 3 exact rfl);kernel_rfl;(intro _ _;exact zd);exact hmb;exact hmk;intro es2 c2 m2 o2 _ _)|refine zgc ?_|(refine zge ?_ ?_<;>intro _<;>try exact zo)|fail)
  apply hK ⟨k+1,es2,c2,λu=>decide (u=v)||f u⟩
  ·refine⟨by exact zc28,m2,o2,λu=>?_⟩
   simp only
   rw[hf u,TF,hv]
   by_cases h1:u=v<;>by_cases h2:u∈(pre.drop 1).take k<;>simp[h1]
  ·exact zc28
  ·exact zc1
  exact zc21
 obtain rfl:k=(pre.drop 1).length:=by omega
 clear hK
 rw[TL]at hf
 have hmb2:MB es (W7 pre):=hmb.ext hf
 clear hmb hf hp1
 unfold YlY at hrun
 rw[hfe,hae]at hrun
 by_cases hat:at_=to
 ·rw[Tm hat]at hrun
  have hin:to∈pre.drop 1:=by
   have h1:(pre.drop 1)[pre.length-2]? =some to:=by
    rw[SH,show 1+(pre.length-2)=((pre.length:Int)-1).toNat by omega,<-hat];exact hg1
   exact Td h1
  have hsto:W7 pre to=true:=Tj hin
  have hll:(WV l pre to).length<=l.length:=by
   unfold WV
   exact Yuw
  have hla:QE l pre to=(WV l pre to).filter λa=>!(OJ pre to a.1||OJ pre to a.2.1):=rfl
  have hAl:=Ynl l pre to
  have hAok:ArcsOk nodes (QE l pre to):=ArcsOk.sub hok λa h=>Ynm h
  have hnn:Xl=1073741824:=rfl
  by_cases h2:pre.length=2
  ·skip
   repeat'(first|(apply Yk1 (kt:=3) (et:=4);exact rfl;exact rfl;kernel_rfl;(intro _;exact zd);exact hmb2;exact hmk;exact hsto;intro es3 mb3 mk3)|refine zgc ?_|(refine zgf ?_ ?_<;>intro _<;>try exact zo)|fail)
   have hrl:Rd B w0 (blk gc (.cells #[.map (some gm)] 452 (0,0))::blk gm (mobj es3 c)::blk gf (.cells #[.int .i64 fr] 3 (0,0))::blk ga (.cells #[.int .i64 at_] 3 (0,0))::H) AL (l.flatMap lkF):=hr.cons.cons.cons.cons
   have hlst:WV l pre to=WW fr to l:=by unfold WV;rw[Tm h2,hfe]
   apply Yg _ Yti
   exact za
   exact rfl
   exactλ_ hw=>(QX l fr to (by omega) hrl (hw))
   rintro _ _ ⟨A1,cap1,rfl,rfl⟩
   rw[<-hlst]
   refine zX3 ?_
   apply Yg _ YeO
   exact za
   exact rfl
   exactλ_ hw=>(XS (WV l pre to) (by omega) (.sl (by(focus exact zc2))) (hw))
   rintro _ _ ⟨A2,cap2,rfl,rfl⟩
   refine YfD ?_
   apply Yg _ YeN
   exact za
   exact rfl
   exactλ_ hw=>(XT (λa=>OJ pre to a.1||OJ pre to a.2.1) (WV l pre to) 422 [.pointer (some ⟨gc,0,none⟩)] Ytm (by omega) (λa _ X w hw=>Yds gm gc c es3 (OJ pre to) a mb3 (Re _ (by(focus exact zc2))) (Re _ (by(focus exact zc2))) hw) (hw))
   rintro _ _ ⟨rfl,rfl⟩
   rw[<-hla]
   refine zX3 ?_
   apply Yg _ Yo7
   exact za
   exact rfl
   exactλ_ hw=>(Vu nodes (QE l pre to) to hn.2 (by omega) hAok hto (.sl (by(focus exact zc2))) (hw))
   rintro _ _ ⟨gF,far,rfl,hd,rfl⟩
   rw[Qq hAok hd]at hrun
   obtain rfl:=Tn hrun
   have hflen:=hd.len
   have hgf:=XH (far:=far) (i:=fr) (by omega)
   have hrf:=hd.range fr hfr.1 hfr.2
   rw[hnn]at hrf
   rw[hnn]
   apply Zn (ints (some ⟨gF,0,none⟩) nodes far::blk gf (.cells #[.int .i64 fr] 3 (0,0))::H)
   ·exact zc0
   iterate 4 (first|refine zga ?_|fail)
   by_cases hlt:Yk far fr<1073741824
   ·rw[Tj hlt]
    exact zc3
   ·rw[Tu hlt]
    exact zc3
  ·skip
   repeat'(first|(apply Yk1 (kt:=3) (et:=4);exact rfl;exact rfl;kernel_rfl;(intro _;exact zd);exact hmb2;exact hmk;exact hsto;intro es3 mb3 mk3)|refine zgc ?_|(refine zgf ?_ ?_<;>intro _<;>try exact zo)|fail)
   have hrl:Rd B w0 (blk gc (.cells #[.map (some gm)] 452 (0,0))::blk gm (mobj es3 c)::blk gf (.cells #[.int .i64 fr] 3 (0,0))::blk ga (.cells #[.int .i64 at_] 3 (0,0))::H) AL (l.flatMap lkF):=hr.cons.cons.cons.cons
   have hlst:WV l pre to=l:=by unfold WV;rw[Tf h2]
   rw[<-hlst]at hrl⊢
   apply Yg _ YeO
   exact za
   exact rfl
   exactλ_ hw=>(XS (WV l pre to) (by omega) hrl (hw))
   rintro _ _ ⟨A2,cap2,rfl,rfl⟩
   refine YfD ?_
   apply Yg _ YeN
   exact za
   exact rfl
   exactλ_ hw=>(XT (λa=>OJ pre to a.1||OJ pre to a.2.1) (WV l pre to) 422 [.pointer (some ⟨gc,0,none⟩)] Ytm (by omega) (λa _ X w hw=>Yds gm gc c es3 (OJ pre to) a mb3 (Re _ (by(focus exact zc2))) (Re _ (by(focus exact zc2))) hw) (hw))
   rintro _ _ ⟨rfl,rfl⟩
   rw[<-hla]
   refine zX3 ?_
   apply Yg _ Yo7
   exact za
   exact rfl
   exactλ_ hw=>(Vu nodes (QE l pre to) to hn.2 (by omega) hAok hto (.sl (by(focus exact zc2))) (hw))
   rintro _ _ ⟨gF,far,rfl,hd,rfl⟩
   rw[Qq hAok hd]at hrun
   obtain rfl:=Tn hrun
   have hflen:=hd.len
   have hgf:=XH (far:=far) (i:=fr) (by omega)
   have hrf:=hd.range fr hfr.1 hfr.2
   rw[hnn]at hrf
   rw[hnn]
   apply Zn (ints (some ⟨gF,0,none⟩) nodes far::blk gf (.cells #[.int .i64 fr] 3 (0,0))::H)
   ·exact zc0
   iterate 4 (first|refine zga ?_|fail)
   by_cases hlt:Yk far fr<1073741824
   ·rw[Tj hlt]
    exact zc3
   ·rw[Tu hlt]
    exact zc3
 ·rw[Tf hat]at hrun
  have hbad:∀a,badB pre a=(W7 pre a.2.1||(W7 pre a.1&&decide (a.1≠at_))||decide (a.2.1=fr)):=λa=>by unfold badB;rw[hae,hfe]
  have hBl:=Ynn l pre
  have hBok:ArcsOk nodes (Ye8 l pre):=ArcsOk.sub hok λa h=>(RI.1 h).1
  have hlb:Ye8 l pre=l.filter λa=>!badB pre a:=rfl
  cases hbo:Ou fuel nodes (Ye8 l pre) at_ fr to (W7 pre)with
  |none=>rw[hbo]at hrun;cases hrun
  |some r=>
   rw[hbo]at hrun
   obtain rfl:=Tn hrun
   have hrl:Rd B w0 (blk gc (.cells #[.map (some gm)] 452 (0,0))::blk gm (mobj es c)::blk gf (.cells #[.int .i64 fr] 3 (0,0))::blk ga (.cells #[.int .i64 at_] 3 (0,0))::H) AL (l.flatMap lkF):=hr.cons.cons.cons.cons
   refine Wq ?_<;>intros
   apply Yg _ YeO
   exact za
   exact rfl
   exactλ_ hw=>(XS l (by omega) hrl (hw))
   rintro _ _ ⟨A2,cap2,rfl,rfl⟩
   refine YfD ?_
   apply Yg _ YeN
   exact za
   exact rfl
   exactλ_ hw=>(XT (badB pre) l 423 [.pointer (some ⟨gc,0,none⟩),.pointer (some ⟨ga,0,none⟩),.pointer (some ⟨gf,0,none⟩)] YwB (by omega) (λa _ X w hw=>by rw[hbad a];exact Ykz gm gc ga gf c es (W7 pre) fr at_ a hmb2 (Re _ (by(focus exact zc2))) (Re _ (by(focus exact zc2))) (Re _ (by(focus exact zc2))) (Re _ (by(focus exact zc2))) hw) (hw))
   rintro _ _ ⟨rfl,rfl⟩
   rw[<-hlb]
   refine zX7 ?_
   apply Yg _ Yth
   exact za
   exact rfl
   exactλ_ hw=>(Yew nodes (Ye8 l pre) at_ fr to (some gm) (W7 pre) fuel r (by omega) (by omega) hBok har hfr hto hfu hbo ⟨es,c,by(focus exact zc2),hmb2,hmk⟩ (.sl (by(focus exact zc2))) (hw))
   rintro _ _ ⟨g,A,cap,rfl,⟨_,_,b3,b4⟩,rfl⟩
   refine zX9 ?_
   apply Yh H
   ·unfold gpcs
    exactλw hw=>hw.tail.tail.tail.tail.tail.tail.tail
   apply Yu;(iterate 3 exact rfl)
   exact⟨rfl,⟨b3,b4⟩,rfl⟩
end Go.Proofs.YtjlgijpmnfabcaaGreatDoor
namespace Go.Eng
open Go.RowKit
variable {B cap:Nat}{w0:World}{H:List HP}{A:Option Addr}
theorem UJ{P:Program}{n:Shp}{ops:Array Oper}{Q:Exit->Act->World->Prop}{env:Env}{l:List Oper}{e size k:Nat}{xs:List Value}(hm:sl e size A k cap xs∈H)(h:k<=cap->VL P none n B w0 ops Q l env H):VL P none n B w0 ops Q l env H:=by
 refine⟨λa ha w hw=>?_⟩
 have hown:=hw.sl hm
 have hkc:k<=cap:=zc49
 exact(h hkc).run a ha w hw
end Go.Eng
namespace Go.Proofs.YtjlgijpmnfabcaaGreatDoor
open Go.RowKit Go.Eng Go.Nw Go.Rt
section
variable (fuel nodes:Nat) (L:List Lk) (to total:Int)
noncomputable def Yix(r:List Int)(spent at_:Int)(st:Int×Int)(a:Lk):Option (Int×Int):=
 if a.1≠at_\/a.2.1∈r\/(0<=st.1/\st.1<a.2.1)then some st else
  match YlY fuel nodes L (r++[a.2.1]) to with
  |none=>none
  |some s=>if s.2=true/\spent+a.2.2+s.1=total then some (a.2.1,a.2.2)else some st
noncomputable def WZ(r:List Int)(spent at_:Int):List Lk->Int×Int->Option (Int×Int)
 |[],st=>some st
 |a::m,st=>match Yix fuel nodes L to total r spent at_ st a with
  |none=>none
  |some st2=>WZ r spent at_ m st2
noncomputable def WY:Nat->List Int->Int->Int->Option (List Int)
 |0,_,_,_=>none
 |k+1,r,spent,at_=>if at_=to then some r else
  match WZ fuel nodes L to total r spent at_ L (-1,0)with
  |none=>none
  |some st=>if st.1<0 then none else WY k (r++[st.1]) (spent+st.2) st.1
end
def midP(r:List Int):List Int:=(r.drop 1).take (r.length-2)
def Ux(l:List Lk)(s to:Int)(r:List Int):List Lk:=(if r.length=2 then WW s to l else l).filter λa=>!(decide (a.1∈midP r)||decide (a.2.1∈midP r))
noncomputable def Jp(nodes:Nat)(l:List Lk)(s to:Int)(r:List Int):List Int:=wayF (Ux l s to r) (J3 nodes (Ux l s to r) to) s to
noncomputable def Yba(fuel nodes:Nat)(L:List Lk)(s to:Int):Option (Option (List Int×List Int)):=
 match Ou fuel nodes L s s to (λ_=>false)with
 |none=>none
 |some r=>if r.2.1=false then some none else
  match WY fuel nodes L to r.1 400 [s] 0 s with
  |none=>none
  |some p=>some (some (p,Jp nodes L s to p))
theorem Ynp{l:List Lk}{s to:Int}{r:List Int}{a:Lk}(h:a∈Ux l s to r):a∈l:=Yt5
theorem Yno(l:List Lk)(s to:Int)(r:List Int):(Ux l s to r).length<=l.length:=by
 unfold Ux
 exact Yt3
variable {A:Option Addr}{cap B:Nat}{w0:World}{H:List HP}
theorem Ydm(gi:Nat)(m:List Int)(a:Lk)(hlen:m.length<=1000){w:World}(hi:blk gi (.cells #[.slice A m.length cap] 104 (0,0))∈H)(hr:Rd B w0 H A (m.flatMap numF))(hw:St B w0 H w):
 CX B w0 396 [arcV a,.pointer (some ⟨gi,0,none⟩)] w λv K=>v=.bool (decide (a.1∈m)||decide (a.2.1∈m))/\K=H:=by
 refine Ya Tryz.func396 Tryz.ntmps396 rfl rfl hw ?_
 unfold arcV
 have h1:=λ{X:HP}{w:World}(hw:St B w0 (X::H) w)=>Jj m a.1 (by omega) (cap:=cap) (hr.cons (X:=X)) hw
 have h2:=λ{X:HP}{w:World}(hw:St B w0 (X::H) w)=>Jj m a.2.1 (by omega) (cap:=cap) (hr.cons (X:=X)) hw
 obtain⟨b1,hb1⟩:∃b,decide (a.1∈m)=b:=⟨_,rfl⟩
 obtain⟨b2,hb2⟩:∃b,decide (a.2.1∈m)=b:=⟨_,rfl⟩
 rw[hb1]at h1
 rw[hb2]at h2
 rw[hb1,hb2]
 cases b1
 ·skip
  refine zX71 ?_<;>intros
  first|apply Yb VW|apply Yc VW
  exact za
  exact rfl
  exactλ_ hw=>(h1 hw)
  refine zX9 ?_
  first|apply Yb VW|apply Yc VW
  exact za
  exact rfl
  exactλ_ hw=>(h2 hw)
  refine zX9 ?_
  apply Yl;exact zc12
 ·skip
  refine zX71 ?_<;>intros
  first|apply Yb VW|apply Yc VW
  exact za
  exact rfl
  exactλ_ hw=>(h1 hw)
  refine zX9 ?_
  apply Yl;exact zc12
structure Oz where
 k:Nat
 r:List Int
 A:Option Addr
 cap:Nat
 spent:Int
 at_:Int
structure OzOk(fuel nodes:Nat)(L:List Lk)(s to total:Int)(p:List Int)(z:Oz):Prop where
 run:WY fuel nodes L to total z.k z.r z.spent z.at_=some p
 len:1<=z.r.length/\z.r.length+z.k<=401
 mem:∀v∈z.r,0<=v/\v<nodes
 sp:0<=z.spent/\z.spent<=1000000*(z.r.length:Int)
 one:z.r.length=1->z.at_=s
structure Iz where
 j:Nat
 best:Int
 price:Int
theorem Ypw(A:Option Addr)(cap:Nat)(r:List Int)(x:Int):sl 3 1 A (r.length+1) cap (r.flatMap numF++#[Value.int .i64 x].toList)=ints A cap (r++[x]):=by simp_all [ints,numF]
theorem YnE(n:NetM)(s to:Int)(nodes fuel:Nat)(res:Option (List Int×List Int))(hck:Yq n.net=0)(hnn:n.nodes=nodes)(hs:0<=s/\s<nodes)(ht:0<=to/\to<nodes)(hst:s≠to)(hfu:fuel<=100000)(hrun:Yba fuel nodes (JO n.net) s to=some res)
 {B:Nat}{w0:World}{H:List HP}{w:World}(hin:n.In B w0 H) (hw:St B w0 H w):
 CX B w0 340 [n.val,.int .i64 s,.int .i64 to] w λv K=>match res with
  |none=>v=.slice none 0 0/\K=H
  |some pq=>∃g A1 c1 A2 c2,v=.slice (some ⟨g,0,none⟩) 2 2/\(2<=pq.1.length/\pq.1.length<=401/\pq.2.length<=1073741824)/\WayV A2 pq.2/\K=sl 104 1 (some ⟨g,0,none⟩) 2 2 ([⟨A1,c1,pq.1⟩,⟨A2,c2,pq.2⟩].flatMap rowF)::ints A1 c1 pq.1::ints A2 c2 pq.2::H:=by
 have hok:=YT hck
 have hn0:=hok.n0
 have hn1:=hok.n1
 have hnn2:n.net.nodes=n.nodes:=rfl
 have hal:(JO n.net).length<=128:=TY (UO _ _) hok.k0
 have hLo:=Yla hok (nodes:=nodes) hnn
 obtain⟨L,hL⟩:∃L,JO n.net=L:=⟨_,rfl⟩
 have hspecA:=λ{H:List HP}{w:World}(hin:n.In B w0 H) (hw:St B w0 H w)=>Yev n hin hck hw
 rw[hL]at hal hLo hrun hspecA
 have hno:Xl=1073741824:=rfl
 refine Ya Tryz.func340 Tryz.ntmps340 rfl rfl hw ?_
 (apply Y7;apply YM;apply YO;exact rfl;exact rfl;intro g)
 refine zX7 ?_
 apply Yg _ Yta
 exact za
 exact rfl
 exactλ_ hw=>(hspecA hin.cons (hw))
 rintro _ _ ⟨A,cap,rfl,rfl⟩
 unfold Yba at hrun
 cases hbo:Ou fuel nodes L s s to (λ_=>false)with
 |none=>rw[hbo]at hrun;cases hrun
 |some r0=>
  rw[hbo]at hrun
  obtain⟨total,ok,es0⟩:=r0
  dsimp only at hrun
  have hboth:=λ{H:List HP}{w:World}(hr:Rd B w0 H A (L.flatMap lkF)) (hw:St B w0 H w)=>Yew nodes L s s to none (λ_=>false) fuel (total,ok,es0) (capL:=cap) (by omega) (by omega) hLo hs hs ht hfu hbo (λ_=>rfl) hr hw
  rw[<-hnn]at hboth
  refine zX7 ?_
  apply Yg _ Yth
  exact za
  exact rfl
  exactλ_ hw=>(hboth (.sl (by(focus exact zc2))) (hw))
  rintro _ _ ⟨g0,A0,cap0,rfl,⟨_,_,b3,b4⟩,rfl⟩
  dsimp only at b3 b4⊢
  apply Zn (Jg A cap L::netB g n::H)
  ·unfold gpcs
   exactλw hw=>hw.tail.tail
  cases ok with
  |false=>
   rw[Tm rfl]at hrun
   obtain rfl:=Tn hrun
   refine zX2 ?_
   apply Yh H
   ·exactλw hw=>hw.tail.tail
   apply Yd;exact rfl;exact rfl
   exact zc84
  |true=>
   rw[Tf (by decide)]at hrun
   cases hlo:WY fuel nodes L to total 400 [s] 0 s with
   |none=>rw[hlo]at hrun;cases hrun
   |some p=>
    rw[hlo]at hrun
    obtain rfl:=Tn hrun
    dsimp only
    refine zX24 ?_<;>intros
    rename_i g1
    refine Yi (λ(z:Oz)=>[(13,.int .i64 z.at_),(12,.int .i64 z.spent),(11,.slice z.A z.r.length z.cap),(8,.int .i64 total),(7,.slice A L.length cap),(3,.pointer (some ⟨g,0,none⟩)),(1,.int .i64 s),(2,.int .i64 to)]) (λz=>ints z.A z.cap z.r::Jg A cap L::netB g n::H) (λz=>OzOk fuel nodes L s to total p z) (λz=>z.k) ⟨400,[s],some ⟨g1,0,none⟩,1,0,s⟩ ⟨hlo,by simp,λv hv=>by obtain rfl:=TU.1 hv;exact hs,by simp,λ_=>rfl⟩ ?_ (λw hw=>hw.blk_sl (cs:=numF s) (len:=1) (size:=1) rfl (by omega)) ?_
    ·exact zc1
    rintro⟨k,r,Ar,capr,spent,at_⟩ ⟨hrun2,⟨hl1,hl2⟩,hmem,⟨hsp0,hsp1⟩,hone⟩ K hK
    simp only at hrun2 hl1 hl2 hmem hsp0 hsp1 hone⊢
    cases k with
    |zero=>cases hrun2
    |succ k=>
     unfold WY at hrun2
     by_cases hat:at_=to
     ·rw[Tm hat]at hrun2
      obtain rfl:=Tn hrun2
      have hr2:2<=r.length:=by
       rcases S9 1 r.length with h|h
       ·exact h
       ·have:=hone (by omega)
        exact absurd (this.symm.trans hat) hst
      clear hK
      have hml:(midP r).length=r.length-2:=by unfold midP;rw[TK,Rk];omega
      have hPl:=Yno L s to r
      have hPok:ArcsOk nodes (Ux L s to r):=ArcsOk.sub hLo λa h=>Ynp h
      obtain⟨LL,hLL⟩:∃LL,(if r.length=2 then WW s to L else L)=LL:=⟨_,rfl⟩
      have hLLl:LL.length<=L.length:=by
       rw[<-hLL]
       exact Yuw
      have hlp:Ux L s to r=LL.filter λa=>!(decide (a.1∈midP r)||decide (a.2.1∈midP r)):=by rw[<-hLL];rfl
      have hfirst:=λ{A:Option Addr}{cap:Nat}{H:List HP}{w:World}(hr:Rd B w0 H A ((Ux L s to r).flatMap lkF)) (hw:St B w0 H w)=>YcI nodes (Ux L s to r) s to (capL:=cap) (by omega) (by omega) hPok hs ht hr hw
      rw[<-hnn]at hfirst
      by_cases h2:r.length=2
      ·skip
       rw[Tm h2]at hLL
       refine Wq ?_<;>intros
       apply Yg _ Yti
       exact za
       exact rfl
       exactλ_ hw=>(QX L s to (by omega) (.sl (by(focus exact zc2))) (hw))
       rintro _ _ ⟨A1,cap1,rfl,rfl⟩
       rw[hLL]
       refine zX2 ?_
       refine UJ (e:=3) (size:=1) (k:=r.length) (cap:=capr) (A:=Ar) (xs:=r.flatMap numF) (by(focus exact zc2)) λhcapr=>?_
       apply YaD T (n':=(midP r).length);(iterate 5 exact rfl);omega;omega
       rw[Int.toNat_one]
       refine zX24 ?_<;>intros
       rename_i gi
       have hmid:∀{HH:List HP},Rd B w0 HH Ar (r.flatMap numF)->Rd B w0 HH (subA Ar 1 capr 1) ((midP r).flatMap numF):=λh=>Rd.sub (f:=numF) (q:=1) (o:=1) (k:=r.length-2) (λ_=>rfl) h hcapr
       apply Yg _ YeO
       exact za
       exact rfl
       exactλ_ hw=>(XS LL (by omega) (.sl (by(focus exact zc2))) (hw))
       rintro _ _ ⟨A2,cap2,rfl,rfl⟩
       refine YfD ?_
       apply Yg _ YeN
       exact za
       exact rfl
       exactλ_ hw=>(XT (λa=>decide (a.1∈midP r)||decide (a.2.1∈midP r)) LL 396 [.pointer (some ⟨gi,0,none⟩)] Ytj (by omega) (λa _ X w hw=>Ydm gi (midP r) a (by omega) (Re _ (by(focus exact zc2))) (hmid (.sl (Re _ (by(focus exact zc2))))) hw) (hw))
       rintro _ _ ⟨rfl,rfl⟩
       rw[<-hlp]
       refine zX7 ?_
       apply Yg _ Yo6
       exact za
       exact rfl
       exactλ_ hw=>(hfirst (.sl (by(focus exact zc2))) (hw))
       rintro _ _ ⟨A9,cap9,rfl,hway,hdl,hdd,rfl⟩
       have hop:wayF (Ux L s to r) (J3 nodes (Ux L s to r) to) s to=Jp nodes L s to r:=rfl
       rw[hop]at hway⊢
       have hq:(Jp nodes L s to r).length<=1073741824:=YgT _ _ _ _
       refine zX14 ?_<;>intros
       rename_i gL
       apply Yh (sl 104 1 (some ⟨gL,0,none⟩) 2 2 ([⟨Ar,capr,r⟩,⟨A9,cap9,Jp nodes L s to r⟩].flatMap rowF)::ints Ar capr r::ints A9 cap9 (Jp nodes L s to r)::H)
       ·intro w hw
        have h5:St B w0 (blk gL (.cells #[.slice Ar r.length capr,.slice A9 (Jp nodes L s to r).length cap9] 104 (0,0))::ints Ar capr r::ints A9 cap9 (Jp nodes L s to r)::H) w:=by
         revert w
         exact zc0
        exact zc95
       apply Yd;exact rfl;exact rfl
       exact Yug
      ·skip
       rw[Tf h2]at hLL
       rw[hLL]
       refine zX23 ?_<;>intros
       refine UJ (e:=3) (size:=1) (k:=r.length) (cap:=capr) (A:=Ar) (xs:=r.flatMap numF) (by(focus exact zc2)) λhcapr=>?_
       apply YaD T (n':=(midP r).length);(iterate 5 exact rfl);omega;omega
       rw[Int.toNat_one]
       refine zX24 ?_<;>intros
       rename_i gi
       have hmid:∀{HH:List HP},Rd B w0 HH Ar (r.flatMap numF)->Rd B w0 HH (subA Ar 1 capr 1) ((midP r).flatMap numF):=λh=>Rd.sub (f:=numF) (q:=1) (o:=1) (k:=r.length-2) (λ_=>rfl) h hcapr
       apply Yg _ YeO
       exact za
       exact rfl
       exactλ_ hw=>(XS LL (by omega) (.sl (by(focus exact zc2))) (hw))
       rintro _ _ ⟨A2,cap2,rfl,rfl⟩
       refine YfD ?_
       apply Yg _ YeN
       exact za
       exact rfl
       exactλ_ hw=>(XT (λa=>decide (a.1∈midP r)||decide (a.2.1∈midP r)) LL 396 [.pointer (some ⟨gi,0,none⟩)] Ytj (by omega) (λa _ X w hw=>Ydm gi (midP r) a (by omega) (Re _ (by(focus exact zc2))) (hmid (.sl (Re _ (by(focus exact zc2))))) hw) (hw))
       rintro _ _ ⟨rfl,rfl⟩
       rw[<-hlp]
       refine zX7 ?_
       apply Yg _ Yo6
       exact za
       exact rfl
       exactλ_ hw=>(hfirst (.sl (by(focus exact zc2))) (hw))
       rintro _ _ ⟨A9,cap9,rfl,hway,hdl,hdd,rfl⟩
       have hop:wayF (Ux L s to r) (J3 nodes (Ux L s to r) to) s to=Jp nodes L s to r:=rfl
       rw[hop]at hway⊢
       have hq:(Jp nodes L s to r).length<=1073741824:=YgT _ _ _ _
       refine zX14 ?_<;>intros
       rename_i gL
       apply Yh (sl 104 1 (some ⟨gL,0,none⟩) 2 2 ([⟨Ar,capr,r⟩,⟨A9,cap9,Jp nodes L s to r⟩].flatMap rowF)::ints Ar capr r::ints A9 cap9 (Jp nodes L s to r)::H)
       ·intro w hw
        have h5:St B w0 (blk gL (.cells #[.slice Ar r.length capr,.slice A9 (Jp nodes L s to r).length cap9] 104 (0,0))::ints Ar capr r::ints A9 cap9 (Jp nodes L s to r)::H) w:=by
         revert w
         exact zc0
        exact zc95
       apply Yd;exact rfl;exact rfl
       rw[<-hLL]
       exact Yug
     ·rw[Tf hat]at hrun2
      cases hsc:WZ fuel nodes L to total r spent at_ L (-1,0)with
      |none=>rw[hsc]at hrun2;cases hrun2
      |some bp=>
       rw[hsc]at hrun2
       obtain⟨bf,pf⟩:=bp
       dsimp only at hrun2
       refine zX5 ?_<;>intros
       refine Yi (λ(z:Iz)=>[(45,.int .i64 z.j),(44,.int .i64 L.length),(43,.slice A L.length cap),(15,.int .i64 z.price),(14,.int .i64 z.best),(13,.int .i64 at_),(12,.int .i64 spent),(11,.slice Ar r.length capr),(8,.int .i64 total),(7,.slice A L.length cap),(3,.pointer (some ⟨g,0,none⟩)),(1,.int .i64 s),(2,.int .i64 to)]) (λ_=>ints Ar capr r::Jg A cap L::netB g n::H) (λz=>z.j<=L.length/\WZ fuel nodes L to total r spent at_ (L.drop z.j) (z.best,z.price)=some (bf,pf)/\(z.best= -1\/(0<=z.best/\z.best<nodes))/\(0<=z.price/\z.price<=1000000)) (λz=>L.length-z.j) ⟨0,-1,0⟩ ⟨Ti _,hsc,.inl rfl,by exact zc28⟩ ?_ (λw hw=>hw) ?_
       ·exact zc1
       rintro⟨j,best,price⟩ ⟨hj,hsc2,hbest,⟨hpr0,hpr1⟩⟩ K2 hK2
       simp only at hj hsc2 hbest hpr0 hpr1⊢
       by_cases hlt:j<L.length
       ·obtain⟨a,ha⟩:∃a,L[j]? =some a:=⟨_,Ta hlt⟩
        obtain⟨⟨a1,a2⟩,⟨a3,a4⟩,⟨a5,a6⟩⟩:=hLo a (Td ha)
        have hdrop:L.drop j=a::L.drop (j+1):=Yt0
        rw[hdrop]at hsc2
        unfold WZ Yix at hsc2
        have hcon:=λ{X:HP}{w:World}(hw:St B w0 (X::ints Ar capr r::Jg A cap L::netB g n::H) w)=>Jj r a.2.1 (by omega) (cap:=capr) (.sl (TE _ TC)) hw
        by_cases h1:a.1=at_
        rotate_left
        ·rw[Tm (.inl h1)]at hsc2
         refine zX46 ?_<;>intros
         apply hK2 ⟨j+1,best,price⟩
         ·exact⟨by exact zc28,hsc2,hbest,hpr0,hpr1⟩
         ·exact zc28
         ·exact zc1
         ·exact zc59
        by_cases h2:a.2.1∈r
        ·rw[Tm (.inr (.inl h2))]at hsc2
         rw[Tj h2]at hcon
         repeat'(first|((first|apply Yb VW|apply Yc VW);exact za;exact rfl;exactλ_ hw=>(hcon hw))|refine zgd ?_|(refine zge ?_ ?_<;>intro _<;>try exact zo)|(refine zgh ?_;intro _)|fail)
         apply hK2 ⟨j+1,best,price⟩
         ·exact⟨by exact zc28,hsc2,hbest,hpr0,hpr1⟩
         ·exact zc28
         ·exact zc1
         ·exact zc59
        rw[Tu h2]at hcon
        by_cases h3:0<=best/\best<a.2.1
        ·rw[Tm (.inr (.inr h3))]at hsc2
         repeat'(first|((first|apply Yb VW|apply Yc VW);exact za;exact rfl;exactλ_ hw=>(hcon hw))|refine zgd ?_|(refine zgf ?_ ?_<;>intro _<;>try exact zo)|(refine zgh ?_;intro _)|fail)
         apply hK2 ⟨j+1,best,price⟩
         ·exact⟨by exact zc28,hsc2,hbest,hpr0,hpr1⟩
         ·exact zc28
         ·exact zc1
         ·exact zc59
        rw[Tf (by rintro(h|h|h);exact h h1;exact h2 h;exact h3 h)]at hsc2
        cases hrs:YlY fuel nodes L (r++[a.2.1]) to with
        |none=>rw[hrs]at hsc2;cases hsc2
        |some s2=>
         rw[hrs]at hsc2
         obtain⟨sum,fine⟩:=s2
         dsimp only at hsc2
         have hlen1:(r++[a.2.1]).length=r.length+1:=by simp
         have hfl1:(r++[a.2.1]).flatMap numF=r.flatMap numF++#[Value.int .i64 a.2.1].toList:=by simp[List.flatMap_append,numF]
         have hrest:=λ{AP:Option Addr}{capP:Nat}{H:List HP}{w:World}(hr:Rd B w0 H A (L.flatMap lkF)) (hp:Rd B w0 H AP ((r++[a.2.1]).flatMap numF)) (hcap:(r++[a.2.1]).length<=capP) (hw:St B w0 H w)=>YnK nodes L (r++[a.2.1]) to fuel (sum,fine) (capL:=cap) (by omega) (by omega) hLo ⟨by omega,by omega⟩ (λv hv=>by
          rcases TJ.1 hv with hv|hv
          ·exact hmem v hv
          ·obtain rfl:=TU.1 hv
           exact⟨a3,a4⟩) ht hfu hrs hr hp hcap hw
         rw[hlen1,hfl1,<-hnn]at hrest
         dsimp only at hrest
         repeat'(first|((first|apply Yb VW|apply Yc VW);exact za;exact rfl;exactλ_ hw=>(hcon hw))|refine zgd ?_|(refine zgf ?_ ?_<;>intro _<;>try exact zo)|(refine zgh ?_;intro _)|fail)
         all_goals(
          apply J9 (.n1 0 (.n1 1 (.n1 2 (.n1 3 (.n1 5 (.n1 6 (.n1 9 (.n2 4 (.n1 7 (.n1 8 (.n1 10 (.n1 11 (.n1 12 (.n1 13 (.n1 14 (.n1 15 .done)))))))) 7 (.n1 4 (.n1 8 (.n1 10 (.n1 11 (.n1 12 (.n1 13 (.n1 14 (.n1 15 .done)))))))))))))))) [] [true,true,true,true]
          kernel_rfl
          kernel_rfl
          exact zy
          exact rfl
          repeat'(first|(apply Yj;try exact zl)|apply(zs91 ?_ ?_)|(apply Y3;try exact zl)|refine zgd ?_|(refine zgh ?_;intro _)|fail)
          all_goals(
           apply Yg _ Yo0
           exact za
           exact rfl
           exactλ_ hw=>(JZ r (by omega) (.sl zm) (hw))
           rintro _ _ ⟨A5,cap5,rfl,rfl⟩
           repeat'(first|(apply Yj;try exact zl)|(apply Y3;try exact zl)|refine zgd ?_|(refine zgh ?_;intro _)|(refine zgi ?_;intro _ _)|fail)
           rename_i A6 cap6
           refine UJ (e:=3) (size:=1) (k:=r.length+1) (cap:=cap6) (A:=A6) (xs:=r.flatMap numF++#[Value.int .i64 a.2.1].toList) zm λhcap=>?_
           apply Yg _ Ywx
           exact za
           exact rfl
           exactλ_ hw=>(hrest (.sl zm) (.sl zm) hcap (hw))
           rintro _ _ ⟨rfl,⟨q1,q2⟩,rfl⟩
           by_cases hgo:fine=true/\spent+a.2.2+sum=total
           ·rw[Tm hgo]at hsc2
            obtain⟨rfl,heq⟩:=hgo
            repeat'(first|(apply Yj;try exact zl)|(apply Y3;try exact zl)|refine zgd ?_|(refine zgf ?_ ?_<;>intro _<;>try exact zo)|fail)
            apply hK2 ⟨j+1,a.2.1,a.2.2⟩
            ·exact⟨by simp only;omega,hsc2,.inr ⟨a3,a4⟩,by simp only;omega⟩
            ·simp only;omega
            ·exact zu
            ·exact zk
           ·rw[Tf hgo]at hsc2
            cases fine with
            |false=>
             repeat'(first|(apply Yj;try exact zl)|(apply Y3;try exact zl)|refine zgd ?_|fail)
             apply hK2 ⟨j+1,best,price⟩
             ·exact⟨by simp only;omega,hsc2,hbest,hpr0,hpr1⟩
             ·simp only;omega
             ·exact zu
             ·exact zk
            |true=>
             have hne:¬spent+a.2.2+sum=total:=λh=>hgo ⟨rfl,h⟩
             repeat'(first|(apply Yj;try exact zl)|(apply Y3;try exact zl)|refine zgd ?_|(refine zgf ?_ ?_<;>intro _<;>try exact zo)|fail)
             apply hK2 ⟨j+1,best,price⟩
             ·exact⟨by simp only;omega,hsc2,hbest,hpr0,hpr1⟩
             ·simp only;omega
             ·exact zu
             ·exact zk))
       ·obtain rfl:j=L.length:=by omega
        rw[SA]at hsc2
        obtain⟨rfl,rfl⟩:=Prod.mk.inj (Tn hsc2)
        clear hK2
        by_cases hneg:best<0
        ·rw[Tm hneg]at hrun2;cases hrun2
        rw[Tf hneg]at hrun2
        refine YqG ?_<;>intros
        rename_i A3 cap3
        apply hK ⟨k,r++[best],A3,cap3,spent+price,best⟩
        ·refine⟨hrun2,?_,λv hv=>?_,?_,λh=>?_⟩
         ·exact Yux
         ·rcases TJ.1 hv with hv|hv
          ·exact hmem v hv
          ·obtain rfl:=TU.1 hv
           omega
         ·exact Yux
         ·simp only[Tt,TO]at h;omega
        ·exact zc28
        ·dsimp only
         rw[Tt,TO];exact zc1
        ·dsimp only
         rw[<-Ypw]
         exact zc0
noncomputable def Vo(fuel:Nat)(n:Net)(s t:Int):Option (Option (List Int×List Int)×Int):=
 if Jk n s t≠0 then some (none,Jk n s t)else
  match Yba fuel n.nodes.toNat (JO n) s t with
  |none=>none
  |some none=>some (none,17)
  |some (some pq)=>if 9<pq.1.length\/9<pq.2.length then some (none,21)else some (some pq,0)
theorem Ymg(n:NetM)(s to:Int)(fuel:Nat)(res:Option (List Int×List Int)×Int)(hfu:fuel<=100000)(hrun:Vo fuel n.net s to=some res){B:Nat}{w0:World}{H:List HP}{w:World}(hin:n.In B w0 H)(hw:St B w0 H w):
 CX B w0 262 [n.val,.int .i64 s,.int .i64 to] w λv K=>match res.1 with
  |none=>v=.tuple #[.slice none 0 0,.int .i64 res.2]/\K=H
  |some pq=>∃g A1 c1 A2 c2,v=.tuple #[.slice (some ⟨g,0,none⟩) 2 2,.int .i64 res.2]/\(2<=pq.1.length/\pq.1.length<=9/\pq.2.length<=9)/\WayV A2 pq.2/\K=sl 104 1 (some ⟨g,0,none⟩) 2 2 ([⟨A1,c1,pq.1⟩,⟨A2,c2,pq.2⟩].flatMap rowF)::ints A1 c1 pq.1::ints A2 c2 pq.2::H:=by
 refine Ya Tryz.func262 Tryz.ntmps262 rfl rfl hw ?_
 (apply Y7;apply YM;apply YO;exact rfl;exact rfl;intro g)
 unfold Vo at hrun
 by_cases he:Jk n.net s to=0
 rotate_left
 ·rw[Tm he]at hrun
  obtain rfl:=Tn hrun
  repeat'(first|((first|apply Yb OB|apply Yc OB);exact za;exact rfl;exactλ_ hw=>(Vh n s to hin.cons hw))|refine zgb ?_|(refine zge ?_ ?_<;>intro _<;>try exact zo)|fail)
  (repeat apply Yl)
  exact zc90
 rw[Tf (λh=>h he)]at hrun
 obtain⟨hck,⟨s0,s1⟩,⟨t0,t1⟩,hst⟩:=YlK he
 have hen:=λ{H:List HP}{w:World}(hin:n.In B w0 H) (hw:St B w0 H w)=>Vh n s to hin hw
 rw[he]at hen
 have hok:=YT hck
 have hn0:=hok.n0
 have hn1:=hok.n1
 have hnn:((n.net.nodes.toNat:Nat):Int)=n.net.nodes:=by omega
 have hnn2:n.nodes=((n.net.nodes.toNat:Nat):Int):=by rw[hnn];rfl
 cases hpf:Yba fuel n.net.nodes.toNat (JO n.net) s to with
 |none=>simp_all
 |some o=>
  rw[hpf]at hrun
  have hp:=λ{H:List HP}{w:World}(hin:n.In B w0 H) (hw:St B w0 H w)=>YnE n s to n.net.nodes.toNat fuel o hck hnn2 ⟨s0,by omega⟩ ⟨t0,by omega⟩ hst hfu hpf hin hw
  cases o with
  |none=>
   obtain rfl:=Tn hrun
   refine YqH ?_<;>intros
   apply Yg _ Ys9
   exact za
   exact rfl
   exactλ_ hw=>(hp hin.cons (hw))
   rintro _ _ ⟨rfl,rfl⟩
   refine zX6 ?_
   apply Yl
   apply Yu;(iterate 3 exact rfl)
   exact zc84
  |some pq=>
   obtain⟨p,q⟩:=pq
   dsimp only at hrun
   refine YqH ?_<;>intros
   apply Yg _ Ys9
   exact za
   exact rfl
   exactλ_ hw=>(hp hin.cons (hw))
   rintro _ _ ⟨gL,A1,c1,A2,c2,rfl,⟨k1,k2,k3⟩,hway,rfl⟩
   dsimp only at k1 k2 k3 hway⊢
   refine zX6 ?_
   have hs1:=λ{H:List HP}{w:World}(hw:St B w0 H w)=>U8 p.length (A:=A1) (cap:=c1) (by omega) hw
   have hs2:=λ{H:List HP}{w:World}(hw:St B w0 H w)=>U8 q.length (A:=A2) (cap:=c2) (by omega) hw
   refine Yi (λ(k:Nat)=>[(28,.int .i64 k),(27,.int .i64 2),(26,.slice (some ⟨gL,0,none⟩) 2 2),(9,.slice (some ⟨gL,0,none⟩) 2 2)]) (λ_=>sl 104 1 (some ⟨gL,0,none⟩) 2 2 ([(⟨A1,c1,p⟩:RowM),⟨A2,c2,q⟩].flatMap rowF)::ints A1 c1 p::ints A2 c2 q::netB g n::H) (λk=>k<=2/\(1<=k->p.length<=9)/\(2<=k->q.length<=9)) (λk=>2-k) 0 ⟨by omega,by omega,by omega⟩ ?_ (λw hw=>hw) ?_
   ·exact zc1
   rintro k ⟨hk,hk1,hk2⟩ K hK
   obtain rfl|rfl|rfl:k=0\/k=1\/k=2:=by omega
   ·have hx0:[(⟨A1,c1,p⟩:RowM),⟨A2,c2,q⟩][0]? =some ⟨A1,c1,p⟩:=rfl
    by_cases h9:9<p.length
    ·rw[Tm h9]at hs1
     rw[Tm (.inl h9)]at hrun
     obtain rfl:=Tn hrun
     clear hK
     repeat'(first|(apply XZ T (f:=rowF) (l:=[(⟨A1,c1,p⟩:RowM),⟨A2,c2,q⟩]);exact rfl;exact rfl;exact .sl zm;exact rfl;exactλ_=>rfl;exact rfl;exact rfl;(simp only[TZ,Rh];omega))|(apply Z6 T (f:=rowF) (l:=[(⟨A1,c1,p⟩:RowM),⟨A2,c2,q⟩]);exact rfl;exact .sl zm;exact hx0;exactλ_=>rfl;(iterate 4 exact rfl))|((first|apply Yb Wk|apply Yc Wk);exact za;exact rfl;exactλ_ hw=>(hs1 hw))|refine zgd ?_|(refine zge ?_ ?_<;>intro _<;>try exact zo)|fail)
     apply Yh H
     ·exactλw hw=>hw.tail.tail.tail.tail
     apply Yu;(iterate 3 exact rfl)
     exact zc84
    ·rw[Tf h9]at hs1
     repeat'(first|(apply XZ T (f:=rowF) (l:=[(⟨A1,c1,p⟩:RowM),⟨A2,c2,q⟩]);exact rfl;exact rfl;exact .sl zm;exact rfl;exactλ_=>rfl;exact rfl;exact rfl;(simp only[TZ,Rh];omega))|(apply Z6 T (f:=rowF) (l:=[(⟨A1,c1,p⟩:RowM),⟨A2,c2,q⟩]);exact rfl;exact .sl zm;exact hx0;exactλ_=>rfl;(iterate 4 exact rfl))|((first|apply Yb Wk|apply Yc Wk);exact za;exact rfl;exactλ_ hw=>(hs1 hw))|refine zgc ?_|(refine zge ?_ ?_<;>intro _<;>try exact zo)|fail)
     apply hK 1
     ·exact⟨by omega,λ_=>by omega,by omega⟩
     ·omega
     ·exact zc1
     exact zc21
   ·have hx1:[(⟨A1,c1,p⟩:RowM),⟨A2,c2,q⟩][1]? =some ⟨A2,c2,q⟩:=rfl
    by_cases h9:9<q.length
    ·rw[Tm h9]at hs2
     rw[Tm (.inr h9)]at hrun
     obtain rfl:=Tn hrun
     clear hK
     repeat'(first|(apply XZ T (f:=rowF) (l:=[(⟨A1,c1,p⟩:RowM),⟨A2,c2,q⟩]);exact rfl;exact rfl;exact .sl zm;exact rfl;exactλ_=>rfl;exact rfl;exact rfl;(simp only[TZ,Rh];omega))|(apply Z6 T (f:=rowF) (l:=[(⟨A1,c1,p⟩:RowM),⟨A2,c2,q⟩]);exact rfl;exact .sl zm;exact hx1;exactλ_=>rfl;(iterate 4 exact rfl))|((first|apply Yb Wk|apply Yc Wk);exact za;exact rfl;exactλ_ hw=>(hs2 hw))|refine zgd ?_|(refine zge ?_ ?_<;>intro _<;>try exact zo)|fail)
     apply Yh H
     ·exactλw hw=>hw.tail.tail.tail.tail
     apply Yu;(iterate 3 exact rfl)
     exact zc84
    ·rw[Tf h9]at hs2
     repeat'(first|(apply XZ T (f:=rowF) (l:=[(⟨A1,c1,p⟩:RowM),⟨A2,c2,q⟩]);exact rfl;exact rfl;exact .sl zm;exact rfl;exactλ_=>rfl;exact rfl;exact rfl;(simp only[TZ,Rh];omega))|(apply Z6 T (f:=rowF) (l:=[(⟨A1,c1,p⟩:RowM),⟨A2,c2,q⟩]);exact rfl;exact .sl zm;exact hx1;exactλ_=>rfl;(iterate 4 exact rfl))|((first|apply Yb Wk|apply Yc Wk);exact za;exact rfl;exactλ_ hw=>(hs2 hw))|refine zgc ?_|(refine zge ?_ ?_<;>intro _<;>try exact zo)|fail)
     apply hK 2
     ·exact⟨by omega,λ_=>hk1 (by omega),λ_=>by omega⟩
     ·omega
     ·exact zc1
     exact zc21
   ·have h1:=hk1 (by omega)
    have h2:=hk2 (by omega)
    rw[Tf (by omega)]at hrun
    obtain rfl:=Tn hrun
    clear hK
    refine zX1 ?_<;>intros
    apply Yh (sl 104 1 (some ⟨gL,0,none⟩) 2 2 ([(⟨A1,c1,p⟩:RowM),⟨A2,c2,q⟩].flatMap rowF)::ints A1 c1 p::ints A2 c2 q::H)
    ·exact zc0
    apply Yu;(iterate 3 exact rfl)
    exact⟨gL,A1,c1,A2,c2,rfl,⟨k1,h1,h2⟩,hway,rfl⟩
def YvJ(n:Net)(u v:Int):Int:=Yfb n u v+1
def rt(s t:Int)(ms:List Int):List Int:=s::(ms++[t])
structure IsRt(n:Net)(s t:Int)(ms:List Int):Prop where
 path:YvE (Y5 n) n.nodes.toNat t s ms
 nd:(rt s t ms).Nodup
structure Two(n:Net)(s t:Int)(mp mq:List Int):Prop where
 p:IsRt n s t mp
 q:IsRt n s t mq
 ne:mp≠mq
 dis:∀x∈mp,x∉mq
theorem Two.symm{n:Net}{s t:Int}{mp mq:List Int}(h:Two n s t mp mq):Two n s t mq mp:=⟨h.q,h.p,S5 h.ne,λx hx hy=>h.dis x hy hx⟩
def key(n:Net)(s t:Int)(ms:List Int):Int:=keyG (YvJ n) (rt s t ms)
theorem getD_some{l:List (List Int)}{i:Nat}{x:List Int}(h:l[i]? =some x):l.getD i []=x:=by
 rw[Tz,h];rfl
variable {B:Nat}{w0 w:World}{H:List HP}
theorem YaR(f:Flw)(hf:YX 32 f=0)(hw:St B w0 H w):
 CX B w0 319 [flwV f] w λv K=>v=.int .i64 0/\K=H:=by
 refine Ya Tryz.func319 Tryz.ntmps319 rfl rfl hw ?_
 have p1:=λ{H':List HP}{w:World}(hw:St B w0 H' w)=>WJ 32 f hw
 rw[hf]at p1
 unfold flwV at p1⊢
 repeat'(first|((first|apply Yb YaM|apply Yc YaM);exact za;exact rfl;exactλ_ hw=>(p1 hw))|refine zgb ?_|(refine zgh ?_;intro _)|fail)
 apply Yh H
 ·exact zc0
 exact zc22
variable {f:Flw}
theorem Zz(hf:YX 32 f=0):(1<=f.2.2.2.1/\f.2.2.2.1<=512)/\(0<=f.2.2.2.2.1/\f.2.2.2.2.1<f.2.2.2.1)/\f.2.1≠f.2.2.1/\(1<=f.2.2.2.2.2/\f.2.2.2.2.2<=f.2.2.2.1):=by
 unfold YX at hf
 omega
theorem Ygc(hf:YX 32 f=0):FlOk f:=by
 obtain⟨h1,h2,h3,h4⟩:=Zz hf
 exact⟨h1.1,h2.1,h3⟩
theorem Yf6(f:Flw)(n:Int)(hf:YX 32 f=0)(hn:0<=n/\n<=1000000)(hw:St B w0 H w):
 CX B w0 237 [flwV f,.int .i64 n] w λv K=>v=.tuple #[.int .i64 (if n<f.2.2.2.2.1 then 0 else(n-f.2.2.2.2.1)/f.2.2.2.1),.bool (decide (f.2.2.2.2.1<=n))]/\K=H:=by
 refine Ya Tryz.func237 Tryz.ntmps237 rfl rfl hw ?_
 obtain⟨h1,h2,-,-⟩:=Zz hf
 have p1:=λ{H':List HP}{w:World}(hw:St B w0 H' w)=>YaR f hf hw
 unfold flwV at p1⊢
 by_cases hlt:n<f.2.2.2.2.1
 ·rw[Tm hlt,Tu (by omega)]
  repeat'(first|((first|apply Yb YlA|apply Yc YlA);exact za;exact rfl;exactλ_ hw=>(p1 hw))|refine zgc ?_|(refine zge ?_ ?_<;>intro _<;>try exact zo)|(refine zgh ?_;intro _)|fail)
  apply Yh H
  ·exact zc0
  exact zc90
 ·rw[Tf hlt,Tj (by omega)]
  refine Ytz ?_<;>intros
  apply Yh H
  ·exact zc0
  exact zc90
theorem YcH{k:Int}(hf:YX 32 f=0)(hk:0<=k/\k<=1000000):0<=k*f.2.2.2.1/\k*f.2.2.2.1<=512000000:=by
 obtain⟨h1,-,-,-⟩:=Zz hf
 have a:=SD hk.1 (show 0<=f.2.2.2.1 by omega)
 have b:=Int.mul_le_mul hk.2 h1.2 (by omega) (by omega)
 omega
theorem Yee(f:Flw)(k:Int)(hf:YX 32 f=0)(hk:0<=k/\k<=1000000)(hw:St B w0 H w):
 CX B w0 338 [flwV f,.int .i64 k] w λv K=>v=.tuple #[.int .i64 (Yn f k),.int .i64 0]/\K=H:=by
 refine Ya Tryz.func338 Tryz.ntmps338 rfl rfl hw ?_
 obtain⟨h1,h2,-,-⟩:=Zz hf
 have h3:=YcH hf hk
 have p1:=λ{H':List HP}{w:World}(hw:St B w0 H' w)=>YaR f hf hw
 unfold Yn phaF perF
 unfold flwV at p1⊢
 refine Ytz ?_<;>intros
 apply Yh H
 ·exact zc0
 exact zc90
theorem Yi6(f:Flw)(k:Int)(hf:YX 32 f=0)(hk:0<=k/\k<=1000000)(hw:St B w0 H w):
 CX B w0 260 [flwV f,.int .i64 k] w λv K=>v=.tuple #[.int .i64 (Yn f k),.int .i64 (Yn f k+f.2.2.2.1-1),.int .i64 0]/\K=H:=by
 refine Ya Tryz.func260 Tryz.ntmps260 rfl rfl hw ?_
 obtain⟨h1,h2,-,-⟩:=Zz hf
 have h3:=YcH hf hk
 have h4:0<=Yn f k/\Yn f k<=600000000:=by unfold Yn phaF perF;omega
 have p1:=λ{H':List HP}{w:World}(hw:St B w0 H' w)=>Yee f k hf hk hw
 generalize Yn f k=z at*
 unfold flwV at p1⊢
 repeat'(first|((first|apply Yb Ys8|apply Yc Ys8);exact za;exact rfl;exactλ_ hw=>(p1 hw))|refine zgd ?_|(refine zge ?_ ?_<;>intro _<;>try exact zo)|(refine zgh ?_;intro _)|fail)
 apply Yh H
 ·exact zk
 apply Va;(iterate 4 exact rfl)
 exact⟨rfl,rfl⟩
structure RuM where
 f:Int
 u:Int
 v:Int
 k:Int
 A:Option Addr
 cap:Nat
 os:List Int
def ruF(r:RuM):List Value:=[.int .i64 r.f,.int .i64 r.u,.int .i64 r.v,.int .i64 r.k,.slice r.A r.os.length r.cap]
def ruV(r:RuM):Value:=.agg #[.int .i64 r.f,.int .i64 r.u,.int .i64 r.v,.int .i64 r.k,.slice r.A r.os.length r.cap]
structure RuM.In(B:Nat)(w0:World)(H:List HP)(r:RuM):Prop where
 rd:Rd B w0 H r.A (r.os.flatMap numF)
 ln:r.os.length<=9223372036854775807
structure XIn(B:Nat)(w0:World)(H:List HP)(A:Option Addr)(xs:List RuM):Prop where
 rd:Rd B w0 H A (xs.flatMap ruF)
 x:∀r∈xs,r.In B w0 H
variable {B cap:Nat}{w0 w:World}{H K:List HP}
theorem RuM.In.mono{r:RuM}(h:r.In B w0 H)(hop:∀w,St B w0 K w->St B w0 H w):r.In B w0 K:=⟨h.rd.mono hop,h.ln⟩
variable {A:Option Addr}
theorem XIn.mono{xs:List RuM}(h:XIn B w0 H A xs)(hop:∀w,St B w0 K w->St B w0 H w):XIn B w0 K A xs:=⟨h.rd.mono hop,λr hr=>(h.x r hr).mono hop⟩
def cmpR(a b:RuM):Int:=Xp [cmpI a.f b.f,cmpI a.k b.k,cmpI a.u b.u,cmpI a.v b.v]
theorem Ydv(a b:RuM)(hw:St B w0 H w):
 CX B w0 236 [ruV a,ruV b] w λv K=>v=.int .i64 (cmpR a b)/\K=H:=by
 refine Ya Tryz.func236 Tryz.ntmps236 rfl rfl hw ?_
 unfold ruV
 refine zX14 ?_<;>intros
 apply Yz [0,1,2,3,5,6,7,8,10,11,12,13,15,16,17,18,4,9,14,19,20,21,22] [] [true,true]
 kernel_rfl
 kernel_rfl
 exact zy
 (simp only[Ye,nthO];rfl)
 exact rfl
 refine zX15 ?_<;>intros
 rename_i g
 first|apply Yb en72|apply Yc en72
 exact za
 exact rfl
 exactλ_ hw=>(Ygr [cmpI a.f b.f,cmpI a.k b.k,cmpI a.u b.u,cmpI a.v b.v] (by simp) (Rd.blk (g:=g) (cs:=#[.int .i64 (cmpI a.f b.f),.int .i64 (cmpI a.k b.k),.int .i64 (cmpI a.u b.u),.int .i64 (cmpI a.v b.v)]) (by(focus exact zc2))) hw)
 refine zX16 ?_
 apply Yh H
 ·exact zc0
 apply Yd;exact rfl;exact rfl
 exact zc84
theorem YgK(l:List RuM)(c:RuM)(hlen:l.length<=1000000000)(hr:Rd B w0 H A (l.flatMap ruF))(hw:St B w0 H w):
 CX B w0 322 [.slice A l.length cap,ruV c,.func (.func 236) #[] #[]] w λv K=>
  (∃(i:Nat) (b:Bool),v=.tuple #[.int .i64 (i:Nat),.bool b]/\(b=true->i<l.length))/\K=H:=by
 refine Ya Tryz.func322 Tryz.ntmps322 rfl rfl hw ?_
 have p1:=λ(a b:RuM) {H':List HP}{w:World}(hw:St B w0 H' w)=>Ydv a b hw
 unfold ruV at p1⊢
 (apply Y7;apply YM;apply YO;exact rfl;exact rfl;intro g)
 refine zX7 ?_
 have hr:=hr.cons (X:=blk g (.cells #[.int .i64 c.f,.int .i64 c.u,.int .i64 c.v,.int .i64 c.k,.slice c.A c.os.length c.cap] 296 (0,0)))
 refine Uf (λ(lo hi:Nat)=>[(9,.int .i64 lo),(10,.int .i64 hi),(8,.int .i64 l.length),(0,.slice A l.length cap),(2,.func (.func 236) #[] #[]),(4,.pointer (some ⟨g,0,none⟩))]) (λ_ _=>blk g (.cells #[.int .i64 c.f,.int .i64 c.u,.int .i64 c.v,.int .i64 c.k,.slice c.A c.os.length c.cap] 296 (0,0))::H)
  (λlo hi=>lo<=hi/\hi<=l.length) (λlo hi=>hi-lo) 0 l.length ⟨by omega,by omega⟩ ?_ (λw hw=>hw) ?_
 ·exact zc1
 rintro lo hi ⟨h1,h2⟩ K hK
 by_cases hlt:lo<hi
 ·obtain⟨b,hb⟩:∃b,l[(((lo:Int)+hi)/2).toNat]? =some b:=⟨_,Ta (by omega)⟩
  repeat'(first|((first|apply YK (cs:=[])|apply YU (cs:=[]));exact rfl;exact Ylt;exact za;exact rfl;exactλ_ hw=>(p1 b c hw))|(apply zg28;refine zs84 ?_)|refine zgd ?_|(refine zge ?_ ?_<;>intro _<;>try exact zo)|fail)
  ·apply hK ((lo+hi)/2+1) hi
   ·omega
   ·omega
   ·exact zc1
   exact zc21
  ·apply hK lo ((lo+hi)/2)
   ·omega
   ·omega
   ·exact zc1
   exact zc21
 ·obtain rfl:lo=hi:=by omega
  by_cases hl:lo<l.length
  ·obtain⟨b,hb⟩:∃b,l[lo]? =some b:=⟨_,Ta hl⟩
   repeat'(first|((first|apply YK (cs:=[])|apply YU (cs:=[]));exact rfl;exact Ylt;exact za;exact rfl;exactλ_ hw=>(p1 b c hw))|(apply zg28;refine zs84 ?_)|refine zgd ?_|(refine zgf ?_ ?_<;>intro _<;>try exact zo)|fail)
   all_goals(apply Yl;apply Yu;(iterate 3 exact rfl);exact⟨⟨lo,_,rfl,λ_=>hl⟩,rfl⟩)
  ·refine zX17 ?_<;>intros
   apply Yl;apply Yu;(iterate 3 exact rfl)
   exact⟨⟨lo,_,rfl,λh=>by cases h⟩,rfl⟩
theorem Yj2(x m:Int)(hw:St B w0 H w):
 CX B w0 317 [.int .i64 x,.int .i64 m] w λv K=>v=.bool (decide (0<=x)&&decide (x<=m))/\K=H:=by
 refine Ya Tryz.func317 Tryz.ntmps317 rfl rfl hw ?_
 by_cases h1:0<=x
 ·by_cases h2:x<=m
  ·rw[Tj h1,Tj h2]
   refine Wq ?_<;>intros
   exact zc12
  ·rw[Tj h1,Tu h2]
   refine Wq ?_<;>intros
   exact zc12
 ·rw[Tu h1,NV]
  refine Wq ?_<;>intros
  exact zc12
def outB(o:Int):Bool:=decide (o<1)||decide (3<o)
theorem Yiw(o:Int)(hw:St B w0 H w):
 CX B w0 318 [.int .i64 o] w λv K=>v=.bool (outB o)/\K=H:=by
 refine Ya Tryz.func318 Tryz.ntmps318 rfl rfl hw ?_
 unfold outB
 by_cases h1:o<1
 ·rw[Tj h1,Bool.true_or]
  refine zX1 ?_<;>intros
  exact zc12
 ·by_cases h2:3<o
  ·rw[Tu h1,Tj h2]
   refine zX1 ?_<;>intros
   exact zc12
  ·rw[Tu h1,Tu h2]
   refine zX1 ?_<;>intros
   exact zc12
theorem YiG(r:RuM)(hr:r.In B w0 H)(hw:St B w0 H w):
 CX B w0 235 [ruV r] w λv K=>(∃b,v=.bool b)/\K=H:=by
 refine Ya Tryz.func235 Tryz.ntmps235 rfl rfl hw ?_
 have hl:=hr.ln
 have hrd:=hr.rd
 unfold ruV
 repeat'(first|((first|apply ZW (cs:=[])|apply ZV (cs:=[]));exact rfl;exact Ywo;exact za;exact rfl;exactλ_ hw=>(Yj2 _ _ hw);all_goals(intro hB;(try simp only[Tq,T0]at hB);try exact zo))|((first|apply Zu Ylv|apply Zt Ylv);exact za;exact rfl;exactλ_ hw=>(Um (λo=>Value.int .i64 o) outB r.os 318 [] Ywp (by omega) zr (λo _ w hw=>Yiw o hw) hw);all_goals(intro hB;(try simp only[Tq,T0]at hB);try exact zo))|refine zgd ?_|(refine zge ?_ ?_<;>intro _<;>try exact zo)|(refine zgh ?_;intro _)|fail)
 all_goals(
  apply Yh H
  ·exact zk
  apply Yd;exact rfl;exact rfl
  exact⟨⟨_,rfl⟩,rfl⟩)
theorem Yjc(xs:List RuM)(hlen:xs.length<=1000000)(hx:XIn B w0 H A xs)(hw:St B w0 H w):
 CX B w0 140 [.slice A xs.length cap] w λv K=>(∃i e:Int,v=.tuple #[.int .i64 i,.int .i64 e])/\K=H:=by
 refine Ya Tryz.func140 Tryz.ntmps140 rfl rfl hw ?_
 have hop:∀w,St B w0 [many H] w->St B w0 H w:=λw hw=>hw.perm (.openT H)
 have hx:=hx.mono hop
 refine Y8 [many H] (λw hw=>hw.perm (.closeT H)) ?_
 have hrd:=hx.rd
 have leaf:∀{i e:Int}{K:List HP}{v:Value},v=.tuple #[.int .i64 i,.int .i64 e]->K=H->(∃i e:Int,v=.tuple #[.int .i64 i,.int .i64 e])/\K=H:=λh1 h2=>⟨⟨_,_,h1⟩,h2⟩
 by_cases hbig:1024<xs.length
 ·refine zX5 ?_<;>intros
  apply Yh H
  ·intro w hw
   refine hop w ?_
   revert w
   exact zc0
  exact zc72
 refine zX5 ?_<;>intros
 refine Yi (λk:Nat=>[(11,.int .i64 (k:Nat)),(10,.int .i64 xs.length),(9,.slice A xs.length cap),(0,.slice A xs.length cap)]) (λ_=>[many H]) (λk=>k<=xs.length) (λk=>xs.length-k) 0 (Ti _) ?_ (λw hw=>hw) ?_
 ·exact zc1
 rintro k hk K hK
 by_cases hlt:k<xs.length
 rotate_left
 ·clear hK
  refine zX1 ?_<;>intros
  apply Yh H
  ·intro w hw
   refine hop w ?_
   revert w
   exact zc0
  exact zc72
 obtain⟨r,hr⟩:∃r,xs[k]? =some r:=⟨_,Ta hlt⟩
 have hri:=hx.x r (Td hr)
 have p1:=λ{H':List HP}{w:World}(hr:r.In B w0 H') (hw:St B w0 H' w)=>YiG r hr hw
 have p2:=λ(a b:RuM) {H':List HP}{w:World}(hw:St B w0 H' w)=>Ydv a b hw
 unfold ruV at p1 p2
 refine zX46 ?_<;>intros
 apply Yg _ Yv8
 exact za
 exact rfl
 exactλ_ hw=>(p1 (hri.mono zc0) (hw))
 rintro _ _ ⟨⟨b,rfl⟩,hK0⟩
 rw[hK0]
 cases b with
 |false=>
  refine zX2 ?_
  apply Yh H
  ·intro w hw
   refine hop w ?_
   revert w
   exact zc0
  exact zc72
 |true=>
 by_cases hk0:0<k
 rotate_left
 ·refine zX17 ?_<;>intros
  apply hK (k+1)
  ·show k+1<=_
   omega
  ·omega
  ·exact zc1
  ·exact zc0
 obtain⟨q,hq⟩:∃q,xs[k-1]? =some q:=⟨_,Ta (by omega)⟩
 have hq2:xs[((k:Int)-1).toNat]? =some q:=by rw[show((k:Int)-1).toNat=k-1 by omega];exact hq
 repeat'(first|((first|apply Yb Ylt|apply Yc Ylt);exact za;exact rfl;exactλ_ hw=>(p2 q r hw))|(apply zg28;refine zs84 ?_)|refine zgd ?_|(refine zgf ?_ ?_<;>intro _<;>try exact zo)|fail)
 ·apply Yh H
  ·intro w hw
   refine hop w ?_
   revert w
   exact zc0
  exact zc72
 ·apply hK (k+1)
  ·show k+1<=_
   omega
  ·omega
  ·exact zc1
  ·exact zc0
def iE(es:List (Int×Int×Nat)):Ents:=es.map λe=>(e.1,Value.int .i64 e.2.1,e.2.2)
def wE(es:List (KL×Int×Nat)):YZ:=es.map λe=>(e.1,Value.int .i64 e.2.1,e.2.2)
def ZI(es:List (Int×Int×Nat))(k:Int):Option Int:=(es.find? λe=>e.1==k).map (·.2.1)
def Jx(es:List (KL×Int×Nat))(k:KL):Option Int:=(es.find? λe=>e.1==k).map (·.2.1)
theorem Ygk(es:List (Int×Int×Nat))(k:Int):mget (iE es) k=(ZI es k).map (Value.int .i64):=by
 unfold mget iE ZI
 exact YuE
theorem Ysr(es:List (KL×Int×Nat))(k:KL):vget (wE es) k=(Jx es k).map (Value.int .i64):=by
 unfold vget wE Jx
 exact YuE
variable {z b':Int}{c N ct b i:Nat}
theorem Ye0{es:List (Int×Int×Nat)}{k:Int}(h:ZI es k=none)(v:Int):ZI (es++[(k,z,c)]) v=if v=k then some z else ZI es v:=by
 unfold ZI at h⊢
 grind
variable {k:KL}
theorem Yn2{es:List (KL×Int×Nat)}(h:Jx es k=none)(v:KL):Jx (es++[(k,z,c)]) v=if v=k then some z else Jx es v:=by
 unfold Jx at h⊢
 grind
structure SM where
 frame:Int
 g:Option (Nat×Nat×Nat)
 es:List (Int×Int×Nat)
 ce:Nat
 ts:YZ
 ct:Nat
 ak:List (KL×Int×Nat)
 ca:Nat
 done:Bool
def smF(x:SM):List Value:=[.int .i64 x.frame,.map (x.g.map (·.1)),.map (x.g.map (·.2.1)),.map (x.g.map (·.2.2)),.bool x.done]
def smP(x:SM):List HP:=match x.g with
 |none=>[]
 |some (a,b,c)=>[blk a (mobj (iE x.es) x.ce),blk b (vobj x.ts x.ct),blk c (vobj (wE x.ak) x.ca)]
def smQ(x:SM):HP:=many (smP x)
def SM.st(x:SM):StM:=⟨x.frame,ZI x.es,λu v=>Jx x.ak [u,v],x.done⟩
structure VOk(N:Nat)(es:YZ)(ct:Nat):Prop where
 len:∀e∈es,e.1.length=N
 lt:∀e∈es,e.2.2<ct
 ne:es.Pairwise λa b=>a.2.2≠b.2.2
theorem VOk.nil:VOk N [] ct:=by simp_all [Go.Proofs.YtjlgijpmnfabcaaGreatDoor.VOk.mk]
theorem VOk.snoc{es:YZ}(h:VOk N es ct)(hk:k.length=N)(v:Value):VOk N (es++[(k,v,ct)]) (ct+1):=by
 refine⟨λe he=>?_,λe he=>?_,?_⟩
 ·rcases TJ.1 he with he|he
  ·exact h.len e he
  simp_all
 ·rcases TJ.1 he with he|he
  ·exact Nat.lt_succ_of_lt (h.lt e he)
  simp_all
 ·refine Nb.2 ⟨h.ne,List.pairwise_singleton _ _,λa ha b hb=>?_⟩
  rw[TU.1 hb]
  exact Nat.ne_of_lt (h.lt a ha)
variable {l1 l2:YZ}{v0:Value}
theorem VOk.set(h:VOk N (l1++(k,v0,b)::l2) ct)(v:Value):VOk N (l1++(k,v,b)::l2) ct:=by
 have e:∀P:KL×Value×Nat->Prop,(∀z:KL×Value×Nat,P z↔P (z.1,v,z.2.2))->(∀z∈l1++(k,v0,b)::l2,P z)->∀z∈l1++(k,v,b)::l2,P z:=λP hP hz z hm=>by
  rcases TJ.1 hm with hm|hm
  ·grind
  ·rcases Rr.1 hm with rfl|hm
   ·exact(hP (k,v0,b)).1 (hz (k,v0,b) (by simp))
   ·exact hz z (TJ.2 (.inr (TE _ hm)))
 refine⟨e (λz=>z.1.length=N) (λ_=>Iff.rfl) h.len,e (λz=>z.2.2<ct) (λ_=>Iff.rfl) h.lt,?_⟩
 have hp:=h.ne
 rw[Nb,List.pairwise_cons]at hp⊢
 refine⟨hp.1,hp.2.1,λa ha z hz=>?_⟩
 rcases Rr.1 hz with rfl|hz
 ·exact hp.2.2 a ha (k,v0,b) (by simp)
 grind
theorem VOk.births(h:VOk N (l1++(k,v0,b)::l2) ct):∀e∈l1,e.2.2≠b:=λe he=>(Nb.1 h.ne).2.2 e he (k,v0,b) (by simp)
structure TOk(ts:YZ)(ct:Nat)(b:Int):Prop where
 ok:VOk 2 ts ct
 z:∀e∈ts,∃z,e.2.1=.int .i64 z/\0<=z/\z<=b
theorem TOk.mono{ts:YZ}{b:Int}(h:TOk ts ct b)(hb:b<=b'):TOk ts ct b':=⟨h.ok,λe he=>by
 obtain⟨z,h1,h2,h3⟩:=h.z e he
 grind⟩
structure SM.Ok(x:SM)(b:Int):Prop where
 g:0<=x.frame->x.g.isSome=true
 ts:TOk x.ts x.ct b
 ak:∀e∈x.ak,e.1.length=2
theorem SM.Ok.mono{x:SM}{b:Int}(h:x.Ok b)(hb:b<=b'):x.Ok b':=⟨h.g,h.ts.mono hb,h.ak⟩
def XD:SM:=⟨-1,none,[],0,[],0,[],0,false⟩
structure PlC where
 fA:Option Addr
 fc:Nat
 l:List Flw
 s:SchM
 xA:Option Addr
 xc:Nat
 xs:List RuM
def attF(a:AttM):List Value:=[.int .i64 a.slot,.int .i64 a.frame,.int .i64 a.c.1,.int .i64 a.c.2.1,.int .i64 a.c.2.2.1,.int .i64 a.c.2.2.2.1,.int .i64 a.c.2.2.2.2,.int .i64 a.o]
def delF(d:Int×Int×Int):List Value:=[.int .i64 d.1,.int .i64 d.2.1,.int .i64 d.2.2]
abbrev plB(c:PlC)(g:Nat)(sA:Option Addr)(ns sc:Nat)(tA:Option Addr)(nt tc:Nat)(dA:Option Addr)(nd dc:Nat):HP:=blk g (.cells #[.slice c.fA c.l.length c.fc,.int .i64 c.s.len,.int .i64 c.s.off,.slice c.s.A c.s.cells.length c.s.cap,.slice c.xA c.xs.length c.xc,.slice sA ns sc,.slice tA nt tc,.slice dA nd dc] 136 (0,0))
abbrev plS(A:Option Addr)(n cap:Nat)(ss:List SM):HP:=sl 226 5 A n cap (ss.flatMap smF)
abbrev plT(A:Option Addr)(cap:Nat)(l:List AttM):HP:=sl 140 8 A l.length cap (l.flatMap attF)
abbrev plD(A:Option Addr)(cap:Nat)(l:List (Int×Int×Int)):HP:=sl 231 3 A l.length cap (l.flatMap delF)
abbrev plL(c:PlC)(g:Nat)(sA:Option Addr)(sc:Nat)(ss:List SM)(tA:Option Addr)(tc:Nat)(atts:List AttM)(dA:Option Addr)(dc:Nat)(dels:List (Int×Int×Int))(H:List HP):List HP:=plB c g sA c.l.length sc tA atts.length tc dA dels.length dc::plS sA c.l.length sc ss::plT tA tc atts::plD dA dc dels::many (ss.map smQ)::H
theorem Yns(n:Nat)(H:List HP):Perm H (many ((List.replicate n XD).map smQ)::H):=by
 induction n with
 |zero=>exact .noMany H
 |succ n ih=>
  have h2:Perm (many ((List.replicate n XD).map smQ)::H) (smQ XD::many ((List.replicate n XD).map smQ)::H):=.noMany _
  refine .trans ih (.trans h2 ?_)
  rw[show List.replicate (n+1) XD=List.replicate n XD++[XD] from List.replicate_succ']
  exact Ydb smQ _ XD H
variable {α:Type}
theorem YlR(f:α->HP){l:List α}{x:α}(h:l[i]? =some x)(H:List HP):Perm (many (l.map f)::H) (f x::many ((l.take i).map f++(l.drop (i+1)).map f)::H):=by
 have h1:l.map f=(l.take i).map f++f x::(l.drop (i+1)).map f:=by
  grind [Nr,Rx]
 rw[h1]
 exact .pull _ _ _ _
theorem Yij(f:α->HP){l:List α}(h:i<l.length)(y:α)(H:List HP):Perm (f y::many ((l.take i).map f++(l.drop (i+1)).map f)::H) (many ((l.set i y).map f)::H):=by
 have h1:(l.set i y).map f=(l.take i).map f++f y::(l.drop (i+1)).map f:=by
  simp_all [List.set_eq_take_append_cons_drop]
 rw[h1]
 exact .push _ _ _ _
theorem Ydh(c:PlC)(hl:c.l.length<=1000){B:Nat}{w0:World}{H:List HP}{w:World}(hw:St B w0 H w):
 CX B w0 66 [.slice c.fA c.l.length c.fc,c.s.val,.slice c.xA c.xs.length c.xc] w λv K=>∃g A cap,v=.pointer (some ⟨g,0,none⟩)/\K=plL c g A cap (List.replicate c.l.length XD) none 0 [] none 0 [] H:=by
 refine Ya Tryz.func66 Tryz.ntmps66 rfl rfl hw ?_
 unfold SchM.val
 refine zX24 ?_<;>intros
 rename_i g
 refine Yi (λ(z:Nat×Option Addr×Nat)=>[(15,.int .i64 (z.1:Nat)),(14,.int .i64 c.l.length),(7,.pointer (some ⟨g,0,none⟩))])
  (λz=>plB c g z.2.1 z.1 z.2.2 none 0 0 none 0 0::sl 226 5 z.2.1 z.1 z.2.2 ((List.replicate z.1 XD).flatMap smF)::H) (λz=>z.1<=c.l.length) (λz=>c.l.length-z.1) (0,none,0) (Ti _) ?_ ?_ ?_
 ·exact zc1
 ·intro w hw
  have h5:St B w0 (plB c g none 0 0 none 0 0 none 0 0::H) w:=by
   revert w
   exact zc0
  exact(h5.nilSlice _ _).perm (.swap _ _ _)
 rintro⟨k,A,cap⟩ hk K hK
 dsimp only at hk⊢
 by_cases hlt:k<c.l.length
 rotate_left
 ·obtain rfl:k=c.l.length:=by omega
  clear hK
  refine zX1 ?_<;>intros
  apply Yh (plL c g A cap (List.replicate c.l.length XD) none 0 [] none 0 [] H)
  ·intro w hw
   have h5:St B w0 (plB c g A c.l.length cap none 0 0 none 0 0::sl 226 5 A c.l.length cap ((List.replicate c.l.length XD).flatMap smF)::H) w:=by
    revert w
    exact zc0
   have h6:St B w0 (plD none 0 []::plT none 0 []::plB c g A c.l.length cap none 0 0 none 0 0::sl 226 5 A c.l.length cap ((List.replicate c.l.length XD).flatMap smF)::many ((List.replicate c.l.length XD).map smQ)::H) w:=((h5.perm (.cons _ (.cons _ (Yns c.l.length H)))).nilSlice _ _).nilSlice _ _
   have h7:∀w,St B w0 (plD none 0 []::plT none 0 []::plB c g A c.l.length cap none 0 0 none 0 0::sl 226 5 A c.l.length cap ((List.replicate c.l.length XD).flatMap smF)::many ((List.replicate c.l.length XD).map smQ)::H) w->St B w0 (plB c g A c.l.length cap none 0 0 none 0 0::sl 226 5 A c.l.length cap ((List.replicate c.l.length XD).flatMap smF)::plT none 0 []::plD none 0 []::many ((List.replicate c.l.length XD).map smQ)::H) w:=by
    clear h5 h6
    exact zc0
   grind
  exact Yl8
 repeat'(first|refine zgd ?_|(refine zge ?_ ?_<;>intro _<;>try exact zo)|(refine zgh ?_;intro _)|(refine zgi ?_;intro _ _)|fail)
 rename_i A' cap'
 have e5:sl 226 5 A' (k+1) cap' ((List.replicate k XD).flatMap smF++#[Value.int .i64 (-1),.map none,.map none,.map none,.bool false].toList)=sl 226 5 A' (k+1) cap' ((List.replicate (k+1) XD).flatMap smF):=by
  rw[List.replicate_succ',TR];rfl
 rw[e5]
 apply hK ⟨k+1,A',cap'⟩
 ·omega
 ·omega
 ·exact zc1
 ·dsimp only
  exact zc0
def RelS(l:List Flw)(n:Int)(b:Int)(ss ss':List SM)(k:Nat):Prop:=
 ss'.length=l.length/\∀(i:Nat) f x,l[i]? =some f->ss[i]? =some x->∃x',ss'[i]? =some x'/\x'.Ok b/\if i<k then x'.st=relS f n x.st else x'=x
def SM.new(f:Flw)(n k:Int)(a b c:Nat):SM:=⟨k,some (a,b,c),[(f.2.1,n,0)],1,[],0,[],0,false⟩
theorem SM.new_st(f:Flw)(n k:Int)(a b c:Nat):(SM.new f n k a b c).st=newS f n k:=by
 unfold SM.st newS SM.new
 congr 1
 funext v
 by_cases h:v=f.2.1
 all_goals simp_all [ZI,Ne.symm]
theorem SM.new_ok(f:Flw)(n k:Int)(a b c:Nat)(m:Int):(SM.new f n k a b c).Ok m:=⟨λ_=>rfl,⟨VOk.nil,λe (h:e∈([]:YZ))=>absurd h (RN)⟩,λe (h:e∈([]:List (KL×Int×Nat)))=>absurd h (RN)⟩
variable {B g sc nt tc nd dc:Nat}{w0 w:World}{x:SM}
theorem Ynr{l:List SM}{i:Nat}{y:SM}{L:List HP}{H:List HP}(h:l[i]? =some x)(hy:smQ y=many L)(hw:St B w0 (L++many (l.map smQ)::H) w):St B w0 (many ((l.set i y).map smQ)::H) w:=by
 have h1:=hw.perm (.close L _)
 rw[<-hy]at h1
 exact((h1.perm (.cons _ (YlR smQ h H))).perm (.cons _ (.drop _ _))).perm (Yij smQ (Tc.1 h).1 y H)
variable {sA tA dA:Option Addr}{Z:HP}
theorem Yse{c:PlC}{sk:List SM}{k:Nat}{f:Flw}{n q:Int}{a1 a2 a3:Nat}(h:sk[k]? =some x):∀w,St B w0 (plS sA c.l.length sc (sk.set k (SM.new f n q a1 a2 a3))::blk a1 (mobj ([]++[(f.2.1,Value.int .i64 n,0)]) (0+1))::blk a2 (mobj [] 0)::blk a3 (mobj [] 0)::plB c g sA c.l.length sc tA nt tc dA nd dc::many (sk.map smQ)::[Z]) w->
 St B w0 (plB c g sA c.l.length sc tA nt tc dA nd dc::plS sA c.l.length sc (sk.set k (SM.new f n q a1 a2 a3))::many ((sk.set k (SM.new f n q a1 a2 a3)).map smQ)::[Z]) w:=by
 intro w hw
 have h1:St B w0 (blk a1 (mobj ([]++[(f.2.1,Value.int .i64 n,0)]) (0+1))::blk a2 (mobj [] 0)::blk a3 (mobj [] 0)::many (sk.map smQ)::plB c g sA c.l.length sc tA nt tc dA nd dc::plS sA c.l.length sc (sk.set k (SM.new f n q a1 a2 a3))::[Z]) w:=by
  revert w
  exact zc0
 have h2:=Ynr (L:=[blk a1 (mobj ([]++[(f.2.1,Value.int .i64 n,0)]) (0+1)),blk a2 (mobj [] 0),blk a3 (mobj [] 0)]) (y:=SM.new f n q a1 a2 a3) h rfl h1
 exact(h2.perm (.swap _ _ _)).perm (.cons _ (.swap _ _ _))
theorem Yec(c:PlC)(n b:Int)(hn:0<=n/\n<=1000000)(hl:c.l.length<=1000)(hf:∀f∈c.l,YX 32 f=0){ss:List SM}(hss:ss.length=c.l.length)(hok:∀x∈ss,x.Ok b)
 (hr:Rd B w0 [Z] c.fA (c.l.flatMap flwF)) (hw:St B w0 (plB c g sA c.l.length sc tA nt tc dA nd dc::plS sA c.l.length sc ss::many (ss.map smQ)::[Z]) w):
 CX B w0 141 [.pointer (some ⟨g,0,none⟩),.int .i64 n] w λv K=>∃ss',v=.tuple #[]/\RelS c.l n b ss ss' c.l.length/\K=plB c g sA c.l.length sc tA nt tc dA nd dc::plS sA c.l.length sc ss'::many (ss'.map smQ)::[Z]:=by
 refine Ya Tryz.func141 Tryz.ntmps141 rfl rfl hw ?_
 refine zX2 ?_
 refine Yi (λ(z:Nat×List SM)=>[(13,.int .i64 (z.1:Nat)),(12,.int .i64 c.l.length),(11,.slice c.fA c.l.length c.fc),(0,.pointer (some ⟨g,0,none⟩)),(1,.int .i64 n)])
  (λz=>plB c g sA c.l.length sc tA nt tc dA nd dc::plS sA c.l.length sc z.2::many (z.2.map smQ)::[Z]) (λz=>z.1<=c.l.length/\RelS c.l n b ss z.2 z.1) (λz=>c.l.length-z.1) (0,ss) ⟨Ti _,hss,λi f x h1 h2=>⟨x,h2,hok x (Td h2),by rw[Tf (by omega)]⟩⟩ ?_ ?_ ?_
 ·exact zc1
 ·intro w hw;exact hw
 rintro⟨k,sk⟩ ⟨hk,hR⟩ K hK
 dsimp only at hk hR⊢
 by_cases hlt:k<c.l.length
 rotate_left
 ·obtain rfl:k=c.l.length:=by omega
  clear hK
  refine zX1 ?_<;>intros
  apply Yh (plB c g sA c.l.length sc tA nt tc dA nd dc::plS sA c.l.length sc sk::many (sk.map smQ)::[Z])
  ·exact zc0
  apply Zk;exact rfl
  exact⟨sk,rfl,hR,rfl⟩
 obtain⟨f,hfk⟩:∃f,c.l[k]? =some f:=⟨_,Ta hlt⟩
 obtain⟨x,hx⟩:∃x,ss[k]? =some x:=⟨_,Ta (by omega)⟩
 have hskl:=hR.1
 obtain⟨x',hx',hxo,hxe⟩:=hR.2 k f x hfk hx
 rw[Tf (Nat.lt_irrefl _)]at hxe
 subst hxe
 have hfe:=hf f (Td hfk)
 obtain⟨hp1,hp2,-,-⟩:=Zz hfe
 have hr9:∀{X Y W:HP},Rd B w0 (X::Y::W::[Z]) c.fA (c.l.flatMap flwF):=hr.cons.cons.cons
 have hr8:=@hr9 (plB c g sA c.l.length sc tA nt tc dA nd dc) (plS sA c.l.length sc sk) (many (sk.map smQ))
 have p1:=λ{H':List HP}{w:World}(hw:St B w0 H' w)=>Yf6 f n hfe hn hw
 unfold flwV at p1
 have hstay:relS f n x'.st=x'.st->RelS c.l n b ss sk (k+1):=λh=>by
  refine⟨hskl,λi f2 y2 a1 a2=>?_⟩
  obtain⟨z,b1,b2,b3⟩:=hR.2 i f2 y2 a1 a2
  refine⟨z,b1,b2,?_⟩
  by_cases e:i=k
  ·subst e
   rw[hfk]at a1
   rw[hx]at a2
   rw[hx']at b1
   rw[Tm (by omega),<-Tn a1,<-Tn a2,<-Tn b1,h]
  ·by_cases hik:i<k
   ·rw[Tm hik]at b3
    rw[Tm (by omega)];exact b3
   ·rw[Tf hik]at b3
    rw[Tf (by omega)];exact b3
 iterate 10 (first|refine zgb ?_|(refine zge ?_ ?_<;>intro _<;>try exact zo)|fail)
 refine XE (λ(z:{z:List SM//RelS c.l n b ss z (k+1)})=>[(13,.int .i64 (k:Nat)),(12,.int .i64 c.l.length),(11,.slice c.fA c.l.length c.fc),(0,.pointer (some ⟨g,0,none⟩)),(1,.int .i64 n)]) (λz=>plB c g sA c.l.length sc tA nt tc dA nd dc::plS sA c.l.length sc z.1::many (z.1.map smQ)::[Z]) ?_ ?_
 rotate_left
 ·rintro⟨z,hz⟩
  refine zX9 ?_
  apply hK ⟨k+1,z⟩
  ·exact⟨by show k+1<=_;omega,hz⟩
  ·exact zc54
  ·exact zc1
  ·exact zc0
 intro K2 hK2
 by_cases h1:n<f.2.2.2.2.1
 ·rw[Tm h1,Tu (by omega)]at p1
  repeat'(first|((first|apply Yb Ylu|apply Yc Ylu);exact za;exact rfl;exactλ_ hw=>(p1 hw))|refine zgd ?_|(refine zgh ?_;intro _)|fail)
  apply hK2 ⟨sk,hstay (by unfold relS;exact Tm h1)⟩
  ·exact zc1
  ·exact zc0
 rw[Tf h1,Tj (by omega)]at p1
 obtain⟨q,hq⟩:∃q,(n-f.2.2.2.2.1)/f.2.2.2.1=q:=⟨_,rfl⟩
 rw[hq]at p1
 have hnew:q≠x'.frame->∀a1 a2 a3,RelS c.l n b ss (sk.set k (SM.new f n q a1 a2 a3)) (k+1):=λhne a1 a2 a3=>by
  refine⟨by rw[TT];exact hskl,λi f2 y2 b1 b2=>?_⟩
  obtain⟨z,c1,c2,c3⟩:=hR.2 i f2 y2 b1 b2
  by_cases e:i=k
  ·subst e
   rw[hfk]at b1
   rw[hx]at b2
   refine⟨_,Si (by omega),SM.new_ok _ _ _ _ _ _ _,?_⟩
   rw[Tm (by omega),<-Tn b1,<-Tn b2,SM.new_st]
   unfold relS phaF perF
   rw[Tf h1,Tf (by rw[hq];exact hne),hq]
  ·refine⟨z,by rw[Ni (S5 e)];exact c1,c2,?_⟩
   by_cases hik:i<k
   ·rw[Tm hik]at c3
    rw[Tm (by omega)];exact c3
   ·rw[Tf hik]at c3
    rw[Tf (by omega)];exact c3
 by_cases h2:q=x'.frame
 ·skip
  refine YtB ?_<;>intros
  apply hK2 ⟨sk,hstay (by unfold relS phaF perF;rw[Tf h1,Tm (by rw[hq,h2];rfl)])⟩
  ·exact zc1
  ·exact zc0
 ·skip
  refine YtB ?_<;>intros
  rename_i gf
  have hnew:=hnew h2
  refine YfH (e:=226) (size:=5) (A:=sA) (k:=c.l.length) (cap:=sc) (xs:=sk.flatMap smF) (by(focus exact zc2)) (by omega) ?_
  intro gA eA
  subst eA
  apply Wv (.n1 0 (.n1 1 (.n1 2 (.n1 3 (.n1 4 (.n1 5 (.n1 7 (.n1 8 (.n1 9 (.n3 6 (.n3 10 (.n1 11 (.n2 12 (.n1 13 (.n1 14 (.n1 15 .done))) 13 (.n1 12 (.n1 14 (.n1 15 .done))))) 12 (.n2 10 (.n1 11 (.n1 13 (.n1 14 (.n1 15 .done)))) 13 (.n1 10 (.n1 11 (.n1 14 (.n1 15 .done))))) 13 (.n2 10 (.n1 11 (.n1 12 (.n1 14 (.n1 15 .done)))) 12 (.n1 10 (.n1 11 (.n1 14 (.n1 15 .done)))))) 12 (.n2 6 (.n2 10 (.n1 11 (.n1 13 (.n1 14 (.n1 15 .done)))) 13 (.n1 10 (.n1 11 (.n1 14 (.n1 15 .done))))) 13 (.n1 6 (.n1 10 (.n1 11 (.n1 14 (.n1 15 .done)))))) 13 (.n2 6 (.n2 10 (.n1 11 (.n1 12 (.n1 14 (.n1 15 .done)))) 12 (.n1 10 (.n1 11 (.n1 14 (.n1 15 .done))))) 12 (.n1 6 (.n1 10 (.n1 11 (.n1 14 (.n1 15 .done)))))))))))))))) [16] [true,true]
  kernel_rfl
  kernel_rfl
  exact zy
  (simp only[Ye,nthO];rfl)
  repeat'(first|(apply V8 T;(iterate 4 exact rfl);omega)|(apply Zd T (f:=smF) (a:=SM.new f n q _ _ _);(iterate 3 exact rfl);exact zd;exact(λ_=>rfl);(iterate 3 exact rfl);omega)|(apply UM;exact rfl;intro gs)|(apply Yeq (kt:=3) (et:=3);(iterate 3 exact rfl);kernel_rfl;exact zd;exact rfl)|(apply Yoy;(simp only[nthO];rfl);(simp only[nthO];rfl);(simp only[nthO];rfl))|(apply Yho;(simp only[nthO];rfl);(simp only[nthO];rfl))|(apply Yhn;(simp only[nthO];rfl))|(apply Wz;try exact zl)|(apply Yj;try exact zl)|refine zgd ?_|fail)
  all_goals(
   rw[Rq]
   apply hK2 ⟨sk.set k (SM.new f n q _ _ _),hnew _ _ _⟩
   rotate_left
   ·intro w hw
    apply Yse hx' w
    revert w
    exact zk
   ·exact zu)
open Go.RowKit Go.Eng Go.Nw Go.Rt Go.Sort Go.Shelf Go.Proofs
theorem Yu4(x y:Int×Int×Int)(W:World):Calls Tryz.prog 145 #[.agg #[.int .i64 x.1,.int .i64 x.2.1,.int .i64 x.2.2],.agg #[.int .i64 y.1,.int .i64 y.2.1,.int .i64 y.2.2]] W λe w'=>e=.returned (.int .i64 (Lib.compareInt x.1 y.1))/\∃q os',w'=grow (W.drewN q) os':=by
 have hcon:=λW'=>Tryz.cmp_Compare_int x.1 y.1 W'
 generalize Lib.compareInt x.1 y.1=r at hcon⊢
 go_enter Tryz.func145,Tryz.ntmps145
 go_wp2_with (go_at_call 73;refine(hcon _).mono ?_;rintro e w' ⟨rfl,rfl⟩)
 go_ret
 exact⟨rfl,0,_,by rw[alloc_eq_grow,alloc_eq_grow,grow_grow];rfl⟩
theorem YpG(x y:Int×Int×Int):ltOf (λx y:Int×Int×Int=>Lib.compareInt x.1 y.1) x y=decide (x.1<y.1):=by
 unfold ltOf Lib.compareInt
 grind
theorem Yvq:SWO (ltOf λx y:Int×Int×Int=>Lib.compareInt x.1 y.1) where
 irrefl x:=by simp[YpG]
 trans x y z h1 h2:=by grind [YpG]
 ntrans x y z h1 h2:=by grind [YpG]
theorem Ydo{α:Type}[Inhabited α]{d d':Array α}(h:PermIn 0 d.size d d'):d'.toList.Perm d.toList:=by
 obtain⟨h1,_,h3⟩:=h
 grind [Array.extract_size]
theorem YgN(l:List (Int×Int×Int))(k:Nat)(hk:k<=l.length)(hl:l.length<=100000000){A:Option Addr}{cap B:Nat}{w0:World}{H H0:List HP}{w:World}(hin:∀w,St B w0 H0 w->St B w0 (plD A cap l::H) w)(hw:St B w0 H0 w):
 CX B w0 144 [.slice (subA A k cap 3) (l.length-k:Nat) (cap-k),.func (.func 145) #[] #[]] w λv K=>v=.tuple #[]/\∃l',l'.Perm l/\K=plD A cap l'::H:=by
 have hw:=hin w hw
 by_cases h0:l.length-k=0
 ·rw[h0]
  refine(AnyF.slices_SortFunc_none Tryz.sortDels (subA A k cap 3) (cap-k) (.func (.func 145) #[] #[]) w).mono ?_
  exact Yt7
 have ho:=hw.sl (TC)
 obtain⟨g,rfl,hcap⟩:∃g,A=some ⟨g,0,none⟩/\l.length<=cap:=YtY
 have hsub:subA (some (⟨g,0,none⟩:Addr)) k cap 3=some ⟨g,k*3,none⟩:=by
  unfold subA
  rw[Tf (by omega)]
  grind [Go.Addr.add]
 rw[hsub]
 obtain⟨hH,hg,hst⟩:=Yfy (enc:=delF) (λ_=>rfl) (by decide) hk hw
 have eg:∀args w,(callFunc 145 args).run Tryz.prog w=.ok (.enter 145 args) w:=YvV
 have hsz:(l.drop k).toArray.size=l.length-k:=by simp
 have hcon:=AnyQ.slices_SortFunc Tryz.sortDels 3 Tryz.isAgg231 Tryz.sizeOf231 delF (λ_=>rfl) (λx v hv=>by simp[delF]at hv;rcases hv with rfl|rfl|rfl<;>rfl) (λx y=>Lib.compareInt x.1 y.1) Yvq 145 #[] g (k*3) (cap-k) (l.drop k).toArray w eg (λ_ _ _ _ x y=>Yu4 x y _) hH hg (by omega)
 rw[hsz]at hcon
 refine hcon.mono ?_
 rintro e w' ⟨rfl,d',n,os,hp,_,rfl⟩
 have hp:=Ydo (d:=(l.drop k).toArray) (by rw[hsz];exact hp)
 have hpl:(l.take k++d'.toList).Perm l:=by
  have:=(List.Perm.refl (l.take k)).append hp
  simp_all
 have hdl:d'.toList.length=l.length-k:=by rw[hp.length_eq];simp
 have h5:=hst d'.toList n os hdl
 rw[Array.toArray_toList]at h5
 refine⟨_,_,rfl,h5,rfl,l.take k++d'.toList,hpl,?_⟩
 grind
end Go.Proofs.YtjlgijpmnfabcaaGreatDoor
namespace Go.Eng
open Go.RowKit
variable {B:Nat}{w0:World}{H:List HP}
theorem YP{P:Program}{m:Mode}{n:Shp}{d:Nat}{ops:Array Oper}{Q:Exit->Act->World->Prop}{rest:List Oper}{env:Env}{ty:TypeId}{pos:String}{after:Array Edge}{x:Operand}{a:Addr}{j:Nat}(hx:evo env x=some (sptr (some a) j))(hn:Nat.ble (d+1) n.k=true)(h:VL P m n B w0 ops Q rest ((d,sptr (some a) j)::env) H):
 VL P m n B w0 ops Q (⟨some d,.nilCheck x,ty,pos,after,none⟩::rest) env H:=YaB hx hn h
end Go.Eng
namespace Go.Proofs.YtjlgijpmnfabcaaGreatDoor
open Go.RowKit Go.Eng Go.Nw Go.Rt
theorem YmY(l:List Flw)(id:Int):(ZG l id= -1/\∀f∈l,f.1≠id)\/∃(i:Nat) (f:Flw),ZG l id=(i:Int)/\l[i]? =some f/\f.1=id:=by
 have key:∀(l:List Flw) (a:Int),0<=a->(Yp (λf:Flw=>decide (f.1=id)) l a= -1/\∀f∈l,f.1≠id)\/∃(i:Nat) (f:Flw),Yp (λf:Flw=>decide (f.1=id)) l a=a+(i:Int)/\l[i]? =some f/\f.1=id:=by
  intro l
  induction l with
  |nil=>exactλa _=>.inl ⟨rfl,λf h=>by cases h⟩
  |cons x l ih=>
   intro a ha
   unfold Yp
   by_cases h:x.1=id
   ·exact .inr ⟨0,x,by simp[h],rfl,h⟩
   ·rcases ih (a+1) (by omega)with⟨h1,h2⟩|⟨i,f,h1,h2,h3⟩
    ·grind
    ·exact .inr ⟨i+1,f,by grind,h2,h3⟩
 rcases key l 0 (RB _)with h|⟨i,f,h1,h2⟩
 ·exact .inl h
 ·exact .inr ⟨i,f,by unfold ZG;omega,h2⟩
variable {g ns sc nt tc nd dc B:Nat}{sA tA dA:Option Addr}{w0 w:World}{Z:HP}
theorem Ygw(c:PlC)(id k u v t:Int)(ht:0<=t)(hxl:c.xs.length<=1000000)(hx:XIn B w0 [Z] c.xA c.xs)(hw:St B w0 (plB c g sA ns sc tA nt tc dA nd dc::[Z]) w):
 CX B w0 240 [.pointer (some ⟨g,0,none⟩),.int .i64 id,.int .i64 k,.agg #[.int .i64 u,.int .i64 v],.int .i64 t] w λv K=>(∃o:Int,v=.int .i64 o)/\K=plB c g sA ns sc tA nt tc dA nd dc::[Z]:=by
 refine Ya Tryz.func240 Tryz.ntmps240 rfl rfl hw ?_
 have p1:=λ{H':List HP}{w:World}(hr:Rd B w0 H' c.xA (c.xs.flatMap ruF)) (hw:St B w0 H' w)=>YgK c.xs ⟨id,u,v,k,none,0,[]⟩ (by omega) (cap:=c.xc) hr hw
 unfold ruV at p1
 have hrx:=hx.rd
 refine zX14 ?_<;>intros
 rename_i gl
 apply Yz [0,1,2,3,4,5,6,7,8,9,10,11,12,13,14,15,16] [] [true,true,true]
 kernel_rfl
 kernel_rfl
 exact zy
 (simp only[Ye,nthO];rfl)
 exact rfl
 refine zX2 ?_
 have hx1:Rd B w0 [Z] c.xA (c.xs.flatMap ruF):=hrx
 apply Yg _ Ywr
 exact za
 exact rfl
 exactλ_ hw=>(p1 (hrx.mono zc0) (hw))
 rintro _ _ ⟨⟨i,b,rfl,hb⟩,hK0⟩
 rw[hK0]
 cases b with
 |false=>
  refine zX16 ?_
  apply Yh (plB c g sA ns sc tA nt tc dA nd dc::[Z])
  ·exact zc0
  exact zc12
 |true=>
 have hi:=hb rfl
 obtain⟨r,hr⟩:∃r,c.xs[i]? =some r:=⟨_,Ta hi⟩
 have hri:=hx.x r (Td hr)
 have hrl:=hri.ln
 have hrr:=hri.rd
 by_cases hlt:t<r.os.length
 ·obtain⟨o,ho⟩:∃o,r.os[t.toNat]? =some o:=⟨_,Ta (by omega)⟩
  repeat'(first|(apply Yj;try exact zl)|refine zgd ?_|(refine zgf ?_ ?_<;>intro _<;>try exact zo)|fail)
  apply Yh (plB c g sA ns sc tA nt tc dA nd dc::[Z])
  ·exact zc0
  exact Yur
 ·repeat'(first|(apply Yj;try exact zl)|refine zgd ?_|(refine zgf ?_ ?_<;>intro _<;>try exact zo)|fail)
  apply Yh (plB c g sA ns sc tA nt tc dA nd dc::[Z])
  ·exact zc0
  exact Yur
variable {H:List HP}
theorem Ykq(c:PlC)(id k u v t:Int)(ht:0<=t)(hxl:c.xs.length<=1000000)(R:List HP)(hR:∀w,St B w0 R w->St B w0 [Z] w)
 (hin:∀w,St B w0 H w->St B w0 (plB c g sA ns sc tA nt tc dA nd dc::R) w) (hout:∀w,St B w0 (plB c g sA ns sc tA nt tc dA nd dc::R) w->St B w0 H w) (hx:XIn B w0 [Z] c.xA c.xs) (hw:St B w0 H w):
 CX B w0 240 [.pointer (some ⟨g,0,none⟩),.int .i64 id,.int .i64 k,.agg #[.int .i64 u,.int .i64 v],.int .i64 t] w λv K=>(∃o:Int,v=.int .i64 o)/\K=H:=by
 refine(Ygw (Z:=many R) c id k u v t ht hxl (hx.mono λw hw=>hR w (hw.perm (.openT R))) ((hin w hw).perm (.cons _ (.closeT R)))).mono ?_
 rintro e w' ⟨v,K,h1,hst,ho,rfl⟩
 exact⟨v,H,h1,hout _ (hst.perm (.cons _ (.openT R))),ho,rfl⟩
end Go.Proofs.YtjlgijpmnfabcaaGreatDoor
