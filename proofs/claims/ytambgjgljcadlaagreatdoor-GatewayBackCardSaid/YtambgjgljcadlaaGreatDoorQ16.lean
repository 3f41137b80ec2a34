/- Lemmas. -/
import Derived.Test.YtambgjgljcadlaaGreatDoorQ13
import Derived.Test.YtambgjgljcadlaaGreatDoorQ14
set_option maxRecDepth 100000
set_option maxHeartbeats 8000000
set_option linter.all false
namespace Go.Eng
open Go.RowKit
variable {B cap:Nat}{w0:World}{H:List HP}{A:Option Addr}
theorem YrB{P:Program}{n:Shp}{Q:Exit->Act->World->Prop}{env:Env}{c:Code}{e size k:Nat}{xs:List Value}(hm:sl e size A k cap xs∈H)(h:k<=cap->VC P n B w0 c Q env H):VC P n B w0 c Q env H:=by
 refine⟨λa w ha hw=>?_⟩
 have hown:=hw.sl hm
 have hkc:k<=cap:=zc39
 exact(h hkc).run a w ha hw
end Go.Eng
namespace Go.Proofs.YtambgjgljcadlaaGreatDoor
open Go.RowKit Go.Eng Go.Nw Go.Rt
theorem YqV(A:Option Addr)(cap size:Nat):subA A 0 cap size=A:=by
 simp_all [subA,Go.Addr.add]
variable {A:Option Addr}{cap B:Nat}{w0 w:World}{H:List HP}
theorem X9(l:List Lk)(hlen:l.length<=1000)(hr:Rd B w0 H A (l.flatMap lkF))(hw:St B w0 H w):
 CX B w0 309 [.slice A l.length cap] w λv K=>∃A' cap',v=.slice A' l.length cap'/\K=sl 356 3 A' l.length cap' (l.flatMap lkF)::H:=by
 cases A with
 |none=>
  have hl:l=[]:=by
   cases l with
   |nil=>rfl
   |cons x l=>
    exact zc31
  subst hl
  refine Yc Tryz.func309 Tryz.ntmps309 rfl rfl hw ?_
  refine zX6 ?_
  apply Xk 356 3;exact zc33
 |some a=>
  refine Yc Tryz.func309 Tryz.ntmps309 rfl rfl hw ?_
  repeat'(first|(apply Zt;(iterate 3 exact rfl))|(apply XH T;exact rfl;exact rfl;intro g2)|refine zga ?_|fail)
  apply Xs T (f:=lkF) (l2:=l) (e:=356) (size:=3) (xs:=[]);(iterate 3 exact rfl);exact hr.cons;exact(λ_=>rfl);exact(λ_=>rfl);exact rfl;(intro _ _;exact zd);omega;intro A' cap'
  exact zc23
def arcV(a:Lk):Value:=.agg #[.int .i64 a.1,.int .i64 a.2.1,.int .i64 a.2.2]
theorem Yfn{α:Type}(p:α->Bool):∀(l:List α) (k:Int),(l.filter (λa=>!p a)=l/\Ym p l k= -1)\/∃j,j<l.length/\Ym p l k=k+j/\(l.take j).filter (λa=>!p a)=l.take j/\∃a,l[j]? =some a/\p a=true
 |[],_=>.inl ⟨rfl,rfl⟩
 |a::l,k=>by
  unfold Ym
  cases h:p a with
  |true=>exact .inr ⟨0,by simp,by simp,rfl,a,rfl,h⟩
  |false=>
   rw[Td (by decide)]
   rcases Yfn p l (k+1)with⟨h1,h2⟩|⟨j,h1,h2,h3,b,h4,h5⟩
   ·simp_all
   exact YuD
theorem YeG(p:Lk->Bool)(l:List Lk)(f:Nat)(cs:List Value)(hen:∀xs w,(callFunc f xs).run Tryz.prog w=.ok (.enter f xs) w)(hlen:l.length<=1000)(hr:Rd B w0 H A (l.flatMap lkF))
 (hp:∀a∈l,∀w,St B w0 H w->Calls Tryz.prog f ([arcV a]++cs).toArray w (Post B w0 λv K=>v=.bool (p a)/\K=H)) (hw:St B w0 H w):
 CX B w0 337 [.slice A l.length cap,.func (.func f) #[] cs.toArray] w λv K=>v=.int .i64 (Ym p l 0)/\K=H:=by
 refine Yc Tryz.func337 Tryz.ntmps337 rfl rfl hw ?_
 refine zX7 ?_
 refine Yj (λ(k:Nat)=>[(8,.int .i64 k),(7,.int .i64 l.length),(0,.slice A l.length cap),(1,.func (.func f) #[] cs.toArray)]) (λ_=>H) (λk=>k<=l.length/\Ym p l 0=Ym p (l.drop k) k) (λk=>l.length-k) 0 ⟨Tj _,by simp⟩ ?_ (λw hw=>hw) ?_
 ·exact zc1
 rintro k ⟨hk,hi⟩ K hK
 by_cases hlt:k<l.length
 ·obtain⟨a,ha⟩:∃a,l[k]? =some a:=⟨_,Ta hlt⟩
  have hpa:=hp a (Tf ha)
  rw[Vn p l ha]at hi
  refine zX8 ?_<;>intros
  cases hpv:p a
  ·rw[hpv]at hi
   refine zX9 ?_
   apply hK (k+1)
   ·grind
   ·omega
   ·exact zc1
   exact zc19
  exact zc9
 exact zc7
structure Kz where
 i:Nat
 j:Nat
 M:List Lk
theorem Za(p:Lk->Bool)(l:List Lk)(f:Nat)(cs:List Value)(hen:∀xs w,(callFunc f xs).run Tryz.prog w=.ok (.enter f xs) w)(hlen:l.length<=1000)
 (hp:∀a∈l,∀(X:List HP) w,St B w0 (X++H) w->Calls Tryz.prog f ([arcV a]++cs).toArray w (Post B w0 λv K=>v=.bool (p a)/\K=X++H)) (hw:St B w0 (Jx A cap l::H) w):
 CX B w0 308 [.slice A l.length cap,.func (.func f) #[] cs.toArray] w λv K=>v=.slice A (l.filter λa=>!p a).length cap/\K=Jx A cap (l.filter λa=>!p a)::H:=by
 refine Yc Tryz.func308 Tryz.ntmps308 rfl rfl hw ?_
 refine YrB (k:=l.length) (cap:=cap) (by(focus exact zc2)) λhcap=>?_
 have hif:=λ{w:World}(hw:St B w0 (Jx A cap l::H) w)=>YeG p l f cs hen hlen (cap:=cap) (.sl TB) (λa ha w hw=>hp a ha [Jx A cap l] w hw) hw
 rcases Yfn p l 0 with⟨h1,h2⟩|⟨i0,h1,h2,h3,a0,h4,h5⟩
 ·rw[h2]at hif
  rw[h1]
  repeat'(first|((first|apply Ya Yl3|apply Yb Yl3);exact za;exact rfl;exactλ_ hw=>(hif hw))|refine zgb ?_|(refine zge ?_ ?_<;>intro _<;>try exact zo)|fail)
  exact zc5
 rw[h2,Int.zero_add]at hif
 repeat'(first|((first|apply Ya Yl3|apply Yb Yl3);exact za;exact rfl;exactλ_ hw=>(hif hw))|refine zgc ?_|(refine zge ?_ ?_<;>intro _<;>try exact zo)|fail)
 refine Yj (λ(z:Kz)=>[(6,.int .i64 z.j),(5,.int .i64 z.i),(0,.slice A z.M.length cap),(1,.func (.func f) #[] cs.toArray)]) (λz=>Jx A cap z.M::H) (λz=>z.M.length=l.length/\z.i<z.j/\z.j<=l.length/\z.M.take z.i=(l.take z.j).filter (λa=>!p a)/\z.M.drop z.j=l.drop z.j) (λz=>l.length-z.j) ⟨i0,i0+1,l⟩ ⟨rfl,by exact zc29,by exact zc29,?_,rfl⟩ ?_ (λw hw=>hw) ?_
 ·exact YuG
 ·exact zc1
 rintro⟨i,j,M⟩ ⟨hM,hij,hj,ht,hd⟩ K hK
 simp only at hM hij hj ht hd⊢
 by_cases hlt:j<l.length
 ·obtain⟨a,ha⟩:∃a,l[j]? =some a:=⟨_,Ta hlt⟩
  have hMa:M[j]? =some a:=zc84
  have hpa:=λ{X1 X2:HP}{w:World}(hw:St B w0 (X1::X2::H) w)=>hp a (Tf ha) [X1,X2] w hw
  have hft:(l.take (j+1)).filter (λa=>!p a)=M.take i++(if p a=true then []else [a]):=Yuz
  obtain⟨b,hb⟩:∃b,p a=b:=⟨_,rfl⟩
  rw[hb]at hft hpa
  have hd1:∀x:Lk,(M.set i x).drop (j+1)=l.drop (j+1):=λx=>by
   exact YuB
  cases b with
  |true=>
   rw[Tm rfl,Rx]at hft
   refine zX34 ?_<;>intros
   apply hK ⟨i,j+1,M⟩
   ·exact⟨hM,by exact zc29,by exact zc29,hft.symm,by exact YuP⟩
   ·exact zc29
   ·exact zc1
   ·exact zc49
  |false=>
   rw[Td (by decide)]at hft
   have hMl:(M.set i a).length=M.length:=Rj
   repeat'(first|((first|apply YV (cs:=cs));exact rfl;exact hen;exact za;exact rfl;exactλ_ hw=>hpa hw)|(apply Jb T (f:=lkF) (l:=M) (i:=i) (a:=a);(iterate 3 exact rfl);exact zd;exactλ_=>rfl;(iterate 3 exact rfl);omega)|refine zgd ?_|(refine zge ?_ ?_<;>intro _<;>try exact zo)|(refine zgh ?_;intro _)|fail)
   apply hK ⟨i+1,j+1,M.set i a⟩
   ·refine⟨by exact zc29,by exact zc29,by exact zc29,?_,hd1 a⟩
    exact zc96
   ·exact zc29
   ·dsimp only
    rw[hMl]
    exact zc1
   ·unfold Jx
    dsimp only
    rw[hMl]
    exact zc49
 ·obtain rfl:j=l.length:=by omega
  clear hK
  rw[TQ]at ht
  have hil:(l.filter λa=>!p a).length=i:=by rw[<-ht,TA];omega
  have hfl:(M.flatMap lkF).take (i*3)=(l.filter λa=>!p a).flatMap lkF:=by rw[<-XQ (q:=3) (λ_=>rfl),ht]
  refine zX36 ?_<;>intros
  rw[RS]
  apply ZE (sl 356 3 A i cap ((l.filter λa=>!p a).flatMap lkF)::H)
  ·intro w hw
   refine hw.shrink (e:=356) (size:=3) (cap:=cap) (A:=A) (xs:=M.flatMap lkF) (k:=M.length) (k':=i) (by omega) ?_
   rw[hfl]
   exact Upd.here _
  apply Yct T T2 (e:=356) (size:=3) (k:=i) (xs:=(l.filter λa=>!p a).flatMap lkF);exact rfl;exact TB;(iterate 3 exact rfl);omega
  refine zX37 ?_
  rw[YqV]
  repeat'(first|fail)
  apply Yd;exact rfl;exact rfl
  exact⟨by rw[hil],by unfold Jx;rw[hil]⟩
theorem YeR(s t:Int)(gs gt:Nat)(a:Lk)(hs:blk gs (.cells #[.int .i64 s] 3 (0,0))∈H)(ht:blk gt (.cells #[.int .i64 t] 3 (0,0))∈H)(hw:St B w0 H w):
 CX B w0 336 [arcV a,.pointer (some ⟨gs,0,none⟩),.pointer (some ⟨gt,0,none⟩)] w λv K=>v=.bool (decide (a.1=s/\a.2.1=t))/\K=H:=by
 refine Yc Tryz.func336 Tryz.ntmps336 rfl rfl hw ?_
 unfold arcV
 by_cases h:a.1=s/\a.2.1=t
 ·rw[Ti h]
  refine zX97 ?_<;>intros
  all_goals(apply Yl;exact zc13)
 ·rw[Tn h]
  repeat'(first|refine zgc ?_|(refine zge ?_ ?_<;>intro _<;>try exact zo)|(refine zgh ?_;intro _)|fail)
  all_goals(apply Yl;apply Yd;exact rfl;exact rfl;exact⟨rfl,rfl⟩)
def UN(s t:Int)(l:List Lk):List Lk:=l.filter λa=>!decide (a.1=s/\a.2.1=t)
theorem YaH(l:List Lk)(s t:Int)(hlen:l.length<=1000)(hr:Rd B w0 H A (l.flatMap lkF))(hw:St B w0 H w):
 CX B w0 307 [.slice A l.length cap,.int .i64 s,.int .i64 t] w λv K=>∃A' cap',v=.slice A' (UN s t l).length cap'/\K=Jx A' cap' (UN s t l)::H:=by
 refine Yc Tryz.func307 Tryz.ntmps307 rfl rfl hw ?_
 repeat'(first|refine zga ?_|(refine zgh ?_;intro _)|fail)
 rename_i g1 g2
 apply Yf _ Yfh
 exact za
 exact rfl
 exactλ_ hw=>(X9 l hlen (hr.cons.cons) (hw))
 rintro _ _ ⟨A',cap',rfl,rfl⟩
 repeat'(first|(apply zg29;(apply Yp;exact za;exact rfl))|fail)
 apply Yf _ Yfg
 exact za
 exact rfl
 exactλ_ hw=>(Za (λa=>decide (a.1=s/\a.2.1=t)) l 336 [.pointer (some ⟨g1,0,none⟩),.pointer (some ⟨g2,0,none⟩)] Ywy hlen (λa _ X w hw=>YeR s t g1 g2 a (TS _ zm) (TS _ zm) hw) (hw))
 rintro _ _ ⟨rfl,rfl⟩
 repeat'(first|refine zga ?_|fail)
 apply Yi (Jx A' cap' (UN s t l)::H)
 ·exactλw hw=>hw.perm (.cons _ (.dropK (.drop _ _)))
 apply Yd;exact rfl;exact rfl
 exact⟨A',cap',rfl,rfl⟩
end Go.Proofs.YtambgjgljcadlaaGreatDoor
namespace Go.Eng
open Go.RowKit
variable {B:Nat}{w0:World}{H:List HP}
theorem Rd.manyT{K:List HP}{A:Option Addr}{xs:List Value}(h:Rd B w0 H A xs)(hm:Eng.many H∈K):Rd B w0 K A xs:=h.mono λw hw=>by
 obtain⟨S1,h1,h2⟩:=Yg8 hm hw.sep
 exact⟨hw.below,hw.le,V4 h2 h1⟩
end Go.Eng
namespace Go.Proofs.YtambgjgljcadlaaGreatDoor
open Go.RowKit Go.Eng Go.Nw Go.Rt
def Js(pre:List Int)(v:Int):Bool:=decide (v∈pre.drop 1)
def W3(pre:List Int)(to v:Int):Bool:=!decide (v=to)&&Js pre v
def Qo(pre:List Int):Int:=pre.getD 0 0
def YbG(pre:List Int):Int:=pre.getD (pre.length-1) 0
def Qq(l:List Lk)(pre:List Int)(to:Int):List Lk:=(if pre.length=2 then UN (Qo pre) to l else l).filter λa=>!(W3 pre to a.1||W3 pre to a.2.1)
def badB(pre:List Int)(a:Lk):Bool:=Js pre a.2.1||(Js pre a.1&&decide (a.1≠YbG pre))||decide (a.2.1=Qo pre)
def Ox(l:List Lk)(pre:List Int):List Lk:=l.filter λa=>!badB pre a
noncomputable def Qs(fuel nodes:Nat)(l:List Lk)(pre:List Int)(to:Int):Option (Int×Bool):=
 if YbG pre=to then some (Yh (Z7 nodes (Qq l pre to) to) (Qo pre),decide (Yh (Z7 nodes (Qq l pre to) to) (Qo pre)<YR))
 else match V9 fuel nodes (Ox l pre) (YbG pre) (Qo pre) to (Js pre)with
  |none=>none
  |some r=>some (r.1,r.2.1)
variable {l:List Lk}
theorem ArcsOk.sub{nodes:Nat}{m:List Lk}(h:ArcsOk nodes l)(hm:∀a∈m,a∈l):ArcsOk nodes m:=λa ha=>h a (hm a ha)
theorem YnQ{pre:List Int}{to:Int}{a:Lk}(h:a∈Qq l pre to):a∈l:=Yuv
theorem YnP(l:List Lk)(pre:List Int)(to:Int):(Qq l pre to).length<=l.length:=by
 unfold Qq
 exact Yuu
theorem YnR(l:List Lk)(pre:List Int):(Ox l pre).length<=l.length:=RZ _ _
variable {B:Nat}{w0 w:World}{H:List HP}
theorem YdW(gm gc clock:Nat)(es:Ents)(f:Int->Bool)(a:Lk)(hf:MB es f)(hm:blk gm (mobj es clock)∈H)(hc:blk gc (.cells #[.map (some gm)] 417 (0,0))∈H)(hw:St B w0 H w):
 CX B w0 334 [arcV a,.pointer (some ⟨gc,0,none⟩)] w λv K=>v=.bool (f a.1||f a.2.1)/\K=H:=by
 refine Yc Tryz.func334 Tryz.ntmps334 rfl rfl hw ?_
 unfold arcV
 obtain⟨b1,h1⟩:∃b,f a.1=b:=⟨_,rfl⟩
 obtain⟨b2,h2⟩:∃b,f a.2.1=b:=⟨_,rfl⟩
 rw[h1,h2]
 cases b1
 ·skip
  refine Yuk ?_<;>intros
  apply Yl;exact zc13
 ·skip
  refine Yuk ?_<;>intros
  apply Yl;exact zc13
theorem YkV(gm gc ga gf clock:Nat)(es:Ents)(f:Int->Bool)(s t:Int)(a:Lk)(hf:MB es f)(hm:blk gm (mobj es clock)∈H)(hc:blk gc (.cells #[.map (some gm)] 417 (0,0))∈H)(ha:blk ga (.cells #[.int .i64 t] 3 (0,0))∈H)(hs:blk gf (.cells #[.int .i64 s] 3 (0,0))∈H)(hw:St B w0 H w):
 CX B w0 335 [arcV a,.pointer (some ⟨gc,0,none⟩),.pointer (some ⟨ga,0,none⟩),.pointer (some ⟨gf,0,none⟩)] w λv K=>v=.bool (f a.2.1||(f a.1&&decide (a.1≠t))||decide (a.2.1=s))/\K=H:=by
 refine Yc Tryz.func335 Tryz.ntmps335 rfl rfl hw ?_
 unfold arcV
 obtain⟨b1,h1⟩:∃b,f a.1=b:=⟨_,rfl⟩
 obtain⟨b2,h2⟩:∃b,f a.2.1=b:=⟨_,rfl⟩
 rw[h1,h2]
 by_cases e1:a.1=t<;>by_cases e2:a.2.1=s
 ·rw[Ti e2,Tn (λh=>h e1)]
  exact zc6
 ·rw[Tn e2,Tn (λh=>h e1)]
  exact zc6
 ·rw[Ti e2,Ti (p:=a.1≠t) e1]
  exact zc6
 ·rw[Tn e2,Ti (p:=a.1≠t) e1]
  exact zc6
structure Pz where
 ga:Nat
 gf:Nat
structure Qz where
 k:Nat
 es:Ents
 c:Nat
 f:Int->Bool
def OE(l:List Lk)(pre:List Int)(to:Int):List Lk:=if pre.length=2 then UN (Qo pre) to l else l
theorem Yod(nodes:Nat)(l:List Lk)(pre:List Int)(to:Int)(fuel:Nat)(s:Int×Bool)(hn:1<=nodes/\nodes<=40)(hl:l.length<=900)(hok:ArcsOk nodes l)(hpl:2<=pre.length/\pre.length<=1000)(hpi:∀v∈pre,0<=v/\v<nodes)(hto:0<=to/\to<nodes)(hfu:fuel<=100000)(hrun:Qs fuel nodes l pre to=some s)
 {AL AP:Option Addr}{capL capP B:Nat}{w0:World}{H:List HP}{w:World}(hr:Rd B w0 H AL (l.flatMap lkF)) (hp:Rd B w0 H AP (pre.flatMap numF)) (hcap:pre.length<=capP) (hw:St B w0 H w):
 CX B w0 306 [.int .i64 nodes,.slice AL l.length capL,.slice AP pre.length capP,.int .i64 to] w λv K=>v=.tuple #[.int .i64 s.1,.bool s.2]/\(-600000000000000<=s.1/\s.1<=3000000000)/\K=H:=by
 refine Yc Tryz.func306 Tryz.ntmps306 rfl rfl hw ?_
 have hg0:pre[0]? =some (Qo pre):=Zc (by omega)
 have hg1:pre[((pre.length:Int)-1).toNat]? =some (YbG pre):=by
  rw[show((pre.length:Int)-1).toNat=pre.length-1 by omega];exact Zc (by omega)
 have hfr:=hpi _ (Tf hg0)
 have har:=hpi _ (Tf hg1)
 obtain⟨fr,hfe⟩:∃x,Qo pre=x:=⟨_,rfl⟩
 obtain⟨at_,hae⟩:∃x,YbG pre=x:=⟨_,rfl⟩
 rw[hfe]at hg0 hfr
 rw[hae]at hg1 har
 iterate 7 (first|refine zga ?_|fail)
 refine Xf (many H::[]) (λw hw=>hw.perm (.closeT _)) ?_
 have hpT:Rd B w0 [many H] AP (pre.flatMap numF):=hp.manyT TB
 refine ZV (λ(z:Pz)=>[(11,.pointer (some ⟨z.ga,0,none⟩)),(10,.pointer (some ⟨z.gf,0,none⟩)),(0,.int .i64 nodes),(1,.slice AL l.length capL),(2,.slice AP pre.length capP),(3,.int .i64 to)]) (λz=>blk z.gf (.cells #[.int .i64 fr] 3 (0,0))::blk z.ga (.cells #[.int .i64 at_] 3 (0,0))::H) ?_ ?_
 ·intro K hK
  apply Up (.n1 0 (.n1 1 (.n1 2 (.n1 3 (.n1 4 (.n1 5 (.n1 6 (.n1 7 (.n1 8 (.n2 9 (.n1 10 (.n1 11 .done)) 10 (.n1 9 (.n1 11 .done)))))))))))) [12] [true]
  kernel_rfl
  kernel_rfl
  exact zy
  (simp only[Yg,nthO];rfl)
  repeat'(first|(apply Yk;try exact zl)|apply(zs91 ?_ ?_)|(apply Xa;try exact zl)|refine zgd ?_|(refine zgh ?_;intro _)|fail)
  ·rename_i gf ga
   refine hK ⟨ga,gf⟩ _ _ ?_ ?_
   ·exact zc1
   ·dsimp only
    intro w hw
    have h5:St B w0 (blk gf (.cells #[.int .i64 fr] 3 (0,0))::blk ga (.cells #[.int .i64 at_] 3 (0,0))::[many H]) w:=by
     revert w
     exact zc0
    exact h5.perm (.cons _ (.cons _ (.openT _)))
  ·rename_i ga gf
   refine hK ⟨ga,gf⟩ _ _ ?_ ?_
   ·exact zc1
   ·dsimp only
    intro w hw
    have h5:St B w0 (blk gf (.cells #[.int .i64 fr] 3 (0,0))::blk ga (.cells #[.int .i64 at_] 3 (0,0))::[many H]) w:=by
     revert w
     exact zc0
    exact h5.perm (.cons _ (.cons _ (.openT _)))
 rintro⟨ga,gf⟩
 dsimp only
 have hdl:(pre.drop 1).length=pre.length-1:=TZ
 repeat'(first|(apply Ycw;exact rfl;intro gm)|(apply Jn T (n':=(pre.drop 1).length);(iterate 4 exact rfl);omega;(rw[hdl];rfl))|refine zgd ?_|(refine zgh ?_;intro _)|fail)
 rename_i gc
 refine Yj (λ(z:Qz)=>[(34,.int .i64 z.k),(33,.int .i64 (pre.drop 1).length),(32,.slice (subA AP 1 capP 1) (pre.drop 1).length (capP-1)),(12,.pointer (some ⟨gc,0,none⟩)),(11,.pointer (some ⟨ga,0,none⟩)),(10,.pointer (some ⟨gf,0,none⟩)),(0,.int .i64 nodes),(1,.slice AL l.length capL),(2,.slice AP pre.length capP),(3,.int .i64 to)]) (λz=>blk gc (.cells #[.map (some gm)] 417 (0,0))::blk gm (mobj z.es z.c)::blk gf (.cells #[.int .i64 fr] 3 (0,0))::blk ga (.cells #[.int .i64 at_] 3 (0,0))::H)
  (λz=>z.k<=(pre.drop 1).length/\MB z.es z.f/\MOk z.es z.c/\∀v,z.f v=decide (v∈(pre.drop 1).take z.k)) (λz=>(pre.drop 1).length-z.k) ⟨0,[],0,λ_=>false⟩ ⟨Tj _,MB.nil,MOk.nil,λv=>by simp⟩ ?_ zc0 ?_
 ·exact zc1
 rintro⟨k,es,c,f⟩ ⟨hk,hmb,hmk,hf⟩ K hK
 simp only at hk hmb hmk hf⊢
 have hp1:∀{X1 X2 X3 X4:HP},Rd B w0 (X1::X2::X3::X4::H) (subA AP 1 capP 1) ((pre.drop 1).flatMap numF):=Yug 1 (hp.cons.cons.cons.cons) hcap
 by_cases hlt:k<(pre.drop 1).length
 ·obtain⟨v,hv⟩:∃v,(pre.drop 1)[k]? =some v:=⟨_,Ta hlt⟩
  have hp1':=@hp1
  repeat'(first|(apply Zi T (f:=numF) (l:=pre.drop 1);exact rfl;exact rfl;exact hp1;exact rfl;exactλ_=>rfl;exact rfl;exact rfl;omega)|(apply Jm T (f:=numF) (l:=pre.drop 1);exact rfl;exact hp1;exact hv;exactλ_=>rfl;(iterate 4 exact rfl))|(apply Yls (kt:=3) (et:=4);(iterate 3 exact rfl);kernel_rfl;(intro _ _;exact zd);exact hmb;exact hmk;intro es2 c2 m2 o2 _ _)|refine zgc ?_|(refine zge ?_ ?_<;>intro _<;>try exact zo)|fail)
  apply hK ⟨k+1,es2,c2,λu=>decide (u=v)||f u⟩
  ·refine⟨by exact zc29,m2,o2,λu=>?_⟩
   simp only
   rw[hf u,TM,hv]
   by_cases h1:u=v<;>by_cases h2:u∈(pre.drop 1).take k<;>simp[h1]
  ·exact zc29
  ·exact zc1
  exact zc19
 obtain rfl:k=(pre.drop 1).length:=by omega
 clear hK
 rw[TQ]at hf
 have hmb2:MB es (Js pre):=hmb.ext hf
 clear hmb hf hp1
 unfold Qs at hrun
 rw[hfe,hae]at hrun
 by_cases hat:at_=to
 ·rw[Tm hat]at hrun
  have hin:to∈pre.drop 1:=by
   have h1:(pre.drop 1)[pre.length-2]? =some to:=by
    rw[RX,show 1+(pre.length-2)=((pre.length:Int)-1).toNat by omega,<-hat];exact hg1
   exact Tf h1
  have hsto:Js pre to=true:=Ti hin
  have hll:(OE l pre to).length<=l.length:=by
   unfold OE
   exact YuN
  have hla:Qq l pre to=(OE l pre to).filter λa=>!(W3 pre to a.1||W3 pre to a.2.1):=rfl
  have hAl:=YnP l pre to
  have hAok:ArcsOk nodes (Qq l pre to):=ArcsOk.sub hok λa h=>YnQ h
  have hnn:YR=1073741824:=rfl
  by_cases h2:pre.length=2
  ·skip
   repeat'(first|(apply Ylp (kt:=3) (et:=4);exact rfl;exact rfl;kernel_rfl;(intro _;exact zd);exact hmb2;exact hmk;exact hsto;intro es3 mb3 mk3)|refine zgc ?_|(refine zge ?_ ?_<;>intro _<;>try exact zo)|fail)
   have hrl:Rd B w0 (blk gc (.cells #[.map (some gm)] 417 (0,0))::blk gm (mobj es3 c)::blk gf (.cells #[.int .i64 fr] 3 (0,0))::blk ga (.cells #[.int .i64 at_] 3 (0,0))::H) AL (l.flatMap lkF):=hr.cons.cons.cons.cons
   have hlst:OE l pre to=UN fr to l:=by unfold OE;rw[Tm h2,hfe]
   apply Yf _ Yt1
   exact za
   exact rfl
   exactλ_ hw=>(YaH l fr to (by omega) hrl (hw))
   rintro _ _ ⟨A1,cap1,rfl,rfl⟩
   rw[<-hlst]
   refine zX4 ?_
   apply Yf _ Yfh
   exact za
   exact rfl
   exactλ_ hw=>(X9 (OE l pre to) (by omega) (.sl (by(focus exact zc2))) (hw))
   rintro _ _ ⟨A2,cap2,rfl,rfl⟩
   refine YfV ?_
   apply Yf _ Yfg
   exact za
   exact rfl
   exactλ_ hw=>(Za (λa=>W3 pre to a.1||W3 pre to a.2.1) (OE l pre to) 334 [.pointer (some ⟨gc,0,none⟩)] Yt7 (by omega) (λa _ X w hw=>YdW gm gc c es3 (W3 pre to) a mb3 (TS _ (by(focus exact zc2))) (TS _ (by(focus exact zc2))) hw) (hw))
   rintro _ _ ⟨rfl,rfl⟩
   rw[<-hla]
   refine zX4 ?_
   apply Yf _ YpI
   exact za
   exact rfl
   exactλ_ hw=>(Uc nodes (Qq l pre to) to hn.2 (by omega) hAok hto (.sl (by(focus exact zc2))) (hw))
   rintro _ _ ⟨gF,far,rfl,hd,rfl⟩
   rw[On hAok hd]at hrun
   obtain rfl:=Tv hrun
   have hflen:=hd.len
   have hgf:=XP (far:=far) (i:=fr) (by omega)
   have hrf:=hd.range fr hfr.1 hfr.2
   rw[hnn]at hrf
   rw[hnn]
   apply ZE (ints (some ⟨gF,0,none⟩) nodes far::blk gf (.cells #[.int .i64 fr] 3 (0,0))::H)
   ·exact zc0
   iterate 4 (first|refine zga ?_|fail)
   by_cases hlt:Yh far fr<1073741824
   ·rw[Ti hlt]
    exact zc4
   ·rw[Tn hlt]
    exact zc4
  ·skip
   repeat'(first|(apply Ylp (kt:=3) (et:=4);exact rfl;exact rfl;kernel_rfl;(intro _;exact zd);exact hmb2;exact hmk;exact hsto;intro es3 mb3 mk3)|refine zgc ?_|(refine zge ?_ ?_<;>intro _<;>try exact zo)|fail)
   have hrl:Rd B w0 (blk gc (.cells #[.map (some gm)] 417 (0,0))::blk gm (mobj es3 c)::blk gf (.cells #[.int .i64 fr] 3 (0,0))::blk ga (.cells #[.int .i64 at_] 3 (0,0))::H) AL (l.flatMap lkF):=hr.cons.cons.cons.cons
   have hlst:OE l pre to=l:=by unfold OE;rw[Td h2]
   rw[<-hlst]at hrl⊢
   apply Yf _ Yfh
   exact za
   exact rfl
   exactλ_ hw=>(X9 (OE l pre to) (by omega) hrl (hw))
   rintro _ _ ⟨A2,cap2,rfl,rfl⟩
   refine YfV ?_
   apply Yf _ Yfg
   exact za
   exact rfl
   exactλ_ hw=>(Za (λa=>W3 pre to a.1||W3 pre to a.2.1) (OE l pre to) 334 [.pointer (some ⟨gc,0,none⟩)] Yt7 (by omega) (λa _ X w hw=>YdW gm gc c es3 (W3 pre to) a mb3 (TS _ (by(focus exact zc2))) (TS _ (by(focus exact zc2))) hw) (hw))
   rintro _ _ ⟨rfl,rfl⟩
   rw[<-hla]
   refine zX4 ?_
   apply Yf _ YpI
   exact za
   exact rfl
   exactλ_ hw=>(Uc nodes (Qq l pre to) to hn.2 (by omega) hAok hto (.sl (by(focus exact zc2))) (hw))
   rintro _ _ ⟨gF,far,rfl,hd,rfl⟩
   rw[On hAok hd]at hrun
   obtain rfl:=Tv hrun
   have hflen:=hd.len
   have hgf:=XP (far:=far) (i:=fr) (by omega)
   have hrf:=hd.range fr hfr.1 hfr.2
   rw[hnn]at hrf
   rw[hnn]
   apply ZE (ints (some ⟨gF,0,none⟩) nodes far::blk gf (.cells #[.int .i64 fr] 3 (0,0))::H)
   ·exact zc0
   iterate 4 (first|refine zga ?_|fail)
   by_cases hlt:Yh far fr<1073741824
   ·rw[Ti hlt]
    exact zc4
   ·rw[Tn hlt]
    exact zc4
 ·rw[Td hat]at hrun
  have hbad:∀a,badB pre a=(Js pre a.2.1||(Js pre a.1&&decide (a.1≠at_))||decide (a.2.1=fr)):=λa=>by unfold badB;rw[hae,hfe]
  have hBl:=YnR l pre
  have hBok:ArcsOk nodes (Ox l pre):=ArcsOk.sub hok λa h=>(Ro.1 h).1
  have hlb:Ox l pre=l.filter λa=>!badB pre a:=rfl
  cases hbo:V9 fuel nodes (Ox l pre) at_ fr to (Js pre)with
  |none=>rw[hbo]at hrun;cases hrun
  |some r=>
   rw[hbo]at hrun
   obtain rfl:=Tv hrun
   have hrl:Rd B w0 (blk gc (.cells #[.map (some gm)] 417 (0,0))::blk gm (mobj es c)::blk gf (.cells #[.int .i64 fr] 3 (0,0))::blk ga (.cells #[.int .i64 at_] 3 (0,0))::H) AL (l.flatMap lkF):=hr.cons.cons.cons.cons
   refine zX1 ?_<;>intros
   apply Yf _ Yfh
   exact za
   exact rfl
   exactλ_ hw=>(X9 l (by omega) hrl (hw))
   rintro _ _ ⟨A2,cap2,rfl,rfl⟩
   refine YfV ?_
   apply Yf _ Yfg
   exact za
   exact rfl
   exactλ_ hw=>(Za (badB pre) l 335 [.pointer (some ⟨gc,0,none⟩),.pointer (some ⟨ga,0,none⟩),.pointer (some ⟨gf,0,none⟩)] Ywx (by omega) (λa _ X w hw=>by rw[hbad a];exact YkV gm gc ga gf c es (Js pre) fr at_ a hmb2 (TS _ (by(focus exact zc2))) (TS _ (by(focus exact zc2))) (TS _ (by(focus exact zc2))) (TS _ (by(focus exact zc2))) hw) (hw))
   rintro _ _ ⟨rfl,rfl⟩
   rw[<-hlb]
   refine zX7 ?_
   apply Yf _ Yt0
   exact za
   exact rfl
   exactλ_ hw=>(Ye2 nodes (Ox l pre) at_ fr to (some gm) (Js pre) fuel r (by omega) (by omega) hBok har hfr hto hfu hbo ⟨es,c,by(focus exact zc2),hmb2,hmk⟩ (.sl (by(focus exact zc2))) (hw))
   rintro _ _ ⟨g,A,cap,rfl,⟨_,_,b3,b4⟩,rfl⟩
   refine zX9 ?_
   apply Yi H
   ·unfold gpcs
    exactλw hw=>hw.tail.tail.tail.tail.tail.tail.tail
   apply Yx;(iterate 3 exact rfl)
   exact⟨rfl,⟨b3,b4⟩,rfl⟩
end Go.Proofs.YtambgjgljcadlaaGreatDoor
namespace Go.Eng
open Go.RowKit
variable {B cap:Nat}{w0:World}{H:List HP}{A:Option Addr}
theorem Wk{P:Program}{n:Shp}{ops:Array Oper}{Q:Exit->Act->World->Prop}{env:Env}{l:List Oper}{e size k:Nat}{xs:List Value}(hm:sl e size A k cap xs∈H)(h:k<=cap->VL P none n B w0 ops Q l env H):VL P none n B w0 ops Q l env H:=by
 refine⟨λa ha w hw=>?_⟩
 have hown:=hw.sl hm
 have hkc:k<=cap:=zc39
 exact(h hkc).run a ha w hw
end Go.Eng
namespace Go.Proofs.YtambgjgljcadlaaGreatDoor
open Go.RowKit Go.Eng Go.Nw Go.Rt
section
variable (fuel nodes:Nat) (L:List Lk) (to total:Int)
noncomputable def Wd(r:List Int)(spent at_:Int)(st:Int×Int)(a:Lk):Option (Int×Int):=
 if a.1≠at_\/a.2.1∈r\/(0<=st.1/\st.1<a.2.1)then some st else
  match Qs fuel nodes L (r++[a.2.1]) to with
  |none=>none
  |some s=>if s.2=true/\spent+a.2.2+s.1=total then some (a.2.1,a.2.2)else some st
noncomputable def JI(r:List Int)(spent at_:Int):List Lk->Int×Int->Option (Int×Int)
 |[],st=>some st
 |a::m,st=>match Wd fuel nodes L to total r spent at_ st a with
  |none=>none
  |some st2=>JI r spent at_ m st2
noncomputable def Vp:Nat->List Int->Int->Int->Option (List Int)
 |0,_,_,_=>none
 |k+1,r,spent,at_=>if at_=to then some r else
  match JI fuel nodes L to total r spent at_ L (-1,0)with
  |none=>none
  |some st=>if st.1<0 then none else Vp k (r++[st.1]) (spent+st.2) st.1
end
def midP(r:List Int):List Int:=(r.drop 1).take (r.length-2)
def UC(l:List Lk)(s to:Int)(r:List Int):List Lk:=(if r.length=2 then UN s to l else l).filter λa=>!(decide (a.1∈midP r)||decide (a.2.1∈midP r))
noncomputable def Ja(nodes:Nat)(l:List Lk)(s to:Int)(r:List Int):List Int:=wayF (UC l s to r) (Z7 nodes (UC l s to r) to) s to
noncomputable def OI(fuel nodes:Nat)(L:List Lk)(s to:Int):Option (Option (List Int×List Int)):=
 match V9 fuel nodes L s s to (λ_=>false)with
 |none=>none
 |some r=>if r.2.1=false then some none else
  match Vp fuel nodes L to r.1 400 [s] 0 s with
  |none=>none
  |some p=>some (some (p,Ja nodes L s to p))
theorem YnT{l:List Lk}{s to:Int}{r:List Int}{a:Lk}(h:a∈UC l s to r):a∈l:=Yuv
theorem YnS(l:List Lk)(s to:Int)(r:List Int):(UC l s to r).length<=l.length:=by
 unfold UC
 exact Yuu
variable {A:Option Addr}{cap B:Nat}{w0:World}{H:List HP}
theorem YdN(gi:Nat)(m:List Int)(a:Lk)(hlen:m.length<=1000){w:World}(hi:blk gi (.cells #[.slice A m.length cap] 64 (0,0))∈H)(hr:Rd B w0 H A (m.flatMap numF))(hw:St B w0 H w):
 CX B w0 310 [arcV a,.pointer (some ⟨gi,0,none⟩)] w λv K=>v=.bool (decide (a.1∈m)||decide (a.2.1∈m))/\K=H:=by
 refine Yc Tryz.func310 Tryz.ntmps310 rfl rfl hw ?_
 unfold arcV
 have h1:=λ{X:HP}{w:World}(hw:St B w0 (X::H) w)=>Jy m a.1 (by omega) (cap:=cap) (hr.cons (X:=X)) hw
 have h2:=λ{X:HP}{w:World}(hw:St B w0 (X::H) w)=>Jy m a.2.1 (by omega) (cap:=cap) (hr.cons (X:=X)) hw
 obtain⟨b1,hb1⟩:∃b,decide (a.1∈m)=b:=⟨_,rfl⟩
 obtain⟨b2,hb2⟩:∃b,decide (a.2.1∈m)=b:=⟨_,rfl⟩
 rw[hb1]at h1
 rw[hb2]at h2
 rw[hb1,hb2]
 cases b1
 ·skip
  refine zX68 ?_<;>intros
  first|apply Ya Ux|apply Yb Ux
  exact za
  exact rfl
  exactλ_ hw=>(h1 hw)
  refine zX9 ?_
  first|apply Ya Ux|apply Yb Ux
  exact za
  exact rfl
  exactλ_ hw=>(h2 hw)
  refine zX9 ?_
  apply Yl;exact zc13
 ·skip
  refine zX68 ?_<;>intros
  first|apply Ya Ux|apply Yb Ux
  exact za
  exact rfl
  exactλ_ hw=>(h1 hw)
  refine zX9 ?_
  apply Yl;exact zc13
structure Oz where
 k:Nat
 r:List Int
 A:Option Addr
 cap:Nat
 spent:Int
 at_:Int
structure OzOk(fuel nodes:Nat)(L:List Lk)(s to total:Int)(p:List Int)(z:Oz):Prop where
 run:Vp fuel nodes L to total z.k z.r z.spent z.at_=some p
 len:1<=z.r.length/\z.r.length+z.k<=401
 mem:∀v∈z.r,0<=v/\v<nodes
 sp:0<=z.spent/\z.spent<=1000000*(z.r.length:Int)
 one:z.r.length=1->z.at_=s
structure Iz where
 j:Nat
 best:Int
 price:Int
theorem Yp2(A:Option Addr)(cap:Nat)(r:List Int)(x:Int):sl 3 1 A (r.length+1) cap (r.flatMap numF++#[Value.int .i64 x].toList)=ints A cap (r++[x]):=by simp_all [ints,numF]
theorem Yn8(n:NetM)(s to:Int)(nodes fuel:Nat)(res:Option (List Int×List Int))(hck:Yo n.net=0)(hnn:n.nodes=nodes)(hs:0<=s/\s<nodes)(ht:0<=to/\to<nodes)(hst:s≠to)(hfu:fuel<=100000)(hrun:OI fuel nodes (YY n.net) s to=some res)
 {B:Nat}{w0:World}{H:List HP}{w:World}(hin:n.In B w0 H) (hw:St B w0 H w):
 CX B w0 273 [n.val,.int .i64 s,.int .i64 to] w λv K=>match res with
  |none=>v=.slice none 0 0/\K=H
  |some pq=>∃g A1 c1 A2 c2,v=.slice (some ⟨g,0,none⟩) 2 2/\(2<=pq.1.length/\pq.1.length<=401/\pq.2.length<=1073741824)/\WayV A2 pq.2/\K=sl 64 1 (some ⟨g,0,none⟩) 2 2 ([⟨A1,c1,pq.1⟩,⟨A2,c2,pq.2⟩].flatMap rowF)::ints A1 c1 pq.1::ints A2 c2 pq.2::H:=by
 have hok:=YN hck
 have hn0:=hok.n0
 have hn1:=hok.n1
 have hnn2:n.net.nodes=n.nodes:=rfl
 have hal:(YY n.net).length<=128:=Rh (Wq _ _) hok.k0
 have hLo:=Ylx hok (nodes:=nodes) hnn
 obtain⟨L,hL⟩:∃L,YY n.net=L:=⟨_,rfl⟩
 have hspecA:=λ{H:List HP}{w:World}(hin:n.In B w0 H) (hw:St B w0 H w)=>Ye0 n hin hck hw
 rw[hL]at hal hLo hrun hspecA
 have hno:YR=1073741824:=rfl
 refine Yc Tryz.func273 Tryz.ntmps273 rfl rfl hw ?_
 (apply Xi;apply YU;apply YB;exact rfl;exact rfl;intro g)
 refine zX7 ?_
 apply Yf _ YtT
 exact za
 exact rfl
 exactλ_ hw=>(hspecA hin.cons (hw))
 rintro _ _ ⟨A,cap,rfl,rfl⟩
 unfold OI at hrun
 cases hbo:V9 fuel nodes L s s to (λ_=>false)with
 |none=>rw[hbo]at hrun;cases hrun
 |some r0=>
  rw[hbo]at hrun
  obtain⟨total,ok,es0⟩:=r0
  dsimp only at hrun
  have hboth:=λ{H:List HP}{w:World}(hr:Rd B w0 H A (L.flatMap lkF)) (hw:St B w0 H w)=>Ye2 nodes L s s to none (λ_=>false) fuel (total,ok,es0) (capL:=cap) (by omega) (by omega) hLo hs hs ht hfu hbo (λ_=>rfl) hr hw
  rw[<-hnn]at hboth
  refine zX7 ?_
  apply Yf _ Yt0
  exact za
  exact rfl
  exactλ_ hw=>(hboth (.sl (by(focus exact zc2))) (hw))
  rintro _ _ ⟨g0,A0,cap0,rfl,⟨_,_,b3,b4⟩,rfl⟩
  dsimp only at b3 b4⊢
  apply ZE (Jx A cap L::netB g n::H)
  ·unfold gpcs
   exactλw hw=>hw.tail.tail
  cases ok with
  |false=>
   rw[Tm rfl]at hrun
   obtain rfl:=Tv hrun
   refine zX2 ?_
   apply Yi H
   ·exactλw hw=>hw.tail.tail
   apply Yd;exact rfl;exact rfl
   exact YaI
  |true=>
   rw[Td (by decide)]at hrun
   cases hlo:Vp fuel nodes L to total 400 [s] 0 s with
   |none=>rw[hlo]at hrun;cases hrun
   |some p=>
    rw[hlo]at hrun
    obtain rfl:=Tv hrun
    dsimp only
    refine zX23 ?_<;>intros
    rename_i g1
    refine Yj (λ(z:Oz)=>[(13,.int .i64 z.at_),(12,.int .i64 z.spent),(11,.slice z.A z.r.length z.cap),(8,.int .i64 total),(7,.slice A L.length cap),(3,.pointer (some ⟨g,0,none⟩)),(1,.int .i64 s),(2,.int .i64 to)]) (λz=>ints z.A z.cap z.r::Jx A cap L::netB g n::H) (λz=>OzOk fuel nodes L s to total p z) (λz=>z.k) ⟨400,[s],some ⟨g1,0,none⟩,1,0,s⟩ ⟨hlo,by simp,λv hv=>by obtain rfl:=TU.1 hv;exact hs,by simp,λ_=>rfl⟩ ?_ (λw hw=>hw.blk_sl (cs:=numF s) (len:=1) (size:=1) rfl (by omega)) ?_
    ·exact zc1
    rintro⟨k,r,Ar,capr,spent,at_⟩ ⟨hrun2,⟨hl1,hl2⟩,hmem,⟨hsp0,hsp1⟩,hone⟩ K hK
    simp only at hrun2 hl1 hl2 hmem hsp0 hsp1 hone⊢
    cases k with
    |zero=>cases hrun2
    |succ k=>
     unfold Vp at hrun2
     by_cases hat:at_=to
     ·rw[Tm hat]at hrun2
      obtain rfl:=Tv hrun2
      have hr2:2<=r.length:=by
       rcases Nc 1 r.length with h|h
       ·exact h
       ·have:=hone (by omega)
        exact absurd (this.symm.trans hat) hst
      clear hK
      have hml:(midP r).length=r.length-2:=by unfold midP;rw[TA,TZ];omega
      have hPl:=YnS L s to r
      have hPok:ArcsOk nodes (UC L s to r):=ArcsOk.sub hLo λa h=>YnT h
      obtain⟨LL,hLL⟩:∃LL,(if r.length=2 then UN s to L else L)=LL:=⟨_,rfl⟩
      have hLLl:LL.length<=L.length:=by
       rw[<-hLL]
       exact YuN
      have hlp:UC L s to r=LL.filter λa=>!(decide (a.1∈midP r)||decide (a.2.1∈midP r)):=by rw[<-hLL];rfl
      have hfirst:=λ{A:Option Addr}{cap:Nat}{H:List HP}{w:World}(hr:Rd B w0 H A ((UC L s to r).flatMap lkF)) (hw:St B w0 H w)=>Ydd nodes (UC L s to r) s to (capL:=cap) (by omega) (by omega) hPok hs ht hr hw
      rw[<-hnn]at hfirst
      by_cases h2:r.length=2
      ·skip
       rw[Tm h2]at hLL
       refine zX1 ?_<;>intros
       apply Yf _ Yt1
       exact za
       exact rfl
       exactλ_ hw=>(YaH L s to (by omega) (.sl (by(focus exact zc2))) (hw))
       rintro _ _ ⟨A1,cap1,rfl,rfl⟩
       rw[hLL]
       refine zX2 ?_
       refine Wk (e:=3) (size:=1) (k:=r.length) (cap:=capr) (A:=Ar) (xs:=r.flatMap numF) (by(focus exact zc2)) λhcapr=>?_
       apply Oc T (n':=(midP r).length);(iterate 5 exact rfl);omega;omega
       rw[Int.toNat_one]
       refine zX23 ?_<;>intros
       rename_i gi
       have hmid:∀{HH:List HP},Rd B w0 HH Ar (r.flatMap numF)->Rd B w0 HH (subA Ar 1 capr 1) ((midP r).flatMap numF):=λh=>Rd.sub (f:=numF) (q:=1) (o:=1) (k:=r.length-2) (λ_=>rfl) h hcapr
       apply Yf _ Yfh
       exact za
       exact rfl
       exactλ_ hw=>(X9 LL (by omega) (.sl (by(focus exact zc2))) (hw))
       rintro _ _ ⟨A2,cap2,rfl,rfl⟩
       refine YfV ?_
       apply Yf _ Yfg
       exact za
       exact rfl
       exactλ_ hw=>(Za (λa=>decide (a.1∈midP r)||decide (a.2.1∈midP r)) LL 310 [.pointer (some ⟨gi,0,none⟩)] Yt2 (by omega) (λa _ X w hw=>YdN gi (midP r) a (by omega) (TS _ (by(focus exact zc2))) (hmid (.sl (TS _ (by(focus exact zc2))))) hw) (hw))
       rintro _ _ ⟨rfl,rfl⟩
       rw[<-hlp]
       refine zX7 ?_
       apply Yf _ YpH
       exact za
       exact rfl
       exactλ_ hw=>(hfirst (.sl (by(focus exact zc2))) (hw))
       rintro _ _ ⟨A9,cap9,rfl,hway,hdl,hdd,rfl⟩
       have hop:wayF (UC L s to r) (Z7 nodes (UC L s to r) to) s to=Ja nodes L s to r:=rfl
       rw[hop]at hway⊢
       have hq:(Ja nodes L s to r).length<=1073741824:=Yhg _ _ _ _
       refine zX14 ?_<;>intros
       rename_i gL
       apply Yi (sl 64 1 (some ⟨gL,0,none⟩) 2 2 ([⟨Ar,capr,r⟩,⟨A9,cap9,Ja nodes L s to r⟩].flatMap rowF)::ints Ar capr r::ints A9 cap9 (Ja nodes L s to r)::H)
       ·intro w hw
        have h5:St B w0 (blk gL (.cells #[.slice Ar r.length capr,.slice A9 (Ja nodes L s to r).length cap9] 64 (0,0))::ints Ar capr r::ints A9 cap9 (Ja nodes L s to r)::H) w:=by
         revert w
         exact zc0
        exact zc77
       apply Yd;exact rfl;exact rfl
       exact YuC
      ·skip
       rw[Td h2]at hLL
       rw[hLL]
       refine zX0 ?_<;>intros
       refine Wk (e:=3) (size:=1) (k:=r.length) (cap:=capr) (A:=Ar) (xs:=r.flatMap numF) (by(focus exact zc2)) λhcapr=>?_
       apply Oc T (n':=(midP r).length);(iterate 5 exact rfl);omega;omega
       rw[Int.toNat_one]
       refine zX23 ?_<;>intros
       rename_i gi
       have hmid:∀{HH:List HP},Rd B w0 HH Ar (r.flatMap numF)->Rd B w0 HH (subA Ar 1 capr 1) ((midP r).flatMap numF):=λh=>Rd.sub (f:=numF) (q:=1) (o:=1) (k:=r.length-2) (λ_=>rfl) h hcapr
       apply Yf _ Yfh
       exact za
       exact rfl
       exactλ_ hw=>(X9 LL (by omega) (.sl (by(focus exact zc2))) (hw))
       rintro _ _ ⟨A2,cap2,rfl,rfl⟩
       refine YfV ?_
       apply Yf _ Yfg
       exact za
       exact rfl
       exactλ_ hw=>(Za (λa=>decide (a.1∈midP r)||decide (a.2.1∈midP r)) LL 310 [.pointer (some ⟨gi,0,none⟩)] Yt2 (by omega) (λa _ X w hw=>YdN gi (midP r) a (by omega) (TS _ (by(focus exact zc2))) (hmid (.sl (TS _ (by(focus exact zc2))))) hw) (hw))
       rintro _ _ ⟨rfl,rfl⟩
       rw[<-hlp]
       refine zX7 ?_
       apply Yf _ YpH
       exact za
       exact rfl
       exactλ_ hw=>(hfirst (.sl (by(focus exact zc2))) (hw))
       rintro _ _ ⟨A9,cap9,rfl,hway,hdl,hdd,rfl⟩
       have hop:wayF (UC L s to r) (Z7 nodes (UC L s to r) to) s to=Ja nodes L s to r:=rfl
       rw[hop]at hway⊢
       have hq:(Ja nodes L s to r).length<=1073741824:=Yhg _ _ _ _
       refine zX14 ?_<;>intros
       rename_i gL
       apply Yi (sl 64 1 (some ⟨gL,0,none⟩) 2 2 ([⟨Ar,capr,r⟩,⟨A9,cap9,Ja nodes L s to r⟩].flatMap rowF)::ints Ar capr r::ints A9 cap9 (Ja nodes L s to r)::H)
       ·intro w hw
        have h5:St B w0 (blk gL (.cells #[.slice Ar r.length capr,.slice A9 (Ja nodes L s to r).length cap9] 64 (0,0))::ints Ar capr r::ints A9 cap9 (Ja nodes L s to r)::H) w:=by
         revert w
         exact zc0
        exact zc77
       apply Yd;exact rfl;exact rfl
       rw[<-hLL]
       exact YuC
     ·rw[Td hat]at hrun2
      cases hsc:JI fuel nodes L to total r spent at_ L (-1,0)with
      |none=>rw[hsc]at hrun2;cases hrun2
      |some bp=>
       rw[hsc]at hrun2
       obtain⟨bf,pf⟩:=bp
       dsimp only at hrun2
       refine zX3 ?_<;>intros
       refine Yj (λ(z:Iz)=>[(45,.int .i64 z.j),(44,.int .i64 L.length),(43,.slice A L.length cap),(15,.int .i64 z.price),(14,.int .i64 z.best),(13,.int .i64 at_),(12,.int .i64 spent),(11,.slice Ar r.length capr),(8,.int .i64 total),(7,.slice A L.length cap),(3,.pointer (some ⟨g,0,none⟩)),(1,.int .i64 s),(2,.int .i64 to)]) (λ_=>ints Ar capr r::Jx A cap L::netB g n::H) (λz=>z.j<=L.length/\JI fuel nodes L to total r spent at_ (L.drop z.j) (z.best,z.price)=some (bf,pf)/\(z.best= -1\/(0<=z.best/\z.best<nodes))/\(0<=z.price/\z.price<=1000000)) (λz=>L.length-z.j) ⟨0,-1,0⟩ ⟨Tj _,hsc,.inl rfl,by exact zc29⟩ ?_ (λw hw=>hw) ?_
       ·exact zc1
       rintro⟨j,best,price⟩ ⟨hj,hsc2,hbest,⟨hpr0,hpr1⟩⟩ K2 hK2
       simp only at hj hsc2 hbest hpr0 hpr1⊢
       by_cases hlt:j<L.length
       ·obtain⟨a,ha⟩:∃a,L[j]? =some a:=⟨_,Ta hlt⟩
        obtain⟨⟨a1,a2⟩,⟨a3,a4⟩,⟨a5,a6⟩⟩:=hLo a (Tf ha)
        have hdrop:L.drop j=a::L.drop (j+1):=Yur
        rw[hdrop]at hsc2
        unfold JI Wd at hsc2
        have hcon:=λ{X:HP}{w:World}(hw:St B w0 (X::ints Ar capr r::Jx A cap L::netB g n::H) w)=>Jy r a.2.1 (by omega) (cap:=capr) (.sl (Tz _ TB)) hw
        by_cases h1:a.1=at_
        rotate_left
        ·rw[Tm (.inl h1)]at hsc2
         refine zX43 ?_<;>intros
         apply hK2 ⟨j+1,best,price⟩
         ·exact⟨by exact zc29,hsc2,hbest,hpr0,hpr1⟩
         ·exact zc29
         ·exact zc1
         ·exact zc49
        by_cases h2:a.2.1∈r
        ·rw[Tm (.inr (.inl h2))]at hsc2
         rw[Ti h2]at hcon
         repeat'(first|((first|apply Ya Ux|apply Yb Ux);exact za;exact rfl;exactλ_ hw=>(hcon hw))|refine zgd ?_|(refine zge ?_ ?_<;>intro _<;>try exact zo)|(refine zgh ?_;intro _)|fail)
         apply hK2 ⟨j+1,best,price⟩
         ·exact⟨by exact zc29,hsc2,hbest,hpr0,hpr1⟩
         ·exact zc29
         ·exact zc1
         ·exact zc49
        rw[Tn h2]at hcon
        by_cases h3:0<=best/\best<a.2.1
        ·rw[Tm (.inr (.inr h3))]at hsc2
         repeat'(first|((first|apply Ya Ux|apply Yb Ux);exact za;exact rfl;exactλ_ hw=>(hcon hw))|refine zgd ?_|(refine zgf ?_ ?_<;>intro _<;>try exact zo)|(refine zgh ?_;intro _)|fail)
         apply hK2 ⟨j+1,best,price⟩
         ·exact⟨by exact zc29,hsc2,hbest,hpr0,hpr1⟩
         ·exact zc29
         ·exact zc1
         ·exact zc49
        rw[Td (by rintro(h|h|h);exact h h1;exact h2 h;exact h3 h)]at hsc2
        cases hrs:Qs fuel nodes L (r++[a.2.1]) to with
        |none=>rw[hrs]at hsc2;cases hsc2
        |some s2=>
         rw[hrs]at hsc2
         obtain⟨sum,fine⟩:=s2
         dsimp only at hsc2
         have hlen1:(r++[a.2.1]).length=r.length+1:=by simp
         have hfl1:(r++[a.2.1]).flatMap numF=r.flatMap numF++#[Value.int .i64 a.2.1].toList:=by simp[List.flatMap_append,numF]
         have hrest:=λ{AP:Option Addr}{capP:Nat}{H:List HP}{w:World}(hr:Rd B w0 H A (L.flatMap lkF)) (hp:Rd B w0 H AP ((r++[a.2.1]).flatMap numF)) (hcap:(r++[a.2.1]).length<=capP) (hw:St B w0 H w)=>Yod nodes L (r++[a.2.1]) to fuel (sum,fine) (capL:=cap) (by omega) (by omega) hLo ⟨by omega,by omega⟩ (λv hv=>by
          rcases TJ.1 hv with hv|hv
          ·exact hmem v hv
          ·obtain rfl:=TU.1 hv
           exact⟨a3,a4⟩) ht hfu hrs hr hp hcap hw
         rw[hlen1,hfl1,<-hnn]at hrest
         dsimp only at hrest
         repeat'(first|((first|apply Ya Ux|apply Yb Ux);exact za;exact rfl;exactλ_ hw=>(hcon hw))|refine zgd ?_|(refine zgf ?_ ?_<;>intro _<;>try exact zo)|(refine zgh ?_;intro _)|fail)
         all_goals(
          apply Up (.n1 0 (.n1 1 (.n1 2 (.n1 3 (.n1 5 (.n1 6 (.n1 9 (.n2 4 (.n1 7 (.n1 8 (.n1 10 (.n1 11 (.n1 12 (.n1 13 (.n1 14 (.n1 15 .done)))))))) 7 (.n1 4 (.n1 8 (.n1 10 (.n1 11 (.n1 12 (.n1 13 (.n1 14 (.n1 15 .done)))))))))))))))) [] [true,true,true,true]
          kernel_rfl
          kernel_rfl
          exact zy
          exact rfl
          repeat'(first|(apply Yk;try exact zl)|apply(zs91 ?_ ?_)|(apply Xa;try exact zl)|refine zgd ?_|(refine zgh ?_;intro _)|fail)
          all_goals(
           apply Yf _ YpC
           exact za
           exact rfl
           exactλ_ hw=>(Vv r (by omega) (.sl zm) (hw))
           rintro _ _ ⟨A5,cap5,rfl,rfl⟩
           repeat'(first|(apply Yk;try exact zl)|(apply Xa;try exact zl)|refine zgd ?_|(refine zgh ?_;intro _)|(refine zgi ?_;intro _ _)|fail)
           rename_i A6 cap6
           refine Wk (e:=3) (size:=1) (k:=r.length+1) (cap:=cap6) (A:=A6) (xs:=r.flatMap numF++#[Value.int .i64 a.2.1].toList) zm λhcap=>?_
           apply Yf _ Ywq
           exact za
           exact rfl
           exactλ_ hw=>(hrest (.sl zm) (.sl zm) hcap (hw))
           rintro _ _ ⟨rfl,⟨q1,q2⟩,rfl⟩
           by_cases hgo:fine=true/\spent+a.2.2+sum=total
           ·rw[Tm hgo]at hsc2
            obtain⟨rfl,heq⟩:=hgo
            repeat'(first|(apply Yk;try exact zl)|(apply Xa;try exact zl)|refine zgd ?_|(refine zge ?_ ?_<;>intro _<;>try exact zo)|fail)
            apply hK2 ⟨j+1,a.2.1,a.2.2⟩
            ·exact⟨by simp only;omega,hsc2,.inr ⟨a3,a4⟩,by simp only;omega⟩
            ·simp only;omega
            ·exact zu
            ·exact zk
           ·rw[Td hgo]at hsc2
            cases fine with
            |false=>
             repeat'(first|(apply Yk;try exact zl)|(apply Xa;try exact zl)|refine zgd ?_|fail)
             apply hK2 ⟨j+1,best,price⟩
             ·exact⟨by simp only;omega,hsc2,hbest,hpr0,hpr1⟩
             ·simp only;omega
             ·exact zu
             ·exact zk
            |true=>
             have hne:¬spent+a.2.2+sum=total:=λh=>hgo ⟨rfl,h⟩
             repeat'(first|(apply Yk;try exact zl)|(apply Xa;try exact zl)|refine zgd ?_|(refine zge ?_ ?_<;>intro _<;>try exact zo)|fail)
             apply hK2 ⟨j+1,best,price⟩
             ·exact⟨by simp only;omega,hsc2,hbest,hpr0,hpr1⟩
             ·simp only;omega
             ·exact zu
             ·exact zk))
       ·obtain rfl:j=L.length:=by omega
        rw[SR]at hsc2
        obtain⟨rfl,rfl⟩:=Prod.mk.inj (Tv hsc2)
        clear hK2
        by_cases hneg:best<0
        ·rw[Tm hneg]at hrun2;cases hrun2
        rw[Td hneg]at hrun2
        refine Yrg ?_<;>intros
        rename_i A3 cap3
        apply hK ⟨k,r++[best],A3,cap3,spent+price,best⟩
        ·refine⟨hrun2,?_,λv hv=>?_,?_,λh=>?_⟩
         ·exact YuO
         ·rcases TJ.1 hv with hv|hv
          ·exact hmem v hv
          ·obtain rfl:=TU.1 hv
           omega
         ·exact YuO
         ·simp only[Tq,TV]at h;omega
        ·exact zc29
        ·dsimp only
         rw[Tq,TV];exact zc1
        ·dsimp only
         rw[<-Yp2]
         exact zc0
def XK(n:Net)(u v:Int):Int:=Yam n u v+1
variable {n:Net}
theorem YnV(h:Ok n){u v c:Int}:(u,v,c)∈YY n↔YG n u v=true/\c=Yam n u v+1:=by
 unfold YY
 rw[OG]
 constructor
 ·rintro⟨i,hi,hu,he⟩
  unfold Oe at he
  rw[UI h hi]at hu
  grind [Yam,YaS]
 ·rintro⟨hg,rfl⟩
  have hf:=U6 hg
  have hl:=ZG hf
  obtain⟨e1,e2⟩:=U4 hf
  refine⟨(YA n u v).toNat,hl,?_,?_⟩
  all_goals grind [UI,Oe,Yam]
theorem net0(h:Ok n):Net3 (YG n) (XK n) (YY n):=⟨λu v c=>YnV h,λu v _=>by have:=Yan h u v;grind [XK]⟩
theorem YcE(h:Ok n):Arcs8 n.nodes.toNat (YY n):=by
 intro a ha
 obtain⟨i,hi,_,rfl⟩:=OG.1 ha
 have hl:=h.lk i hi
 have h1:=hl.f0;have h2:=hl.f1;have h3:=hl.t0;have h4:=hl.t1;have h5:=hl.l0;have h6:=hl.l1
 grind [Oe]
theorem QB{n:Net}(h:Ok n):∀k,k<=n.links.length->(Zz n k).Nodup
 |0,_=>by simp[Zz]
 |k+1,hk=>by
  have ih:=QB h k (by omega)
  cases hu:ZJ n k with
  |false=>grind [YaK]
  |true=>
   rw[QA hu]
   grind [OG,Oe,YaS]
def rt(s t:Int)(ms:List Int):List Int:=s::(ms++[t])
structure IsRt(n:Net)(s t:Int)(ms:List Int):Prop where
 path:QU (YG n) n.nodes.toNat t s ms
 nd:(rt s t ms).Nodup
variable {s t:Int}{ms:List Int}
theorem YbP(h:(rt s t ms).Nodup):s≠t/\s∉ms/\t∉ms/\ms.Nodup:=by
 unfold rt at h
 grind
theorem Ymg(h1:s≠t)(h2:s∉ms)(h3:t∉ms)(h4:ms.Nodup):(rt s t ms).Nodup:=by
 unfold rt
 grind
theorem YqP(s t:Int)(ms:List Int):(rt s t ms).length=ms.length+2:=by simp[rt]
theorem Yk0{p q:List Int}(h:rt s t p=rt s t q):p=q:=by
 grind [rt,List.append_cancel_right]
structure Two(n:Net)(s t:Int)(mp mq:List Int):Prop where
 p:IsRt n s t mp
 q:IsRt n s t mq
 ne:mp≠mq
 dis:∀x∈mp,x∉mq
theorem Two.symm{mp mq:List Int}(h:Two n s t mp mq):Two n s t mq mp:=⟨h.q,h.p,NM h.ne,λx hx hy=>h.dis x hy hx⟩
def key(n:Net)(s t:Int)(ms:List Int):Int:=keyG (XK n) (rt s t ms)
theorem Yjk(a b to:Int)(closed:Int->Bool)(x:Int):Y2 a b to closed x=false↔(x≠a/\x≠b/\x≠to)/\closed x=false:=by
 unfold Y2
 rw[Nv,T9]
 constructor
 ·rintro⟨h1,h2⟩;exact⟨⟨λh=>h1 (.inl h),λh=>h1 (.inr (.inl h)),λh=>h1 (.inr (.inr h))⟩,h2⟩
 ·rintro⟨⟨h1,h2,h3⟩,h4⟩;exact⟨by rintro(h|h|h);exact h1 h;exact h2 h;exact h3 h,h4⟩
theorem Yow(hok:Ok n)(hs:0<=s/\s<n.nodes)(ht:0<=t/\t<n.nodes)(hst:s≠t):∃r,V9 100000 n.nodes.toNat (YY n) s s t (λ_=>false)=some r/\((r.2.1=true/\(∃L π,Yb6 n.nodes.toNat (YY n) s s t r.1 (Y2 s s t (λ_=>false)) r.2.2 L π)/\(∃mp mq,Two n s t mp mq/\key n s t mp+key n s t mq=r.1)/\∀mp mq,Two n s t mp mq->r.1<=key n s t mp+key n s t mq)\/(r.2.1=false/\∀mp mq,¬Two n s t mp mq)):=by
 have hn0:=hok.n0
 have hn1:=hok.n1
 have hnet:=net0 hok
 have h8:=YcE hok
 have hsh:∀x,Y2 s s t (λ_=>false) x=false↔x≠s/\x≠t:=λx=>by rw[Yjk];simp
 have hto:Y2 s s t (λ_=>false) t=true:=by unfold Y2;simp
 have hm:2*n.nodes.toNat*(48*n.nodes.toNat+1)<100000:=by
  have h1:n.nodes.toNat<=32:=by omega
  have h2:2*n.nodes.toNat*(48*n.nodes.toNat+1)<=64*1537:=Nat.mul_le_mul (by omega) (by omega)
  omega
 obtain⟨r,hr,h⟩:=YhV (closed:=λ_=>false) (fuel:=100000) ⟨by omega,by omega⟩ h8 (QB hok n.links.length (TK _)) ⟨hs.1,by omega⟩ ⟨hs.1,by omega⟩ ⟨ht.1,by omega⟩ hm
 refine⟨r,hr,?_⟩
 --two routes are two ways
 have hto2:∀mp mq,Two n s t mp mq->∃ps qs,Cand (YY n) (Y2 s s t (λ_=>false)) s s t ps qs/\Zf ps+Zf qs=key n s t mp+key n s t mq:=by
  intro mp mq h2
  obtain⟨_,p1,p2,p3⟩:=YbP h2.p.nd
  obtain⟨_,q1,q2,q3⟩:=YbP h2.q.nd
  obtain⟨ps,a1,a2,a3⟩:=Vs (sh:=Y2 s s t (λ_=>false)) hnet mp s h2.p.path λx hx=>(hsh x).2 ⟨λe=>p1 (e▸hx),λe=>p2 (e▸hx)⟩
  obtain⟨qs,b1,b2,b3⟩:=Vs (sh:=Y2 s s t (λ_=>false)) hnet mq s h2.q.path λx hx=>(hsh x).2 ⟨λe=>q1 (e▸hx),λe=>q2 (e▸hx)⟩
  have hnn:(Xn ps++Xn qs).Nodup:=by
   rw[a2,b2]
   exact Rn.2 ⟨p3,q3,λa ha b hb e=>h2.dis a ha (e▸hb)⟩
  refine⟨ps,qs,⟨a1,b1,?_,hnn⟩,by rw[a3,b3];rfl⟩
  --the arcs are not the same
  have hta:=Qd a1
  have htb:=Qd b1
  rw[a2]at hta
  rw[b2]at htb
  have n1:ps.Nodup:=JG (f:=λa:Lk=>a.1) (by rw[hta];exact SZ.2 ⟨p1,p3⟩)
  have n2:qs.Nodup:=JG (f:=λa:Lk=>a.1) (by rw[htb];exact SZ.2 ⟨q1,q3⟩)
  refine Rn.2 ⟨n1,n2,λa ha b hb e=>?_⟩
  subst e
  have e1:a.1∈s::mp:=by rw[<-hta];exact TD.2 ⟨a,ha,rfl⟩
  have e2:a.1∈s::mq:=by rw[<-htb];exact TD.2 ⟨a,hb,rfl⟩
  have e3:=YfU a1 a ha
  have e4:=YfU b1 a hb
  rw[a2]at e3
  rw[b2]at e4
  have hhead:a.2.1=t:=by
   rcases e3 with h|h
   ·exact h
   ·rcases e4 with h'|h'
    ·exact h'
    ·exact absurd h' (h2.dis _ h)
  --an arc to t is the last one of a way
  have hfirst:∀{u:Int}{cs:List Lk}{ms:List Int},Rt.Way (YY n) (Y2 s s t (λ_=>false)) t u cs->Xn cs=ms->u∉ms->ms.Nodup->a∈cs->a.1=u->a.2.1=t->ms=[]:=by
   intro u cs ms hw hi hu hnd hac hau hat
   cases hw with
   |last _ _=>rw[<-hi];rfl
   |@step c cs hc hs2 hw=>
    rcases TI.1 hac with rfl|hac
    ·rw[hat,hto]at hs2;cases hs2
    ·exfalso
     apply hu
     rw[<-hi]
     have:Xn (c::cs)=cs.map λa=>a.1:=rfl
     rw[this,<-hau]
     exact TD.2 ⟨a,hac,rfl⟩
  rcases TI.1 e1 with h3|h3
  ·have m1:=hfirst a1 a2 p1 p3 ha h3 hhead
   have m2:=hfirst b1 b2 q1 q3 hb h3 hhead
   exact h2.ne (m1.trans m2.symm)
  ·rcases TI.1 e2 with h4|h4
   ·rw[h4]at h3;exact p1 h3
   ·exact h2.dis _ h3 h4
 have hfrom:∀ps qs,Cand (YY n) (Y2 s s t (λ_=>false)) s s t ps qs->Two n s t (Xn ps) (Xn qs)/\Zf ps+Zf qs=key n s t (Xn ps)+key n s t (Xn qs):=by
  intro ps qs hc
  obtain⟨p1,p2⟩:=UF hnet h8 hto hc.p hst
  obtain⟨q1,q2⟩:=UF hnet h8 hto hc.q hst
  obtain⟨n1,n2,n3⟩:=Rn.1 hc.nodes
  have hps:=hc.p.open_
  have hqs:=hc.q.open_
  have hrp:(rt s t (Xn ps)).Nodup:=Ymg hst (λh=>((hsh s).1 (hps s h)).1 rfl) (λh=>((hsh t).1 (hps t h)).2 rfl) n1
  have hrq:(rt s t (Xn qs)).Nodup:=Ymg hst (λh=>((hsh s).1 (hqs s h)).1 rfl) (λh=>((hsh t).1 (hqs t h)).2 rfl) n2
  refine⟨⟨⟨p1,hrp⟩,⟨q1,hrq⟩,λe=>?_,λx hx hy=>n3 x hx x hy rfl⟩,by rw[p2,q2];rfl⟩
  cases hia:Xn ps with
  |cons x xs=>
   rw[<-e,hia]at n3
   exact n3 x TB x TB rfl
  |nil=>
   rw[hia]at e p1
   rw[<-e]at q1
   have hone:∀{cs:List Lk},Rt.Way (YY n) (Y2 s s t (λ_=>false)) t s cs->Xn cs=[]->cs=[(s,t,XK n s t)]:=by
    intro cs hw hi
    generalize hu:s=u at hw
    cases hw with
    |@last a ha hat=>
     obtain⟨a1,a2,a3⟩:=a
     simp only at hat hu
     subst hat hu
     rw[((hnet.iff _ _ _).1 ha).2]
    |step _ _ hw=>
     rw[hw.inner_cons]at hi
     cases hi
   have ha:=hone hc.p hia
   have hb:=hone hc.q e.symm
   have:=(Rn.1 hc.arcs).2.2 (s,t,XK n s t) (by rw[ha];simp) (s,t,XK n s t) (by rw[hb];simp)
   exact this rfl
 rcases h with⟨h1,h2,⟨ps,qs,hc,he⟩,h4⟩|⟨h1,h2⟩
 ·obtain⟨k1,k2⟩:=hfrom ps qs hc
  refine .inl ⟨h1,h2,⟨_,_,k1,by rw[<-k2];exact he⟩,λmp mq hm=>?_⟩
  obtain⟨ps,qs,hc,he⟩:=hto2 mp mq hm
  rw[<-he]
  exact h4 ps qs hc
 ·refine .inr ⟨h1,λmp mq hm=>?_⟩
  obtain⟨ps,qs,hc,_⟩:=hto2 mp mq hm
  exact h2 ps qs hc
variable {t u s v:Int}{p mp mq:List Int}
theorem YdP{st st2:Int->Int->Bool}{nodes:Nat}(h:PathG st nodes t u p)(hs:∀x y,st x y=true->st2 x y=true):PathG st2 nodes t u p:=h.mono λx y _ _=>hs x y
theorem YkP{st:Int->Int->Bool}{nodes:Nat}(h:PathG st nodes t u p):∀x∈p,∃y,st y x=true:=by
 induction h with
 |done=>simp_all
 |@step u v r hu hs hv h ih=>
  grind
variable {a b:Bool}
theorem US(h:(a&&b)=true):a=true:=by simp_all
theorem Qy(h:(a&&b)=true):b=true:=by simp_all
variable {n:Net}
theorem QL(h:Ok n)(g:Lk->Bool):Net3 (λu v=>YG n u v&&g (u,v,XK n u v)) (XK n) ((YY n).filter g):=by
 refine⟨λu v c=>?_,λu v hs=>(net0 h).pos u v (US hs)⟩
 rw[Ro]
 constructor
 ·rintro⟨h1,h2⟩
  obtain⟨hg,rfl⟩:=((net0 h).iff u v c).1 h1
  simp_all
 ·rintro⟨h1,rfl⟩
  exact⟨((net0 h).iff u v _).2 ⟨US h1,rfl⟩,Qy h1⟩
def ZA(s t:Int)(mp:List Int)(a:Lk):Bool:=!(decide (a.1∈mp)||decide (a.2.1∈mp))&&!(decide (mp=[])&&decide (a.1=s/\a.2.1=t))
theorem Ymf{l:List Lk}{g:Lk->Bool}(k:Nat)(hk:k=2↔mp=[])(hg:∀a,g a=!(decide (a.1∈mp)||decide (a.2.1∈mp))):((if k=2 then UN s t l else l).filter g)=l.filter (ZA s t mp):=by
 by_cases h:mp=[]
 ·rw[Tm (hk.2 h)]
  unfold UN
  rw[Ss]
  apply SJ
  simp_all [ZA]
 ·rw[Td (λe=>h (hk.1 e))]
  apply SJ
  simp_all [ZA]
theorem YqQ(s t:Int)(mp:List Int):(rt s t mp).length=2↔mp=[]:=by
 grind [YqP]
theorem Yms(s t:Int)(mp:List Int):YbG (rt s t mp)=t:=by
 simp_all [YbG,rt]
theorem Yp8(l:List Lk)(s t:Int)(mp:List Int):UC l s t (rt s t mp)=l.filter (ZA s t mp):=by
 apply Ymf _ (YqQ s t mp)
 grind [midP,rt]
theorem Yp7(l:List Lk)(h:t∉mp):Qq l (rt s t mp) t=l.filter (ZA s t mp):=by
 apply Ymf _ (YqQ s t mp)
 have:∀v,W3 (rt s t mp) t v=decide (v∈mp):=λv=>by
  unfold W3 Js rt
  grind
 simp_all
def stA(n:Net)(s t:Int)(mp:List Int)(u v:Int):Bool:=YG n u v&&ZA s t mp (u,v,XK n u v)
theorem UT{c:Int}:ZA s t mp (u,v,c)=true↔(u∉mp/\v∉mp)/\¬(mp=[]/\u=s/\v=t):=by
 unfold ZA
 grind
theorem WD(hp:IsRt n s t mp):(QU (stA n s t mp) n.nodes.toNat t s mq/\(rt s t mq).Nodup)↔Two n s t mp mq:=by
 obtain⟨hst,p1,p2,p3⟩:=YbP hp.nd
 constructor
 ·rintro⟨h,hnd⟩
  have hd:∀x∈mq,x∉mp:=λx hx=>by
   obtain⟨y,hy⟩:=YkP h x (RL _ hx)
   exact(UT.1 (Qy hy)).1.2
  refine⟨hp,⟨YdP h λx y hxy=>US hxy,hnd⟩,λe=>?_,λx hx hy=>hd x hy hx⟩
  subst e
  cases mp with
  |cons x xs=>grind [TB]
  |nil=>
   cases h with
   |step _ hs _ _=>exact(UT.1 (Qy hs)).2 ⟨rfl,rfl,rfl⟩
 ·intro h2
  refine⟨?_,h2.q.nd⟩
  obtain⟨_,q1,q2,q3⟩:=YbP h2.q.nd
  have hx:∀x,x=s\/x∈mq++[t]->x∉mp:=λx hx hm=>by
   rcases hx with rfl|hx
   ·simp_all
   ·rcases TJ.1 hx with h|h
    ·exact h2.dis x hm h
    simp_all
  by_cases he:mp=[]
  ·cases mq with
   |nil=>exact absurd he h2.ne
   |cons m ms=>
    have hpa:=h2.q.path
    cases hpa with
    |step hu hs hv h=>
     have hmt:m≠t:=by grind
     refine .step hu ?_ hv (h.mono λx y hx2 hy hxy=>?_)
     ·simp_all [stA,UT]
     ·unfold stA
      rw[hxy]
      have hxm:x∈(m::ms)++[t]:=by
       simp_all
      refine UT.2 ⟨⟨hx x (.inr hxm),hx y (.inr (Tz _ hy))⟩,λh=>?_⟩
      simp_all
  ·refine h2.q.path.mono λx y hx2 hy hxy=>?_
   unfold stA
   rw[hxy]
   exact UT.2 ⟨⟨hx x hx2,hx y (.inr hy)⟩,λh=>he h.1⟩
theorem Ymr(hok:Ok n)(hs:0<=s/\s<n.nodes)(hp:IsRt n s t mp):mp.length+2<=n.nodes.toNat:=by
 have:=Rt.nodup_len n.nodes.toNat _ hp.nd λx hx=>by
  rcases TI.1 hx with rfl|hx
  ·omega
  ·exact Yi0 hp.path x hx
 grind [YqP]
theorem YfB(hok:Ok n)(hs:0<=s/\s<n.nodes)(ht:0<=t/\t<n.nodes)(hp:IsRt n s t mp):
 (Yh (Z7 n.nodes.toNat ((YY n).filter (ZA s t mp)) t) s<YR/\∃mq,Two n s t mp mq/\Ja n.nodes.toNat (YY n) s t (rt s t mp)=rt s t mq/\key n s t mq=Yh (Z7 n.nodes.toNat ((YY n).filter (ZA s t mp)) t) s/\FirstMin (keyG (XK n)) (Zs (stA n s t mp) n.nodes.toNat t (n.nodes.toNat-1) [s]) (rt s t mq))\/(YR<=Yh (Z7 n.nodes.toNat ((YY n).filter (ZA s t mp)) t) s/\∀mq,¬Two n s t mp mq):=by
 have hn0:=hok.n0
 have hn1:=hok.n1
 obtain⟨hst,_⟩:=YbP hp.nd
 have hnet:Net3 (stA n s t mp) (XK n) ((YY n).filter (ZA s t mp)):=QL hok _
 have h8:Arcs8 n.nodes.toNat ((YY n).filter (ZA s t mp)):=(YcE hok).sub λa ha=>(Ro.1 ha).1
 have hd:=YcW (to:=t) (by omega) h8 ⟨ht.1,by omega⟩
 unfold Ja
 rw[Yp8]
 obtain⟨far,hfar⟩:∃far,Z7 n.nodes.toNat ((YY n).filter (ZA s t mp)) t=far:=⟨_,rfl⟩
 rw[hfar]at hd⊢
 rcases N9 (Yh far s) YR with hlt|hge
 ·left
  refine⟨hlt,?_⟩
  obtain⟨h1,h2⟩:=YoF hnet h8.ok hd ⟨ht.1,by omega⟩ (λu v hg=>by
   have:=h8 (u,v,XK n u v) ((hnet.iff u v _).2 ⟨hg,rfl⟩)
   simp_all) (by omega) (Yh far s).toNat (n.nodes.toNat-1) [s] s (by simp) (by simp) rfl hs.1 (by omega) hlt (TK _) (λx hx=>by grind) (by grind)
  have hmem:=h1.mem
  obtain⟨p,hpe,hpath⟩:=OQ _ _ _ hmem
  have hnd:=QT _ _ _ (by simp) hmem
  obtain⟨mq,rfl⟩:=YfD hpath hst
  rw[hpe]at h1 h2 hnd
  have hwf:wayF ((YY n).filter (ZA s t mp)) far s t=rt s t mq:=by
   unfold wayF
   rw[Td (by omega)]
   exact hpe
  refine⟨mq,(WD hp).1 ⟨hpath,hnd⟩,hwf,?_,h1⟩
  have:keyG (XK n) [s]=0:=rfl
  have h3:key n s t mq=keyG (XK n) [s]+Yh far s:=h2
  omega
 ·right
  refine⟨hge,λmq h2=>?_⟩
  have hl:=Ymr hok hs h2.q
  have:=(YdO hnet hd ((WD hp).2 h2).1 (by grind)).2
  omega
theorem YiY(hok:Ok n)(hs:0<=s/\s<n.nodes)(ht:0<=t/\t<n.nodes)(h2:Two n s t mp mq):Yh (Z7 n.nodes.toNat ((YY n).filter (ZA s t mp)) t) s<=key n s t mq:=by
 have hn1:=hok.n1
 have hnet:Net3 (stA n s t mp) (XK n) ((YY n).filter (ZA s t mp)):=QL hok _
 have h8:Arcs8 n.nodes.toNat ((YY n).filter (ZA s t mp)):=(YcE hok).sub λa ha=>(Ro.1 ha).1
 have hd:=YcW (to:=t) (by omega) h8 ⟨ht.1,by omega⟩
 have hl:=Ymr hok hs h2.q
 exact(YdO hnet hd ((WD h2.p).2 h2).1 (by grind)).1
theorem YqK(hok:Ok n)(hs:0<=s/\s<n.nodes)(ht:0<=t/\t<n.nodes)(hp:IsRt n s t mp)(fuel:Nat):∃c,Qs fuel n.nodes.toNat (YY n) (rt s t mp) t=some c/\((c.2=true/\(∃mq,Two n s t mp mq/\key n s t mq=c.1)/\∀mq,Two n s t mp mq->c.1<=key n s t mq)\/(c.2=false/\∀mq,¬Two n s t mp mq)):=by
 obtain⟨_,_,p2,_⟩:=YbP hp.nd
 unfold Qs
 rw[Tm (Yms s t mp),Yp7 _ p2]
 refine⟨_,rfl,?_⟩
 have hh:Qo (rt s t mp)=s:=rfl
 rcases YfB hok hs ht hp with⟨h1,mq,h2,_,h3,_⟩|⟨h1,h2⟩
 ·exact .inl ⟨Ti h1,⟨mq,h2,h3⟩,λmq h2=>YiY hok hs ht h2⟩
 simp_all
theorem YqL(hok:Ok n){ms:List Int}(hs:0<=s/\s<n.nodes)(ht:0<=t/\t<n.nodes)(hv:0<=v/\v<n.nodes)(hst:s≠t)(hvt:v≠t)(htm:t∉ms)(hnd:(s::(ms++[v])).Nodup)(hext:∀p,PathG (YG n) n.nodes.toNat t v p->PathG (YG n) n.nodes.toNat t s (ms++v::p)):
 ∃c,Qs 100000 n.nodes.toNat (YY n) (s::(ms++[v])) t=some c/\((c.2=true/\(∃x mq,Two n s t (ms++v::x) mq/\keyG (XK n) (v::(x++[t]))+key n s t mq=c.1)/\∀x mq,Two n s t (ms++v::x) mq->c.1<=keyG (XK n) (v::(x++[t]))+key n s t mq)\/(c.2=false/\∀x mq,¬Two n s t (ms++v::x) mq)):=by
 have hn0:=hok.n0
 have hn1:=hok.n1
 obtain⟨pre,hpre⟩:∃pre,s::(ms++[v])=pre:=⟨_,rfl⟩
 have hlast:YbG pre=v:=by rw[<-hpre];exact Yms s v ms
 have hhead:Qo pre=s:=by rw[<-hpre];rfl
 have hshP:∀x,Js pre x=decide (x∈ms++[v]):=λx=>by rw[<-hpre];rfl
 obtain⟨hnd1,hnd2⟩:=SZ.1 hnd
 obtain⟨hnd3,_,hnd4⟩:=Rn.1 hnd2
 have hvm:v∉ms:=λh=>hnd4 v h v (by simp) rfl
 have hsv:s≠v:=λe=>hnd1 (by rw[e];simp)
 have hsm:s∉ms:=λe=>hnd1 (RL _ e)
 unfold Qs
 rw[hpre,hlast,hhead,Td hvt]
 have hbad:∀u x c:Int,(!badB pre (u,x,c))=true↔x∉ms++[v]/\(u∈ms++[v]->u=v)/\x≠s:=λu x c=>by
  unfold badB
  rw[hlast,hhead,hshP,hshP]
  simp only[RO,Nv,T9,Bool.and_eq_false_iff,ne_eq,TN]
  constructor
  ·rintro⟨⟨h1,h2⟩,h3⟩
   refine⟨h1,λh4=>?_,h3⟩
   rcases h2 with h2|h2
   ·exact absurd h4 h2
   ·exact h2
  ·rintro⟨h1,h2,h3⟩
   refine⟨⟨h1,?_⟩,h3⟩
   by_cases h4:u∈ms++[v]
   ·exact .inr (h2 h4)
   ·exact .inl h4
 have hnet:Net3 (λu x=>YG n u x&&!badB pre (u,x,XK n u x)) (XK n) (Ox (YY n) pre):=QL hok λa=>!badB pre a
 have h8:Arcs8 n.nodes.toNat (Ox (YY n) pre):=(YcE hok).sub λa ha=>(Ro.1 ha).1
 have hlnd:(Ox (YY n) pre).Nodup:=(SG (l:=YY n)).nodup (QB hok n.links.length (TK _))
 have hsh:∀x,Y2 v s t (Js pre) x=false↔(x≠v/\x≠s/\x≠t)/\x∉ms++[v]:=λx=>by rw[Yjk,hshP,T9]
 have hto:Y2 v s t (Js pre) t=true:=by unfold Y2;simp
 have hm:2*n.nodes.toNat*(48*n.nodes.toNat+1)<100000:=by
  have h1:n.nodes.toNat<=32:=by omega
  have h2:2*n.nodes.toNat*(48*n.nodes.toNat+1)<=64*1537:=Nat.mul_le_mul (by omega) (by omega)
  omega
 obtain⟨r,hr,h⟩:=YhV (closed:=Js pre) (fuel:=100000) ⟨by omega,by omega⟩ h8 hlnd (a:=v) (b:=s) (to:=t) ⟨hv.1,by omega⟩ ⟨hs.1,by omega⟩ ⟨ht.1,by omega⟩ hm
 rw[hr]
 refine⟨_,rfl,?_⟩
 have hto2:∀x mq,Two n s t (ms++v::x) mq->∃ps qs,Cand (Ox (YY n) pre) (Y2 v s t (Js pre)) v s t ps qs/\Zf ps+Zf qs=keyG (XK n) (v::(x++[t]))+key n s t mq:=by
  intro x mq h2
  obtain⟨_,p1,p2,p3⟩:=YbP h2.p.nd
  obtain⟨_,q1,q2,q3⟩:=YbP h2.q.nd
  obtain⟨p4,p5,p6⟩:=Rn.1 p3
  obtain⟨p7,p8⟩:=SZ.1 p5
  have hx1:∀y∈x,(y≠v/\y≠s/\y≠t)/\y∉ms++[v]:=λy hy=>by
   have h1:y≠v:=λe=>p7 (e▸hy)
   have h2:y∈ms++v::x:=by simp[hy]
   refine⟨⟨h1,λe=>p1 (e▸h2),λe=>p2 (e▸h2)⟩,λh=>?_⟩
   rcases TJ.1 h with h|h
   ·exact p6 y h y (Tz _ hy) rfl
   ·exact h1 (TU.1 h)
  have hq1:∀y∈mq,(y≠v/\y≠s/\y≠t)/\y∉ms++[v]:=λy hy=>by
   refine⟨⟨λe=>h2.dis v (by simp) (e▸hy),λe=>q1 (e▸hy),λe=>q2 (e▸hy)⟩,λh=>?_⟩
   rcases TJ.1 h with h|h
   ·exact h2.dis y (by simp[h]) hy
   ·obtain rfl:=TU.1 h
    exact h2.dis y (by simp) hy
  have htv:t∉ms++[v]:=λh=>by
   rcases TJ.1 h with h|h
   ·exact htm h
   ·exact hvt (TU.1 h).symm
  have hend:∀{z:List Int},(∀y∈z,(y≠v/\y≠s/\y≠t)/\y∉ms++[v])->∀y∈z++[t],y∉ms++[v]/\y≠s:=λhz y hy=>by
   rcases TJ.1 hy with h|h
   ·exact⟨(hz y h).2,(hz y h).1.2.1⟩
   ·obtain rfl:=TU.1 h
    exact⟨htv,NM hst⟩
  have hpath:QU (YG n) n.nodes.toNat t v x:=by
   have:=h2.p.path
   unfold QU at this
   rw[T0,TF]at this
   exact PathG.append this
  obtain⟨ps,a1,a2,a3⟩:=Vs (sh:=Y2 v s t (Js pre)) hnet x v (hpath.mono λy z hy hz hyz=>by
   rw[hyz,Sj,hbad]
   refine⟨(hend hx1 z hz).1,λh=>?_,(hend hx1 z hz).2⟩
   rcases hy with rfl|hy
   ·rfl
   ·exact absurd h (hend hx1 y hy).1) λy hy=>(hsh y).2 (hx1 y hy)
  obtain⟨qs,b1,b2,b3⟩:=Vs (sh:=Y2 v s t (Js pre)) hnet mq s (h2.q.path.mono λy z hy hz hyz=>by
   rw[hyz,Sj,hbad]
   refine⟨(hend hq1 z hz).1,λhin4=>?_,(hend hq1 z hz).2⟩
   rcases hy with hy|hy
   ·rw[hy]at hin4;exact absurd hin4 hnd1
   ·exact absurd hin4 (hend hq1 y hy).1) λy hy=>(hsh y).2 (hq1 y hy)
  have hnn:(x++mq).Nodup:=Rn.2 ⟨p8,q3,λa ha b hb e=>h2.dis a (by simp[ha]) (e▸hb)⟩
  refine⟨ps,qs,⟨a1,b1,?_,by rw[a2,b2];exact hnn⟩,by rw[a3,b3];rfl⟩
  apply JG (f:=λa:Lk=>a.1)
  rw[Rl,Qd a1,Qd b1,a2,b2]
  refine Rn.2 ⟨p5,SZ.2 ⟨q1,q3⟩,λa ha b hb e=>?_⟩
  subst e
  have ha2:a∈ms++v::x:=TS _ ha
  rcases TI.1 hb with rfl|hb
  ·exact p1 ha2
  ·exact h2.dis a ha2 hb
 have hfrom:∀ps qs,Cand (Ox (YY n) pre) (Y2 v s t (Js pre)) v s t ps qs->Two n s t (ms++v::Xn ps) (Xn qs)/\Zf ps+Zf qs=keyG (XK n) (v::(Xn ps++[t]))+key n s t (Xn qs):=by
  intro ps qs hc
  obtain⟨p1,p2⟩:=UF hnet h8 hto hc.p hvt
  obtain⟨q1,q2⟩:=UF hnet h8 hto hc.q hst
  obtain⟨n1,n2,n3⟩:=Rn.1 hc.nodes
  have hps:=λx hx=>(hsh x).1 (hc.p.open_ x hx)
  have hqs:=λx hx=>(hsh x).1 (hc.q.open_ x hx)
  have hgp:QU (YG n) n.nodes.toNat t s (ms++v::Xn ps):=by
   have:=hext _ (YdP p1 λx y hxy=>US hxy)
   unfold QU
   rw[T0,TF]
   exact this
  have hmpn:(ms++v::Xn ps).Nodup:=Rn.2 ⟨hnd3,SZ.2 ⟨λh=>(hps v h).1.1 rfl,n1⟩,λa ha b hb e=>by
   subst e
   rcases TI.1 hb with rfl|hb
   ·exact hvm ha
   ·exact(hps a hb).2 (RL _ ha)⟩
  have hrp:(rt s t (ms++v::Xn ps)).Nodup:=Ymg hst (λh=>by
   rcases TJ.1 h with h|h
   ·exact hsm h
   ·rcases TI.1 h with h|h
    ·exact hsv h
    ·exact(hps s h).1.2.1 rfl) (λh=>by
   rcases TJ.1 h with h|h
   ·exact htm h
   ·rcases TI.1 h with h|h
    ·exact hvt h.symm
    ·exact(hps t h).1.2.2 rfl) hmpn
  have hrq:(rt s t (Xn qs)).Nodup:=Ymg hst (λh=>(hqs s h).1.2.1 rfl) (λh=>(hqs t h).1.2.2 rfl) n2
  refine⟨⟨⟨hgp,hrp⟩,⟨YdP q1 λx y hxy=>US hxy,hrq⟩,λe=>?_,λx hx hy=>?_⟩,by rw[p2,q2];rfl⟩
  ·have:v∈Xn qs:=by rw[<-e];simp
   exact(hqs v this).1.1 rfl
  ·rcases TJ.1 hx with h|h
   ·exact(hqs x hy).2 (RL _ h)
   ·rcases TI.1 h with rfl|h
    ·exact(hqs x hy).1.1 rfl
    ·exact n3 x h x hy rfl
 rcases h with⟨h1,_,⟨ps,qs,hc,he⟩,h4⟩|⟨h1,h2⟩
 ·obtain⟨k1,k2⟩:=hfrom ps qs hc
  refine .inl ⟨h1,⟨_,_,k1,by rw[<-k2];exact he⟩,λx mq hm=>?_⟩
  obtain⟨ps,qs,hc,he⟩:=hto2 x mq hm
  rw[<-he]
  exact h4 ps qs hc
 ·refine .inr ⟨h1,λx mq hm=>?_⟩
  obtain⟨ps,qs,hc,_⟩:=hto2 x mq hm
  exact h2 ps qs hc
noncomputable def Un(fuel:Nat)(n:Net)(s t:Int):Option (Option (List Int×List Int)×Int):=
 if Jo n s t≠0 then some (none,Jo n s t)else
  match OI fuel n.nodes.toNat (YY n) s t with
  |none=>none
  |some none=>some (none,17)
  |some (some pq)=>if 9<pq.1.length\/9<pq.2.length then some (none,21)else some (some pq,0)
theorem YmG(n:NetM)(s to:Int)(fuel:Nat)(res:Option (List Int×List Int)×Int)(hfu:fuel<=100000)(hrun:Un fuel n.net s to=some res){B:Nat}{w0:World}{H:List HP}{w:World}(hin:n.In B w0 H)(hw:St B w0 H w):
 CX B w0 222 [n.val,.int .i64 s,.int .i64 to] w λv K=>match res.1 with
  |none=>v=.tuple #[.slice none 0 0,.int .i64 res.2]/\K=H
  |some pq=>∃g A1 c1 A2 c2,v=.tuple #[.slice (some ⟨g,0,none⟩) 2 2,.int .i64 res.2]/\(2<=pq.1.length/\pq.1.length<=9/\pq.2.length<=9)/\WayV A2 pq.2/\K=sl 64 1 (some ⟨g,0,none⟩) 2 2 ([⟨A1,c1,pq.1⟩,⟨A2,c2,pq.2⟩].flatMap rowF)::ints A1 c1 pq.1::ints A2 c2 pq.2::H:=by
 refine Yc Tryz.func222 Tryz.ntmps222 rfl rfl hw ?_
 (apply Xi;apply YU;apply YB;exact rfl;exact rfl;intro g)
 unfold Un at hrun
 by_cases he:Jo n.net s to=0
 rotate_left
 ·rw[Tm he]at hrun
  obtain rfl:=Tv hrun
  repeat'(first|((first|apply Ya Qn|apply Yb Qn);exact za;exact rfl;exactλ_ hw=>(VY n s to hin.cons hw))|refine zgb ?_|(refine zge ?_ ?_<;>intro _<;>try exact zo)|fail)
  (repeat apply Yl)
  apply Yx;(iterate 3 exact rfl)
  simp_all
 rw[Td (λh=>h he)]at hrun
 obtain⟨hck,⟨s0,s1⟩,⟨t0,t1⟩,hst⟩:=Ygt he
 have hen:=λ{H:List HP}{w:World}(hin:n.In B w0 H) (hw:St B w0 H w)=>VY n s to hin hw
 rw[he]at hen
 have hok:=YN hck
 have hn0:=hok.n0
 have hn1:=hok.n1
 have hnn:((n.net.nodes.toNat:Nat):Int)=n.net.nodes:=by omega
 have hnn2:n.nodes=((n.net.nodes.toNat:Nat):Int):=by rw[hnn];rfl
 cases hpf:OI fuel n.net.nodes.toNat (YY n.net) s to with
 |none=>simp_all
 |some o=>
  rw[hpf]at hrun
  have hp:=λ{H:List HP}{w:World}(hin:n.In B w0 H) (hw:St B w0 H w)=>Yn8 n s to n.net.nodes.toNat fuel o hck hnn2 ⟨s0,by omega⟩ ⟨t0,by omega⟩ hst hfu hpf hin hw
  cases o with
  |none=>
   obtain rfl:=Tv hrun
   refine Yrh ?_<;>intros
   apply Yf _ YtU
   exact za
   exact rfl
   exactλ_ hw=>(hp hin.cons (hw))
   rintro _ _ ⟨rfl,rfl⟩
   refine zX6 ?_
   apply Yl
   apply Yx;(iterate 3 exact rfl)
   exact YaI
  |some pq=>
   obtain⟨p,q⟩:=pq
   dsimp only at hrun
   refine Yrh ?_<;>intros
   apply Yf _ YtU
   exact za
   exact rfl
   exactλ_ hw=>(hp hin.cons (hw))
   rintro _ _ ⟨gL,A1,c1,A2,c2,rfl,⟨k1,k2,k3⟩,hway,rfl⟩
   dsimp only at k1 k2 k3 hway⊢
   refine zX6 ?_
   have hs1:=λ{H:List HP}{w:World}(hw:St B w0 H w)=>WI p.length (A:=A1) (cap:=c1) (by omega) hw
   have hs2:=λ{H:List HP}{w:World}(hw:St B w0 H w)=>WI q.length (A:=A2) (cap:=c2) (by omega) hw
   refine Yj (λ(k:Nat)=>[(28,.int .i64 k),(27,.int .i64 2),(26,.slice (some ⟨gL,0,none⟩) 2 2),(9,.slice (some ⟨gL,0,none⟩) 2 2)]) (λ_=>sl 64 1 (some ⟨gL,0,none⟩) 2 2 ([(⟨A1,c1,p⟩:RowM),⟨A2,c2,q⟩].flatMap rowF)::ints A1 c1 p::ints A2 c2 q::netB g n::H) (λk=>k<=2/\(1<=k->p.length<=9)/\(2<=k->q.length<=9)) (λk=>2-k) 0 ⟨by omega,by omega,by omega⟩ ?_ (λw hw=>hw) ?_
   ·exact zc1
   rintro k ⟨hk,hk1,hk2⟩ K hK
   obtain rfl|rfl|rfl:k=0\/k=1\/k=2:=by omega
   ·have hx0:[(⟨A1,c1,p⟩:RowM),⟨A2,c2,q⟩][0]? =some ⟨A1,c1,p⟩:=rfl
    by_cases h9:9<p.length
    ·rw[Tm h9]at hs1
     rw[Tm (.inl h9)]at hrun
     obtain rfl:=Tv hrun
     clear hK
     repeat'(first|(apply Zi T (f:=rowF) (l:=[(⟨A1,c1,p⟩:RowM),⟨A2,c2,q⟩]);exact rfl;exact rfl;exact .sl zm;exact rfl;exactλ_=>rfl;exact rfl;exact rfl;(simp only[TG,Rq];omega))|(apply Jm T (f:=rowF) (l:=[(⟨A1,c1,p⟩:RowM),⟨A2,c2,q⟩]);exact rfl;exact .sl zm;exact hx0;exactλ_=>rfl;(iterate 4 exact rfl))|((first|apply Ya WW|apply Yb WW);exact za;exact rfl;exactλ_ hw=>(hs1 hw))|refine zgd ?_|(refine zge ?_ ?_<;>intro _<;>try exact zo)|fail)
     exact zc88
    ·rw[Td h9]at hs1
     repeat'(first|(apply Zi T (f:=rowF) (l:=[(⟨A1,c1,p⟩:RowM),⟨A2,c2,q⟩]);exact rfl;exact rfl;exact .sl zm;exact rfl;exactλ_=>rfl;exact rfl;exact rfl;(simp only[TG,Rq];omega))|(apply Jm T (f:=rowF) (l:=[(⟨A1,c1,p⟩:RowM),⟨A2,c2,q⟩]);exact rfl;exact .sl zm;exact hx0;exactλ_=>rfl;(iterate 4 exact rfl))|((first|apply Ya WW|apply Yb WW);exact za;exact rfl;exactλ_ hw=>(hs1 hw))|refine zgc ?_|(refine zge ?_ ?_<;>intro _<;>try exact zo)|fail)
     apply hK 1
     ·exact⟨by omega,λ_=>by omega,by omega⟩
     ·omega
     ·exact zc1
     exact zc19
   ·have hx1:[(⟨A1,c1,p⟩:RowM),⟨A2,c2,q⟩][1]? =some ⟨A2,c2,q⟩:=rfl
    by_cases h9:9<q.length
    ·rw[Tm h9]at hs2
     rw[Tm (.inr h9)]at hrun
     obtain rfl:=Tv hrun
     clear hK
     repeat'(first|(apply Zi T (f:=rowF) (l:=[(⟨A1,c1,p⟩:RowM),⟨A2,c2,q⟩]);exact rfl;exact rfl;exact .sl zm;exact rfl;exactλ_=>rfl;exact rfl;exact rfl;(simp only[TG,Rq];omega))|(apply Jm T (f:=rowF) (l:=[(⟨A1,c1,p⟩:RowM),⟨A2,c2,q⟩]);exact rfl;exact .sl zm;exact hx1;exactλ_=>rfl;(iterate 4 exact rfl))|((first|apply Ya WW|apply Yb WW);exact za;exact rfl;exactλ_ hw=>(hs2 hw))|refine zgd ?_|(refine zge ?_ ?_<;>intro _<;>try exact zo)|fail)
     exact zc88
    ·rw[Td h9]at hs2
     repeat'(first|(apply Zi T (f:=rowF) (l:=[(⟨A1,c1,p⟩:RowM),⟨A2,c2,q⟩]);exact rfl;exact rfl;exact .sl zm;exact rfl;exactλ_=>rfl;exact rfl;exact rfl;(simp only[TG,Rq];omega))|(apply Jm T (f:=rowF) (l:=[(⟨A1,c1,p⟩:RowM),⟨A2,c2,q⟩]);exact rfl;exact .sl zm;exact hx1;exactλ_=>rfl;(iterate 4 exact rfl))|((first|apply Ya WW|apply Yb WW);exact za;exact rfl;exactλ_ hw=>(hs2 hw))|refine zgc ?_|(refine zge ?_ ?_<;>intro _<;>try exact zo)|fail)
     apply hK 2
     ·exact⟨by omega,λ_=>hk1 (by omega),λ_=>by omega⟩
     ·omega
     ·exact zc1
     exact zc19
   ·have h1:=hk1 (by omega)
    have h2:=hk2 (by omega)
    rw[Td (by omega)]at hrun
    obtain rfl:=Tv hrun
    clear hK
    refine zX1 ?_<;>intros
    apply Yi (sl 64 1 (some ⟨gL,0,none⟩) 2 2 ([(⟨A1,c1,p⟩:RowM),⟨A2,c2,q⟩].flatMap rowF)::ints A1 c1 p::ints A2 c2 q::H)
    ·exact zc0
    apply Yx;(iterate 3 exact rfl)
    exact⟨gL,A1,c1,A2,c2,rfl,⟨k1,h1,h2⟩,hway,rfl⟩
theorem YgE:∀(r:List Int) {b c:Int}(p q:List Int),b<c->Xo (r++b::p) (r++c::q)=true
 |[],b,c,p,q,h=>by
  show(if b≠c then decide (b<c)else Xo p q)=true
  grind
 |x::r,b,c,p,q,h=>by
  show(if x≠x then decide (x<x)else Xo (r++b::p) (r++c::q))=true
  rw[Td (λh=>h rfl)];exact YgE r p q h
theorem YbW{st:Int->Int->Bool}{nodes:Nat}{to:Int}:∀(f:Nat) (r:List Int),(Zs st nodes to f r).Pairwise λa b=>Xo a b=true
 |0,r=>by
  unfold Zs
  split
  all_goals simp_all
 |f+1,r=>by
  unfold Zs
  split
  ·simp_all
  ·rw[List.pairwise_flatMap]
   refine⟨λb _=>?_,?_⟩
   ·split
    ·exact YbW f _
    simp_all
   grind [List.Pairwise.imp,List.pairwise_lt_range,OQ,YgE]
variable {x:List Int}
theorem Yny{key:List Int->Int}{l:List (List Int)}{y:List Int}(h:FirstMin key l x)(hp:l.Pairwise λa b=>Xo a b=true)(hy:y∈l):key x<=key y/\(key y=key x->y=x\/Xo x y=true):=by
 obtain⟨l1,l2,rfl,h1,h2⟩:=h
 grind [Si]
structure Ch(L:List Lk)(at_:Int)(r:List Int)(C:Int->Prop)(st:Int×Int):Prop where
 pos:0<=st.1
 ok:C st.1
 arc:(at_,st.1,st.2)∈L
 out:st.1∉r
theorem Ymt{fuel nodes:Nat}{L:List Lk}{t total:Int}{r:List Int}{spent at_:Int}{C:Int->Prop}(hrest:∀a∈L,a.1=at_->a.2.1∉r->∃c,Qs fuel nodes L (r++[a.2.1]) t=some c/\(c.2=true/\spent+a.2.2+c.1=total↔C a.2.1))(h0:∀a∈L,0<=a.2.1):∀(m:List Lk),(∀a∈m,a∈L)->∀st:Int×Int,(st.1= -1\/Ch L at_ r C st)->
 ∃st2,JI fuel nodes L t total r spent at_ m st=some st2/\(st2.1= -1\/Ch L at_ r C st2)/\(0<=st.1->0<=st2.1/\st2.1<=st.1)/\∀a∈m,a.1=at_->a.2.1∉r->C a.2.1->0<=st2.1/\st2.1<=a.2.1
 |[],_,st,hst=>⟨st,rfl,hst,λh=>⟨h,Ry _⟩,λa ha=>absurd ha RG⟩
 |a::m,hm,st,hst=>by
  have haL:=hm a TB
  have ih:=Ymt hrest h0 m λb hb=>hm b (Tz _ hb)
  by_cases hskip:a.1≠at_\/a.2.1∈r\/(0<=st.1/\st.1<a.2.1)
  ·have hs:Wd fuel nodes L t total r spent at_ st a=some st:=by unfold Wd;grind
   obtain⟨st2,h1,h2,h3,h4⟩:=ih st hst
   refine⟨st2,by grind [JI],h2,h3,λb hb e1 e2 e3=>?_⟩
   grind
  ·have ha1:a.1=at_:=by omega
   have ha2:a.2.1∉r:=by simp_all
   have ha3:¬(0<=st.1/\st.1<a.2.1):=by omega
   obtain⟨c,hc,hiff⟩:=hrest a haL ha1 ha2
   have hs:Wd fuel nodes L t total r spent at_ st a=if c.2=true/\spent+a.2.2+c.1=total then some (a.2.1,a.2.2)else some st:=by unfold Wd;rw[Td hskip,hc]
   by_cases hf:c.2=true/\spent+a.2.2+c.1=total
   ·rw[Tm hf]at hs
    have hch:Ch L at_ r C (a.2.1,a.2.2):=by grind [Go.Proofs.YtambgjgljcadlaaGreatDoor.Ch.mk]
    obtain⟨st2,h1,h2,h3,h4⟩:=ih (a.2.1,a.2.2) (.inr hch)
    have h5:=h3 hch.pos
    simp only at h5
    refine⟨st2,by unfold JI;rw[hs];exact h1,h2,λh=>⟨h5.1,by omega⟩,λb hb e1 e2 e3=>?_⟩
    rcases TI.1 hb with rfl|hb
    ·exact h5
    ·exact h4 b hb e1 e2 e3
   ·rw[Td hf]at hs
    obtain⟨st2,h1,h2,h3,h4⟩:=ih st hst
    refine⟨st2,by unfold JI;rw[hs];exact h1,h2,h3,λb hb e1 e2 e3=>?_⟩
    rcases TI.1 hb with rfl|hb
    ·exact absurd (hiff.2 e3) hf
    ·exact h4 b hb e1 e2 e3
def inB(n:Net)(s t total:Int)(q:List Int):Prop:=∃mp,q=rt s t mp/\∃mq,Two n s t mp mq/\key n s t mp+key n s t mq=total
variable {n:Net}{s t:Int}
theorem Yss{v:Int}{ms:List Int}:key n s t (ms++v::x)=keyG (XK n) (s::ms++[v])+keyG (XK n) (v::(x++[t])):=by
 grind [Ov,key,rt]
theorem Ysu(hok:Ok n){total:Int}(hs:0<=s/\s<n.nodes)(ht:0<=t/\t<n.nodes)(hst:s≠t)(hmin:∀x y,Two n s t x y->total<=key n s t x+key n s t y):∀(k:Nat) (ms:List Int) (spent at_:Int),(s::ms).Nodup->Vw (s::ms)=at_->(∀x∈s::ms,0<=x/\x<n.nodes)->spent=keyG (XK n) (s::ms)->(∀p,PathG (YG n) n.nodes.toNat t at_ p->PathG (YG n) n.nodes.toNat t s (ms++p))->(at_≠t->t∉s::ms)->n.nodes.toNat+1<=(s::ms).length+k->(∃p,PathG (YG n) n.nodes.toNat t at_ p/\inB n s t total (s::ms++p))->
 ∃P,Vp 100000 n.nodes.toNat (YY n) t total k (s::ms) spent at_=some P/\inB n s t total P/\(∃p,P=s::ms++p)/\∀f,∀x∈Zs (YG n) n.nodes.toNat t f (s::ms),inB n s t total x->x=P\/Xo P x=true:=by
 have hn0:=hok.n0
 have hn1:=hok.n1
 intro k
 induction k with
 |zero=>
  intro ms spent at_ hnd _ hr _ _ _ hk _
  have:=Rt.nodup_len n.nodes.toNat _ hnd λx hx=>by grind
  omega
 |succ k ih=>
  intro ms spent at_ hnd hl hr hsp hext hnt hk ⟨p,hp,hin⟩
  by_cases hat:at_=t
  ·subst hat
   obtain rfl:p=[]:=by
    cases hp with
    |done=>rfl
    |step hu=>exact absurd rfl hu
   rw[Rx]at hin
   refine⟨s::ms,by unfold Vp;rw[Tm rfl],hin,⟨[],by simp⟩,λf x hx _=>?_⟩
   left
   cases f<;>(unfold Zs at hx;rw[Tm hl]at hx;exact TU.1 hx)
  ·have htr:=hnt hat
   obtain⟨hnd1,hnd2⟩:=SZ.1 hnd
   have hsn:∀{v:Int},v∉s::ms->(s::(ms++[v])).Nodup:=λ{v} hv=>by
    have:(s::ms++[v]).Nodup:=Rn.2 ⟨hnd,by simp,λa ha b hb=>by
     obtain rfl:=TU.1 hb
     exactλe=>hv (e▸ha)⟩
    exact this
   have hks:∀v,keyG (XK n) (s::ms++[v])=spent+XK n at_ v:=λv=>by
    rw[Ya1 (by simp),hl,hsp];simp[keyG]
   --what a further node is worth
   have hrest:∀a∈YY n,a.1=at_->a.2.1∉s::ms->∃c,Qs 100000 n.nodes.toNat (YY n) (s::ms++[a.2.1]) t=some c/\(c.2=true/\spent+a.2.2+c.1=total↔∃p,PathG (YG n) n.nodes.toNat t a.2.1 p/\inB n s t total (s::ms++a.2.1::p)):=by
    rintro⟨u,v,c0⟩ ha hau hav
    simp only at hau hav⊢
    subst hau
    obtain⟨hg,rfl⟩:=((net0 hok).iff _ _ _).1 ha
    have hvr:=(YcE hok _ ha).2.1
    simp only at hvr
    have hstep:∀p,PathG (YG n) n.nodes.toNat t v p->PathG (YG n) n.nodes.toNat t s (ms++v::p):=λp hp=>hext _ (.step hat hg hvr hp)
    by_cases hvt:v=t
    ·subst hvt
     have hrt:IsRt n s v ms:=⟨hstep [] .done,hsn hav⟩
     obtain⟨c,hc,h⟩:=YqK hok hs ht hrt 100000
     refine⟨c,hc,?_⟩
     have hk1:key n s v ms=spent+XK n u v:=hks v
     rcases h with⟨h1,⟨mq,h2,h3⟩,h4⟩|⟨h1,h2⟩
     ·constructor
      ·rintro⟨_,he⟩
       exact⟨[],.done,ms,rfl,mq,h2,by omega⟩
      ·rintro⟨p,hp,mp,heq,mq2,h5,h6⟩
       obtain rfl:p=[]:=by
        cases hp with
        |done=>rfl
        |step hu=>exact absurd rfl hu
       obtain rfl:ms=mp:=Yk0 heq
       have h7:=h4 mq2 h5
       have h8:=hmin _ _ h2
       exact⟨h1,by omega⟩
     ·constructor
      ·rintro⟨h3,_⟩;rw[h1]at h3;cases h3
      ·rintro⟨p,hp,mp,heq,mq2,h5,h6⟩
       obtain rfl:p=[]:=by
        cases hp with
        |done=>rfl
        |step hu=>exact absurd rfl hu
       obtain rfl:ms=mp:=Yk0 heq
       exact absurd h5 (h2 mq2)
    ·obtain⟨c,hc,h⟩:=YqL hok hs ht (v:=v) (ms:=ms) ⟨hvr.1,by omega⟩ hst hvt (λh=>htr (Tz _ h)) (hsn hav) hstep
     refine⟨c,hc,?_⟩
     have hk1:∀x,key n s t (ms++v::x)=spent+XK n u v+keyG (XK n) (v::(x++[t])):=λx=>by rw[Yss,hks]
     have hsh:∀x,s::ms++v::(x++[t])=rt s t (ms++v::x):=λx=>by unfold rt;simp
     have hback:∀p mp,PathG (YG n) n.nodes.toNat t v p->s::ms++v::p=rt s t mp->∃x,mp=ms++v::x:=λp mp hp heq=>by
      obtain⟨x,rfl⟩:=YfD hp hvt
      rw[hsh]at heq
      exact⟨x,(Yk0 heq).symm⟩
     rcases h with⟨h1,⟨x,mq,h2,h3⟩,h4⟩|⟨h1,h2⟩
     ·constructor
      ·rintro⟨_,he⟩
       have hpath:PathG (YG n) n.nodes.toNat t v (x++[t]):=by
        have:=h2.p.path
        unfold QU at this
        rw[T0,TF]at this
        exact PathG.append this
       refine⟨x++[t],hpath,ms++v::x,hsh x,mq,h2,?_⟩
       rw[hk1];omega
      ·rintro⟨p,hp,mp,heq,mq2,h5,h6⟩
       obtain⟨x2,rfl⟩:=hback p mp hp heq
       have h7:=h4 x2 mq2 h5
       have h8:=hmin _ _ h2
       rw[hk1]at h6 h8
       exact⟨h1,by omega⟩
     ·constructor
      ·rintro⟨h3,_⟩;rw[h1]at h3;cases h3
      ·rintro⟨p,hp,mp,heq,mq2,h5,h6⟩
       obtain⟨x2,rfl⟩:=hback p mp hp heq
       exact absurd h5 (h2 x2 mq2)
   obtain⟨st2,g1,g2,_,g4⟩:=Ymt (C:=λv=>∃p,PathG (YG n) n.nodes.toNat t v p/\inB n s t total (s::ms++v::p)) hrest (λa ha=>(YcE hok a ha).2.1.1) (YY n) (λa ha=>ha) (-1,0) (.inl rfl)
   --some node goes on
   have hnode:∀{c:Int}{q:List Int},YG n at_ c=true->PathG (YG n) n.nodes.toNat t c q->inB n s t total (s::ms++c::q)->0<=st2.1/\st2.1<=c:=λ{c q} hg hq hin=>by
    have hnin:c∉s::ms:=by
     obtain⟨mp,heq,mq,h2,_⟩:=hin
     have:=h2.p.nd
     rw[<-heq]at this
     exactλh=>(Rn.1 this).2.2 c h c TB rfl
    exact g4 (at_,c,XK n at_ c) (((net0 hok).iff _ _ _).2 ⟨hg,rfl⟩) rfl hnin ⟨q,hq,hin⟩
   have hpos:0<=st2.1:=by
    cases hp with
    |done=>exact absurd rfl hat
    |@step _ v q hu hg hv hq=>exact(hnode hg hq hin).1
   rcases g2 with g2|⟨g5,⟨pb,hpb,hinb⟩,garc,gout⟩
   ·omega
   ·obtain⟨b,pr⟩:=st2
    simp only at g5 hpb hinb garc gout hpos hnode
    obtain⟨hg,rfl⟩:=((net0 hok).iff _ _ _).1 garc
    have hbr:=(YcE hok _ garc).2.1
    simp only at hbr
    obtain⟨P,i1,i2,⟨i3,i4⟩,i5⟩:=ih (ms++[b]) (spent+XK n at_ b) b (hsn gout) (by rw[<-TF,Jp]) (λx hx=>by
     rw[<-TF]at hx
     rcases TJ.1 hx with h|h
     ·exact hr x h
     ·obtain rfl:=TU.1 h;omega) (by rw[<-TF,hks]) (λq hq=>by
     rw[T0]
     exact hext _ (.step hat hg hbr hq)) (λhbt hm=>by
     rw[<-TF]at hm
     rcases TJ.1 hm with h|h
     ·exact htr h
     ·exact hbt (TU.1 h).symm) (by simp only[TG,Tq,Rq]at hk⊢;omega) ⟨pb,hpb,by rw[<-TF,T0];exact hinb⟩
    refine⟨P,?_,i2,⟨b::i3,by rw[i4];simp⟩,λf x hx hxin=>?_⟩
    ·unfold Vp
     rw[Td hat,g1]
     dsimp only
     rw[Td (by omega)]
     exact i1
    ·cases f with
     |zero=>unfold Zs at hx;rw[Td (by rw[hl];exact hat)]at hx;cases hx
     |succ f=>
      unfold Zs at hx
      rw[Td (by rw[hl];exact hat),hl]at hx
      obtain⟨c,hc,hx⟩:=RP.1 hx
      split at hx
      ·rename_i hcc
       obtain⟨q,hxe,hq⟩:=OQ f _ x hx
       rw[Jp]at hq
       rw[T0,List.singleton_append]at hxe
       have hle:=(hnode hcc.1 hq (by rw[<-hxe];exact hxin)).2
       rcases Int.lt_or_eq_of_le hle with h|h
       ·right
        rw[i4,hxe,show s::(ms++[b])++i3=(s::ms)++b::i3 by simp]
        exact YgE (s::ms) i3 q h
       ·refine i5 f x ?_ hxin
        rw[h];exact hx
      ·cases hx
def allW(n:Net)(s t:Int):List (List Int):=Zs (YG n) n.nodes.toNat t (n.nodes.toNat-1) [s]
variable {n:Net}{s t:Int}
theorem YsU(hok:Ok n){mp:List Int}(hs:0<=s/\s<n.nodes)(h:IsRt n s t mp):rt s t mp∈allW n s t:=by
 have hl:=Ymr hok hs h
 have:=Yen (n.nodes.toNat-1) [s] (mp++[t]) h.path h.nd (by grind)
 exact this
structure Best(n:Net)(s t total:Int)(mp mq:List Int):Prop where
 two:Two n s t mp mq
 cost:key n s t mp+key n s t mq=total
 least:∀x y,Two n s t x y->total<=key n s t x+key n s t y
 fst:∀x y,Two n s t x y->key n s t x+key n s t y=total->rt s t x=rt s t mp\/Xo (rt s t mp) (rt s t x)=true
 snd:∀y,Two n s t mp y->key n s t mp+key n s t y=total->rt s t y=rt s t mq\/Xo (rt s t mq) (rt s t y)=true
theorem Yn5(hok:Ok n)(hs:0<=s/\s<n.nodes)(ht:0<=t/\t<n.nodes)(hst:s≠t):∃r,V9 100000 n.nodes.toNat (YY n) s s t (λ_=>false)=some r/\((r.2.1=true/\(∃L π,Yb6 n.nodes.toNat (YY n) s s t r.1 (Y2 s s t (λ_=>false)) r.2.2 L π)/\∃mp mq,OI 100000 n.nodes.toNat (YY n) s t=some (some (rt s t mp,rt s t mq))/\Best n s t r.1 mp mq)\/(r.2.1=false/\OI 100000 n.nodes.toNat (YY n) s t=some none/\∀mp mq,¬Two n s t mp mq)):=by
 have hn0:=hok.n0
 have hn1:=hok.n1
 obtain⟨r,hr,h⟩:=Yow hok hs ht hst
 refine⟨r,hr,?_⟩
 unfold OI
 rw[hr]
 dsimp only
 rcases h with⟨h1,h2,⟨mp0,mq0,h3,h4⟩,h5⟩|⟨h1,h2⟩
 ·refine .inl ⟨h1,h2,?_⟩
  rw[Td (by simp_all)]
  obtain⟨P,l1,⟨mp,rfl,mq1,l2,l3⟩,_,l4⟩:=Ysu hok hs ht hst h5 400 [] 0 s (by simp) rfl (λx hx=>by simp_all) rfl (λp hp=>hp) (λ_ hm=>hst (TU.1 hm).symm) (by omega) ⟨mp0++[t],h3.p.path,mp0,rfl,mq0,h3,h4⟩
  rcases YfB hok hs ht l2.p with⟨_,mq,k1,k2,k3,k4⟩|⟨_,k⟩
  ·rw[l1]
   dsimp only
   rw[k2]
   have hle:=YiY hok hs ht l2
   have hle2:=h5 _ _ k1
   refine⟨mp,mq,rfl,k1,by omega,h5,λx y h6 h7=>?_,λy h6 h7=>?_⟩
   ·exact l4 _ (rt s t x) (YsU hok hs h6.p) ⟨x,rfl,y,h6,h7⟩
   ·have hl:=Ymr hok hs h6.q
    obtain⟨g1,g2⟩:=(WD l2.p).2 h6
    have hm:rt s t y∈Zs (stA n s t mp) n.nodes.toNat t (n.nodes.toNat-1) [s]:=Yen (n.nodes.toNat-1) [s] (y++[t]) g1 g2 (by grind)
    grind [Yny,YbW,key]
  simp_all
 simp_all
theorem getD_some{l:List (List Int)}{i:Nat}{x:List Int}(h:l[i]? =some x):l.getD i []=x:=by
 rw[Tu,h];rfl
end Go.Proofs.YtambgjgljcadlaaGreatDoor
