/- Lemmas. -/
import Derived.LoopN
import Derived.StillTailTactics
import Derived.Test.YtjlgijpmnfabcaaGreatDoorQ14
import Derived.Test.YtjlgijpmnfabcaaGreatDoorQ15
set_option maxRecDepth 100000
set_option maxHeartbeats 8000000
set_option linter.all false
namespace Go.Proofs.YtjlgijpmnfabcaaGreatDoor
open Go.RowKit Go.Eng Go.Nw Go.Rt
def AttR(l:List Flw)(n b:Int)(q:Cel)(ss:List SM)(atts:List AttM)(dels:List (Int×Int×Int))(ss':List SM)(atts':List AttM)(dels':List (Int×Int×Int)):Prop:=
 (ss'=ss/\atts'=atts/\dels'=dels/\∀(i:Nat) f x,l[i]? =some f->ss[i]? =some x->f.1=Xr q->¬canT f x.st q n)\/
 ∃(i:Nat) (f:Flw) (x:SM) (o:Int) (x':SM),l[i]? =some f/\ss[i]? =some x/\f.1=Xr q/\canT f x.st q n/\ss'=ss.set i x'/\x'.st=JT f x.st q n o/\x'.Ok (b+1)/\atts'=atts++[⟨n,x.frame,q,o⟩]/\dels'=dels++delS f x.st q n o
variable {α:Type}{i g sc tc dc a1 a2 a3 B:Nat}
theorem flat_set{F:α->List Value}{l:List α}{x y:α}(h:l[i]? =some x)(e:F y=F x):(l.set i y).flatMap F=l.flatMap F:=by
 obtain⟨hi,hx⟩:=Tc.1 h
 rw[List.set_eq_take_append_cons_drop,Tm hi,TR,Rl,e,<-hx,<-Rl,<-TR,Nr,Rx]
theorem YoT(A:Option Addr)(cap nd:Nat)(l:List (Int×Int×Int))(a b c:Int):sl 231 3 A nd cap (l.flatMap delF++#[Value.int .i64 a,.int .i64 b,.int .i64 c].toList)=sl 231 3 A nd cap ((l++[(a,b,c)]).flatMap delF):=by simp[List.flatMap_append,delF]
theorem YoI(A:Option Addr)(cap nt:Nat)(l:List AttM)(n k:Int)(q:Cel)(o:Int):sl 140 8 A nt cap (l.flatMap attF++#[Value.int .i64 n,.int .i64 k,.int .i64 q.1,.int .i64 q.2.1,.int .i64 q.2.2.1,.int .i64 q.2.2.2.1,.int .i64 q.2.2.2.2,.int .i64 o].toList)=sl 140 8 A nt cap ((l++[(⟨n,k,q,o⟩:AttM)]).flatMap attF):=by simp[List.flatMap_append,attF]
variable {sA tA dA:Option Addr}{ss:List SM}{atts:List AttM}{dels:List (Int×Int×Int)}{w0:World}{Z:HP}
theorem Qk{c:PlC}{x x':SM}(h:ss[i]? =some x)(hx:x'.g=some (a1,a2,a3)){e:List SM}(he:e.flatMap smF=(ss.set i x').flatMap smF){nt nd:Nat}(hnt:nt=atts.length)(hnd:nd=dels.length):∀w,
 St B w0 (plB c g sA c.l.length sc tA nt tc dA nd dc::plS sA c.l.length sc e::sl 140 8 tA nt tc (atts.flatMap attF)::sl 231 3 dA nd dc (dels.flatMap delF)::blk a1 (mobj (iE x'.es) x'.ce)::blk a2 (vobj x'.ts x'.ct)::blk a3 (vobj (wE x'.ak) x'.ca)::many ((ss.take i).map smQ++(ss.drop (i+1)).map smQ)::[Z]) w->
 St B w0 (plL c g sA sc (ss.set i x') tA tc atts dA dc dels [Z]) w:=by
 intro w hw
 subst hnt hnd
 unfold plS at hw
 rw[he]at hw
 have hP:smQ x'=many [blk a1 (mobj (iE x'.es) x'.ce),blk a2 (vobj x'.ts x'.ct),blk a3 (vobj (wE x'.ak) x'.ca)]:=by
  grind [smQ,smP]
 have h1:=hw.perm (.cons _ (.cons _ (.cons _ (.cons _ (.close [_,_,_] _)))))
 rw[<-hP]at h1
 exact h1.perm (.cons _ (.cons _ (.cons _ (.cons _ (Yij smQ (Tc.1 h).1 x' _)))))
theorem Yby{l:List Flw}{n b:Int}{q:Cel}{f:Flw}{xf:Int}{xes:List (Int×Int×Nat)}{xce:Nat}{xts:YZ}{xct:Nat}{xak:List (KL×Int×Nat)}{xca:Nat}{xd:Bool}{dels':List (Int×Int×Int)}{o:Int}{es:List (Int×Int×Nat)}{ce:Nat}{ts:YZ}{ct:Nat}{ak:List (KL×Int×Nat)}{ca:Nat}{dn:Bool}
 (hf:l[i]? =some f) (hxs:ss[i]? =some (SM.mk xf (some (a1,a2,a3)) xes xce xts xct xak xca xd)) (hfi:f.1=Xr q) (hc:canT f (SM.mk xf (some (a1,a2,a3)) xes xce xts xct xak xca xd).st q n) (hxa:∀e∈xak,e.1.length=2) (hts:TOk ts ct (b+1))
 (hak:ak=if o=1/\Jx xak [Yr q,toC q]=none then xak++[([Yr q,toC q],n,xca)]else xak)
 (hes:es=if o=3\/(ZI xes (toC q)).isSome=true then xes else xes++[(toC q,n+1,xce)])
 (hdn:dn=(xd||(decide (o≠3)&&decide (toC q=dstF f))))
 (hdl:dels'=dels++delS f (SM.mk xf (some (a1,a2,a3)) xes xce xts xct xak xca xd).st q n o):
 AttR l n b q ss atts dels (ss.set i (SM.mk xf (some (a1,a2,a3)) es ce ts ct ak ca dn)) (atts++[⟨n,xf,q,o⟩]) dels':=by
 refine .inr ⟨i,f,_,o,_,hf,hxs,hfi,hc,rfl,?_,⟨λ_=>rfl,hts,λe he=>?_⟩,rfl,hdl⟩
 ·unfold JT SM.st
  congr 1
  ·rw[hes]
   by_cases h:o=3\/(ZI xes (toC q)).isSome=true
   ·simp_all
   ·rw[Tf h,Tf h]
    funext v
    have h2:ZI xes (toC q)=none:=by
     cases h3:ZI xes (toC q)with
     |none=>rfl
     |some z=>exact absurd (.inr (by rw[h3];rfl)) h
    exact Ye0 h2 v
  ·rw[hak]
   by_cases h:o=1/\Jx xak [Yr q,toC q]=none
   ·rw[Tm h,Tm h]
    funext u v
    rw[Yn2 h.2]
    by_cases e:u=Yr q/\v=toC q
    ·rw[Tm e,Tm (by rw[e.1,e.2])]
    ·rw[Tf e,Tf (λh=>e (by injection h with h1 h2;injection h2 with h2;exact⟨h1,h2⟩))]
   ·rw[Tf h,Tf h]
 ·rw[hak]at he
  split at he
  ·rcases TJ.1 he with he|he
   ·exact hxa e he
   ·rw[TU.1 he];rfl
  ·exact hxa e he
theorem Ym0{F:α->List Value}{l:List α}(hi:i<l.length){y z:α}(e:F y=F z):(l.set i y).flatMap F=(l.set i z).flatMap F:=by
 rw[<-flat_set (l:=l.set i z) (y:=y) (Si hi) e,List.set_set]
theorem Ws(w:World):(zeroValue 3).run Tryz.prog w=.ok (.int .i64 0) w:=by kernel_rfl
theorem YjE(q:Cel):celV q=.agg #[.int .i64 q.1,.int .i64 q.2.1,.int .i64 q.2.2.1,.int .i64 q.2.2.2.1,.int .i64 q.2.2.2.2]:=rfl
theorem YfZ(c:PlC)(q:Cel)(n b:Int)(hn:0<=n/\n<=1000000)(hb:0<=b/\b<=100000000)(hl:c.l.length<=1000)(hid:c.l.Pairwise λa b=>a.1≠b.1)(hxl:c.xs.length<=1000000)(hss:ss.length=c.l.length)(hok:∀x∈ss,x.Ok b)
 (hat:atts.length<=100000000) (hdl:dels.length<=100000000) {w:World}(hr:Rd B w0 [Z] c.fA (c.l.flatMap flwF)) (hx:XIn B w0 [Z] c.xA c.xs) (hw:St B w0 (plL c g sA sc ss tA tc atts dA dc dels [Z]) w):
 CX B w0 143 [.pointer (some ⟨g,0,none⟩),celV q,.int .i64 n] w λv K=>∃ss' tA' tc' atts' dA' dc' dels',v=.tuple #[]/\AttR c.l n b q ss atts dels ss' atts' dels'/\K=plL c g sA sc ss' tA' tc' atts' dA' dc' dels' [Z]:=by
 refine Ya Tryz.func143 Tryz.ntmps143 rfl rfl hw ?_
 rw[YjE]
 have leaf:(∀(i:Nat) f x,c.l[i]? =some f->ss[i]? =some x->f.1=Xr q->¬canT f x.st q n)->AttR c.l n b q ss atts dels ss atts dels:=λh=>.inl ⟨rfl,rfl,rfl,h⟩
 have p1:=λ{H':List HP}{w:World}(hr:Rd B w0 H' c.fA (c.l.flatMap flwF)) (hw:St B w0 H' w)=>YcC c.l q.2.2.2.2 (by omega) (cap:=c.fc) hr hw
 rcases YmY c.l q.2.2.2.2 with⟨h1,h2⟩|⟨i,f,h1,hf,hfi⟩
 ·rw[h1]at p1
  refine zX14 ?_<;>intros
  apply Yz [0,1,2,3,4,5,6,7] [] [true,true]
  kernel_rfl
  kernel_rfl
  exact zy
  (simp only[Ye,nthO];rfl)
  exact rfl
  refine zX2 ?_
  first|apply Yb Oy|apply Yc Oy
  exact za
  exact rfl
  exactλ_ hw=>(p1 (hr.mono zc0) hw)
  refine zX93 ?_<;>intros
  apply Yh (plL c g sA sc ss tA tc atts dA dc dels [Z])
  ·exact zc0
  apply ZR;exact rfl
  exact⟨_,_,_,_,_,_,_,rfl,leaf λi f x a1 _ a3=>absurd a3 (h2 f (Td a1)),rfl⟩
 rw[h1]at p1
 obtain⟨x,hxs⟩:∃x,ss[i]? =some x:=⟨_,Ta (by have:=(Tc.1 hf).1;omega)⟩
 have hil:i<c.l.length:=(Tc.1 hf).1
 have hxo:=hok x (Td hxs)
 have honly:¬canT f x.st q n->∀(j:Nat) f' x',c.l[j]? =some f'->ss[j]? =some x'->f'.1=Xr q->¬canT f' x'.st q n:=λh j f' x' a1 a2 a3=>by
  have:j=i:=by
   obtain⟨j1,j2⟩:=Tc.1 a1
   obtain⟨i1,i2⟩:=Tc.1 hf
   rcases RZ j i with e|e|e
   ·have:=TG.1 hid j i j1 i1 e
    rw[j2,i2]at this
    exact absurd (a3.trans hfi.symm) this
   ·exact e
   ·have:=TG.1 hid i j i1 j1 e
    rw[j2,i2]at this
    exact absurd (hfi.trans a3.symm) this
  subst this
  rw[hf]at a1
  rw[hxs]at a2
  rw[<-Tn a1,<-Tn a2]
  exact h
 by_cases hfr:x.frame<0
 ·refine zX14 ?_<;>intros
  apply Yz [0,1,2,3,4,5,6,7] [] [true,true]
  kernel_rfl
  kernel_rfl
  exact zy
  (simp only[Ye,nthO];rfl)
  exact rfl
  refine zX2 ?_
  first|apply Yb Oy|apply Yc Oy
  exact za
  exact rfl
  exactλ_ hw=>(p1 (hr.mono zc0) hw)
  refine zX93 ?_<;>intros
  apply Yh (plL c g sA sc ss tA tc atts dA dc dels [Z])
  ·exact zc0
  apply ZR;exact rfl
  exact⟨_,_,_,_,_,_,_,rfl,leaf (honly λh=>absurd h.1 (by show¬0<=x.frame;omega)),rfl⟩
 obtain⟨⟨a1,a2,a3⟩,hg⟩:=Sr.1 (hxo.g (by omega))
 obtain⟨xf,xg,xes,xce,xts,xct,xak,xca,xd⟩:=x
 have hg:xg=some (a1,a2,a3):=hg
 subst hg
 have hg:(SM.mk xf (some (a1,a2,a3)) xes xce xts xct xak xca xd).g=some (a1,a2,a3):=rfl
 have hfr:¬xf<0:=hfr
 refine Y8 (plB c g sA c.l.length sc tA atts.length tc dA dels.length dc::plS sA c.l.length sc ss::plT tA tc atts::plD dA dc dels::blk a1 (mobj (iE xes) xce)::blk a2 (vobj xts xct)::blk a3 (vobj (wE xak) xca)::many ((ss.take i).map smQ++(ss.drop (i+1)).map smQ)::[Z]) (λw hw=>?_) ?_
 ·have h2:=hw.perm (.cons _ (.cons _ (.cons _ (.cons _ (YlR smQ hxs _)))))
  have hP:smQ (SM.mk xf (some (a1,a2,a3)) xes xce xts xct xak xca xd)=many [blk a1 (mobj (iE xes) xce),blk a2 (vobj xts xct),blk a3 (vobj (wE xak) xca)]:=by
   rfl
  rw[hP]at h2
  exact h2.perm (.cons _ (.cons _ (.cons _ (.cons _ (.open_ [_,_,_] _)))))
 refine YfH (e:=226) (size:=5) (A:=sA) (k:=c.l.length) (cap:=sc) (xs:=ss.flatMap smF) (by(focus exact zc2)) (by omega) ?_
 intro gA eA
 subst eA
 have hback:∀w,St B w0 (plB c g (some ⟨gA,0,none⟩) c.l.length sc tA atts.length tc dA dels.length dc::plS (some ⟨gA,0,none⟩) c.l.length sc ss::plT tA tc atts::plD dA dc dels::blk a1 (mobj (iE xes) xce)::blk a2 (vobj xts xct)::blk a3 (vobj (wE xak) xca)::many ((ss.take i).map smQ++(ss.drop (i+1)).map smQ)::[Z]) w->St B w0 (plL c g (some ⟨gA,0,none⟩) sc ss tA tc atts dA dc dels [Z]) w:=λw hw=>by
  have h3:=Qk (x':=(SM.mk xf (some (a1,a2,a3)) xes xce xts xct xak xca xd)) hxs hg (e:=ss) (by rw[flat_set hxs rfl]) rfl rfl w hw
  have h4:ss.set i (SM.mk xf (some (a1,a2,a3)) xes xce xts xct xak xca xd)=ss:=by
   obtain⟨i1,i2⟩:=Tc.1 hxs
   rw[<-i2,List.set_getElem_self]
  rw[h4]at h3
  exact h3
 have hsmf:smF (SM.mk xf (some (a1,a2,a3)) xes xce xts xct xak xca xd)=[.int .i64 xf,.map (some a1),.map (some a2),.map (some a3),.bool xd]:=by rfl
 refine zX14 ?_<;>intros
 rename_i gc
 apply Yz [0,1,2,3,4,5,6,7] [] [true,true]
 kernel_rfl
 kernel_rfl
 exact zy
 (simp only[Ye,nthO];rfl)
 exact rfl
 refine zX2 ?_
 first|apply Yb Oy|apply Yc Oy
 exact za
 exact rfl
 exactλ_ hw=>(p1 (hr.mono zc0) hw)
 refine zX93 ?_<;>intros
 have hrf:Rd B w0 (blk gc (.cells #[.int .i64 q.1,.int .i64 q.2.1,.int .i64 q.2.2.1,.int .i64 q.2.2.2.1,.int .i64 q.2.2.2.2] 48 (0,0))::plB c g (some ⟨gA,0,none⟩) c.l.length sc tA atts.length tc dA dels.length dc::plS (some ⟨gA,0,none⟩) c.l.length sc ss::plT tA tc atts::plD dA dc dels::blk a1 (mobj (iE xes) xce)::blk a2 (vobj xts xct)::blk a3 (vobj (wE xak) xca)::many ((ss.take i).map smQ++(ss.drop (i+1)).map smQ)::[Z]) c.fA (c.l.flatMap flwF):=hr.mono zc0
 refine XE (λ(z:Nat×Nat)=>[(0,.pointer (some ⟨g,0,none⟩)),(2,.int .i64 n),(4,.pointer (some ⟨gc,0,none⟩)),(7,.pointer (some ⟨z.1,0,none⟩)),(8,sptr (some ⟨gA,0,none⟩) (i*5)),(9,.pointer (some ⟨z.2,0,none⟩))]) (λz=>blk z.1 (.cells #[.int .i64 f.1,.int .i64 f.2.1,.int .i64 f.2.2.1,.int .i64 f.2.2.2.1,.int .i64 f.2.2.2.2.1,.int .i64 f.2.2.2.2.2] 66 (0,0))::blk z.2 (.cells #[.int .i64 q.2.2.1,.int .i64 q.2.2.2.1] 306 (0,0))::blk gc (.cells #[.int .i64 q.1,.int .i64 q.2.1,.int .i64 q.2.2.1,.int .i64 q.2.2.2.1,.int .i64 q.2.2.2.2] 48 (0,0))::plB c g (some ⟨gA,0,none⟩) c.l.length sc tA atts.length tc dA dels.length dc::plS (some ⟨gA,0,none⟩) c.l.length sc ss::plT tA tc atts::plD dA dc dels::blk a1 (mobj (iE xes) xce)::blk a2 (vobj xts xct)::blk a3 (vobj (wE xak) xca)::many ((ss.take i).map smQ++(ss.drop (i+1)).map smQ)::[Z]) ?_ ?_
 ·intro K2 hK2
  apply J9 (.n1 0 (.n1 1 (.n1 2 (.n1 3 (.n1 4 (.n1 5 (.n1 6 (.n1 7 (.n1 8 (.n1 9 (.n1 10 (.n1 11 (.n1 12 (.n1 13 (.n1 14 (.n1 15 (.n1 16 (.n1 17 (.n2 18 (.n1 19 (.n1 20 (.n1 21 .done))) 19 (.n1 18 (.n1 20 (.n1 21 .done)))))))))))))))))))))) [22] [true,true,true,false,false,false,false,false,false,true]
  kernel_rfl
  kernel_rfl
  exact zy
  (simp only[Ye,nthO];rfl)
  repeat'(first|(apply Yj;try exact zl)|apply(zs91 ?_ ?_)|(apply Y3;try exact zl)|refine zgd ?_|(refine zgh ?_;intro _)|fail)
  all_goals(
   apply hK2 ⟨_,_⟩
   rotate_left
   ·exact zk
   ·exact zu)
 rintro⟨gf,gl⟩
 dsimp only
 have hakL:∀e∈wE xak,e.1.length=2:=λe he=>by
  obtain⟨y,hy,rfl⟩:=TD.1 he
  exact hxo.ak y hy
 have hkA:∀t,Jx xak [Yr q,toC q]=t->vget (wE xak) [q.2.2.1,q.2.2.2.1]=t.map (Value.int .i64):=λt h=>by rw[Ysr,<-h];rfl
 have hkS:∀t,ZI xes (Yr q)=t->mget (iE xes) q.2.2.1=t.map (Value.int .i64):=λt h=>by rw[Ygk,<-h];rfl
 have hdone:¬canT f (SM.mk xf (some (a1,a2,a3)) xes xce xts xct xak xca xd).st q n->AttR c.l n b q ss atts dels ss atts dels:=λh=>leaf (honly h)
 have hcan:canT f (SM.mk xf (some (a1,a2,a3)) xes xce xts xct xak xca xd).st q n↔∃a,ZI xes (Yr q)=some a/\a<=n/\Yr q≠dstF f/\∀t,Jx xak [Yr q,toC q]=some t->n<=t:=by
  unfold canT
  constructor
  ·rintro⟨-,⟨a,h1,h2⟩,h3,h4⟩
   exact⟨a,h1,h2,h3,h4⟩
  ·rintro⟨a,h1,h2,h3,h4⟩
   exact⟨by show 0<=xf;omega,⟨a,h1,h2⟩,h3,h4⟩
 by_cases hc:canT f (SM.mk xf (some (a1,a2,a3)) xes xce xts xct xak xca xd).st q n
 rotate_left
 ·have hno:=hdone hc
  rw[hcan]at hc
  have hkF:∀{a},ZI xes (Yr q)=some a->a<=n->q.2.2.1≠f.2.2.1->(∀t,Jx xak [Yr q,toC q]=some t->n<=t)->False:=λh1 h2 h3 h4=>hc ⟨_,h1,h2,h3,h4⟩
  cases hfrom:ZI xes (Yr q)with
  |none=>
   have hk1:mget (iE xes) q.2.2.1=none:=hkS _ hfrom
   cases hak:Jx xak [Yr q,toC q]with
   |none=>
    have hk2:vget (wE xak) [q.2.2.1,q.2.2.2.1]=none:=hkA _ hak
    refine YtC ?_
    apply Yh (plL c g (some ⟨gA,0,none⟩) sc ss tA tc atts dA dc dels [Z])
    ·intro w hw
     refine hback w ?_
     revert w
     exact zc0
    exact Yul
   |some t=>
    have hk2:vget (wE xak) [q.2.2.1,q.2.2.2.1]=some (.int .i64 t):=hkA _ hak
    refine YtC ?_
    apply Yh (plL c g (some ⟨gA,0,none⟩) sc ss tA tc atts dA dc dels [Z])
    ·intro w hw
     refine hback w ?_
     revert w
     exact zc0
    exact Yul
  |some a=>
   have hk1:mget (iE xes) q.2.2.1=some (.int .i64 a):=hkS _ hfrom
   cases hak:Jx xak [Yr q,toC q]with
   |none=>
    have hk2:vget (wE xak) [q.2.2.1,q.2.2.2.1]=none:=hkA _ hak
    by_cases hgo:a<=n/\q.2.2.1≠f.2.2.1
    ·exact absurd (hkF hfrom hgo.1 hgo.2 (λt h=>by rw[hak]at h;cases h)) id
    repeat'(first|(apply YP;exact rfl;exact rfl)|(apply Zv (kt:=3) (et:=3);exact rfl;exact rfl;exact zm;kernel_rfl;exact rfl;exact hk1)|(apply Jd (kt:=3) (et:=3);exact rfl;exact rfl;exact zm;kernel_rfl;exact rfl;exact hk1;exact Ws)|(apply JL (kt:=306) (et:=3) [q.2.2.1,q.2.2.2.1];exact rfl;exact rfl;exact zm;kernel_rfl;exact rfl;exact hakL;exact rfl;exact hk2)|(apply JK (kt:=306) (et:=3) [q.2.2.1,q.2.2.2.1];exact rfl;exact rfl;exact zm;kernel_rfl;exact rfl;exact hakL;exact rfl;exact hk2;exact Ws)|refine zgd ?_|(refine zgf ?_ ?_<;>intro _<;>try exact zo)|fail)
    all_goals(
     apply Yh (plL c g (some ⟨gA,0,none⟩) sc ss tA tc atts dA dc dels [Z])
     ·intro w hw
      refine hback w ?_
      revert w
      exact zk
     apply ZR;exact rfl
     exact⟨_,_,_,_,_,_,_,rfl,hno,rfl⟩
     skip)
   |some t=>
    have hk2:vget (wE xak) [q.2.2.1,q.2.2.2.1]=some (.int .i64 t):=hkA _ hak
    by_cases hgo:a<=n/\q.2.2.1≠f.2.2.1/\n<=t
    ·exact absurd (hkF hfrom hgo.1 hgo.2.1 (λt' h=>by rw[hak]at h;rw[<-Tn h];exact hgo.2.2)) id
    repeat'(first|(apply YP;exact rfl;exact rfl)|(apply Zv (kt:=3) (et:=3);exact rfl;exact rfl;exact zm;kernel_rfl;exact rfl;exact hk1)|(apply Jd (kt:=3) (et:=3);exact rfl;exact rfl;exact zm;kernel_rfl;exact rfl;exact hk1;exact Ws)|(apply JL (kt:=306) (et:=3) [q.2.2.1,q.2.2.2.1];exact rfl;exact rfl;exact zm;kernel_rfl;exact rfl;exact hakL;exact rfl;exact hk2)|(apply JK (kt:=306) (et:=3) [q.2.2.1,q.2.2.2.1];exact rfl;exact rfl;exact zm;kernel_rfl;exact rfl;exact hakL;exact rfl;exact hk2;exact Ws)|refine zgd ?_|(refine zgf ?_ ?_<;>intro _<;>try exact zo)|fail)
    all_goals(
     apply Yh (plL c g (some ⟨gA,0,none⟩) sc ss tA tc atts dA dc dels [Z])
     ·intro w hw
      refine hback w ?_
      revert w
      exact zk
     apply ZR;exact rfl
     exact⟨_,_,_,_,_,_,_,rfl,hno,rfl⟩
     skip)
 obtain⟨a,hfrom,hcn,hcd,hck⟩:=hcan.1 hc
 have hk1:mget (iE xes) q.2.2.1=some (.int .i64 a):=hkS _ hfrom
 have hcd:q.2.2.1≠f.2.2.1:=hcd
 obtain⟨tz,htz0,htzb,htz⟩:∃tz:Int,0<=tz/\tz<=b/\((vget xts [q.2.2.1,q.2.2.2.1]=none/\tz=0)\/vget xts [q.2.2.1,q.2.2.2.1]=some (.int .i64 tz)):=by
  cases h:vget xts [q.2.2.1,q.2.2.2.1]with
  |none=>exact⟨0,RB _,hb.1,.inl ⟨rfl,rfl⟩⟩
  |some v=>
   obtain⟨l1,bb,l2,e,-⟩:=VI h
   obtain⟨z,h1,h2,h3⟩:=hxo.ts.z ([q.2.2.1,q.2.2.2.1],v,bb) (by show _∈xts;rw[e];simp)
   exact⟨z,h2,h3,.inr (by rw[<-h1])⟩
 have htL:∀e∈xts,e.1.length=2:=hxo.ts.ok.len
 have hRZ:∀w,St B w0 (blk gf (.cells #[.int .i64 f.1,.int .i64 f.2.1,.int .i64 f.2.2.1,.int .i64 f.2.2.2.1,.int .i64 f.2.2.2.2.1,.int .i64 f.2.2.2.2.2] 66 (0,0))::blk gl (.cells #[.int .i64 q.2.2.1,.int .i64 q.2.2.2.1] 306 (0,0))::blk gc (.cells #[.int .i64 q.1,.int .i64 q.2.1,.int .i64 q.2.2.1,.int .i64 q.2.2.2.1,.int .i64 q.2.2.2.2] 48 (0,0))::plS (some ⟨gA,0,none⟩) c.l.length sc ss::plT tA tc atts::plD dA dc dels::blk a1 (mobj (iE xes) xce)::blk a2 (vobj xts xct)::blk a3 (vobj (wE xak) xca)::many ((ss.take i).map smQ++(ss.drop (i+1)).map smQ)::[Z]) w->St B w0 [Z] w:=zc0
 obtain⟨ab,hab⟩:∃ab:Bool,(Jx xak [Yr q,toC q]).isSome=ab:=⟨_,rfl⟩
 obtain⟨tv,htv⟩:∃tv:Int,(vget (wE xak) [q.2.2.1,q.2.2.2.1]=some (.int .i64 tv)/\ab=true)\/(vget (wE xak) [q.2.2.1,q.2.2.2.1]=none/\ab=false/\∀w,(zeroValue 3).run Tryz.prog w=.ok (.int .i64 tv) w):=by
  cases hopt:Jx xak [Yr q,toC q]with
  |none=>exact⟨0,.inr ⟨hkA _ hopt,by rw[<-hab,hopt];rfl,Ws⟩⟩
  |some t=>exact⟨t,.inl ⟨hkA _ hopt,by rw[<-hab,hopt];rfl⟩⟩
 have htn:ab=true->n<=tv:=λh=>by
  rcases htv with⟨h1,_⟩|⟨_,h1,_⟩
  ·cases hopt:Jx xak [Yr q,toC q]with
   |none=>rw[hkA _ hopt]at h1;cases h1
   |some t=>
    rw[hkA _ hopt]at h1
    injection h1 with h1
    injection h1 with _ h1
    rw[<-h1]
    exact hck t hopt
  ·rw[h]at h1;cases h1
 have htz2:vget xts [q.2.2.1,q.2.2.2.1]=some (.int .i64 tz)\/(vget xts [q.2.2.1,q.2.2.2.1]=none/\∀w,(zeroValue 3).run Tryz.prog w=.ok (.int .i64 tz) w):=by
  rcases htz with⟨h1,h2⟩|h1
  ·exact .inr ⟨h1,λw=>by rw[h2];exact Ws w⟩
  ·exact .inl h1
 iterate 32 (first|(apply YP;exact rfl;exact rfl)|(apply Zv (kt:=3) (et:=3);exact rfl;exact rfl;exact zm;kernel_rfl;exact rfl;exact hk1)|(apply Yhi (kt:=306) (et:=3) [q.2.2.1,q.2.2.2.1];exact rfl;exact rfl;exact zm;kernel_rfl;exact rfl;exact hakL;exact rfl;exact htv)|refine zgd ?_|fail)
 refine XE (λ_:Unit=>[(0,.pointer (some ⟨g,0,none⟩)),(2,.int .i64 n),(4,.pointer (some ⟨gc,0,none⟩)),(7,.pointer (some ⟨gf,0,none⟩)),(8,sptr (some ⟨gA,0,none⟩) (i*5)),(9,.pointer (some ⟨gl,0,none⟩)),(13,.bool ab)]) (λ_=>blk gf (.cells #[.int .i64 f.1,.int .i64 f.2.1,.int .i64 f.2.2.1,.int .i64 f.2.2.2.1,.int .i64 f.2.2.2.2.1,.int .i64 f.2.2.2.2.2] 66 (0,0))::blk gl (.cells #[.int .i64 q.2.2.1,.int .i64 q.2.2.2.1] 306 (0,0))::blk gc (.cells #[.int .i64 q.1,.int .i64 q.2.1,.int .i64 q.2.2.1,.int .i64 q.2.2.2.1,.int .i64 q.2.2.2.2] 48 (0,0))::plB c g (some ⟨gA,0,none⟩) c.l.length sc tA atts.length tc dA dels.length dc::plS (some ⟨gA,0,none⟩) c.l.length sc ss::plT tA tc atts::plD dA dc dels::blk a1 (mobj (iE xes) xce)::blk a2 (vobj xts xct)::blk a3 (vobj (wE xak) xca)::many ((ss.take i).map smQ++(ss.drop (i+1)).map smQ)::[Z]) ?_ ?_
 ·intro K2 hK2
  cases ab with
  |false=>
   refine zX23 ?_<;>intros
   apply hK2 ()
   ·exact zc1
   ·exact zc0
  |true=>
   have h9:=htn rfl
   refine zX23 ?_<;>intros
   apply hK2 ()
   ·exact zc1
   ·exact zc0
 rintro⟨⟩
 refine zX3 ?_
 apply Yz [0,1,2,3,4,5,6,7,8,9,10,11,12,13,14,15] [] [true,true,true,true,true,true,true,true,true,true,true,true]
 kernel_rfl
 kernel_rfl
 exact zy
 (simp only[Ye,nthO];rfl)
 exact rfl
 repeat'(first|(apply YP;exact rfl;exact rfl)|(apply Yhj (kt:=306) (et:=3) [q.2.2.1,q.2.2.2.1];exact rfl;exact rfl;exact zm;kernel_rfl;exact rfl;exact htL;exact rfl;exact htz2)|refine zgd ?_|fail)
 apply Yg _ Yv9
 exact za
 exact rfl
 exactλ_ hw=>(Ykq c _ _ _ _ _ htz0 hxl (blk gf (.cells #[.int .i64 f.1,.int .i64 f.2.1,.int .i64 f.2.2.1,.int .i64 f.2.2.2.1,.int .i64 f.2.2.2.2.1,.int .i64 f.2.2.2.2.2] 66 (0,0))::blk gl (.cells #[.int .i64 q.2.2.1,.int .i64 q.2.2.2.1] 306 (0,0))::blk gc (.cells #[.int .i64 q.1,.int .i64 q.2.1,.int .i64 q.2.2.1,.int .i64 q.2.2.2.1,.int .i64 q.2.2.2.2] 48 (0,0))::plS (some ⟨gA,0,none⟩) c.l.length sc ss::plT tA tc atts::plD dA dc dels::blk a1 (mobj (iE xes) xce)::blk a2 (vobj xts xct)::blk a3 (vobj (wE xak) xca)::many ((ss.take i).map smQ++(ss.drop (i+1)).map smQ)::[Z]) hRZ zc0 zc0 hx (hw))
 rintro _ _ ⟨⟨o,rfl⟩,hK0⟩
 rw[hK0]
 refine zX16 ?_
 have hts:TOk xts xct b:=hxo.ts
 refine XE (λ(_:{z:YZ×Nat//TOk z.1 z.2 (b+1)})=>[(0,.pointer (some ⟨g,0,none⟩)),(2,.int .i64 n),(4,.pointer (some ⟨gc,0,none⟩)),(7,.pointer (some ⟨gf,0,none⟩)),(8,sptr (some ⟨gA,0,none⟩) (i*5)),(9,.pointer (some ⟨gl,0,none⟩)),(13,.bool ab),(14,.int .i64 o)]) (λz=>blk gf (.cells #[.int .i64 f.1,.int .i64 f.2.1,.int .i64 f.2.2.1,.int .i64 f.2.2.2.1,.int .i64 f.2.2.2.2.1,.int .i64 f.2.2.2.2.2] 66 (0,0))::blk gl (.cells #[.int .i64 q.2.2.1,.int .i64 q.2.2.2.1] 306 (0,0))::blk gc (.cells #[.int .i64 q.1,.int .i64 q.2.1,.int .i64 q.2.2.1,.int .i64 q.2.2.2.1,.int .i64 q.2.2.2.2] 48 (0,0))::plB c g (some ⟨gA,0,none⟩) c.l.length sc tA atts.length tc dA dels.length dc::plS (some ⟨gA,0,none⟩) c.l.length sc ss::plT tA tc atts::plD dA dc dels::blk a1 (mobj (iE xes) xce)::blk a2 (vobj z.1.1 z.1.2)::blk a3 (vobj (wE xak) xca)::many ((ss.take i).map smQ++(ss.drop (i+1)).map smQ)::[Z]) ?_ ?_
 ·intro K2 hK2
  rcases htz with⟨htz,rfl⟩|htz
  ·have hg2:vget (xts++[([q.2.2.1,q.2.2.2.1],Value.int .i64 0,xct)]) [q.2.2.1,q.2.2.2.1]=some (.int .i64 0):=by
    unfold vget at htz⊢
    rw[Option.map_eq_none_iff]at htz
    rw[List.find?_append,htz]
    simp
   have hL2:∀e∈xts++[([q.2.2.1,q.2.2.2.1],Value.int .i64 0,xct)],e.1.length=2:=(hts.ok.snoc rfl _).len
   have hbir:∀e∈xts,e.2.2≠xct:=λe he=>Nat.ne_of_lt (hts.ok.lt e he)
   have hnew:TOk (xts++([q.2.2.1,q.2.2.2.1],Value.int .i64 (0+1),xct)::[]) (xct+1) (b+1):=⟨hts.ok.snoc rfl _,λe he=>by
    rcases TJ.1 he with he|he
    ·obtain⟨z,h1,h2,h3⟩:=hts.z e he
     exact⟨z,h1,h2,by omega⟩
    ·rw[TU.1 he]
     exact⟨0+1,rfl,by omega,by omega⟩⟩
   apply Qa (.p1 0 (.p1 1 (.p1 2 (.p1 3 (.p1 4 (.d2 5 (.p1 6 (.d1 7 (.p1 8 .done))) 7 (.p1 8 (.d1 5 (.p1 6 .done))))))))) [9] [false,true,false,false,true]
   kernel_rfl
   kernel_rfl
   exact zy
   (simp only[Ye,nthO];rfl)
   repeat'(first|(apply YP;exact rfl;exact rfl)|(apply VN (kt:=306) (et:=3) [q.2.2.1,q.2.2.2.1];exact rfl;exact rfl;exact zm;kernel_rfl;exact rfl;exact htL;exact rfl;exact htz;exact Ws)|(apply Z8 (kt:=306) (et:=3) [q.2.2.1,q.2.2.2.1];exact rfl;exact rfl;exact zm;kernel_rfl;exact rfl;exact hL2;exact rfl;exact hg2)|(apply YbW (kt:=306) (et:=3) [q.2.2.1,q.2.2.2.1];exact rfl;exact rfl;kernel_rfl;exact rfl;exact htL;exact rfl;exact zd;exact htz;exact Ws)|(apply Vq (l1:=xts) (l2:=[]) (k:=[q.2.2.1,q.2.2.2.1]);(iterate 3 exact rfl);exact zd;exact hbir)|(apply Yk8;(simp only[nthO];rfl))|(apply Yk6;(simp only[nthO];rfl);exact zp)|(apply Yk7;(simp only[nthO];rfl);(simp only[nthO];rfl);exact zp)|(apply Qe;try exact zl)|refine zgd ?_|fail)
   all_goals(
    apply hK2 ⟨(_,_),hnew⟩
    ·exact zu
    ·exact zk)
  ·obtain⟨l1,bb,l2,e,hne⟩:=VI htz
   subst e
   have hbir:=hts.ok.births
   have hL0:∀e∈l1,e.1.length=2:=λe he=>htL e (TJ.2 (.inl he))
   have hnew:TOk (l1++([q.2.2.1,q.2.2.2.1],Value.int .i64 (tz+1),bb)::l2) xct (b+1):=⟨hts.ok.set _,λe he=>by
    rcases TJ.1 he with he|he
    ·obtain⟨z,h1,h2,h3⟩:=hts.z e (TJ.2 (.inl he))
     exact⟨z,h1,h2,by omega⟩
    ·rcases Rr.1 he with rfl|he
     ·exact⟨tz+1,rfl,by omega,by omega⟩
     ·obtain⟨z,h1,h2,h3⟩:=hts.z e (TJ.2 (.inr (TE _ he)))
      exact⟨z,h1,h2,by omega⟩⟩
   apply Qa (.p1 0 (.p1 1 (.p1 2 (.p1 3 (.p1 4 (.d2 5 (.p1 6 (.d1 7 (.p1 8 .done))) 7 (.p1 8 (.d1 5 (.p1 6 .done))))))))) [9] [false,true,false,false,true]
   kernel_rfl
   kernel_rfl
   exact zy
   (simp only[Ye,nthO];rfl)
   repeat'(first|(apply YP;exact rfl;exact rfl)|(apply Z8 (kt:=306) (et:=3) [q.2.2.1,q.2.2.2.1];exact rfl;exact rfl;exact zm;kernel_rfl;exact rfl;exact htL;exact rfl;exact htz)|(apply YbX (kt:=306) (et:=3) (l1:=l1) (l2:=l2) [q.2.2.1,q.2.2.2.1];exact rfl;exact rfl;kernel_rfl;exact rfl;exact hL0;exact rfl;exact zd;exact hne)|(apply Vq (l1:=l1) (l2:=l2) (k:=[q.2.2.1,q.2.2.2.1]);(iterate 3 exact rfl);exact zd;exact hbir)|(apply Yk8;(simp only[nthO];rfl))|(apply Yk6;(simp only[nthO];rfl);exact zp)|(apply Yk7;(simp only[nthO];rfl);(simp only[nthO];rfl);exact zp)|(apply Qe;try exact zl)|refine zgd ?_|fail)
   all_goals(
    apply hK2 ⟨(_,_),hnew⟩
    ·exact zu
    ·exact zk)
 rintro⟨⟨ts,ct⟩,hts2⟩
 dsimp only at hts2⊢
 refine zX3 ?_
 refine XE (λ(_:Option Addr×Nat)=>[(0,.pointer (some ⟨g,0,none⟩)),(2,.int .i64 n),(4,.pointer (some ⟨gc,0,none⟩)),(7,.pointer (some ⟨gf,0,none⟩)),(8,sptr (some ⟨gA,0,none⟩) (i*5)),(9,.pointer (some ⟨gl,0,none⟩)),(13,.bool ab),(14,.int .i64 o)]) (λz=>blk gf (.cells #[.int .i64 f.1,.int .i64 f.2.1,.int .i64 f.2.2.1,.int .i64 f.2.2.2.1,.int .i64 f.2.2.2.2.1,.int .i64 f.2.2.2.2.2] 66 (0,0))::blk gl (.cells #[.int .i64 q.2.2.1,.int .i64 q.2.2.2.1] 306 (0,0))::blk gc (.cells #[.int .i64 q.1,.int .i64 q.2.1,.int .i64 q.2.2.1,.int .i64 q.2.2.2.1,.int .i64 q.2.2.2.2] 48 (0,0))::plB c g (some ⟨gA,0,none⟩) c.l.length sc z.1 (atts.length+1) z.2 dA dels.length dc::plS (some ⟨gA,0,none⟩) c.l.length sc ss::sl 140 8 z.1 (atts.length+1) z.2 ((atts++[(⟨n,xf,q,o⟩:AttM)]).flatMap attF)::plD dA dc dels::blk a1 (mobj (iE xes) xce)::blk a2 (vobj ts ct)::blk a3 (vobj (wE xak) xca)::many ((ss.take i).map smQ++(ss.drop (i+1)).map smQ)::[Z]) ?_ ?_
 ·intro K2 hK2
  apply Yz [0,1,2,3,4,5,6,7,8,9,10,11,12,13,14,15,16,17,18] [19] [true,true,true,true,true]
  kernel_rfl
  kernel_rfl
  exact zy
  (simp only[Ye,nthO];rfl)
  (simp only[Ye,nthO];rfl)
  refine YtD ?_<;>intros
  rename_i tA' tc'
  have e5:=YoI tA' tc' (atts.length+1) atts n xf q o
  apply hK2 (tA',tc')
  ·exact zc1
  ·dsimp only
   rw[<-e5]
   exact zc0
 rintro⟨uA,uc⟩
 dsimp only
 apply Y7
 refine XE (λ(_:{z:List (KL×Int×Nat)×Nat//z.1=if o=1/\Jx xak [Yr q,toC q]=none then xak++[([Yr q,toC q],n,xca)]else xak})=>[(0,.pointer (some ⟨g,0,none⟩)),(2,.int .i64 n),(4,.pointer (some ⟨gc,0,none⟩)),(7,.pointer (some ⟨gf,0,none⟩)),(8,sptr (some ⟨gA,0,none⟩) (i*5)),(9,.pointer (some ⟨gl,0,none⟩)),(13,.bool ab),(14,.int .i64 o)]) (λz=>blk gf (.cells #[.int .i64 f.1,.int .i64 f.2.1,.int .i64 f.2.2.1,.int .i64 f.2.2.2.1,.int .i64 f.2.2.2.2.1,.int .i64 f.2.2.2.2.2] 66 (0,0))::blk gl (.cells #[.int .i64 q.2.2.1,.int .i64 q.2.2.2.1] 306 (0,0))::blk gc (.cells #[.int .i64 q.1,.int .i64 q.2.1,.int .i64 q.2.2.1,.int .i64 q.2.2.2.1,.int .i64 q.2.2.2.2] 48 (0,0))::plB c g (some ⟨gA,0,none⟩) c.l.length sc uA (atts.length+1) uc dA dels.length dc::plS (some ⟨gA,0,none⟩) c.l.length sc ss::sl 140 8 uA (atts.length+1) uc ((atts++[(⟨n,xf,q,o⟩:AttM)]).flatMap attF)::plD dA dc dels::blk a1 (mobj (iE xes) xce)::blk a2 (vobj ts ct)::blk a3 (vobj (wE z.1.1) z.1.2)::many ((ss.take i).map smQ++(ss.drop (i+1)).map smQ)::[Z]) ?_ ?_
 ·intro K2 hK2
  have e9:wE (xak++[([Yr q,toC q],n,xca)])=wE xak++[([q.2.2.1,q.2.2.2.1],Value.int .i64 n,xca)]:=by unfold wE;rw[TP];rfl
  by_cases ho:o=1
  ·cases hopt:Jx xak [Yr q,toC q]with
   |none=>
    have hb0:ab=false:=by rw[<-hab,hopt];rfl
    have hk2:=hkA _ hopt
    subst hb0
    refine zX23 ?_<;>intros
    apply Yz [0,1,2,3,4,5] [6] [false,true,false,false,true]
    kernel_rfl
    kernel_rfl
    exact zy
    (simp only[Ye,nthO];rfl)
    (simp only[Ye,nthO];rfl)
    repeat'(first|(apply YP;exact rfl;exact rfl)|(apply OM (kt:=306) (et:=3) [q.2.2.1,q.2.2.2.1];(iterate 3 exact rfl);kernel_rfl;exact rfl;exact hakL;exact zd;exact hk2)|refine zgd ?_|fail)
    apply hK2 ⟨(xak++[([Yr q,toC q],n,xca)],xca+1),by rw[Tm ⟨ho,hopt⟩]⟩
    ·exact zc1
    ·dsimp only
     rw[e9]
     exact zc0
   |some t=>
    have hb0:ab=true:=by rw[<-hab,hopt];rfl
    subst hb0
    refine YqI ?_<;>intros
    apply hK2 ⟨(xak,xca),by rw[Tf (λh=>by rw[hopt]at h;cases h.2)]⟩
    ·exact zc1
    ·exact zc0
  ·skip
   refine YtE ?_<;>intros
   apply hK2 ⟨(xak,xca),by rw[Tf (λh=>ho h.1)]⟩
   ·exact zc1
   ·exact zc0
 rintro⟨⟨ak,ca⟩,hak⟩
 dsimp only at hak⊢
 by_cases ho3:o=3
 ·repeat'(first|refine zgb ?_|(refine zgf ?_ ?_<;>intro _<;>try exact zo)|fail)
  apply Yh (plL c g (some ⟨gA,0,none⟩) sc (ss.set i (SM.mk xf (some (a1,a2,a3)) xes xce ts ct ak ca xd)) uA uc (atts++[(⟨n,xf,q,o⟩:AttM)]) dA dc dels [Z])
  ·intro w hw
   refine Qk (x':=SM.mk xf (some (a1,a2,a3)) xes xce ts ct ak ca xd) hxs rfl (e:=ss) (nt:=atts.length+1) (nd:=dels.length) (Eq.symm (flat_set hxs rfl)) (by simp) rfl w ?_
   revert w
   exact zc0
  apply ZR;exact rfl
  exact⟨_,_,_,_,_,_,_,rfl,Yby hf hxs hfi hc hxo.ak hts2 hak (Tm (Or.inl ho3)).symm (by rw[ho3];simp) (by unfold delS;rw[Tf (λh=>h.1 ho3),Rm]),rfl⟩
 iterate 11 (first|refine zga ?_|(refine zgf ?_ ?_<;>intro _<;>try exact zo)|fail)
 refine XE (λ(_:{z:List (Int×Int×Nat)×Nat//z.1=if o=3\/(ZI xes (toC q)).isSome=true then xes else xes++[(toC q,n+1,xce)]})=>[(0,.pointer (some ⟨g,0,none⟩)),(2,.int .i64 n),(4,.pointer (some ⟨gc,0,none⟩)),(7,.pointer (some ⟨gf,0,none⟩)),(8,sptr (some ⟨gA,0,none⟩) (i*5)),(9,.pointer (some ⟨gl,0,none⟩)),(13,.bool ab),(14,.int .i64 o)]) (λz=>blk gf (.cells #[.int .i64 f.1,.int .i64 f.2.1,.int .i64 f.2.2.1,.int .i64 f.2.2.2.1,.int .i64 f.2.2.2.2.1,.int .i64 f.2.2.2.2.2] 66 (0,0))::blk gl (.cells #[.int .i64 q.2.2.1,.int .i64 q.2.2.2.1] 306 (0,0))::blk gc (.cells #[.int .i64 q.1,.int .i64 q.2.1,.int .i64 q.2.2.1,.int .i64 q.2.2.2.1,.int .i64 q.2.2.2.2] 48 (0,0))::plB c g (some ⟨gA,0,none⟩) c.l.length sc uA (atts.length+1) uc dA dels.length dc::plS (some ⟨gA,0,none⟩) c.l.length sc ss::sl 140 8 uA (atts.length+1) uc ((atts++[(⟨n,xf,q,o⟩:AttM)]).flatMap attF)::plD dA dc dels::blk a1 (mobj (iE z.1.1) z.1.2)::blk a2 (vobj ts ct)::blk a3 (vobj (wE ak) ca)::many ((ss.take i).map smQ++(ss.drop (i+1)).map smQ)::[Z]) ?_ ?_
 ·intro K2 hK2
  have e9:iE (xes++[(toC q,n+1,xce)])=iE xes++[(q.2.2.2.1,Value.int .i64 (n+1),xce)]:=by unfold iE;rw[TP];rfl
  have hkT:∀t,ZI xes (toC q)=t->mget (iE xes) q.2.2.2.1=t.map (Value.int .i64):=λt h=>by rw[Ygk,<-h];rfl
  cases hto:ZI xes (toC q)with
  |none=>
   have hk3:=hkT _ hto
   repeat'(first|(apply YP;exact rfl;exact rfl)|(apply Jd (kt:=3) (et:=3);exact rfl;exact rfl;exact zm;kernel_rfl;exact rfl;exact hk3;exact Ws)|refine zgd ?_|fail)
   apply Yz [0,1,2,3,4,5,6,7] [8] [false,false,true,false,true]
   kernel_rfl
   kernel_rfl
   exact zy
   (simp only[Ye,nthO];rfl)
   (simp only[Ye,nthO];rfl)
   repeat'(first|(apply YP;exact rfl;exact rfl)|(apply Q3 (kt:=3) (et:=3);(iterate 3 exact rfl);kernel_rfl;exact zd;exact hk3)|refine zgd ?_|fail)
   apply hK2 ⟨(xes++[(toC q,n+1,xce)],xce+1),by rw[Tf (λh=>by rw[hto]at h;rcases h with h|h;exact ho3 h;cases h)]⟩
   ·exact zc1
   ·dsimp only
    rw[e9]
    exact zc0
  |some t=>
   have hk3:=hkT _ hto
   repeat'(first|(apply YP;exact rfl;exact rfl)|(apply Zv (kt:=3) (et:=3);exact rfl;exact rfl;exact zm;kernel_rfl;exact rfl;exact hk3)|refine zgd ?_|fail)
   apply hK2 ⟨(xes,xce),by rw[Tm (.inr (by rw[hto];rfl))]⟩
   ·exact zc1
   ·exact zc0
 rintro⟨⟨es,ce⟩,hes⟩
 dsimp only at hes⊢
 have hdq:(toC q=dstF f)=(q.2.2.2.1=f.2.2.1):=rfl
 by_cases hds:q.2.2.2.1=f.2.2.1
 rotate_left
 ·skip
  refine YtE ?_<;>intros
  apply Yh (plL c g (some ⟨gA,0,none⟩) sc (ss.set i (SM.mk xf (some (a1,a2,a3)) es ce ts ct ak ca xd)) uA uc (atts++[(⟨n,xf,q,o⟩:AttM)]) dA dc dels [Z])
  ·intro w hw
   refine Qk (x':=SM.mk xf (some (a1,a2,a3)) es ce ts ct ak ca xd) hxs rfl (e:=ss) (nt:=atts.length+1) (nd:=dels.length) (Eq.symm (flat_set hxs rfl)) (by simp) (rfl) w ?_
   revert w
   exact zc0
  apply Zk;exact rfl
  exact⟨_,_,_,_,_,_,_,rfl,Yby hf hxs hfi hc hxo.ak hts2 hak hes (by rw[show decide (toC q=dstF f)=false from Tu hds,Bool.and_false,NW]) (by unfold delS;rw[Tf (λh=>hds h.2.1),Rm]),rfl⟩
 cases xd with
 |true=>
  refine YqI ?_<;>intros
  apply Yh (plL c g (some ⟨gA,0,none⟩) sc (ss.set i (SM.mk xf (some (a1,a2,a3)) es ce ts ct ak ca true)) uA uc (atts++[(⟨n,xf,q,o⟩:AttM)]) dA dc dels [Z])
  ·intro w hw
   refine Qk (x':=SM.mk xf (some (a1,a2,a3)) es ce ts ct ak ca true) hxs rfl (e:=ss) (nt:=atts.length+1) (nd:=dels.length) (Eq.symm (flat_set hxs rfl)) (by simp) (rfl) w ?_
   revert w
   exact zc0
  apply Zk;exact rfl
  exact⟨_,_,_,_,_,_,_,rfl,Yby hf hxs hfi hc hxo.ak hts2 hak hes (by rw[Bool.true_or]) (by unfold delS;rw[Tf (λh=>by cases h.2.2),Rm]),rfl⟩
 |false=>
 refine YqI ?_<;>intros
 apply Jf T (f:=smF) (l:=ss) (i:=i) (q:=5) (o:=4) (b:=(SM.mk xf (some (a1,a2,a3)) xes xce xts xct xak xca false)) (b':=(SM.mk xf (some (a1,a2,a3)) xes xce xts xct xak xca true));(iterate 3 exact rfl);exact zd;exact hxs;(simp[smF]);exactλ_=>rfl;exact rfl;exact rfl
 have hil2:=(Tc.1 hxs).1
 have hsl2:(ss.set i (SM.mk xf (some (a1,a2,a3)) xes xce xts xct xak xca true)).length=c.l.length:=by rw[TT];exact hss
 have hset:(ss.set i (SM.mk xf (some (a1,a2,a3)) xes xce xts xct xak xca true))[i]? =some (SM.mk xf (some (a1,a2,a3)) xes xce xts xct xak xca true):=Si hil2
 repeat'(first|(apply YP;exact rfl;exact rfl)|refine zga ?_|fail)
 apply Yz [0,1,2,3,4,5,6,7,8,9,10,11,12,13,14,15,16,17,18] [19] [true,true,true,true,true]
 kernel_rfl
 kernel_rfl
 exact zy
 (simp only[Ye,nthO];rfl)
 (simp only[Ye,nthO];rfl)
 refine YtD ?_<;>intros
 rename_i dA' dc'
 have e6:=YoT dA' dc' (dels.length+1) dels f.1 xf n
 apply Yh (plL c g (some ⟨gA,0,none⟩) sc (ss.set i (SM.mk xf (some (a1,a2,a3)) es ce ts ct ak ca true)) uA uc (atts++[(⟨n,xf,q,o⟩:AttM)]) dA' dc' (dels++[(f.1,xf,n)]) [Z])
 ·intro w hw
  refine Qk (x':=SM.mk xf (some (a1,a2,a3)) es ce ts ct ak ca true) hxs rfl (e:=ss.set i (SM.mk xf (some (a1,a2,a3)) xes xce xts xct xak xca true)) (nt:=atts.length+1) (nd:=dels.length+1) (Ym0 hil2 rfl) (by simp) (by simp) w ?_
  rw[<-e6]
  revert w
  exact zc0
 apply Zk;exact rfl
 exact⟨_,_,_,_,_,_,_,rfl,Yby hf hxs hfi hc hxo.ak hts2 hak hes (by rw[Tj ho3,Tj (by rw[hdq];exact hds)];rfl) (by unfold delS;rw[Tm ⟨ho3,hds,rfl⟩];rfl),rfl⟩
open Go.RowKit Go.Eng Go.Nw Go.Rt Go.Sort Go.Shelf Go.Proofs
theorem Yr7(a b c d:Int)(g:Nat)(W:World)(h0:W.cell? ⟨g,0,none⟩=some (.int .i64 a))(h1:W.cell? ⟨g,1,none⟩=some (.int .i64 b))(h2:W.cell? ⟨g,2,none⟩=some (.int .i64 c))(h3:W.cell? ⟨g,3,none⟩=some (.int .i64 d)):
 Calls Tryz.prog 72 #[.slice (some ⟨g,0,none⟩) 4 4] W λe w'=>e=.returned (.int .i64 (Xp [a,b,c,d]))/\w'=W:=by
 go_enter Tryz.func72,Tryz.ntmps72
 go_wp2
 refine wp_loop_rounds 5 ?_
 rw[rounds_succ]
 go_wp2
 ·rename_i hx
  have hx:a≠0:=by simp_all
  exact zc85
 rename_i ha
 have ha:a=0:=by simp_all
 rw[rounds_succ]
 go_wp2
 ·rename_i hx
  have hx:b≠0:=by simp_all
  exact zc85
 rename_i hb
 have hb:b=0:=by simp_all
 rw[rounds_succ]
 go_wp2
 ·rename_i hx
  have hx:c≠0:=by simp_all
  exact zc85
 rename_i hc
 have hc:c=0:=by simp_all
 rw[rounds_succ]
 go_wp2
 ·rename_i hx
  have hx:d≠0:=by simp_all
  exact zc85
 rename_i hd
 have hd:d=0:=by simp_all
 rw[rounds_succ]
 go_wp2
 exact zc85
structure BrM where
 f:Int
 k:Int
 u:Int
 v:Int
 A:Option Addr
 n:Nat
 cap:Nat
deriving Inhabited
def brF(x:BrM):List Value:=[.int .i64 x.f,.int .i64 x.k,.int .i64 x.u,.int .i64 x.v,.slice x.A x.n x.cap]
def cfBr(x y:BrM):Int:=Xp [Lib.compareInt x.f y.f,Lib.compareInt x.k y.k,Lib.compareInt x.u y.u,Lib.compareInt x.v y.v]
theorem YvI(x y:BrM)(W:World):Calls Tryz.prog 71 #[.agg #[.int .i64 x.f,.int .i64 x.k,.int .i64 x.u,.int .i64 x.v,.slice x.A x.n x.cap],.agg #[.int .i64 y.f,.int .i64 y.k,.int .i64 y.u,.int .i64 y.v,.slice y.A y.n y.cap]] W λe w'=>e=.returned (.int .i64 (cfBr x y))/\∃q os',w'=grow (W.drewN q) os':=by
 have c1:=λW'=>Tryz.cmp_Compare_int x.f y.f W'
 have c2:=λW'=>Tryz.cmp_Compare_int x.k y.k W'
 have c3:=λW'=>Tryz.cmp_Compare_int x.u y.u W'
 have c4:=λW'=>Tryz.cmp_Compare_int x.v y.v W'
 unfold cfBr
 generalize Lib.compareInt x.f y.f=r1 at c1⊢
 generalize Lib.compareInt x.k y.k=r2 at c2⊢
 generalize Lib.compareInt x.u y.u=r3 at c3⊢
 generalize Lib.compareInt x.v y.v=r4 at c4⊢
 go_enter Tryz.func71,Tryz.ntmps71
 go_wp2
 generalize hw1:(W.alloc (.cells #[.int .i64 x.f,.int .i64 x.k,.int .i64 x.u,.int .i64 x.v,.slice x.A x.n x.cap] 147)).alloc (.cells #[.int .i64 y.f,.int .i64 y.k,.int .i64 y.u,.int .i64 y.v,.slice y.A y.n y.cap] 147)=w1
 have hg:grow W #[.cells #[.int .i64 x.f,.int .i64 x.k,.int .i64 x.u,.int .i64 x.v,.slice x.A x.n x.cap] 147 (0,0),.cells #[.int .i64 y.f,.int .i64 y.k,.int .i64 y.u,.int .i64 y.v,.slice y.A y.n y.cap] 147 (0,0)]=w1:=by
  rw[<-hw1,alloc_eq_grow,alloc_eq_grow,grow_grow];rfl
 have x0:w1.drew.cell? ⟨W.heap.size,0,none⟩=some (.int .i64 x.f):=Ybo
 have x1:w1.drew.cell? ⟨W.heap.size,1,none⟩=some (.int .i64 x.k):=Ybo
 have x2:w1.drew.cell? ⟨W.heap.size,2,none⟩=some (.int .i64 x.u):=Ybo
 have x3:w1.drew.cell? ⟨W.heap.size,3,none⟩=some (.int .i64 x.v):=Ybo
 have y0:w1.drew.cell? ⟨W.heap.size+1,0,none⟩=some (.int .i64 y.f):=Ybo
 have y1:w1.drew.cell? ⟨W.heap.size+1,1,none⟩=some (.int .i64 y.k):=Ybo
 have y2:w1.drew.cell? ⟨W.heap.size+1,2,none⟩=some (.int .i64 y.u):=Ybo
 have y3:w1.drew.cell? ⟨W.heap.size+1,3,none⟩=some (.int .i64 y.v):=Ybo
 refine wp_region_still_tail 20 (by kernel_rfl) (by kernel_rfl) ?_
 have e9:({w1 with drawn:=w1.drawn+1}:World)=w1.drew:=rfl
 rw[e9]
 clear e9
 generalize hw2:w1.drew=w2 at x0 x1 x2 x3 y0 y1 y2 y3⊢
 simp only[List.take_succ_cons,SO,List.drop_succ_cons,List.drop_zero]
 repeat still_step
 still_call (c1 _)
 repeat still_step
 still_call (c2 _)
 repeat still_step
 still_call (c3 _)
 repeat still_step
 still_call (c4 _)
 refine wpStill_nil ?_
 clear c1 c2 c3 c4
 have hor:Calls Tryz.prog 72 #[.slice (some ⟨w2.heap.size,0,none⟩) 4 4] (w2.alloc (.cells #[.int .i64 r1,.int .i64 r2,.int .i64 r3,.int .i64 r4] 3)) λe w'=>e=.returned (.int .i64 (Xp [r1,r2,r3,r4]))/\w'=w2.alloc (.cells #[.int .i64 r1,.int .i64 r2,.int .i64 r3,.int .i64 r4] 3):=
  Yr7 r1 r2 r3 r4 w2.heap.size _ (by simp) (by simp) (by simp) (by simp)
 generalize Xp [r1,r2,r3,r4]=r at hor⊢
 clear x0 x1 x2 x3 y0 y1 y2 y3
 go_wp2_with (go_at_call 72;refine hor.mono ?_;rintro e w' ⟨rfl,rfl⟩)
 go_ret
 refine⟨by first|rfl|kernel_rfl|simp,1,#[.cells #[.int .i64 x.f,.int .i64 x.k,.int .i64 x.u,.int .i64 x.v,.slice x.A x.n x.cap] 147 (0,0),.cells #[.int .i64 y.f,.int .i64 y.k,.int .i64 y.u,.int .i64 y.v,.slice y.A y.n y.cap] 147 (0,0),.cells #[.int .i64 r1,.int .i64 r2,.int .i64 r3,.int .i64 r4] 3 (0,0)],?_⟩
 rw[<-hw2,<-hw1,alloc_eq_grow]
 rfl
def keyA(a:AttM):List Int:=[Xr a.c,a.frame,Yr a.c,toC a.c]
def runO:List Int->Nat->Nat
 |[],r=>r
 |o::os,r=>if o=1 then runO os 0 else runO os (r+1)
theorem Yar(o:Int):∀(os:List Int) (r:Nat),runO (os++[o]) r=if o=1 then 0 else runO os r+1
 |[],r=>by grind [runO]
 |x::os,r=>by
  simp only[TB,runO,Yar o os]
  grind
theorem Yb9(loss o:Int):∀(os:List Int) (r:Nat),brO loss (os++[o]) r=(brO loss os r||(decide (o≠1)&&decide (loss<(runO os r:Nat)+1)))
 |[],r=>by
  simp only[TI,brO,runO,NX]
  grind
 |x::os,r=>by
  simp only[TB,brO,runO,Yb9 loss o os]
  grind
def osK(al:List AttM)(K:List Int):List Int:=(al.filter λa=>keyA a==K).map AttM.o
theorem Yp3(al:List AttM)(id k u v:Int):osK al [id,k,u,v]=(keyL al id k u v).map AttM.o:=by
 unfold osK keyL
 unfold keyA onK
 grind
theorem Ydl(al:List AttM)(a:AttM)(K:List Int):osK (al++[a]) K=if keyA a=K then osK al K++[a.o]else osK al K:=by
 unfold osK
 grind
def BrI(loss:List Int->Option Int)(al:List AttM)(rows:List Int->Nat)(found:List Int->Bool):Prop:=
 ∀K b,loss K=some b->found K=true\/(brO b (osK al K) 0=false/\rows K=runO (osK al K) 0)
theorem BrI.start(loss:List Int->Option Int):BrI loss [] (λ_=>0) (λ_=>false):=λ_ _ _=>.inr ⟨rfl,rfl⟩
variable {loss:List Int->Option Int}{al:List AttM}{rows rows':List Int->Nat}{found:List Int->Bool}{a:AttM}
theorem BrI.skip(h:BrI loss al rows found)(ha:loss (keyA a)=none\/found (keyA a)=true):BrI loss (al++[a]) rows found:=λK b hb=>by
 by_cases e:keyA a=K
 ·simp_all
 ·rw[Ydl,Tf e]
  exact h K b hb
theorem BrI.acked(h:BrI loss al rows found)(ha:a.o=1)(h1:rows' (keyA a)=0)(h2:∀K,K≠keyA a->rows' K=rows K):BrI loss (al++[a]) rows' found:=λK b hb=>by
 rw[Ydl]
 by_cases e:keyA a=K
 ·rw[Tm e]
  rcases h K b hb with h3|⟨h3,_⟩
  ·simp_all
  ·rw[Yb9,Yar,Tm ha,h3,ha,<-e]
   simp_all
 ·rw[Tf e,h2 K (S5 e)]
  exact h K b hb
variable {b:Int}
theorem BrI.lost{found':List Int->Bool}(h:BrI loss al rows found)(hb:loss (keyA a)=some b)(ha:a.o≠1)(h1:rows' (keyA a)=rows (keyA a)+1)(h2:∀K,K≠keyA a->rows' K=rows K)
 (h3:b<(rows (keyA a):Nat)+1->found' (keyA a)=true) (h4:∀K,found K=true->found' K=true):BrI loss (al++[a]) rows' found':=λK b' hb'=>by
 rw[Ydl]
 by_cases e:keyA a=K
 ·subst e
  rw[Tm rfl]
  rw[hb]at hb'
  cases hb'
  rcases h _ b hb with h5|⟨h5,h6⟩
  ·simp_all
  ·by_cases h7:b<(rows (keyA a):Nat)+1
   ·simp_all
   ·rw[Yb9,Yar,Tf ha,h5,h1,h6]
    simp_all
 ·rw[Tf e,h2 K (S5 e)]
  rcases h K b' hb' with h5|h5
  all_goals simp_all
theorem BrI.all(h:BrI loss al rows found){K:List Int}(hb:loss K=some b)(hbr:brO b (osK al K) 0=true):found K=true:=by
 rcases h K b hb with h|⟨h,_⟩
 all_goals simp_all
def Yc6(x y:BrM):Prop:=x.f<y.f\/x.f=y.f/\(x.k<y.k\/x.k=y.k/\(x.u<y.u\/x.u=y.u/\x.v<y.v))
instance(x y:BrM):Decidable (Yc6 x y):=by unfold Yc6;exact inferInstance
theorem YlU(a b:Int)(l:List Int):Xp (Lib.compareInt a b::l)<0↔a<b\/(a=b/\Xp l<0):=by
 rw[Xp]
 unfold Lib.compareInt
 omega
theorem ltBr(x y:BrM):ltOf cfBr x y=decide (Yc6 x y):=by
 rw[NM]
 unfold ltOf
 rw[Tq,Tq]
 unfold cfBr Yc6
 rw[YlU,YlU,YlU,YlU]
 have:¬Xp []<0:=by decide
 omega
theorem YwY:SWO (ltOf cfBr) where
 irrefl x:=by grind [ltBr,Yc6]
 trans x y z h1 h2:=by rw[ltBr,Tq]at*;grind [Yc6]
 ntrans x y z h1 h2:=by grind [ltBr,Yc6]
abbrev brP(A:Option Addr)(cap:Nat)(l:List BrM):HP:=sl 147 5 A l.length cap (l.flatMap brF)
theorem YiS(l:List BrM)(hl:l.length<=100000000){A:Option Addr}{cap B:Nat}{w0:World}{H H0:List HP}{w:World}(hin:∀w,St B w0 H0 w->St B w0 (brP A cap l::H) w)(hw:St B w0 H0 w):
 CX B w0 70 [.slice A l.length cap,.func (.func 71) #[] #[]] w λv K=>v=.tuple #[]/\∃l',l'.Perm l/\K=brP A cap l'::H:=by
 have hw:=hin w hw
 by_cases h0:l.length=0
 ·rw[h0]
  refine(AnyF.slices_SortFunc_none Tryz.sortBrs A cap (.func (.func 71) #[] #[]) w).mono ?_
  exact Yt7
 have ho:=hw.sl (TC)
 obtain⟨g,rfl⟩:∃g,A=some ⟨g,0,none⟩:=YtY
 obtain⟨hH,hg,hst⟩:=Yfy (enc:=brF) (λ_=>rfl) (by decide) (Ti _) hw
 have eg:∀args w,(callFunc 71 args).run Tryz.prog w=.ok (.enter 71 args) w:=en71
 have hsz:l.toArray.size=l.length:=by simp
 have hcon:=AnyQ.slices_SortFunc Tryz.sortBrs 5 Tryz.isAgg147 Tryz.sizeOf147 brF (λ_=>rfl) (λx v hv=>by simp[brF]at hv;rcases hv with rfl|rfl|rfl|rfl|rfl<;>rfl) cfBr YwY 71 #[] g 0 cap l.toArray w eg (λ_ _ _ _ x y=>YvI x y _) hH hg (by omega)
 refine hcon.mono ?_
 rintro e w' ⟨rfl,d',n,os,hp,_,rfl⟩
 have hp:d'.toList.Perm l:=Ydo (d:=l.toArray) (by omega)
 have h5:=hst d'.toList n os (by rw[hp.length_eq];rfl)
 rw[Array.toArray_toList,Nat.zero_mul,SO,TI]at h5
 refine⟨_,_,rfl,h5,rfl,d'.toList,hp,?_⟩
 unfold brP
 rw[hp.length_eq]
structure RwM where
 key:KL
 A:Option Addr
 cap:Nat
 xs:List Int
 born:Nat
def rwP(r:RwM):KL×Value×Nat:=(r.key,.slice r.A r.xs.length r.cap,r.born)
abbrev rwV(R:List RwM):YZ:=R.map rwP
def rwQ(r:RwM):HP:=nrs r.A r.cap r.xs
def W5(R:List RwM)(K:KL):Nat:=((R.find? λr=>r.key==K).map (·.xs.length)).getD 0
def YcP(F:YZ)(K:KL):Bool:=(vget F K).isSome
inductive Up (R:List RwM) (cR:Nat) (k:KL):List RwM->Option Addr->Nat->List Int->Nat->List RwM->Nat->Prop
 |old (l1:List RwM) (A:Option Addr) (cap:Nat) (xs:List Int) (b:Nat) (l2:List RwM) (h:R=l1++⟨k,A,cap,xs,b⟩::l2) (hn:∀r∈l1,r.key≠k):Up R cR k l1 A cap xs b l2 cR
 |new (hn:∀r∈R,r.key≠k):Up R cR k R none 0 [] cR [] (cR+1)
theorem YwZ(R:List RwM)(cR:Nat)(k:KL):∃l1 A cap xs b l2 c',Up R cR k l1 A cap xs b l2 c':=by
 by_cases h:∃r∈R,r.key=k
 ·have:∃l1 r l2,R=l1++r::l2/\r.key=k/\∀r∈l1,r.key≠k:=by
   clear cR
   induction R with
   |nil=>simp_all
   |cons a R ih=>
    by_cases ha:a.key=k
    ·exact⟨[],a,R,rfl,ha,λr hr=>by cases hr⟩
    ·obtain⟨r,hr,e⟩:=h
     rcases Rr.1 hr with rfl|hr
     ·simp_all
     ·obtain⟨l1,r2,l2,e1,e2,e3⟩:=ih ⟨r,hr,e⟩
      grind
  obtain⟨l1,⟨k',A,cap,xs,b⟩,l2,e1,e2,e3⟩:=this
  obtain rfl:k'=k:=e2
  exact⟨l1,A,cap,xs,b,l2,cR,.old _ _ _ _ _ _ e1 e3⟩
 ·exact⟨R,none,0,[],cR,[],cR+1,.new λr hr e=>h ⟨r,hr,e⟩⟩
variable {R l1 l2:List RwM}{cR cap b c':Nat}{k:KL}{A:Option Addr}{xs:List Int}
theorem Up.ne(h:Up R cR k l1 A cap xs b l2 c'):∀r∈l1,r.key≠k:=by
 cases h with
 |old _ _ _ _ _ _ _ hn=>exact hn
 |new hn=>exact hn
theorem ZE(l1 l2:List RwM)(k:KL)(A:Option Addr)(cap:Nat)(xs:List Int)(b:Nat):rwV (l1++⟨k,A,cap,xs,b⟩::l2)=rwV l1++(k,.slice A xs.length cap,b)::rwV l2:=by
 unfold rwV;rw[TP,Ro];rfl
theorem Up.ok(h:Up R cR k l1 A cap xs b l2 c')(lk:k.length=4)(hok:VOk 4 (rwV R) cR)(v:Value):VOk 4 (rwV l1++(k,v,b)::rwV l2) c':=by
 cases h with
 |old _ _ _ _ _ _ e hn=>
  subst e
  rw[ZE]at hok
  exact hok.set v
 |new hn=>exact hok.snoc lk v
theorem Up.nek(h:Up R cR k l1 A cap xs b l2 c'):∀e∈rwV l1,e.1≠k:=λe he=>by
 obtain⟨r,hr,rfl⟩:=TD.1 he
 exact h.ne r hr
variable {v:Value}
theorem YqA{l1 l2:YZ}(h:∀e∈l1,e.1≠k):vget (l1++(k,v,b)::l2) k=some v:=by
 grind [vget]
theorem U4(h:∀r∈l1,r.key≠k):W5 (l1++⟨k,A,cap,xs,b⟩::l2) k=xs.length:=by
 grind [W5]
theorem YkA{K:KL}{A':Option Addr}{cap':Nat}{xs':List Int}{b':Nat}(hK:K≠k):W5 (l1++⟨k,A,cap,xs,b⟩::l2) K=W5 (l1++⟨k,A',cap',xs',b'⟩::l2) K:=by
 simp_all [W5,Ne.symm]
theorem Up.get(h:Up R cR k l1 A cap xs b l2 c'):W5 R k=xs.length:=by
 cases h with
 |old _ _ _ _ _ _ e hn=>grind [U4]
 |new hn=>
  grind [W5,SK]
theorem Up.other(h:Up R cR k l1 A cap xs b l2 c')(A':Option Addr)(cap':Nat)(xs':List Int):∀K,K≠k->W5 (l1++⟨k,A',cap',xs',b⟩::l2) K=W5 R K:=λK hK=>by
 cases h with
 |old _ _ _ _ _ _ e hn=>grind [YkA]
 |new hn=>
  simp_all [W5,Ne.symm]
theorem Up.lens(h:Up R cR k l1 A cap xs b l2 c'){j:Nat}(hj:∀r∈R,r.xs.length<=j):xs.length<=j/\∀(A':Option Addr) (cap':Nat) (xs':List Int),xs'.length<=j+1->∀r∈l1++⟨k,A',cap',xs',b⟩::l2,r.xs.length<=j+1:=by
 have h1:(∀r∈l1,r.xs.length<=j)/\(∀r∈l2,r.xs.length<=j)/\xs.length<=j:=by
  cases h with
  |old _ _ _ _ _ _ e hn=>
   subst e
   exact⟨λr hr=>hj r (by simp[hr]),λr hr=>hj r (by simp[hr]),hj ⟨k,A,cap,xs,b⟩ (by simp)⟩
  |new hn=>simp_all
 grind
theorem Up.open_(h:Up R cR k l1 A cap xs b l2 c'){B:Nat}{w0:World}{H:List HP}{w:World}(hw:St B w0 (many (R.map rwQ)::H) w):St B w0 (nrs A cap xs::many (l1.map rwQ++l2.map rwQ)::H) w:=by
 cases h with
 |old _ _ _ _ _ _ e hn=>
  subst e
  rw[TP,Ro]at hw
  exact hw.perm (.pull _ _ _ _)
 |new hn=>
  rw[Nh,Rm]
  exact hw.nilSlice _ _
theorem Ydy(k:KL)(A:Option Addr)(cap:Nat)(xs:List Int)(b:Nat)(H:List HP):Perm (nrs A cap xs::many (l1.map rwQ++l2.map rwQ)::H) (many ((l1++⟨k,A,cap,xs,b⟩::l2).map rwQ)::H):=by
 rw[TP,Ro]
 exact .push _ _ _ _
variable {es:YZ}
theorem VOk.nodup{N ct:Nat}(h:VOk N es ct):(es.map (·.2.2)).Nodup:=NU.2 h.ne
variable {seen:Array Nat}
theorem YkF{e:KL×Value×Nat}(he:e∈es)(hs:seen.contains e.2.2=false):(es.filter λx=>!(seen.push e.2.2).contains x.2.2).length<(es.filter λx=>!seen.contains x.2.2).length:=zc36
theorem YmT(hn:(es.map λe=>e.2.2).Nodup){x y:KL×Value×Nat}(hx:x∈es)(hy:y∈es)(e:x.2.2=y.2.2):x=y:=by
 induction es with
 |nil=>cases hx
 |cons a l ih=>
  grind
def WU(n:Net):KL->Option Int
 |[_,_,u,v]=>if 0<=YA n u v then some (lnk n (YA n u v).toNat).2.2 else none
 |_=>none
section
variable {P:Program}{n:Shp}{B:Nat}{w0:World}{Q:Exit->Act->World->Prop}{env:Env}{H:List HP}{m:Eng.Mode}{ops:Array Oper}{rest:List Oper}{d:Nat}{ty:TypeId}{pos:String}{after:Array Edge}
variable {x y:Operand}{A:Option Addr}{cap cR b c' g:Nat}
theorem Q4{xt yt:TypeId}{k:Nat}(hx:evo env x=some (.slice A k cap))(hn:Nat.ble (d+1) n.k=true)(hu:isSl P xt=true)
 (h:VL P m n B w0 ops Q rest ((d,.bool (!A.isNone))::env) H):VL P m n B w0 ops Q (⟨some d,.binOp .neq xt x (.const (.slice none 0 0)) yt,ty,pos,after,none⟩::rest) env H:=zc41
variable {R l1 l2:List RwM}{k:KL}{xs:List Int}{t kt et:TypeId}{v:Value}{K:List HP}
theorem Yrf(hU:Up R cR k l1 A cap xs b l2 c'){u:Operand}(hx:evo env x=some (.map (some g)))(hy:evo env y=some (kv k))(hv:evo env u=some v)(ht:VJ P t kt et 4=true)(lk:k.length=4)(hok:VOk 4 (rwV R) cR)
 (hu:Upd (blk g (vobj (rwV R) cR)) (blk g (vobj (rwV l1++(k,v,b)::rwV l2) c')) H K) (h:VL P none n B w0 ops Q rest env K):VL P none n B w0 ops Q (⟨none,.mapUpdate t x y u,ty,pos,after,none⟩::rest) env H:=by
 have hne:=hU.nek
 cases hU with
 |old _ _ _ _ _ _ e hn=>
  subst e
  rw[ZE]at hu hok
  exact Yjx k hx hy hv ht lk (λe he=>hok.len e (by simp[he])) hu hne h
 |new hn=>
  grind [OM,Go.Proofs.YtjlgijpmnfabcaaGreatDoor.VOk.len,vget]
theorem Yjw(hU:Up R cR k l1 A cap xs b l2 c')(hx:evo env x=some (.map (some g)))(hy:evo env y=some (kv k))(ht:VJ P t kt et 4=true)(lk:k.length=4)(hok:VOk 4 (rwV R) cR)(hn:Nat.ble (d+1) n.k=true)(hz:∀w,(zeroValue et).run P w=.ok (.slice none 0 0) w)
 (hu:Upd (blk g (vobj (rwV R) cR)) (blk g (vobj (rwV l1++(k,.slice A xs.length cap,b)::rwV l2) c')) H K) (h:VL P none n B w0 ops Q rest ((d,.tuple #[.slice A xs.length cap,goInt b])::env) K):VL P none n B w0 ops Q (⟨some d,.mapEntry t x y,ty,pos,after,none⟩::rest) env H:=by
 have hne:=hU.nek
 cases hU with
 |old _ _ _ _ _ _ e hn=>
  subst e
  rw[ZE]at hu hok
  exact YbX k hx hy ht lk (λe he=>hok.len e (by simp[he])) (by assumption) hu hne h
 |new hn=>
  grind [YbW,Go.Proofs.YtjlgijpmnfabcaaGreatDoor.VOk.len,vget]
variable {seen:Array Nat}{es:YZ}
theorem Yjv{r clock since:Nat}{a b c e:Int}{bb:Nat}(hx:evo env x=some (.pointer (some ⟨r,0,none⟩)))(hm:blk g (vobj es clock)∈H)(hr:blk r (.mapIter (some g) since (seen.push bb) clock)∈H)(hn:Nat.ble (d+1) n.k=true)
 (he:([a,b,c,e],v,bb)∈es) (hnd:(es.map (·.2.2)).Nodup)
 (h:VL P none n B w0 ops Q rest ((d,.tuple #[.agg #[.int .i64 a,.int .i64 b,.int .i64 c,.int .i64 e],v])::env) H):VL P none n B w0 ops Q (⟨some d,.entry x,ty,pos,after,none⟩::rest) env H:=
 Ymq (e:=([a,b,c,e],v,bb)) hx hm hr hn he hnd h
end
structure PInvY(c:PlC)(n:Int)(J:Nat)(ss:List SM)(atts:List AttM)(dels:List (Int×Int×Int)):Prop where
 pl:Pl c.l c.s.sch n J ⟨ss.map SM.st,atts,dels⟩
 len:ss.length=c.l.length
 ok:∀x∈ss,x.Ok (atts.length:Nat)
 dl:dels.length<=atts.length
theorem Yu0(s:Sch)(n:Int):(atE s n).length<=s.cells.length:=by
 unfold atE
 grind
theorem PInvY.start(c:PlC):PInvY c 0 0 (List.replicate c.l.length XD) [] []:=by
 refine⟨?_,TQ,λx hx=>?_,TM _⟩
 ·have h:(List.replicate c.l.length XD).map SM.st=c.l.map λ_=>YkU:=by
   rw[List.map_replicate,List.map_const']
   rfl
  rw[h]
  exact .start
 ·rw[List.eq_of_mem_replicate hx]
  exact⟨λh=>absurd h (by decide),⟨VOk.nil,λe (h:e∈([]:YZ))=>absurd h (RN)⟩,λe (h:e∈([]:List (KL×Int×Nat)))=>absurd h (RN)⟩
variable {c:PlC}{n:Int}{ss ss':List SM}{atts:List AttM}{dels:List (Int×Int×Int)}
theorem PInvY.rel(h:PInvY c n 0 ss atts dels)(hr:RelS c.l n (atts.length:Nat) ss ss' c.l.length):PInvY c n 1 ss' atts dels:=by
 obtain⟨h1,h2⟩:=hr
 refine⟨.rel (ss'.map SM.st) h.pl (by simp_all) λi f x a1 a2=>?_,h1,λy hy=>?_,h.dl⟩
 ·grind
 ·obtain⟨i,hi⟩:=TN.1 hy
  have hil:=(Tc.1 hi).1
  obtain⟨f,hf⟩:∃f,c.l[i]? =some f:=⟨_,Ta (by omega)⟩
  obtain⟨z,hz⟩:∃z,ss[i]? =some z:=⟨_,Ta (by rw[h.len];omega)⟩
  grind
theorem PInvY.att{j:Nat}{q:Cel}{atts':List AttM}{dels':List (Int×Int×Int)}(h:PInvY c n (j+1) ss atts dels)(hq:(atE c.s.sch n)[j]? =some q)(ha:AttR c.l n (atts.length:Nat) q ss atts dels ss' atts' dels'):
 PInvY c n (j+2) ss' atts' dels'/\atts'.length<=atts.length+1/\dels.length<=dels'.length:=by
 rcases ha with⟨rfl,rfl,rfl,hn⟩|⟨i,f,x,o,x',hf,hx,hfi,hc,rfl,hst,hxo,rfl,rfl⟩
 ·refine⟨⟨.skip h.pl hq λi f x a1 a2 a3=>?_,h.len,h.ok,h.dl⟩,Nat.le_succ _,TM _⟩
  grind
 ·have hm:(ss.set i x').map SM.st=(ss.map SM.st).set i (JT f x.st q n o):=by simp_all
  have hd:(delS f x.st q n o).length<=1:=by grind [delS]
  refine⟨⟨?_,by rw[TT];exact h.len,λy hy=>?_,?_⟩,by simp,by simp⟩
  ·rw[hm]
   exact .att o h.pl hq hf (by simp_all) hfi hc
  ·rw[Tt,TO]
   rcases S8 hy with hy|rfl
   ·exact(h.ok y hy).mono (by omega)
   simp_all
  ·rw[Tt,Tt,TO]
   have:=h.dl
   omega
theorem PInvY.next{ds:List (Int×Int×Int)}(h:PInvY c n ((atE c.s.sch n).length+1) ss atts dels)(hp:ds.Perm dels):PInvY c (n+1) 0 ss atts ds:=
 ⟨.next ds h.pl hp,h.len,h.ok,by rw[hp.length_eq];exact h.dl⟩
variable {g sc tc dc B:Nat}{sA tA dA:Option Addr}{w0 w:World}{Z:HP}
theorem YiE(c:PlC)(n b:Int)(hn:0<=n/\n<=1000000)(hl:c.l.length<=1000)(hf:∀f∈c.l,YX 32 f=0)(hss:ss.length=c.l.length)(hok:∀x∈ss,x.Ok b)
 (hr:Rd B w0 [Z] c.fA (c.l.flatMap flwF)) (hw:St B w0 (plL c g sA sc ss tA tc atts dA dc dels [Z]) w):
 CX B w0 141 [.pointer (some ⟨g,0,none⟩),.int .i64 n] w λv K=>∃ss',v=.tuple #[]/\RelS c.l n b ss ss' c.l.length/\K=plL c g sA sc ss' tA tc atts dA dc dels [Z]:=by
 have hZ:∀w,St B w0 [many (plT tA tc atts::plD dA dc dels::[Z])] w->St B w0 [Z] w:=λw h=>((h.perm (.openT _)).tail).tail
 have h0:∀w,St B w0 (plL c g sA sc ss tA tc atts dA dc dels [Z]) w->St B w0 (plB c g sA c.l.length sc tA atts.length tc dA dels.length dc::plS sA c.l.length sc ss::many (ss.map smQ)::plT tA tc atts::plD dA dc dels::[Z]) w:=zc0
 have h1:=h0 w hw
 refine(Yec (Z:=many (plT tA tc atts::plD dA dc dels::[Z])) c n b hn hl hf hss hok (hr.mono hZ) (h1.perm (.cons _ (.cons _ (.cons _ (.closeT _)))))).mono ?_
 rintro e w' ⟨v,K,h1,hst,ss',h2,h3,rfl⟩
 refine⟨v,_,h1,?_,ss',h2,h3,rfl⟩
 have h4:St B w0 (plB c g sA c.l.length sc tA atts.length tc dA dels.length dc::plS sA c.l.length sc ss'::many (ss'.map smQ)::plT tA tc atts::plD dA dc dels::[Z]) w':=hst.perm (.cons _ (.cons _ (.cons _ (.openT _))))
 clear hst h1
 revert w'
 exact zc0
theorem YjB(c:PlC)(q:Cel)(n b:Int)(hn:0<=n/\n<=1000000)(hb:0<=b/\b<=100000000)(hl:c.l.length<=1000)(hid:c.l.Pairwise λa b=>a.1≠b.1)(hxl:c.xs.length<=1000000)(hss:ss.length=c.l.length)(hok:∀x∈ss,x.Ok b)
 (hat:atts.length<=100000000) (hdl:dels.length<=100000000) (hr:Rd B w0 [Z] c.fA (c.l.flatMap flwF)) (hx:XIn B w0 [Z] c.xA c.xs) {H:List HP}(R:List HP) (hR:∀w,St B w0 R w->St B w0 [Z] w) (hin:∀w,St B w0 H w->St B w0 (plL c g sA sc ss tA tc atts dA dc dels R) w) (hw:St B w0 H w):
 CX B w0 143 [.pointer (some ⟨g,0,none⟩),celV q,.int .i64 n] w λv K=>∃ss' tA' tc' atts' dA' dc' dels',v=.tuple #[]/\AttR c.l n b q ss atts dels ss' atts' dels'/\K=plL c g sA sc ss' tA' tc' atts' dA' dc' dels' R:=by
 have hZ:∀w,St B w0 [many R] w->St B w0 [Z] w:=λw h=>hR w (h.perm (.openT R))
 refine(YfZ (Z:=many R) c q n b hn hb hl hid hxl hss hok hat hdl (hr.mono hZ) (hx.mono hZ) ((hin w hw).perm (.cons _ (.cons _ (.cons _ (.cons _ (.cons _ (.closeT R)))))))).mono ?_
 rintro e w' ⟨v,K,h1,hst,ss',tA',tc',atts',dA',dc',dels',h2,h3,rfl⟩
 exact⟨v,_,h1,hst.perm (.cons _ (.cons _ (.cons _ (.cons _ (.cons _ (.openT R)))))),ss',tA',tc',atts',dA',dc',dels',h2,h3,rfl⟩
structure FOk(F:YZ)(cF:Nat):Prop where
 ok:VOk 4 F cF
 sl:∀e∈F,∃g n cap,e.2.1=.slice (some ⟨g,0,none⟩) n cap
theorem YkT(w:World):(zeroValue 24).run Tryz.prog w=.ok (.slice none 0 0) w:=by kernel_rfl
theorem YfC{F:YZ}{k:KL}{v:Value}{b:Nat}(h:vget F k=none)(K:KL):vget (F++[(k,v,b)]) K=if K=k then some v else vget F K:=by
 unfold vget at h⊢
 grind
theorem Yd1(n:NetM)(atts:List AttM)(hat:atts.length<=50000000)(dA:Option Addr)(dn dc:Nat){tA:Option Addr}{tc B:Nat}{w0:World}{H:List HP}{w:World}(hin:n.In B w0 H)(hr:Rd B w0 H tA (atts.flatMap attF))(hw:St B w0 H w):
 CX B w0 26 [n.val,.agg #[.slice tA atts.length tc,.slice dA dn dc]] w λv K=>∃(out:List BrM) (A:Option Addr) (cap:Nat),v=.slice A out.length cap/\out.length<=50000000/\(Yq n.net=0->∀(k:KL) b,WU n.net k=some b->brO b (osK atts k) 0=true->∃x∈out,[x.f,x.k,x.u,x.v]=k)/\K=brP A cap out::H:=by
 refine Ya Tryz.func26 Tryz.ntmps26 rfl rfl hw ?_
 have hop:∀w,St B w0 [many H] w->St B w0 H w:=λw hw=>hw.perm (.openT H)
 have hin:=hin.mono hop
 have hr:=hr.mono hop
 refine Y8 [many H] (λw hw=>hw.perm (.closeT H)) ?_
 have p1:=λ{H':List HP}{w:World}(hin:n.In B w0 H') (hw:St B w0 H' w)=>YY n hin hw
 have p2:=λ(a b:Int) {H':List HP}{w:World}(hin:n.In B w0 H') (hw:St B w0 H' w)=>XM n a b hin hw
 unfold NetM.val at p1 p2⊢
 refine zX71 ?_<;>intros
 rename_i gn gr
 first|apply Yb en68|apply Yc en68
 exact za
 exact rfl
 exactλ_ hw=>(p1 (hin.mono zc0) hw)
 by_cases hc:Yq n.net=0
 rotate_left
 ·refine zX5 ?_<;>intros
  apply Yh (brP none 0 []::H)
  ·intro w hw
   have h5:St B w0 [many H] w:=by
    revert w
    exact zc0
   exact(h5.perm (.openT H)).nilSlice _ _
  apply Yd;exact rfl;exact rfl
  exact⟨[],none,0,rfl,Ti _,λh=>absurd h hc,rfl⟩
 have hix:∀a b,XG n.net a b=YA n.net a b:=λa b=>by unfold XG;rw[Tf (by rw[hc];simp)]
 simp only[hix]at p2
 repeat'(first|(apply Yhb;exact rfl;intro _)|refine zgb ?_|(refine zge ?_ ?_<;>intro _<;>try exact zo)|fail)
 rename_i gR gF
 refine Yi (λ(z:Nat×List RwM×Nat×YZ×Nat)=>[(22,.int .i64 (z.1:Nat)),(21,.int .i64 atts.length),(20,.slice tA atts.length tc),(2,.pointer (some ⟨gn,0,none⟩)),(5,.map (some gR)),(6,.map (some gF))])
  (λz=>blk gR (vobj (rwV z.2.1) z.2.2.1)::blk gF (vobj z.2.2.2.1 z.2.2.2.2)::many (z.2.1.map rwQ)::blk gn (.cells #[.int .i64 n.nodes,.slice n.pA n.rows.length n.pcap,.int .i64 n.noise,.int .i64 n.thr,.slice n.lA n.links.length n.lcap,.slice n.mA n.margin.length n.mcap] 26 (0,0))::[many H])
  (λz=>z.1<=atts.length/\VOk 4 (rwV z.2.1) z.2.2.1/\FOk z.2.2.2.1 z.2.2.2.2/\(∀r∈z.2.1,r.xs.length<=z.1)/\z.2.2.2.1.length<=z.1/\BrI (WU n.net) (atts.take z.1) (W5 z.2.1) (YcP z.2.2.2.1)) (λz=>atts.length-z.1) (0,[],0,[],0) ⟨Ti _,VOk.nil,⟨VOk.nil,λe h=>by cases h⟩,(λr h=>by cases h),Ti _,BrI.start _⟩ ?_ ?_ ?_
 ·exact zc1
 ·intro w hw
  have h5:St B w0 (blk gR (vobj [] 0)::blk gF (vobj [] 0)::blk gn (.cells #[.int .i64 n.nodes,.slice n.pA n.rows.length n.pcap,.int .i64 n.noise,.int .i64 n.thr,.slice n.lA n.links.length n.lcap,.slice n.mA n.margin.length n.mcap] 26 (0,0))::[many H]) w:=by
   revert w
   exact zc0
  exact h5.perm (.cons _ (.cons _ (.noMany _)))
 rintro⟨j,R,cR,F,cF⟩ ⟨hj,hR,hF,hl,hfl,hI⟩ K hK
 dsimp only at hj hR hF hl hfl hI⊢
 by_cases hlt:j<atts.length
 ·obtain⟨a,ha⟩:∃a,atts[j]? =some a:=⟨_,Ta hlt⟩
  have htk:atts.take (j+1)=atts.take j++[a]:=by rw[TF,ha];rfl
  have hka:keyA a=[a.c.2.2.2.2,a.frame,a.c.2.2.1,a.c.2.2.2.1]:=rfl
  obtain⟨k,hk⟩:∃k,k=keyA a:=⟨_,rfl⟩
  obtain⟨fi,hfi⟩:∃fi,YA n.net a.c.2.2.1 a.c.2.2.2.1=fi:=⟨_,rfl⟩
  have p3:=λ{H':List HP}{w:World}(hin:n.In B w0 H') (hw:St B w0 H' w)=>p2 a.c.2.2.1 a.c.2.2.2.1 hin hw
  rw[hfi]at p3
  have hloss:WU n.net (keyA a)=if 0<=fi then some (lnk n.net fi.toNat).2.2 else none:=by rw[hka,<-hfi];rfl
  obtain⟨l1,A,cap,xs,b,l2,c',hU⟩:=YwZ R cR (keyA a)
  have hkv:∀z,vget F (keyA a)=z->vget F [a.c.2.2.2.2,a.frame,a.c.2.2.1,a.c.2.2.2.1]=z:=λz h=>h
  have hxl:=hU.lens hl
  have hbir:∀e∈rwV l1,e.2.2≠b:=(hU.ok rfl hR (.bool true)).births
  by_cases hlost:0<=fi/\vget F (keyA a)=none/\a.o≠1
  ·obtain⟨hf0,hfd,ho⟩:=hlost
   have hfd2:=hkv _ hfd
   obtain⟨ix,rfl⟩:∃ix:Nat,fi=ix:=⟨fi.toNat,by omega⟩
   obtain⟨l,hln⟩:∃l,n.links[ix]? =some l:=zc88
   have hlk:(lnk n.net ix).2.2=l.2.2:=Yt4
   have hixl:ix<n.links.length:=(Tc.1 hln).1
   have hloss:WU n.net (keyA a)=some l.2.2:=by rw[hloss,Tm (by omega),<-hlk];rfl
   have hok2:∀v,VOk 4 (rwV l1++(keyA a,v,b)::rwV l2) c':=λv=>hU.ok rfl hR v
   have hvg:∀v,vget (rwV l1++(keyA a,v,b)::rwV l2) (keyA a)=some v:=λv=>YqA hU.nek
   have hlr:Rd B w0 [many H] n.lA (n.links.flatMap lkF):=hin.lk
   have hxs:=hxl.1
   refine Y8 (nrs A cap xs::many (l1.map rwQ++l2.map rwQ)::blk gR (vobj (rwV R) cR)::blk gF (vobj F cF)::blk gn (.cells #[.int .i64 n.nodes,.slice n.pA n.rows.length n.pcap,.int .i64 n.noise,.int .i64 n.thr,.slice n.lA n.links.length n.lcap,.slice n.mA n.margin.length n.mcap] 26 (0,0))::[many H]) (λw hw=>?_) ?_
   ·refine hU.open_ ?_
    revert w
    exact zc0
   refine zX46 ?_<;>intros
   rename_i ga gk
   first|apply Yb en69|apply Yc en69
   exact za
   exact rfl
   exactλ_ hw=>(p3 (hin.mono zc0) hw)
   have hlen1:(xs++[a.slot]).length=xs.length+1:=by simp
   by_cases hgt:l.2.2<(xs.length:Int)+1
   ·skip
    refine YtA ?_<;>intros
    rename Option Addr=>A'
    rename Nat=>cap'
    refine YfH (e:=3) (size:=1) (A:=A') (k:=xs.length+1) (cap:=cap') (xs:=xs.flatMap numF++#[Value.int .i64 a.slot].toList) (by(focus exact zc2)) (by omega) ?_
    intro gA eA
    subst eA
    apply Yz [0,1,2,3,4] [5] [true,true,true,true,true,true,true,true]
    kernel_rfl
    kernel_rfl
    exact zy
    (simp only[Ye,nthO];rfl)
    (simp only[Ye,nthO];rfl)
    repeat'(first|(apply Z8 (kt:=142) (et:=24) (keyA a);exact rfl;exact rfl;exact zm;kernel_rfl;exact rfl;exact(hok2 _).len;exact rfl;exact hvg _)|(apply OM (kt:=142) (et:=24) (keyA a);(iterate 3 exact rfl);kernel_rfl;exact rfl;exact hF.ok.len;exact zd;exact hfd)|refine zgd ?_|fail)
    apply hK (j+1,l1++⟨keyA a,some ⟨gA,0,none⟩,cap',xs++[a.slot],b⟩::l2,c',F++[(keyA a,.slice (some ⟨gA,0,none⟩) (xs.length+1) cap',cF)],cF+1)
    ·refine⟨by omega,by rw[ZE];exact hok2 _,⟨hF.ok.snoc rfl _,λe he=>?_⟩,hxl.2 _ _ _ (by omega),by rw[Tt];simp;omega,?_⟩
     ·rcases TJ.1 he with he|he
      ·exact hF.sl e he
      ·rw[TU.1 he];exact⟨_,_,_,rfl⟩
     ·rw[htk]
      refine hI.lost hloss ho ?_ (hU.other _ _ _) (λ_=>?_) (λK hK=>?_)
      ·rw[U4 hU.ne,hU.get,hlen1]
      ·unfold YcP;rw[YfC hfd,Tm rfl];rfl
      ·unfold YcP at hK⊢
       rw[YfC hfd]
       split
       ·rfl
       ·exact hK
    ·exact zc54
    ·exact zc1
    ·intro w hw
     have h5:St B w0 (sl 3 1 (some ⟨gA,0,none⟩) (xs.length+1) cap' (xs.flatMap numF++#[Value.int .i64 a.slot].toList)::many (l1.map rwQ++l2.map rwQ)::blk gR (vobj (rwV l1++(keyA a,.slice (some ⟨gA,0,none⟩) (xs.length+1) cap',b)::rwV l2) c')::blk gF (vobj (F++[(keyA a,.slice (some ⟨gA,0,none⟩) (xs.length+1) cap',cF)]) (cF+1))::blk gn (.cells #[.int .i64 n.nodes,.slice n.pA n.rows.length n.pcap,.int .i64 n.noise,.int .i64 n.thr,.slice n.lA n.links.length n.lcap,.slice n.mA n.margin.length n.mcap] 26 (0,0))::[many H]) w:=by
      revert w
      exact zc0
     rw[WX]at h5
     have h7:=h5.perm (Ydy (keyA a) _ _ _ b _)
     dsimp only
     rw[ZE,hlen1]
     clear h5 hw
     revert w
     exact zc0
   ·skip
    refine YtA ?_<;>intros
    rename Option Addr=>A'
    rename Nat=>cap'
    apply hK (j+1,l1++⟨keyA a,A',cap',xs++[a.slot],b⟩::l2,c',F,cF)
    ·refine⟨by omega,by rw[ZE];exact hok2 _,hF,hxl.2 _ _ _ (by omega),Nj hfl,?_⟩
     rw[htk]
     refine hI.lost hloss ho ?_ (hU.other _ _ _) (λh=>?_) (λK hK=>hK)
     ·rw[U4 hU.ne,hU.get,hlen1]
     ·rw[hU.get]at h
      exact absurd h hgt
    ·exact zc54
    ·exact zc1
    ·intro w hw
     have h5:St B w0 (sl 3 1 A' (xs.length+1) cap' (xs.flatMap numF++#[Value.int .i64 a.slot].toList)::many (l1.map rwQ++l2.map rwQ)::blk gR (vobj (rwV l1++(keyA a,.slice A' (xs.length+1) cap',b)::rwV l2) c')::blk gF (vobj F cF)::blk gn (.cells #[.int .i64 n.nodes,.slice n.pA n.rows.length n.pcap,.int .i64 n.noise,.int .i64 n.thr,.slice n.lA n.links.length n.lcap,.slice n.mA n.margin.length n.mcap] 26 (0,0))::[many H]) w:=by
      revert w
      exact zc0
     rw[WX]at h5
     have h7:=h5.perm (Ydy (keyA a) _ _ _ b _)
     dsimp only
     rw[ZE,hlen1]
     clear h5 hw
     revert w
     exact zc0
  refine zX46 ?_<;>intros
  rename_i ga gk
  first|apply Yb en69|apply Yc en69
  exact za
  exact rfl
  exactλ_ hw=>(p3 (hin.mono zc0) hw)
  by_cases hneg:fi<0
  ·refine zX1 ?_<;>intros
   apply hK (j+1,R,cR,F,cF)
   ·exact⟨by omega,hR,hF,λr hr=>Nj (hl r hr),Nj hfl,by rw[htk];exact hI.skip (.inl (by rw[hloss,Tf (by omega)]))⟩
   ·exact zc54
   ·exact zc1
   ·exact zc0
  obtain⟨ix,rfl⟩:∃ix:Nat,fi=ix:=⟨fi.toNat,by omega⟩
  obtain⟨l,hln⟩:∃l,n.links[ix]? =some l:=zc88
  have hlk:(lnk n.net ix).2.2=l.2.2:=Yt4
  have hixl:ix<n.links.length:=(Tc.1 hln).1
  have hloss:WU n.net (keyA a)=some l.2.2:=by rw[hloss,Tm (by omega),<-hlk];rfl
  have hkv:∀z,vget F (keyA a)=z->vget F [a.c.2.2.2.2,a.frame,a.c.2.2.1,a.c.2.2.2.1]=z:=λz h=>h
  cases hfd:vget F (keyA a)with
  |some v0=>
   have hfd2:=hkv _ hfd
   obtain⟨g3,n3,c3,rfl⟩:∃g3 n3 c3,v0=.slice (some ⟨g3,0,none⟩) n3 c3:=by
    obtain⟨l1,b,l2,e,-⟩:=VI hfd
    exact hF.sl (keyA a,v0,b) (by rw[e];simp)
   repeat'(first|(apply Q4;exact rfl;exact rfl;kernel_rfl)|(apply Z8 (kt:=142) (et:=24) [a.c.2.2.2.2,a.frame,a.c.2.2.1,a.c.2.2.2.1];exact rfl;exact rfl;exact zm;kernel_rfl;exact rfl;exact hF.ok.len;exact rfl;exact hfd2)|refine zgc ?_|(refine zge ?_ ?_<;>intro _<;>try exact zo)|fail)
   apply hK (j+1,R,cR,F,cF)
   ·exact⟨by omega,hR,hF,λr hr=>Nj (hl r hr),Nj hfl,by rw[htk];exact hI.skip (.inr (by unfold YcP;rw[hfd];rfl))⟩
   ·exact zc54
   ·exact zc1
   ·exact zc0
  |none=>
  have hfd2:=hkv _ hfd
  have ho:a.o=1:=Classical.byContradiction λh=>hlost ⟨by omega,hfd,h⟩
  repeat'(first|(apply Q4;exact rfl;exact rfl;kernel_rfl)|(apply VN (kt:=142) (et:=24) [a.c.2.2.2.2,a.frame,a.c.2.2.1,a.c.2.2.2.1];exact rfl;exact rfl;exact zm;kernel_rfl;exact rfl;exact hF.ok.len;exact rfl;exact hfd2;exact YkT)|(apply Yrf hU (kt:=142) (et:=24) (v:=.slice none 0 0);(iterate 3 exact rfl);kernel_rfl;exact rfl;exact hR;exact zd)|refine zgc ?_|(refine zgf ?_ ?_<;>intro _<;>try exact zo)|fail)
  apply hK (j+1,l1++⟨keyA a,none,0,[],b⟩::l2,c',F,cF)
  ·refine⟨by omega,by rw[ZE];exact hU.ok rfl hR _,hF,hxl.2 none 0 [] (Ti _),Nj hfl,?_⟩
   rw[htk]
   exact hI.acked ho (U4 hU.ne) (hU.other none 0 [])
  ·exact zc54
  ·exact zc1
  ·intro w hw
   have h5:St B w0 (many (R.map rwQ)::blk gR (vobj (rwV l1++(keyA a,.slice none 0 0,b)::rwV l2) c')::blk gF (vobj F cF)::blk gn (.cells #[.int .i64 n.nodes,.slice n.pA n.rows.length n.pcap,.int .i64 n.noise,.int .i64 n.thr,.slice n.lA n.links.length n.lcap,.slice n.mA n.margin.length n.mcap] 26 (0,0))::[many H]) w:=by
    revert w
    exact zc0
   have h6:St B w0 (nrs none 0 []::many (l1.map rwQ++l2.map rwQ)::blk gR (vobj (rwV l1++(keyA a,.slice none 0 0,b)::rwV l2) c')::blk gF (vobj F cF)::blk gn (.cells #[.int .i64 n.nodes,.slice n.pA n.rows.length n.pcap,.int .i64 n.noise,.int .i64 n.thr,.slice n.lA n.links.length n.lcap,.slice n.mA n.margin.length n.mcap] 26 (0,0))::[many H]) w:=((hU.open_ h5).perm (.drop _ _)).nilSlice _ _
   have h7:=h6.perm (Ydy (keyA a) none 0 [] b _)
   dsimp only
   rw[ZE,Rh]
   clear h5 h6 hw
   revert w
   exact zc0
 obtain rfl:j=atts.length:=by omega
 clear hK
 rw[TL]at hI
 repeat'(first|(apply Ymr (N:=4) (kt:=142) (et:=24) (g:=gF);exact rfl;exact zm;kernel_rfl;exact rfl;intro _)|refine zgc ?_|(refine zge ?_ ?_<;>intro _<;>try exact zo)|fail)
 rename Nat=>it
 refine Yi (λ(z:Array Nat×List BrM×Option Addr×Nat)=>[(84,.pointer (some ⟨it,0,none⟩)),(11,.slice z.2.2.1 z.2.1.length z.2.2.2)])
  (λz=>blk it (.mapIter (some gF) cF z.1 cF)::blk gF (vobj F cF)::brP z.2.2.1 z.2.2.2 z.2.1::[many H])
  (λz=>z.2.1.length+(F.filter λx=>!z.1.contains x.2.2).length<=F.length/\∀e∈F,z.1.contains e.2.2=true->∃x∈z.2.1,[x.f,x.k,x.u,x.v]=e.1) (λz=>(F.filter λx=>!z.1.contains x.2.2).length) (#[],[],none,0) ⟨by dsimp only;have:=RG (λx:KL×Value×Nat=>!(#[]:Array Nat).contains x.2.2) F;simp only[Rh];omega,λe _ h=>by simp at h⟩ ?_ ?_ ?_
 ·exact zc1
 ·intro w hw
  have h5:St B w0 (blk it (.mapIter (some gF) cF #[] cF)::blk gF (vobj F cF)::[many H]) w:=by
   revert w
   exact zc0
  have h6:=h5.nilSlice 147 5
  exact h6.perm (.trans (.swap _ _ _) (.cons _ (.swap _ _ _)))
 rintro⟨seen,out,A,cap⟩ ⟨hlen,hseen⟩ K hK
 dsimp only at hlen hseen⊢
 repeat'(first|apply Y7|apply Wu|apply YM|fail)
 apply Yos (g:=gF)
 ·exact rfl
 ·(focus exact zc2)
 ·exact rfl
 ·exact YtZ
 ·exact hF.ok.lt
 ·exact TM _
 ·intro hall
  clear hK
  have p5:=λ{H':List HP}{w:World}(hin:∀w,St B w0 H' w->St B w0 (brP A cap out::[many H]) w) (hw:St B w0 H' w)=>YiS out (by omega) hin hw
  refine zX9 ?_
  apply Yg _ en70
  exact za
  exact rfl
  exactλ_ hw=>(p5 zc0 (hw))
  rintro _ _ ⟨rfl,l',hp,rfl⟩
  refine zX3 ?_
  apply Yh (brP A cap l'::H)
  ·intro w hw
   have h5:St B w0 (brP A cap l'::[many H]) w:=by
    revert w
    exact zc0
   exact Yma
  apply Yd;exact rfl;exact rfl
  refine⟨l',A,cap,by rw[hp.length_eq],by rw[hp.length_eq];omega,λ_ k b hb hbr=>?_,rfl⟩
  have h1:=hI.all hb hbr
  unfold YcP at h1
  obtain⟨v,hv⟩:=Sr.1 h1
  obtain⟨l1,bb,l2,e,-⟩:=VI hv
  have hm:(k,v,bb)∈F:=by rw[e];simp
  obtain⟨x,hx,hxk⟩:=hseen _ hm (hall _ hm)
  exact⟨x,hp.mem_iff.2 hx,hxk⟩
 ·rintro⟨ek,ev,eb⟩ he hs
  simp only at hs⊢
  obtain⟨g3,n3,c3,rfl⟩:=hF.sl _ he
  have hek:=hF.ok.len _ he
  obtain⟨e1,e2,e3,e4,rfl⟩:∃a b c d,ek=[a,b,c,d]:=by
   match ek,hek with
   |[a,b,c,d],_=>exact⟨a,b,c,d,rfl⟩
  repeat'(first|(apply Yjv (g:=gF) (es:=F) (bb:=eb);exact rfl;exact zm;exact zm;exact rfl;exact he;exact hF.ok.nodup)|refine zgd ?_|(refine zgh ?_;intro _)|(refine zgi ?_;intro _ _)|fail)
  rename Option Addr=>A'
  rename Nat=>cap'
  have e5:sl 147 5 A' (out.length+1) cap' (out.flatMap brF++#[Value.int .i64 e1,.int .i64 e2,.int .i64 e3,.int .i64 e4,.slice (some ⟨g3,0,none⟩) n3 c3].toList)=brP A' cap' (out++[(⟨e1,e2,e3,e4,some ⟨g3,0,none⟩,n3,c3⟩:BrM)]):=by simp[brP,List.flatMap_append,brF]
  have hls:=YkF (seen:=seen) he hs
  dsimp only at hls
  apply hK (seen.push eb,out++[(⟨e1,e2,e3,e4,some ⟨g3,0,none⟩,n3,c3⟩:BrM)],A',cap')
  ·refine⟨by dsimp only;rw[Tt];simp only[TO];omega,λe he2 h=>?_⟩
   dsimp only at h⊢
   rw[NK]at h
   rcases RJ _ _▸h with h|h
   ·obtain⟨x,hx,hxe⟩:=hseen e he2 h
    exact⟨x,TJ.2 (.inl hx),hxe⟩
   ·have:e=([e1,e2,e3,e4],.slice (some ⟨g3,0,none⟩) n3 c3,eb):=YmT hF.ok.nodup he2 he (by simpa using h)
    rw[this]
    exact⟨_,TJ.2 (.inr (TU.2 rfl)),rfl⟩
  ·exact hls
  ·dsimp only
   rw[show(out++[(⟨e1,e2,e3,e4,some ⟨g3,0,none⟩,n3,c3⟩:BrM)]).length=out.length+1 by simp]
   exact zc1
  ·dsimp only
   rw[<-e5]
   exact zc0
theorem YnO(c:PlC)(n:Int)(hn:0<=n/\n<=1000000)(hl:c.l.length<=1000)(hid:c.l.Pairwise λa b=>a.1≠b.1)(hf:∀f∈c.l,YX 32 f=0)(hxl:c.xs.length<=1000000)(hsl:c.s.cells.length<=1000){g:Nat}{sA:Option Addr}{sc:Nat}{ss:List SM}
 {tA:Option Addr}{tc:Nat}{atts:List AttM}{dA:Option Addr}{dc:Nat}{dels:List (Int×Int×Int)}(hp:PInvY c n 0 ss atts dels) (hat:atts.length<=50000000) {B:Nat}{w0:World}{Z:HP}{w:World}(hr:Rd B w0 [Z] c.fA (c.l.flatMap flwF)) (hs:Rd B w0 [Z] c.s.A (c.s.cells.flatMap celF)) (hx:XIn B w0 [Z] c.xA c.xs) (hw:St B w0 (plL c g sA sc ss tA tc atts dA dc dels [Z]) w):
 CX B w0 67 [.pointer (some ⟨g,0,none⟩),.int .i64 n] w λv K=>∃ss' tA' tc' atts' dA' dc' dels',v=.tuple #[]/\PInvY c (n+1) 0 ss' atts' dels'/\atts'.length<=atts.length+1000/\K=plL c g sA sc ss' tA' tc' atts' dA' dc' dels' [Z]:=by
 refine Ya Tryz.func67 Tryz.ntmps67 rfl rfl hw ?_
 have hdl:=hp.dl
 have hcl:=Yu0 c.s.sch n
 have hcs:c.s.sch.cells=c.s.cells:=rfl
 rw[hcs]at hcl
 refine zX3 ?_
 apply Yg _ YvR
 exact za
 exact rfl
 exactλ_ hw=>(YiE c n (atts.length:Nat) hn hl hf hp.len hp.ok hr (hw))
 rintro _ _ ⟨s1,rfl,hR1,rfl⟩
 have hp1:=hp.rel hR1
 have p2:=λ{H':List HP}{w:World}(hr:Rd B w0 H' c.s.A (c.s.cells.flatMap celF)) (hw:St B w0 H' w)=>Yrn c.s n hr (by omega) hw
 unfold SchM.val at p2
 refine Wr ?_
 apply Yg _ YvS
 exact za
 exact rfl
 exactλ_ hw=>(p2 (hs.mono zc0) (hw))
 rintro _ _ ⟨lA,lcap,rfl,rfl⟩
 obtain⟨L,hL⟩:∃L,atE c.s.sch n=L:=⟨_,rfl⟩
 rw[hL]at hcl⊢
 refine zX7 ?_
 refine Yi (λ(z:Nat×List SM×Option Addr×Nat×List AttM×Option Addr×Nat×List (Int×Int×Int))=>[(23,.int .i64 (z.1:Nat)),(22,.int .i64 L.length),(21,.slice lA L.length lcap),(4,.int .i64 dels.length),(0,.pointer (some ⟨g,0,none⟩)),(1,.int .i64 n)])
  (λ(j,s,uA,uc,u,vA,vc,v)=>cels lA lcap L::plL c g sA sc s uA uc u vA vc v [Z]) (λ(j,s,uA,uc,u,vA,vc,v)=>j<=L.length/\PInvY c n (j+1) s u v/\u.length<=atts.length+j/\dels.length<=v.length) (λz=>L.length-z.1) (0,s1,tA,tc,atts,dA,dc,dels) ⟨Ti _,hp1,TM _,TM _⟩ ?_ ?_ ?_
 ·exact zc1
 ·intro w hw;exact hw
 rintro⟨j,s2,uA,uc,u,vA,vc,v⟩ ⟨hj,hpj,hu,hv⟩ K hK
 dsimp only at hj hpj hu hv⊢
 have hud:=hpj.dl
 by_cases hlt:j<L.length
 rotate_left
 ·obtain rfl:j=L.length:=by omega
  clear hK
  have hsub:v.length-(dels.length:Int).toNat=v.length-dels.length:=by rw[Rq]
  repeat'(first|(apply Z7 T;(iterate 4 exact rfl);omega;exact rfl)|refine zgd ?_|(refine zge ?_ ?_<;>intro _<;>try exact zo)|fail)
  apply Yg _ YvU
  exact za
  exact rfl
  exactλ_ hw=>(YgN v dels.length hv (by omega) (A:=vA) (cap:=vc) (H:=cels lA lcap L::plB c g sA c.l.length sc uA u.length uc vA v.length vc::plS sA c.l.length sc s2::plT uA uc u::many (s2.map smQ)::[Z]) zc0 (hw))
  rintro _ _ ⟨rfl,v',hv',rfl⟩
  refine zX3 ?_
  apply Yh (plL c g sA sc s2 uA uc u vA vc v' [Z])
  ·intro w hw
   have hvl:=hv'.length_eq
   unfold plL
   rw[hvl]
   revert w
   clear hvl
   exact zc0
  apply Zk;exact rfl
  subst hL
  exact⟨_,_,_,_,_,_,_,rfl,hpj.next hv',by omega,rfl⟩
 obtain⟨q,hq⟩:∃q,L[j]? =some q:=⟨_,Ta hlt⟩
 have p3:=λ{H':List HP}{w:World}(hin:∀w,St B w0 H' w->St B w0 (plL c g sA sc s2 uA uc u vA vc v (cels lA lcap L::[Z])) w) (hw:St B w0 H' w)=>YjB c q n (u.length:Nat) hn (by omega) hl hid hxl hpj.len hpj.ok (by omega) (by omega) hr hx (cels lA lcap L::[Z]) (λw hw=>hw.tail) hin hw
 unfold celV at p3
 have hrL:Rd B w0 (cels lA lcap L::plL c g sA sc s2 uA uc u vA vc v [Z]) lA (L.flatMap celF):=Rd.sl TC
 refine zX46 ?_<;>intros
 apply Yg _ YvT
 exact za
 exact rfl
 exactλ_ hw=>(p3 zc0 (hw))
 rintro _ _ ⟨s3,uA',uc',u',vA',vc',v',rfl,ha,rfl⟩
 obtain⟨hp3,hu3,hv3⟩:=hpj.att (by rw[hL];exact hq) ha
 refine zX9 ?_
 apply hK (j+1,s3,uA',uc',u',vA',vc',v')
 ·exact⟨by omega,hp3,by omega,by omega⟩
 ·exact zc54
 ·exact zc1
 ·exact zc0
theorem Yqa{s:Sch}:(ZM s).2=if Xh s=true then 0 else 1:=by
 grind [ZM]
variable {B:Nat}{w0 w:World}{H:List HP}
theorem Ykw(c:PlC)(slots:Int)(hl:c.l.length<=1000000)(hsl:c.s.cells.length<=1000000)(hxl:c.xs.length<=1000000)(ht:TabsB B w0)(hr:Rd B w0 H c.fA (c.l.flatMap flwF))(hs:Rd B w0 H c.s.A (c.s.cells.flatMap celF))(hx:XIn B w0 H c.xA c.xs)(hw:St B w0 H w):
 CX B w0 65 [.slice c.fA c.l.length c.fc,c.s.val,.slice c.xA c.xs.length c.xc,.int .i64 slots] w λv K=>(∃e:Int,v=.int .i64 e/\(e=0->(Yx 32 c.l).2=0/\Xh c.s.sch=true/\0<=slots/\slots<=4096))/\K=H:=by
 refine Ya Tryz.func65 Tryz.ntmps65 rfl rfl hw ?_
 obtain⟨⟨f1,f2⟩,hfe⟩:∃z,Yx 32 c.l=z:=⟨_,rfl⟩
 have hfe2:(Yx 32 c.l).2=f2:=by rw[hfe]
 have p1:=λ{H':List HP}{w:World}(hr:Rd B w0 H' c.fA (c.l.flatMap flwF)) (hw:St B w0 H' w)=>YW 32 c.l (by omega) (cap:=c.fc) hr hw
 rw[hfe]at p1
 dsimp only at p1
 have p2:=λ{H':List HP}{w:World}(hr:Rd B w0 H' c.s.A (c.s.cells.flatMap celF)) (hw:St B w0 H' w)=>O4 c.s ht hr (by omega) hw
 obtain⟨⟨t1,t2⟩,hte⟩:∃z,ZM c.s.sch=z:=⟨_,rfl⟩
 have hte2:t2=if Xh c.s.sch=true then 0 else 1:=by have:=@Yqa c.s.sch;rw[hte]at this;exact this
 rw[hte]at p2
 dsimp only at p2
 have p3:=λ{H':List HP}{w:World}(hx:XIn B w0 H' c.xA c.xs) (hw:St B w0 H' w)=>Yjc c.xs hxl (cap:=c.xc) hx hw
 unfold SchM.val at p2⊢
 refine zX14 ?_<;>intros
 first|apply Yb en78|apply Yc en78
 exact za
 exact rfl
 exactλ_ hw=>(p1 (hr.mono zc0) hw)
 by_cases h1:f2=0
 rotate_left
 ·refine zX1 ?_<;>intros
  apply Yh H
  ·exact zc0
  exact zc70
 refine zX1 ?_<;>intros
 first|apply Yb en11|apply Yc en11
 exact za
 exact rfl
 exactλ_ hw=>(p2 (hs.mono zc0) hw)
 cases hfm:Xh c.s.sch with
 |false=>
  rw[hfm,Tf (by decide)]at hte2
  subst hte2
  refine zX1 ?_<;>intros
  apply Yh H
  ·exact zc0
  exact zc70
 |true=>
 rw[hfm,Tm rfl]at hte2
 subst hte2
 refine zX1 ?_<;>intros
 apply Yg _ YvQ
 exact za
 exact rfl
 exactλ_ hw=>(p3 (hx.mono zc0) (hw))
 rintro _ _ ⟨⟨xi,xe,rfl⟩,hK0⟩
 rw[hK0]
 by_cases h3:xe=0
 rotate_left
 ·refine zX1 ?_<;>intros
  apply Yh H
  ·exact zc0
  exact zc70
 repeat'(first|refine zgc ?_|(refine zge ?_ ?_<;>intro _<;>try exact zo)|fail)
 all_goals(
  apply Yh H
  ·exact zk
  apply Yd;exact rfl;exact rfl
  refine⟨⟨_,rfl,λh=>?_⟩,rfl⟩
  first
   |exact absurd h (by decide)
   |exact⟨by rw[hfe2];exact h1,rfl,by omega,by omega⟩)
theorem UV{nodes:Int}{l:List Flw}(h:(Yx nodes l).2=0):(∀f∈l,YX nodes f=0)/\l.Pairwise λa b=>a.1≠b.1:=by
 have hstep:∀j,j<l.length->YX nodes (Y1 l j)=0/\(0<j->(Y1 l (j-1)).1<(Y1 l j).1):=λj hj=>by
  unfold Yx at h
  split at h
  ·cases h
  split at h
  ·cases h
  have:=YF.1 h j (Ti _) (by omega)
  unfold Xj at this
  omega
 have hlt:∀{i j:Nat},i<j->j<l.length->(Y1 l i).1<(Y1 l j).1:=by
  intro i j hij hj
  induction j with
  |zero=>omega
  |succ j ih=>
   grind
 have hat:∀{i:Nat}(hi:i<l.length),Y1 l i=l[i]:=by grind [Y1]
 refine⟨λf hf=>?_,TG.2 λi j hi hj hij e=>?_⟩
 ·obtain⟨i,hi,rfl⟩:=NC.1 hf
  rw[<-hat hi]
  exact(hstep i hi).1
 grind
theorem Ysi(c:PlC)(n:Int)(hn:0<=n/\n<=1000000)(hl:c.l.length<=1000)(hid:c.l.Pairwise λa b=>a.1≠b.1)(hf:∀f∈c.l,YX 32 f=0)(hxl:c.xs.length<=1000000)(hsl:c.s.cells.length<=1000){g:Nat}{sA:Option Addr}{sc:Nat}{ss:List SM}
 {tA:Option Addr}{tc:Nat}{atts:List AttM}{dA:Option Addr}{dc:Nat}{dels:List (Int×Int×Int)}(hp:PInvY c n 0 ss atts dels) (hat:atts.length<=50000000) {Z:HP}(hr:Rd B w0 [Z] c.fA (c.l.flatMap flwF)) (hs:Rd B w0 [Z] c.s.A (c.s.cells.flatMap celF)) (hx:XIn B w0 [Z] c.xA c.xs) (R:List HP) (hR:∀w,St B w0 R w->St B w0 [Z] w) (hin:∀w,St B w0 H w->St B w0 (plL c g sA sc ss tA tc atts dA dc dels R) w) (hw:St B w0 H w):
 CX B w0 67 [.pointer (some ⟨g,0,none⟩),.int .i64 n] w λv K=>∃ss' tA' tc' atts' dA' dc' dels',v=.tuple #[]/\PInvY c (n+1) 0 ss' atts' dels'/\atts'.length<=atts.length+1000/\K=plL c g sA sc ss' tA' tc' atts' dA' dc' dels' R:=by
 have hZ:∀w,St B w0 [many R] w->St B w0 [Z] w:=λw h=>hR w (h.perm (.openT R))
 refine(YnO (Z:=many R) c n hn hl hid hf hxl hsl hp hat (hr.mono hZ) (hs.mono hZ) (hx.mono hZ) ((hin w hw).perm (.cons _ (.cons _ (.cons _ (.cons _ (.cons _ (.closeT R)))))))).mono ?_
 rintro e w' ⟨v,K,h1,hst,ss',tA',tc',atts',dA',dc',dels',h2,h3,h4,rfl⟩
 exact⟨v,_,h1,hst.perm (.cons _ (.cons _ (.cons _ (.cons _ (.cons _ (.openT R)))))),ss',tA',tc',atts',dA',dc',dels',h2,h3,h4,rfl⟩
structure RunO(c:PlC)(slots:Int)(H:List HP)(v:Value)(K:List HP):Prop where
 go:(∃e:Int,e≠0/\v=.tuple #[.agg #[.slice none 0 0,.slice none 0 0],.int .i64 e]/\K=H)\/
  ∃ss tA tc atts dA dc dels,v=.tuple #[.agg #[.slice tA (atts:List AttM).length tc,.slice dA (dels:List (Int×Int×Int)).length dc],.int .i64 0]/\PInvY c slots 0 ss atts dels/\atts.length<=50000000/\(Yx 32 c.l).2=0/\Xh c.s.sch=true/\0<=slots/\K=plT tA tc atts::plD dA dc dels::H
theorem YnH(c:PlC)(slots:Int)(hl:c.l.length<=1000)(hsl:c.s.cells.length<=1000)(hxl:c.xs.length<=1000000)(ht:TabsB B w0)(hr:Rd B w0 H c.fA (c.l.flatMap flwF))(hs:Rd B w0 H c.s.A (c.s.cells.flatMap celF))(hx:XIn B w0 H c.xA c.xs)(hw:St B w0 H w):
 CX B w0 25 [.slice c.fA c.l.length c.fc,c.s.val,.slice c.xA c.xs.length c.xc,.int .i64 slots] w (RunO c slots H):=by
 refine Ya Tryz.func25 Tryz.ntmps25 rfl rfl hw ?_
 have hop:∀w,St B w0 [many H] w->St B w0 H w:=λw hw=>hw.perm (.openT H)
 have hr:=hr.mono hop
 have hs:=hs.mono hop
 have hx:=hx.mono hop
 refine Y8 [many H] (λw hw=>hw.perm (.closeT H)) ?_
 have p1:=λ{H':List HP}{w:World}(hr:Rd B w0 H' c.fA (c.l.flatMap flwF)) (hs:Rd B w0 H' c.s.A (c.s.cells.flatMap celF)) (hx:XIn B w0 H' c.xA c.xs) (hw:St B w0 H' w)=>Ykw c slots (by omega) (by omega) hxl ht hr hs hx hw
 have p2:=λ{H':List HP}{w:World}(hw:St B w0 H' w)=>Ydh c hl hw
 unfold SchM.val at p1 p2⊢
 refine zX71 ?_<;>intros
 apply Yg _ en65
 exact za
 exact rfl
 exactλ_ hw=>(p1 (hr.mono zc0) (hs.mono zc0) (hx.mono zc0) (hw))
 rintro _ _ ⟨⟨e,rfl,he⟩,hK0⟩
 rw[hK0]
 by_cases he0:e=0
 rotate_left
 ·refine zX0 ?_<;>intros
  refine Yv T (H2:=H) rfl rfl rfl (by(focus exact zc2)) rfl rfl (λw hw=>hop w ?_) ⟨.inl ⟨e,he0,rfl,rfl⟩⟩
  revert w
  exact zc0
 obtain⟨hfe,hfm,hs0,hs1⟩:=he he0
 obtain⟨hfl,hid⟩:=UV hfe
 rename Nat=>gr
 refine zX5 ?_<;>intros
 apply Yg _ en66
 exact za
 exact rfl
 exactλ_ hw=>(p2 (hw))
 rintro _ _ ⟨g,sA,sc,rfl,rfl⟩
 refine zX7 ?_
 refine Yi (λ(z:Nat×List SM×Option Addr×Nat×List AttM×Option Addr×Nat×List (Int×Int×Int))=>[(27,.int .i64 (z.1:Nat)),(26,.int .i64 slots),(11,.pointer (some ⟨g,0,none⟩)),(9,.int .i64 0),(8,.pointer (some ⟨gr,0,none⟩))])
  (λ(j,s,uA,uc,u,vA,vc,v)=>plL c g sA sc s uA uc u vA vc v [blk gr (.cells (Value.agg #[.slice none 0 0,.slice none 0 0]).cells 73 (0,0)),many H]) (λ(j,s,uA,uc,u,vA,vc,v)=>(j:Int)<=slots/\PInvY c (j:Nat) 0 s u v/\u.length<=1000*j) (λz=>slots.toNat-z.1) (0,List.replicate c.l.length XD,none,0,[],none,0,[]) ⟨hs0,PInvY.start c,TM _⟩ ?_ ?_ ?_
 ·exact zc1
 ·exact zc0
 rintro⟨j,s,uA,uc,u,vA,vc,v⟩ ⟨hj,hp,hu⟩ K hK
 dsimp only at hj hp hu⊢
 have hul:u.length<=50000000:=by omega
 by_cases hlt:(j:Int)<slots
 rotate_left
 ·obtain rfl:slots=(j:Nat):=by omega
  clear hK
  refine zX70 ?_<;>intros
  refine Yv T (H2:=plT uA uc u::plD vA vc v::H) rfl rfl rfl (by(focus exact zc2)) rfl rfl (λw hw=>?_) ⟨.inr ⟨s,uA,uc,u,vA,vc,v,rfl,hp,hul,hfe,hfm,hs0,rfl⟩⟩
  have h5:St B w0 (plT uA uc u::plD vA vc v::[many H]) w:=by
   revert w
   exact zc0
  exact Yl7
 have p3:=λ{H':List HP}{w:World}(hin:∀w,St B w0 H' w->St B w0 (plL c g sA sc s uA uc u vA vc v [blk gr (.cells (Value.agg #[.slice none 0 0,.slice none 0 0]).cells 73 (0,0)),many H]) w) (hw:St B w0 H' w)=>Ysi c (j:Nat) (by omega) hl hid hfl hxl hsl hp hul hr hs hx [blk gr (.cells (Value.agg #[.slice none 0 0,.slice none 0 0]).cells 73 (0,0)),many H] (λw hw=>hw.tail) hin hw
 refine zX5 ?_<;>intros
 apply Yg _ en67
 exact za
 exact rfl
 exactλ_ hw=>(p3 zc0 (hw))
 rintro _ _ ⟨s3,uA',uc',u',vA',vc',v',rfl,hp3,hu3,rfl⟩
 refine zX9 ?_
 apply hK (j+1,s3,uA',uc',u',vA',vc',v')
 ·exact⟨by push_cast;omega,by rw[show((j+1:Nat):Int)=(j:Int)+1 by omega];exact hp3,by omega⟩
 ·exact zc54
 ·exact zc1
 ·exact zc0
end Go.Proofs.YtjlgijpmnfabcaaGreatDoor
