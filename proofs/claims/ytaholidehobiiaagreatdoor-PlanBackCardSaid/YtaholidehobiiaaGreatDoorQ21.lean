/- Lemmas for the claim, part 21. -/
import Derived.Test.YtaholidehobiiaaGreatDoorQ19
import Derived.Test.YtaholidehobiiaaGreatDoorQ20
set_option maxRecDepth 100000
set_option maxHeartbeats 8000000
set_option linter.all false
namespace Go.Proofs.YtaholidehobiiaaGreatDoor
open Go.RowKit Go.Eng Go.Nw Go.Rt
theorem Yes(x:WayM){B:Nat}{w0:World}{H:List HP}{w:World}(ht:TabsB B w0)(hi:x.In B w0 H)(hw:St B w0 H w):
 CX B w0 248 [x.n.val,x.s.val,flwV x.f,.slice x.A x.r.length x.cap] w λv K=>∃A cap,v=.tuple #[.int .i64 (Xl x.n.net x.s.sch x.f x.r).1.1,.int .i64 (Xl x.n.net x.s.sch x.f x.r).1.2.1,.slice A (Xl x.n.net x.s.sch x.f x.r).1.2.2.length cap,.int .i64 (Xl x.n.net x.s.sch x.f x.r).2]/\K=nrs A cap (Xl x.n.net x.s.sch x.f x.r).1.2.2::H:=by
 refine Yc Tryz.func248 Tryz.ntmps248 rfl rfl hw ?_
 have p1:=λ{H':List HP}{w:World}(hi:x.In B w0 H') (hw:St B w0 H' w)=>YkK x ht hi hw
 obtain⟨R,hR⟩:∃R,Xl x.n.net x.s.sch x.f x.r=R:=⟨_,rfl⟩
 rw[hR]
 unfold Xl at hR
 obtain⟨e,he⟩:∃e,wayE x.n.net x.s.sch x.f x.r=e:=⟨_,rfl⟩
 rw[he]at p1 hR
 unfold NetM.val SchM.val flwV
 by_cases h0:e=0
 rotate_left
 ·rw[Tn h0]at hR
  subst hR
  refine zX75 ?_<;>intros
  apply Yi (nrs none 0 []::H)
  ·intro w hw
   have h5:St B w0 H w:=by
    revert w
    exact zc0
   exact h5.nilSlice _ _
  exact zc58
 subst h0
 rw[Tf (λh=>h rfl)]at hR
 have hok:=Yii he
 have p2:=λ{H':List HP}{w:World}(hi:x.In B w0 H') (hw:St B w0 H' w)=>Yk2 x hok hi hw
 unfold Oy at p2
 cases hb:VG x.n.net x.s.sch x.f x.r with
 |none=>
  rw[hb]at hR p2
  dsimp only[YcJ]at hR p2
  subst hR
  refine zX75 ?_<;>intros
  apply Ye _ YuY
  exact za
  exact rfl
  exactλ_ hw=>(p2 (hi.mono zc0) (hw))
  rintro _ _ ⟨A2,cap2,rfl,rfl⟩
  refine zX2 ?_
  apply Yi (nrs none 0 []::H)
  ·intro w hw
   have h5:St B w0 H w:=by
    revert w
    exact zc0
   exact h5.nilSlice _ _
  exact zc58
 |some b=>
  rw[hb]at hR p2
  dsimp only[YcJ]at hR p2
  subst hR
  refine zX75 ?_<;>intros
  apply Ye _ YuY
  exact za
  exact rfl
  exactλ_ hw=>(p2 (hi.mono zc0) (hw))
  rintro _ _ ⟨A2,cap2,rfl,rfl⟩
  refine zX2 ?_
  apply Yi (nrs A2 cap2 b.2.2::H)
  ·exact zc0
  apply Yhd;(iterate 5 exact rfl)
  exact⟨A2,cap2,rfl,rfl⟩
variable {A:Option Addr}{cap B:Nat}{w0 w:World}{H:List HP}
theorem VI(l:List Int)(hlen:l.length<=1000)(hr:Rd B w0 H A (l.flatMap numF))(hw:St B w0 H w):
 CX B w0 167 [.slice A l.length cap] w λv K=>∃A' cap',v=.slice A' l.length cap'/\K=sl 3 1 A' l.length cap' (l.flatMap numF)::H:=by
 cases A with
 |none=>
  have hl:l=[]:=by
   cases l with
   |nil=>rfl
   |cons x l=>
    exact zc35
  subst hl
  refine Yc Tryz.func167 Tryz.ntmps167 rfl rfl hw ?_
  exact zc23
 |some a=>
  refine Yc Tryz.func167 Tryz.ntmps167 rfl rfl hw ?_
  exact zc13
theorem Oc(l:List Int)(hlen:l.length<=1000)(hr:Rd B w0 H A (l.flatMap numF))(hw:St B w0 H w):
 CX B w0 164 [.slice A l.length cap] w λv K=>∃A' cap',v=.slice A' l.length cap'/\K=sl 3 1 A' l.length cap' (l.flatMap numF)::H:=by
 cases A with
 |none=>
  have hl:l=[]:=by
   cases l with
   |nil=>rfl
   |cons x l=>
    exact zc35
  subst hl
  refine Yc Tryz.func164 Tryz.ntmps164 rfl rfl hw ?_
  exact zc23
 |some a=>
  refine Yc Tryz.func164 Tryz.ntmps164 rfl rfl hw ?_
  exact zc13
theorem YcA(l:List RowM)(hlen:l.length<=1000)(hr:Rd B w0 H A (l.flatMap rowF))(hw:St B w0 H w):
 CX B w0 165 [.slice A l.length cap] w λv K=>∃A' cap',v=.slice A' l.length cap'/\K=sl 24 1 A' l.length cap' (l.flatMap rowF)::H:=by
 cases A with
 |none=>
  have hl:l=[]:=by
   cases l with
   |nil=>rfl
   |cons x l=>
    exact zc35
  subst hl
  refine Yc Tryz.func165 Tryz.ntmps165 rfl rfl hw ?_
  refine zX7 ?_
  apply X9 24 1;exact zc36
 |some a=>
  refine Yc Tryz.func165 Tryz.ntmps165 rfl rfl hw ?_
  repeat'(first|(apply ZE;(iterate 3 exact rfl))|(apply Y1 T;exact rfl;exact rfl;intro g2)|refine zga ?_|fail)
  apply Xy T (f:=rowF) (l2:=l) (e:=24) (size:=1) (xs:=[]);(iterate 3 exact rfl);exact hr.cons;exact(λ_=>rfl);exact(λ_=>rfl);exact rfl;(intro _ _;exact zd);omega;intro A' cap'
  exact zc30
abbrev clA(g:Nat)(c:ClM):HP:=blk g (.cells #[.int .i64 c.flow,.slice c.rA c.rs.length c.rcap,.slice c.bA c.bs.length c.bcap,.slice c.wA c.ws.length c.wcap,.slice c.sA c.ss.length c.scap] 132 (0,0))
theorem Ykl(e:Nat)(A:Option Addr)(cap:Nat)(l:List RowM)(r:RowM):sl e 1 A (l.length+1) cap (l.flatMap rowF++#[Value.slice r.A r.xs.length r.cap].toList)=sl e 1 A (l++[r]).length cap ((l++[r]).flatMap rowF):=by grind [rowF]
theorem Qo(f:RowM->HP)(l:List RowM)(r:RowM)(H:List HP):Perm (f r::many (l.map f)::H) (many ((l++[r]).map f)::H):=by
 have:=Perm.push (f r) (l.map f) [] H
 simp_all
theorem YiT{S:Int->Option (List Int)}{len per:Int}{N:Nat}(hS:∀a l,S a=some l->l.length<=N):∀{k:Nat}{rel:Int}{b0 b:Int×Int×List Int},b0.2.2.length<=N->Wg S len per k rel b0=some b->b.2.2.length<=N
 |0,rel,b0,b,h0,h=>by
  grind [Wg]
 |k+1,rel,b0,b,h0,h=>by
  unfold Wg at h
  split at h
  ·simp_all
  cases hs:S rel with
  |none=>simp_all
  |some l=>
   rw[hs]at h
   refine YiT hS ?_ h
   grind
theorem YoB{x:WayM}(hok:Oa x){b:Int×Int×List Int}(h:VG x.n.net x.s.sch x.f x.r=some b):b.2.2.length<=72:=by
 have hl:=hok.len
 refine YiT (λa l hs=>?_) (Tm _) h
 rw[YbK]at hs
 split at hs
 ·cases hs
 have h1:(runW x a).length<=XD (Yp x.n.net x.r):=Ya0 _ _ _ _ _
 have h2:=YcN hok (Yp x.n.net x.r).length
 grind [WS]
structure M8(xs:List Int) where
 A1:Option Addr
 c1:Nat
 r:RowM
 hr:r.xs=xs
 A3:Option Addr
 c3:Nat
structure CkM where
 i:Nat
 c:ClM
def ClM.lens(c:ClM):Prop:=(c.rs.length<=1000/\c.bs.length<=1000/\c.ws.length<=1000/\c.ss.length<=1000)/\(∀r∈c.rs,r.xs.length<=1000)/\∀r∈c.ss,r.xs.length<=1000
theorem Ylb(n:NetM)(s:SchM)(x:RqM)(ht:TabsB B w0)(hin:n.In B w0 H)(hrs:Rd B w0 H s.A (s.cells.flatMap celF))(hsl:s.cells.length<=1000000000000)(hx:x.In B w0 H)(hr9:x.rows.length<=9)(hw:St B w0 H w):
 CX B w0 177 [n.val,s.val,rqV x] w λv K=>∃c:ClM,v=.tuple #[clV c,.bool (!(JG n.net s.sch x.rq))]/\(JG n.net s.sch x.rq=false->c.clm=clmE n.net s.sch x.rq/\c.lens)/\K=clQ c::H:=by
 refine Yc Tryz.func177 Tryz.ntmps177 rfl rfl hw ?_
 have e1:x.rq.1=x.f:=rfl
 have p1:=λ{H':List HP}{w:World}(r:RowM) (hr:r∈x.rows) (hin:n.In B w0 H') (hrs:Rd B w0 H' s.A (s.cells.flatMap celF)) (hx:x.In B w0 H') (hw:St B w0 H' w)=>Yes ⟨n,s,x.f,r.A,r.cap,r.xs⟩ ht ⟨hin,hrs,hx.rw_ r hr,hsl,(hx.rl r hr).1,(hx.rl r hr).2⟩ hw
 unfold NetM.val SchM.val rqV
 refine zX26 ?_<;>intros
 rename_i g3 g4 g5 g6 g8
 have hln:x.rq.2=x.rows.map (·.xs):=rfl
 obtain⟨P,hP⟩:∃P,badR n.net s.sch x.f=P:=⟨_,rfl⟩
 have hla:JG n.net s.sch x.rq=(x.rows.map (·.xs)).any P:=by unfold JG;rw[hln,e1,hP]
 rw[hla]
 refine Yg (λz:CkM=>[(22,.int .i64 (z.i:Nat)),(21,.int .i64 x.rows.length),(20,.slice x.A x.rows.length x.cap),(8,.pointer (some ⟨g8,0,none⟩)),(6,.pointer (some ⟨g6,0,none⟩)),(5,.pointer (some ⟨g5,0,none⟩)),(4,.pointer (some ⟨g4,0,none⟩)),(3,.pointer (some ⟨g3,0,none⟩))]) (λz=>clA g8 z.c::clQ z.c::clA g6 (nilC 0)::rqA g5 x::schA g4 s::netA g3 n::H)
  (λz=>z.i<=x.rows.length/\z.c.clm=Yi0 n.net s.sch x.rq ((x.rows.take z.i).map (·.xs))/\z.c.lens/\((x.rows.take z.i).map (·.xs)).any P=false) (λz=>x.rows.length-z.i) ⟨0,nilC x.f.1⟩ ⟨Tm _,rfl,⟨by unfold nilC;simp,by unfold nilC;simp,by unfold nilC;simp⟩,by simp⟩ ?_ ?_ ?_
 ·exact zc1
 ·intro w hw
  have h1:=YjY x.f.1 hw
  have h2:St B w0 (clQ (nilC x.f.1)::clA g8 (nilC x.f.1)::clA g6 (nilC 0)::rqA g5 x::schA g4 s::netA g3 n::H) w:=h1
  clear hw h1
  revert w
  exact zc0
 rintro⟨i,c⟩ ⟨hi,hcm,hlen,hno⟩ K hK
 dsimp only at hi hcm hlen hno⊢
 have hrt:Rd B w0 (clA g8 c::clQ c::clA g6 (nilC 0)::rqA g5 x::schA g4 s::netA g3 n::H) x.A (x.rows.flatMap rowF):=hx.rt.cons.cons.cons.cons.cons.cons
 by_cases hlt:i<x.rows.length
 rotate_left
 ·obtain rfl:i=x.rows.length:=by omega
  rw[TV]at hcm hno
  rw[hno]
  clear hK
  refine zX1 ?_<;>intros
  apply Yq T (H2:=clQ c::H);(iterate 3 exact rfl);(focus exact zc2);exact rfl;exact rfl;(intro w hw;refine hw.perm ?_;focus exact zc3)
  exact⟨c,rfl,λ_=>⟨hcm,hlen⟩,rfl⟩
 obtain⟨r,hr⟩:∃r,x.rows[i]? =some r:=⟨_,Ta hlt⟩
 have hrm:=Tc hr
 have hri:=hx.rw_ r hrm
 have p2:=λ{H':List HP}{w:World}(hin:n.In B w0 H') (hrs:Rd B w0 H' s.A (s.cells.flatMap celF)) (hx:x.In B w0 H') (hw:St B w0 H' w)=>p1 r hrm hin hrs hx hw
 dsimp only at p2
 obtain⟨⟨⟨m,wst,sx⟩,e⟩,hRt⟩:∃z,Xl n.net s.sch x.f r.xs=z:=⟨_,rfl⟩
 rw[hRt]at p2
 dsimp only at p2
 unfold flwV at p2
 refine zX76 ?_<;>intros
 apply Ye _ YuL
 exact za
 exact rfl
 exactλ_ hw=>(p2 (hin.mono zc0) (hrs.mono zc0) (hx.mono zc0) (hw))
 rintro _ _ ⟨A2,cap2,rfl,rfl⟩
 have hPr:P r.xs=decide (e≠0\/x.f.2.2.2.2.2<m):=by rw[<-hP];unfold badR;rw[hRt]
 by_cases hbad:e≠0\/x.f.2.2.2.2.2<m
 ·rw[Td hbad]at hPr
  have hany:(x.rows.map (·.xs)).any P=true:=T8.2 ⟨r.xs,Sr hrm,hPr⟩
  rw[hany]
  clear hK
  by_cases he0:e=0
  all_goals(
   repeat'(first|refine zgd ?_|(refine zgf ?_ ?_<;>intro _<;>try exact zo)|fail)
   apply Yq T (H2:=clQ (nilC 0)::H);(iterate 3 exact rfl);exact zm;exact rfl;exact rfl
   ·intro w hw
    have h5:St B w0 H w:=by
     revert w
     exact zk
    exact YjY 0 h5
   exact⟨nilC 0,rfl,(λh=>by cases h),rfl⟩)
 rw[Ti hbad]at hPr
 have he0:e=0:=Nb λh=>hbad (.inl h)
 have hml:m<=x.f.2.2.2.2.2:=by omega
 subst he0
 obtain⟨hri9,hsx9⟩:r.xs.length<=9/\sx.length<=72:=by
  have h0:(Xl n.net s.sch x.f r.xs).2=0:=by rw[hRt]
  obtain⟨h1,b,h2,h3⟩:=OY h0
  have hok:=Yii (x:=⟨n,s,x.f,r.A,r.cap,r.xs⟩) h1
  have h4:=YoB hok h2
  rw[hRt]at h3
  injection h3 with h3 _
  rw[<-h3]at h4
  exact⟨hok.len.2,h4⟩
 have hinv:∀(A1:Option Addr) (c1:Nat) (r8:RowM) (_:r8.xs=r.xs) (A3:Option Addr) (c3:Nat) (A4:Option Addr) (c4:Nat) (A5:Option Addr) (c5:Nat),(i+1<=x.rows.length/\(ClM.mk c.flow A1 c1 (c.rs++[r8]) A3 c3 (c.bs++[m]) A4 c4 (c.ws++[wst]) A5 c5 (c.ss++[⟨A2,cap2,sx⟩])).clm=Yi0 n.net s.sch x.rq ((x.rows.take (i+1)).map (·.xs))/\(ClM.mk c.flow A1 c1 (c.rs++[r8]) A3 c3 (c.bs++[m]) A4 c4 (c.ws++[wst]) A5 c5 (c.ss++[⟨A2,cap2,sx⟩])).lens/\((x.rows.take (i+1)).map (·.xs)).any P=false):=by
  intro A1 c1 r8 hr8 A3 c3 A4 c4 A5 c5
  have hst:(x.rows.take (i+1)).map (·.xs)=(x.rows.take i).map (·.xs)++[r.xs]:=by
   rw[TN,hr,SL,Rb];rfl
  have hli:((x.rows.take i).map (·.xs)).length=i:=by rw[TB,TT];omega
  rw[hst]
  unfold ClM.clm Yi0 at hcm
  injection hcm with f1 f2 f3 f4 f5
  have l1:c.rs.length=i:=by rw[<-hli,<-f2,TB]
  have l2:c.bs.length=i:=by rw[f3,TB,hli]
  have l3:c.ws.length=i:=by rw[f4,TB,hli]
  have l4:c.ss.length=i:=by
   have:=TE List.length f5
   rw[TB,TB,hli]at this
   exact this
  refine⟨by omega,?_,⟨?_,?_,?_⟩,?_⟩
  ·unfold ClM.clm Yi0
   simp only[Rb,Rh,Mc,hr8,f1,f2,f3,f4,f5,e1,hRt]
  ·simp only[To,TM,Ry,l1,l2,l3,l4]
   omega
  ·intro q hq
   rcases TI.1 hq with h|h
   ·exact hlen.2.1 q h
   ·rw[TG.1 h,hr8];omega
  ·intro q hq
   rcases TI.1 hq with h|h
   ·exact hlen.2.2 q h
   ·rw[TG.1 h];show sx.length<=1000;omega
  ·rw[Nu,hno]
   simp[hPr]
 refine zX43 ?_<;>intros
 refine ZW (nrs A2 cap2 sx::clA g8 c::sl 93 1 c.rA c.rs.length c.rcap (c.rs.flatMap rowF)::many (c.rs.map rowQ)::nrs c.bA c.bcap c.bs::nrs c.wA c.wcap c.ws::sl 24 1 c.sA c.ss.length c.scap (c.ss.flatMap rowF)::many (c.ss.map rowQ)::clA g6 (nilC 0)::rqA g5 x::schA g4 s::netA g3 n::H) (λw hw=>hw.perm (.cons _ (.cons _ (.open_ (clP c) _)))) ?_
 have hl1:=hlen.1
 refine Zf (λz:M8 r.xs=>[(22,.int .i64 (i:Nat)),(21,.int .i64 x.rows.length),(20,.slice x.A x.rows.length x.cap),(8,.pointer (some ⟨g8,0,none⟩)),(6,.pointer (some ⟨g6,0,none⟩)),(5,.pointer (some ⟨g5,0,none⟩)),(4,.pointer (some ⟨g4,0,none⟩)),(3,.pointer (some ⟨g3,0,none⟩)),(13,.slice A2 sx.length cap2),(12,.int .i64 wst)])
  (λz=>nrs A2 cap2 sx::blk g8 (.cells #[.int .i64 c.flow,.slice z.A1 (c.rs++[z.r]).length z.c1,.slice z.A3 (c.bs++[m]).length z.c3,.slice c.wA c.ws.length c.wcap,.slice c.sA c.ss.length c.scap] 132 (0,0))::sl 93 1 z.A1 (c.rs++[z.r]).length z.c1 ((c.rs++[z.r]).flatMap rowF)::many ((c.rs++[z.r]).map rowQ)::nrs z.A3 z.c3 (c.bs++[m])::nrs c.wA c.wcap c.ws::sl 24 1 c.sA c.ss.length c.scap (c.ss.flatMap rowF)::many (c.ss.map rowQ)::clA g6 (nilC 0)::rqA g5 x::schA g4 s::netA g3 n::H) ?_ ?_
 ·intro K8 hK8
  apply Yak (.n1 0 (.n1 1 (.n1 2 (.n1 6 (.n1 7 (.n1 8 (.n2 3 (.n2 4 (.n2 5 (.n1 11 (.n1 9 (.n1 10 .done))) 9 (.n1 5 (.n1 11 (.n1 10 .done)))) 9 (.n1 4 (.n1 5 (.n1 11 (.n1 10 .done))))) 9 (.n1 3 (.n1 4 (.n1 5 (.n1 11 (.n1 10 .done)))))))))))) [12,13,14] [false,true]
  kernel_rfl
  kernel_rfl
  exact zy
  (simp only[Yh,nthO];rfl)
  repeat'(first|((apply Ye _ Yq3);exact za;exact rfl;exactλ_ hw=>VI r.xs (by omega) (hri.mono zk) hw;rintro _ _ ⟨A8,cap8,rfl,rfl⟩)|(apply YmK;(simp only[nthO];rfl);(simp only[nthO];rfl))|(apply YmJ;(simp only[nthO];rfl))|(apply Yap;try exact zl)|(apply Yl;try exact zl)|refine zgd ?_|(refine zgh ?_;intro _)|(refine zgi ?_;intro _ _)|fail)
  all_goals(
   first
    |(rename_i A1 c1 g A3 c3;guard_hyp g:Nat;guard_hyp A1:Option Addr)
    |(rename_i A1 c1 A3 c3;guard_hyp A1:Option Addr)
   refine hK8 ⟨A1,c1,⟨A8,cap8,r.xs⟩,rfl,A3,c3⟩ _ _ zu ?_
   intro w hw
   have q1:sl 93 1 A1 (c.rs.length+1) c1 (c.rs.flatMap rowF++#[Value.slice A8 r.xs.length cap8].toList)=sl 93 1 A1 (c.rs++[(⟨A8,cap8,r.xs⟩:RowM)]).length c1 ((c.rs++[(⟨A8,cap8,r.xs⟩:RowM)]).flatMap rowF):=Ykl _ _ _ _ ⟨A8,cap8,r.xs⟩
   rw[q1,Yed,show c.rs.length+1=(c.rs++[(⟨A8,cap8,r.xs⟩:RowM)]).length by simp,show c.bs.length+1=(c.bs++[m]).length by simp]at hw
   have h5:St B w0 (nrs A2 cap2 sx::blk g8 (.cells #[.int .i64 c.flow,.slice A1 (c.rs++[(⟨A8,cap8,r.xs⟩:RowM)]).length c1,.slice A3 (c.bs++[m]).length c3,.slice c.wA c.ws.length c.wcap,.slice c.sA c.ss.length c.scap] 132 (0,0))::sl 93 1 A1 (c.rs++[(⟨A8,cap8,r.xs⟩:RowM)]).length c1 ((c.rs++[(⟨A8,cap8,r.xs⟩:RowM)]).flatMap rowF)::sl 3 1 A8 r.xs.length cap8 (r.xs.flatMap numF)::many (c.rs.map rowQ)::nrs A3 c3 (c.bs++[m])::nrs c.wA c.wcap c.ws::sl 24 1 c.sA c.ss.length c.scap (c.ss.flatMap rowF)::many (c.ss.map rowQ)::clA g6 (nilC 0)::rqA g5 x::schA g4 s::netA g3 n::H) w:=by
    clear q1
    revert w
    exact zk
   exact h5.perm (.cons _ (.cons _ (.cons _ (Qo rowQ c.rs ⟨A8,cap8,r.xs⟩ _)))))
 rintro⟨A1,c1,r8,hr8,A3,c3⟩
 dsimp only
 refine zX9 ?_
 apply Yak (.n1 0 (.n1 1 (.n1 2 (.n1 5 (.n1 6 (.n1 7 (.n2 3 (.n2 4 (.n1 10 (.n1 8 (.n1 9 .done))) 8 (.n1 4 (.n1 10 (.n1 9 .done)))) 8 (.n1 3 (.n1 4 (.n1 10 (.n1 9 .done))))))))))) [11,12,13] [false,true]
 kernel_rfl
 kernel_rfl
 exact zy
 (simp only[Yh,nthO];rfl)
 repeat'(first|(apply YmK;(simp only[nthO];rfl);(simp only[nthO];rfl))|(apply YmJ;(simp only[nthO];rfl))|(apply Yap;try exact zl)|(apply Yl;try exact zl)|refine zgd ?_|(refine zgh ?_;intro _)|(refine zgi ?_;intro _ _)|fail)
 all_goals(
  first
   |(rename_i A4 c4 g A5 c5;guard_hyp g:Nat;guard_hyp A4:Option Addr)
   |(rename_i A4 c4 A5 c5;guard_hyp A4:Option Addr)
  refine hK ⟨i+1,⟨c.flow,A1,c1,c.rs++[r8],A3,c3,c.bs++[m],A4,c4,c.ws++[wst],A5,c5,c.ss++[⟨A2,cap2,sx⟩]⟩⟩ ?_ ?_ _ _ zu ?_
  ·exact hinv A1 c1 r8 hr8 A3 c3 A4 c4 A5 c5
  ·dsimp only;omega
  intro w hw
  have q1:sl 24 1 A5 (c.ss.length+1) c5 (c.ss.flatMap rowF++#[Value.slice A2 sx.length cap2].toList)=sl 24 1 A5 (c.ss++[(⟨A2,cap2,sx⟩:RowM)]).length c5 ((c.ss++[(⟨A2,cap2,sx⟩:RowM)]).flatMap rowF):=Ykl _ _ _ _ ⟨A2,cap2,sx⟩
  rw[q1,Yed,show c.ss.length+1=(c.ss++[(⟨A2,cap2,sx⟩:RowM)]).length by simp,show c.ws.length+1=(c.ws++[wst]).length by simp]at hw
  have h5:St B w0 (blk g8 (.cells #[.int .i64 c.flow,.slice A1 (c.rs++[r8]).length c1,.slice A3 (c.bs++[m]).length c3,.slice A4 (c.ws++[wst]).length c4,.slice A5 (c.ss++[(⟨A2,cap2,sx⟩:RowM)]).length c5] 132 (0,0))::sl 93 1 A1 (c.rs++[r8]).length c1 ((c.rs++[r8]).flatMap rowF)::many ((c.rs++[r8]).map rowQ)::nrs A3 c3 (c.bs++[m])::nrs A4 c4 (c.ws++[wst])::sl 24 1 A5 (c.ss++[(⟨A2,cap2,sx⟩:RowM)]).length c5 ((c.ss++[(⟨A2,cap2,sx⟩:RowM)]).flatMap rowF)::nrs A2 cap2 sx::many (c.ss.map rowQ)::clA g6 (nilC 0)::rqA g5 x::schA g4 s::netA g3 n::H) w:=by
   clear q1
   revert w
   exact zk
  have h6:=h5.perm (.cons _ (.cons _ (.cons _ (.cons _ (.cons _ (.cons _ (Qo rowQ c.ss ⟨A2,cap2,sx⟩ _)))))))
  exact h6.perm (.cons _ (.close [_,_,_,_,_,_] _)))
open Go.RowKit Go.Eng Go.Nw
variable {l:List Flw}
theorem Yk5{n:Net}{s:Sch}(h1:(Vb n l s).2=0):∀c∈s.cells,Yz n (YE c) (toC c)=true:=by
 have k1:=YK.1 h1
 intro c hc
 obtain⟨i,hi⟩:=TS.1 hc
 have hl:=(Tj.1 hi).1
 have:=k1 i (Tm _) (by omega)
 unfold Ug at this
 rw[XV hi]at this
 grind
theorem YoY{nodes:Int}(h:(Yu nodes l).2=0):l.length<=16:=by
 grind [Yu]
theorem Yfv(n:NetM)(l:List Flw)(s:SchM)(hlf:l.length<=9223372036854775807)(hl:s.cells.length<=1000000000000){A:Option Addr}{cap B:Nat}{w0:World}{H:List HP}{w:World}(hin:n.In B w0 H)(hrf:Rd B w0 H A (l.flatMap flwF))(hr:Rd B w0 H s.A (s.cells.flatMap celF))(hw:St B w0 H w):
 CX B w0 20 [n.val,.slice A l.length cap,s.val] w λv K=>v=.tuple #[.int .i64 (schE n.net l s.sch).1,.int .i64 (schE n.net l s.sch).2]/\K=H:=by
 refine Yc Tryz.func20 Tryz.ntmps20 rfl rfl hw ?_
 have e4:s.sch.cells.length=s.cells.length:=rfl
 have e5:s.sch.len=s.len:=rfl
 have hchk:=λ{H':List HP}{w:World}(hin:n.In B w0 H') (hw:St B w0 H' w)=>Xb n hin hw
 have hsz:=λ{H':List HP}{w:World}(hw:St B w0 H' w)=>YeF s hw
 by_cases h1:Yo n.net=0
 rotate_left
 ·have hS:schE n.net l s.sch=(-1,1):=by
   have hw1:ZM n.net l s.sch=1:=by unfold ZM;rw[Tn h1]
   unfold schE;rw[hw1];rfl
  rw[hS]
  repeat'(first|((first|apply Ya en82|apply Yb en82);exact za;exact rfl;exactλ_ hw=>(hchk hin.cons.cons hw))|refine zgb ?_|(refine zge ?_ ?_<;>intro _<;>try exact zo)|(refine zgh ?_;intro _)|fail)
  apply Yi H
  ·exact zc0
  exact zc8
 rw[h1]at hchk
 by_cases h2:(Yu n.nodes l).2=0
 rotate_left
 ·have hS:schE n.net l s.sch=(-1,1):=by
   have hw1:ZM n.net l s.sch=1:=by unfold ZM;rw[Tf (by omega)];exact Tn h2
   unfold schE;rw[hw1];rfl
  rw[hS]
  repeat'(first|((first|apply Ya en82|apply Yb en82);exact za;exact rfl;exactλ_ hw=>(hchk hin.cons.cons hw))|((first|apply Ya en59|apply Yb en59);exact za;exact rfl;exactλ_ hw=>(Xe n.nodes l hlf hrf.cons.cons hw))|refine zgc ?_|(refine zge ?_ ?_<;>intro _<;>try exact zo)|(refine zgh ?_;intro _)|fail)
  apply Yi H
  ·exact zc0
  exact zc8
 have hl16:=YoY h2
 have hper:=Yge h2
 cases h3:Jo s.sch with
 |false=>
  rw[h3]at hsz
  have hS:schE n.net l s.sch=(-1,2):=by
   have hw1:ZM n.net l s.sch=2:=by unfold ZM;rw[Tf (by omega),Tf (λh=>h h2),Tn h3]
   unfold schE;rw[hw1];rfl
  rw[hS]
  repeat'(first|((first|apply Ya en82|apply Yb en82);exact za;exact rfl;exactλ_ hw=>(hchk hin.cons.cons hw))|((first|apply Ya en59|apply Yb en59);exact za;exact rfl;exactλ_ hw=>(Xe n.nodes l hlf hrf.cons.cons hw))|((first|apply Ya en83|apply Yb en83);exact za;exact rfl;exactλ_ hw=>(hsz hw))|refine zgd ?_|(refine zge ?_ ?_<;>intro _<;>try exact zo)|(refine zgh ?_;intro _)|fail)
  apply Yi H
  ·exact zc0
  exact zc8
 |true=>
 rw[h3]at hsz
 have hsl:1<=s.len/\s.len<=512:=by
  have:=Rj h3
  exact⟨this.1,this.2.1⟩
 obtain⟨b,hb⟩:∃b,(l.any λf=>decide (s.len.tmod f.2.2.2.1≠0))=b:=⟨_,rfl⟩
 have hw0:ZM n.net l s.sch=if b=true then 11 else if 512<s.cells.length then 8 else 0:=by
  unfold ZM
  rw[Tf (by omega),Tf (λh=>h h2),h3,Tf (by decide),e5,hb]
  rfl
 have hcf:=λ{H':List HP}{w:World}(gs:Nat) (hm:blk gs (.cells #[.int .i64 s.len,.int .i64 s.off,.slice s.A s.cells.length s.cap] 37 (0,0))∈H') (hr:Rd B w0 H' A (l.flatMap flwF)) (hw:St B w0 H' w)=>OC (λf=>decide (s.len.tmod f.2.2.2.1≠0)) l 84 [.pointer (some ⟨gs,0,none⟩)] en84 (by omega) (cap:=cap) hr (λf hf w hw=>YhP s f gs hsl ⟨(hper f hf).2.2.1,(hper f hf).2.2.2⟩ hm hw) hw
 rw[hb]at hcf
 cases b with
 |true=>
  rw[Tn rfl]at hw0
  have hS:schE n.net l s.sch=(-1,11):=by unfold schE;rw[hw0];rfl
  rw[hS]
  repeat'(first|((first|apply Ya en82|apply Yb en82);exact za;exact rfl;exactλ_ hw=>(hchk hin.cons.cons hw))|((first|apply Ya en59|apply Yb en59);exact za;exact rfl;exactλ_ hw=>(Xe n.nodes l hlf hrf.cons.cons hw))|((first|apply Ya en83|apply Yb en83);exact za;exact rfl;exactλ_ hw=>(hsz hw))|((first|apply Ya en66|apply Yb en66);exact za;exact rfl;exactλ_ hw=>(hcf _ zm hrf.cons.cons hw))|(apply zg29;(apply Yw;exact za;exact rfl))|refine zgd ?_|(refine zge ?_ ?_<;>intro _<;>try exact zo)|(refine zgh ?_;intro _)|fail)
  apply Yi H
  ·exact zc0
  exact zc8
 |false=>
 rw[Tf (by decide)]at hw0
 by_cases h5:512<s.cells.length
 ·rw[Tn h5]at hw0
  have hS:schE n.net l s.sch=(-1,8):=by unfold schE;rw[hw0];rfl
  rw[hS]
  repeat'(first|((first|apply Ya en82|apply Yb en82);exact za;exact rfl;exactλ_ hw=>(hchk hin.cons.cons hw))|((first|apply Ya en59|apply Yb en59);exact za;exact rfl;exactλ_ hw=>(Xe n.nodes l hlf hrf.cons.cons hw))|((first|apply Ya en83|apply Yb en83);exact za;exact rfl;exactλ_ hw=>(hsz hw))|((first|apply Ya en66|apply Yb en66);exact za;exact rfl;exactλ_ hw=>(hcf _ zm hrf.cons.cons hw))|(apply zg29;(apply Yw;exact za;exact rfl))|refine zgd ?_|(refine zgf ?_ ?_<;>intro _<;>try exact zo)|(refine zgh ?_;intro _)|fail)
  apply Yi H
  ·exact zc0
  exact zc8
 rw[Tf h5]at hw0
 have hS:schE n.net l s.sch=if(Vb n.net l s.sch).2≠0 then Vb n.net l s.sch else if(Uw s.sch).2≠0 then Uw s.sch else YfW n.net s.sch:=by
  unfold schE;rw[hw0];rfl
 rw[hS]
 have hcc:=λ{H':List HP}{w:World}(hin:n.In B w0 H') (hrf:Rd B w0 H' A (l.flatMap flwF)) (hr:Rd B w0 H' s.A (s.cells.flatMap celF)) (hw:St B w0 H' w)=>Ycy n l s h1 (by omega) hl (cap:=cap) hin hrf hr hw
 obtain⟨⟨c1,c2⟩,hcv⟩:∃R,Vb n.net l s.sch=R:=⟨_,rfl⟩
 rw[hcv]at hcc⊢
 dsimp only at hcc⊢
 by_cases h6:c2≠0
 ·rw[Tn h6]
  refine zX93 ?_<;>intros
  apply Yi H
  ·exact zc0
  exact zc8
 obtain rfl:c2=0:=Rn.1 h6
 rw[Tf h6]
 have hgood:=Yk5 (n:=n.net) (l:=l) (s:=s.sch) (by rw[hcv])
 refine zX93 ?_<;>intros
 first|(rename_i gn gs;guard_hyp gn:Nat;guard_hyp gs:Nat)|(rename_i gn gs _;guard_hyp gn:Nat;guard_hyp gs:Nat)|(rename_i gn gs _ _;guard_hyp gn:Nat;guard_hyp gs:Nat)|(rename_i gn gs _ _ _;guard_hyp gn:Nat;guard_hyp gs:Nat)|(rename_i gn gs _ _ _ _;guard_hyp gn:Nat;guard_hyp gs:Nat)|(rename_i gn gs _ _ _ _ _;guard_hyp gn:Nat;guard_hyp gs:Nat)|(rename_i gn gs _ _ _ _ _ _;guard_hyp gn:Nat;guard_hyp gs:Nat)
 refine Yg (λ(k:Nat)=>[(53,.int .i64 k),(52,.int .i64 s.cells.length),(51,.slice s.A s.cells.length s.cap),(3,.pointer (some ⟨gn,0,none⟩)),(5,.pointer (some ⟨gs,0,none⟩))]) (λ_=>blk gs (.cells #[.int .i64 s.len,.int .i64 s.off,.slice s.A s.cells.length s.cap] 37 (0,0))::netN gn n::H) (λk=>k<=s.cells.length/\∀j,j<k->Jw s.sch j=false) (λk=>s.cells.length-k) 0 ⟨Tm _,λj hj=>absurd hj (RL _)⟩ ?_ (λw hw=>hw) ?_
 ·exact zc1
 rintro k ⟨hk,hall⟩ K hK
 have hF:Uw s.sch=YZ (λi=>if Jw s.sch i=true then 6 else 0) s.cells.length 0:=rfl
 unfold netN
 by_cases hlt:k<s.cells.length
 ·have htc:=λ{H':List HP}{w:World}(hr:Rd B w0 H' s.A (s.cells.flatMap celF)) (hw:St B w0 H' w)=>Ymp s k hlt (by omega) hr hw
  cases htw:Jw s.sch k with
  |true=>
   rw[htw]at htc
   have hT:Uw s.sch=((k:Int),6):=zc81
   rw[hT,Tn (show(6:Int)≠0 by decide)]
   repeat'(first|((first|apply Ya en86|apply Yb en86);exact za;exact rfl;exactλ_ hw=>(htc hr.cons.cons hw))|refine zgd ?_|(refine zge ?_ ?_<;>intro _<;>try exact zo)|fail)
   apply Yi H
   ·exact zc0
   exact zc8
  |false=>
   rw[htw]at htc
   repeat'(first|((first|apply Ya en86|apply Yb en86);exact za;exact rfl;exactλ_ hw=>(htc hr.cons.cons hw))|refine zgc ?_|(refine zge ?_ ?_<;>intro _<;>try exact zo)|fail)
   apply hK (k+1)
   ·exact YvA
   ·omega
   ·exact zc1
   ·unfold netN
    exact zc0
 have hT:(Uw s.sch).2=0:=by
  rw[hF,YK]
  intro j _ hj
  simp only[hall j (by omega)]
  rfl
 rw[Tf (λh=>h hT)]
 clear hK
 refine zX1 ?_<;>intros
 refine Yg (λ(k:Nat)=>[(64,.int .i64 k),(63,.int .i64 s.cells.length),(62,.slice s.A s.cells.length s.cap),(3,.pointer (some ⟨gn,0,none⟩)),(5,.pointer (some ⟨gs,0,none⟩))]) (λ_=>blk gs (.cells #[.int .i64 s.len,.int .i64 s.off,.slice s.A s.cells.length s.cap] 37 (0,0))::netN gn n::H) (λk=>k<=s.cells.length/\∀j,j<k->Jp n.net s.sch j=false) (λk=>s.cells.length-k) 0 ⟨Tm _,λj hj=>absurd hj (RL _)⟩ ?_ (λw hw=>hw) ?_
 ·exact zc1
 rintro k ⟨hk,hall⟩ K2 hK
 have hF:YfW n.net s.sch=YZ (λi=>if Jp n.net s.sch i=true then 16 else 0) s.cells.length 0:=rfl
 unfold netN
 by_cases hlt:k<s.cells.length
 ·have htc:=λ{H':List HP}{w:World}(hin:n.In B w0 H') (hr:Rd B w0 H' s.A (s.cells.flatMap celF)) (hw:St B w0 H' w)=>YdC n s k h1 hgood hlt (by omega) hin hr hw
  cases htw:Jp n.net s.sch k with
  |true=>
   rw[htw]at htc
   have hT:YfW n.net s.sch=((k:Int),16):=zc81
   rw[hT]
   repeat'(first|((first|apply Ya en87|apply Yb en87);exact za;exact rfl;exactλ_ hw=>(htc hin.cons.cons hr.cons.cons hw))|refine zgd ?_|(refine zge ?_ ?_<;>intro _<;>try exact zo)|fail)
   apply Yi H
   ·exact zc0
   exact zc8
  |false=>
   rw[htw]at htc
   repeat'(first|((first|apply Ya en87|apply Yb en87);exact za;exact rfl;exactλ_ hw=>(htc hin.cons.cons hr.cons.cons hw))|refine zgc ?_|(refine zge ?_ ?_<;>intro _<;>try exact zo)|fail)
   apply hK (k+1)
   ·exact YvA
   ·omega
   ·exact zc1
   ·unfold netN
    exact zc0
 ·have hT:YfW n.net s.sch=(-1,0):=by
   rw[hF]
   exact Zm λj _ hj=>by simp only[hall j (by omega)];rfl
  rw[hT]
  refine zX1 ?_<;>intros
  apply Yi H
  ·exact zc0
  exact zc8
theorem YlI{α:Type}(f:α->HP)(l:List α)(r:α)(H:List HP):Perm (f r::many (l.map f)::H) (many ((l++[r]).map f)::H):=by
 have:=Perm.push (f r) (l.map f) [] H
 simp_all
abbrev clsP(A:Option Addr)(cap:Nat)(C:List ClM):HP:=sl 132 5 A C.length cap (C.flatMap clF)
theorem YqN(A:Option Addr)(cap:Nat)(l:List ClM)(c:ClM):sl 132 5 A (l.length+1) cap (l.flatMap clF++#[Value.int .i64 c.flow,.slice c.rA c.rs.length c.rcap,.slice c.bA c.bs.length c.bcap,.slice c.wA c.ws.length c.wcap,.slice c.sA c.ss.length c.scap].toList)=clsP A cap (l++[c]):=by simp_all [clsP,clF]
def OutC(H:List HP)(R:List Clm×(Int×Int))(v:Value)(K:List HP):Prop:=∃A cap C,v=.tuple #[.slice A (C:List ClM).length cap,.int .i64 R.2.1,.int .i64 R.2.2]/\C.map ClM.clm=R.1/\(∀c∈C,c.lens)/\K=clsP A cap C::many (C.map clQ)::H
variable {B:Nat}{w0 w:World}{H:List HP}
theorem YhE(h:St B w0 H w):St B w0 (clsP none 0 []::many (([]:List ClM).map clQ)::H) w:=(h.perm (.noMany H)).nilSlice _ _
theorem Yt2{R:List Clm×(Int×Int)}{v:Value}(h1:R.1=[])(hv:v=.tuple #[.slice none 0 0,.int .i64 R.2.1,.int .i64 R.2.2]):OutC H R v (clsP none 0 []::many (([]:List ClM).map clQ)::H):=⟨none,0,[],hv,h1.symm,(λc hc=>by cases hc),rfl⟩
structure MkM where
 i:Nat
 A:Option Addr
 cap:Nat
 C:List ClM
theorem Wt(n:NetM)(q:List RqM)(s:SchM){A:Option Addr}{cap:Nat}(ht:TabsB B w0)(hin:n.In B w0 H)(hq:QIn B w0 H A q)(hrs:Rd B w0 H s.A (s.cells.flatMap celF))(hsl:s.cells.length<=1000000000000)(hw:St B w0 H w):
 CX B w0 80 [n.val,.slice A q.length cap,s.val] w (OutC H (YN n.net (q.map RqM.rq) s.sch)):=by
 refine Yc Tryz.func80 Tryz.ntmps80 rfl rfl hw ?_
 have hql:=hq.ln
 have hqr:=hq.rd
 have p1:=λ{H':List HP}{w:World}(hin:n.In B w0 H') (hq:QIn B w0 H' A q) (hw:St B w0 H' w)=>Yfs n q (cap:=cap) hin hq hw
 have p2:=λ{H':List HP}{w:World}(hq:QIn B w0 H' A q) (hw:St B w0 H' w)=>YbU q (cap:=cap) hql hq.rd hw
 have p3:=λ{A2:Option Addr}{cap2:Nat}{H':List HP}{w:World}(hin:n.In B w0 H') (hf:Rd B w0 H' A2 ((RqM.fl q).flatMap flwF)) (hrs:Rd B w0 H' s.A (s.cells.flatMap celF)) (hw:St B w0 H' w)=>Yfv n (RqM.fl q) s YsM hsl (cap:=cap2) hin hf hrs hw
 have p4:=λ{H':List HP}{w:World}(x:RqM) (h9:x.rows.length<=9) (hin:n.In B w0 H') (hrs:Rd B w0 H' s.A (s.cells.flatMap celF)) (hx:x.In B w0 H') (hw:St B w0 H' w)=>Ylb n s x ht hin hrs hsl hx h9 hw
 obtain⟨R,hR⟩:∃R,YN n.net (q.map RqM.rq) s.sch=R:=⟨_,rfl⟩
 rw[hR]
 unfold YN at hR
 rw[TB]at hR
 have hrq:(rqsE n.net (q.map RqM.rq)).2=0->∀x∈q,x.rows.length<=9:=λh x hx=>by
  unfold rqsE at h
  split at h
  ·cases h
  split at h
  ·exact absurd h (by assumption)
  obtain⟨k,hk⟩:=TS.1 hx
  have h1:=YK.1 h k (Tm _) (by rw[TB];have:=(Tj.1 hk).1;omega)
  rw[Yeu hk]at h1
  have h2:=YaZ h1
  have h3:x.rq.2.length=x.rows.length:=by unfold RqM.rq;exact YgW
  omega
 obtain⟨⟨ri,re⟩,hr⟩:∃r,rqsE n.net (q.map RqM.rq)=r:=⟨_,rfl⟩
 obtain⟨⟨ci,ce⟩,hc⟩:∃r,schE n.net (Y0 (q.map RqM.rq)) s.sch=r:=⟨_,rfl⟩
 obtain⟨F,hF⟩:∃F:Nat->Int,(λi=>if JG n.net s.sch (rqAt (q.map RqM.rq) i)=true then 15 else 0)=F:=⟨_,rfl⟩
 rw[hr]at p1 hR hrq
 rw[Yrh]at p3
 rw[hc]at p3 hR
 rw[hF]at hR
 have hFv:∀{k:Nat}{x:RqM},q[k]? =some x->F k=if JG n.net s.sch x.rq=true then 15 else 0:=λh=>by rw[<-hF];show(if JG _ _ _=true then _ else _)=_;rw[Yeu h]
 rw[<-Yrh]at p3
 dsimp only at p1 p3 hR hrq
 unfold NetM.val SchM.val
 by_cases h0:re=0
 rotate_left
 ·rw[Tn h0]at hR
  subst hR
  refine zX98 ?_<;>intros
  apply Yi (clsP none 0 []::many (([]:List ClM).map clQ)::H)
  ·intro w hw
   have h5:St B w0 H w:=by
    revert w
    exact zc0
   exact YhE h5
  exact zc75
 subst h0
 rw[Tf (λe=>e rfl)]at hR
 have hrq:=hrq rfl
 by_cases h1:ce=0
 rotate_left
 ·rw[Tn h1]at hR
  subst hR
  refine zX98 ?_<;>intros
  apply YX [0,1,3,2,4,5,6,7,8,9] [] [true,true]
  kernel_rfl
  kernel_rfl
  exact zy
  (simp only[Yh,nthO];rfl)
  exact rfl
  refine zX2 ?_
  apply Ye _ Ym7
  exact za
  exact rfl
  exactλ_ hw=>(p2 (hq.mono zc0) (hw))
  rintro _ _ ⟨A2,cap2,rfl,rfl⟩
  refine zX18 ?_
  first|apply Ya en20|apply Yb en20
  exact za
  exact rfl
  exactλ_ hw=>(p3 (hin.mono zc0) (Rd.sl (by(focus exact zc2))) (hrs.mono zc0) hw)
  refine zX99 ?_<;>intros
  apply Yi (clsP none 0 []::many (([]:List ClM).map clQ)::H)
  ·intro w hw
   have h5:St B w0 H w:=by
    revert w
    exact zc0
   exact YhE h5
  exact zc75
 subst h1
 rw[Tf (λe=>e rfl)]at hR
 refine zX98 ?_<;>intros
 first|(rename_i g3 g5;guard_hyp g3:Nat;guard_hyp g5:Nat)|(rename_i g3 g5 _;guard_hyp g3:Nat;guard_hyp g5:Nat)|(rename_i g3 g5 _ _;guard_hyp g3:Nat;guard_hyp g5:Nat)
 apply YX [0,1,3,2,4,5,6,7,8,9] [] [true,true]
 kernel_rfl
 kernel_rfl
 exact zy
 (simp only[Yh,nthO];rfl)
 exact rfl
 refine zX2 ?_
 apply Ye _ Ym7
 exact za
 exact rfl
 exactλ_ hw=>(p2 (hq.mono zc0) (hw))
 rintro _ _ ⟨A2,cap2,rfl,rfl⟩
 refine zX18 ?_
 first|apply Ya en20|apply Yb en20
 exact za
 exact rfl
 exactλ_ hw=>(p3 (hin.mono zc0) (Rd.sl (by(focus exact zc2))) (hrs.mono zc0) hw)
 refine zX99 ?_<;>intros
 refine Yg (λz:MkM=>[(40,.int .i64 (z.i:Nat)),(39,.int .i64 q.length),(38,.slice A q.length cap),(13,.slice z.A z.C.length z.cap),(5,.pointer (some ⟨g5,0,none⟩)),(3,.pointer (some ⟨g3,0,none⟩))]) (λz=>clsP z.A z.cap z.C::many (z.C.map clQ)::schA g5 s::netA g3 n::H)
  (λz=>z.i<=q.length/\z.C.map ClM.clm=(q.take z.i).map (λx=>clmE n.net s.sch x.rq)/\(∀c∈z.C,c.lens)/\∀j,0<=j->j<z.i->F j=0) (λz=>q.length-z.i) ⟨0,none,0,[]⟩ ⟨Tm _,rfl,(λc hc=>by cases hc),λj _ h=>absurd h (RL _)⟩ ?_ ?_ ?_
 ·exact zc1
 ·intro w hw
  have h5:St B w0 (schA g5 s::netA g3 n::H) w:=by
   revert w
   exact zc0
  exact YhE h5
 rintro⟨i,A3,cap3,C⟩ ⟨hi,hC,hCl,hz⟩ K hK
 dsimp only at hi hC hCl hz⊢
 have hqr':Rd B w0 (clsP A3 cap3 C::many (C.map clQ)::schA g5 s::netA g3 n::H) A (q.flatMap rqF):=hqr.cons.cons.cons.cons
 have hCn:C.length<=q.length:=by
  have:=TE List.length hC
  exact zc92
 by_cases hlt:i<q.length
 rotate_left
 ·obtain rfl:i=q.length:=by omega
  have hfe:=Zm (f:=F) (r:=q.length) (i0:=0) λj h1 h2=>hz j h1 (by omega)
  rw[hfe,Tf (λe=>e rfl)]at hR
  subst hR
  rw[TV]at hC
  clear hK
  refine zX1 ?_<;>intros
  apply Yi (clsP A3 cap3 C::many (C.map clQ)::H)
  ·exact zc0
  apply VW;(iterate 4 exact rfl)
  exact⟨A3,cap3,C,rfl,by rw[hC,NX];rfl,hCl,rfl⟩
 obtain⟨x,hx⟩:∃x,q[i]? =some x:=⟨_,Ta hlt⟩
 have hxm:=Tc hx
 have hFx:=hFv hx
 have p5:=λ{H':List HP}{w:World}(hin:n.In B w0 H') (hrs:Rd B w0 H' s.A (s.cells.flatMap celF)) (hxi:x.In B w0 H') (hw:St B w0 H' w)=>p4 x (hrq x hxm) hin hrs hxi hw
 have hxi:=hq.x x hxm
 cases hlb:JG n.net s.sch x.rq with
 |true=>
  rw[hlb,Tn rfl]at hFx
  rw[hlb]at p5
  have hfe:=Zl (f:=F) (r:=q.length) (i0:=0) (i:=i) (λj h1 h2=>hz j h1 h2) (Tm _) (by omega) (by rw[hFx];decide)
  rw[hfe,hFx]at hR
  rw[Tn (show(15:Int)≠0 from by decide)]at hR
  subst hR
  clear hK
  refine zX48 ?_<;>intros
  apply Ye _ YuA
  exact za
  exact rfl
  exactλ_ hw=>(p5 (hin.mono zc0) (hrs.mono zc0) (hxi.mono zc0) (hw))
  rintro _ _ ⟨c,rfl,_,rfl⟩
  unfold clV
  refine zX26 ?_<;>intros
  apply Yi (clsP none 0 []::many (([]:List ClM).map clQ)::H)
  ·intro w hw
   have h5:St B w0 H w:=by
    revert w
    exact zc0
   exact YhE h5
  exact zc75
 |false=>
  rw[hlb,Tf (by decide)]at hFx
  rw[hlb]at p5
  refine zX48 ?_<;>intros
  apply Ye _ YuA
  exact za
  exact rfl
  exactλ_ hw=>(p5 (hin.mono zc0) (hrs.mono zc0) (hxi.mono zc0) (hw))
  rintro _ _ ⟨c,rfl,hcc,rfl⟩
  obtain⟨hcm,hcl⟩:=hcc rfl
  unfold clV
  repeat'(first|refine zgd ?_|(refine zgh ?_;intro _)|(refine zgi ?_;intro _ _)|fail)
  first|(rename_i A4 cap4;guard_hyp A4:Option Addr)
  rw[YqN,show C.length+1=(C++[c]).length by simp]
  apply hK ⟨i+1,A4,cap4,C++[c]⟩
  ·refine⟨by exact zc71,?_,λy hy=>?_,λj h1 h2=>?_⟩
   ·show(C++[c]).map ClM.clm=_
    rw[TN,hx,SL,Rb,Rb,hC]
    simp[hcm]
   ·rcases TI.1 hy with h|h
    ·exact hCl y h
    ·rw[TG.1 h];exact hcl
   ·rcases RZ.1 h2 with h|rfl
    ·exact hz j h1 h
    ·exact hFx
  ·exact zc39
  ·exact zc1
  ·intro w hw
   have h5:St B w0 (clsP A4 cap4 (C++[c])::clQ c::many (C.map clQ)::schA g5 s::netA g3 n::H) w:=by
    revert w
    exact zc0
   exact h5.perm (.cons _ (YlI clQ C c _))
variable {A A2:Option Addr}{cap cap2 B:Nat}{w0 w:World}{H:List HP}
theorem OF(l m:List Int)(hlen:l.length<=9223372036854775807)(_hlen2:m.length<=9223372036854775807)(hr:Rd B w0 H A (l.flatMap numF))(hr2:Rd B w0 H A2 (m.flatMap numF))(hw:St B w0 H w):
 CX B w0 181 [.slice A l.length cap,.slice A2 m.length cap2] w λu K=>u=.bool (decide (l=m))/\K=H:=by
 refine Yc Tryz.func181 Tryz.ntmps181 rfl rfl hw ?_
 by_cases hll:l.length=m.length
 rotate_left
 ·exact zc12
 refine zX3 ?_<;>intros
 refine Yg (λ(k:Nat)=>[(13,.int .i64 k),(12,.int .i64 l.length),(0,.slice A l.length cap),(1,.slice A2 m.length cap2)]) (λ_=>H) (λk=>k<=l.length/\l.take k=m.take k) (λk=>l.length-k) 0 ⟨Tm _,by simp⟩ ?_ (λw hw=>hw) ?_
 ·exact zc1
 rintro k ⟨hk,hi⟩ K hK
 by_cases hlt:k<l.length
 ·obtain⟨a,ha⟩:∃a,l[k]? =some a:=⟨_,Ta hlt⟩
  obtain⟨b,hb⟩:∃b,m[k]? =some b:=⟨_,Ta (by omega)⟩
  repeat'(first|refine zgd ?_|(refine zge ?_ ?_<;>intro _<;>try exact zo)|fail)
  ·exact zc50
  ·rename_i h
   apply hK (k+1)
   ·exact YsK
   ·omega
   ·exact zc1
   exact zc17
 exact zc9
theorem YeB(a b:RowM)(hl:a.xs.length<=1000000000000/\b.xs.length<=1000000000000)(hr:Rd B w0 H a.A (a.xs.flatMap numF))(hr2:Rd B w0 H b.A (b.xs.flatMap numF))(hw:St B w0 H w):
 CX B w0 178 [.slice a.A a.xs.length a.cap,.slice b.A b.xs.length b.cap] w λu K=>u=.bool (decide (a.xs=b.xs))/\K=H:=by
 refine Yc Tryz.func178 Tryz.ntmps178 rfl rfl hw ?_
 repeat'(first|((first|apply Ya Yf0|apply Yb Yf0);exact za;exact rfl;exactλ_ hw=>(Yb4 a.xs b.xs (by omega) (by omega) hr hr2 hw))|refine zga ?_|fail)
 exact zc11
theorem Ybl(l m:List RowM)(hlen:l.length<=1000000000000)(_hlen2:m.length<=1000000000000)(hl2:∀r∈l,r.xs.length<=1000000000000)(hm2:∀r∈m,r.xs.length<=1000000000000)(hr:Rd B w0 H A (l.flatMap rowF))(hr2:Rd B w0 H A2 (m.flatMap rowF))(hrl:∀r∈l,Rd B w0 H r.A (r.xs.flatMap numF))(hrm:∀r∈m,Rd B w0 H r.A (r.xs.flatMap numF))(hw:St B w0 H w):
 CX B w0 182 [.slice A l.length cap,.slice A2 m.length cap2,.func (.func 178) #[] #[]] w λu K=>u=.bool (decide (l.map (·.xs)=m.map (·.xs)))/\K=H:=by
 refine Yc Tryz.func182 Tryz.ntmps182 rfl rfl hw ?_
 by_cases hll:l.length=m.length
 rotate_left
 ·exact zc21
 refine zX3 ?_<;>intros
 refine Yg (λ(k:Nat)=>[(17,.int .i64 k),(16,.int .i64 l.length),(15,.slice A l.length cap),(0,.slice A l.length cap),(1,.slice A2 m.length cap2),(2,.func (.func 178) #[] #[])]) (λ_=>H) (λk=>k<=l.length/\(l.take k).map (·.xs)=(m.take k).map (·.xs)) (λk=>l.length-k) 0 ⟨Tm _,by simp⟩ ?_ (λw hw=>hw) ?_
 ·exact zc1
 rintro k ⟨hk,hi⟩ K hK
 by_cases hlt:k<l.length
 ·obtain⟨a,ha⟩:∃a,l[k]? =some a:=⟨_,Ta hlt⟩
  obtain⟨b,hb⟩:∃b,m[k]? =some b:=⟨_,Ta (by omega)⟩
  have ham:=Tc ha
  have hbm:=Tc hb
  have hss:=λ{w:World}(hw:St B w0 H w)=>YeB a b ⟨hl2 a ham,hm2 b hbm⟩ (hrl a ham) (hrm b hbm) hw
  by_cases hab:a.xs=b.xs
  ·rw[Td hab]at hss
   refine Yvh ?_<;>intros
   apply hK (k+1)
   ·exact zc42
   ·omega
   ·exact zc1
   exact zc17
  ·rw[Ti hab]at hss
   refine Yvh ?_<;>intros
   exact zc26
 exact zc9
theorem Yfu(a b:RowM)(hl:a.xs.length<=1000000000000/\b.xs.length<=1000000000000)(hr:Rd B w0 H a.A (a.xs.flatMap numF))(hr2:Rd B w0 H b.A (b.xs.flatMap numF))(hw:St B w0 H w):
 CX B w0 180 [.slice a.A a.xs.length a.cap,.slice b.A b.xs.length b.cap] w λu K=>u=.bool (decide (a.xs=b.xs))/\K=H:=by
 refine Yc Tryz.func180 Tryz.ntmps180 rfl rfl hw ?_
 repeat'(first|((first|apply Ya Od|apply Yb Od);exact za;exact rfl;exactλ_ hw=>(OF a.xs b.xs (by omega) (by omega) hr hr2 hw))|refine zga ?_|fail)
 exact zc11
theorem YcB(l m:List RowM)(hlen:l.length<=1000000000000)(_hlen2:m.length<=1000000000000)(hl2:∀r∈l,r.xs.length<=1000000000000)(hm2:∀r∈m,r.xs.length<=1000000000000)(hr:Rd B w0 H A (l.flatMap rowF))(hr2:Rd B w0 H A2 (m.flatMap rowF))(hrl:∀r∈l,Rd B w0 H r.A (r.xs.flatMap numF))(hrm:∀r∈m,Rd B w0 H r.A (r.xs.flatMap numF))(hw:St B w0 H w):
 CX B w0 183 [.slice A l.length cap,.slice A2 m.length cap2,.func (.func 180) #[] #[]] w λu K=>u=.bool (decide (l.map (·.xs)=m.map (·.xs)))/\K=H:=by
 refine Yc Tryz.func183 Tryz.ntmps183 rfl rfl hw ?_
 by_cases hll:l.length=m.length
 rotate_left
 ·exact zc21
 refine zX3 ?_<;>intros
 refine Yg (λ(k:Nat)=>[(17,.int .i64 k),(16,.int .i64 l.length),(15,.slice A l.length cap),(0,.slice A l.length cap),(1,.slice A2 m.length cap2),(2,.func (.func 180) #[] #[])]) (λ_=>H) (λk=>k<=l.length/\(l.take k).map (·.xs)=(m.take k).map (·.xs)) (λk=>l.length-k) 0 ⟨Tm _,by simp⟩ ?_ (λw hw=>hw) ?_
 ·exact zc1
 rintro k ⟨hk,hi⟩ K hK
 by_cases hlt:k<l.length
 ·obtain⟨a,ha⟩:∃a,l[k]? =some a:=⟨_,Ta hlt⟩
  obtain⟨b,hb⟩:∃b,m[k]? =some b:=⟨_,Ta (by omega)⟩
  have ham:=Tc ha
  have hbm:=Tc hb
  have hss:=λ{w:World}(hw:St B w0 H w)=>Yfu a b ⟨hl2 a ham,hm2 b hbm⟩ (hrl a ham) (hrm b hbm) hw
  by_cases hab:a.xs=b.xs
  ·rw[Td hab]at hss
   refine Yvi ?_<;>intros
   apply hK (k+1)
   ·exact zc42
   ·omega
   ·exact zc1
   exact zc17
  ·rw[Ti hab]at hss
   refine Yvi ?_<;>intros
   exact zc26
 exact zc9
theorem YqM{c d:ClM}:c.clm=d.clm↔c.flow=d.flow/\c.rs.map (·.xs)=d.rs.map (·.xs)/\c.bs=d.bs/\c.ws=d.ws/\c.ss.map (·.xs)=d.ss.map (·.xs):=by
 unfold ClM.clm
 simp_all
theorem Ymh(c d:ClM)(hc:c.In B w0 H)(hd:d.In B w0 H)(hw:St B w0 H w):
 CX B w0 81 [clV c,clV d] w λu K=>u=.bool (decide (c.clm=d.clm))/\K=H:=by
 refine Yc Tryz.func81 Tryz.ntmps81 rfl rfl hw ?_
 have hcl:=hc.ln
 have hdl:=hd.ln
 have p1:=λ{H':List HP}{w:World}(hc:c.In B w0 H') (hd:d.In B w0 H') (hw:St B w0 H' w)=>Ybl c.rs d.rs (cap:=c.rcap) (cap2:=d.rcap) hcl.1 hdl.1 hc.rl hd.rl hc.rt hd.rt hc.rw_ hd.rw_ hw
 have p2:=λ{H':List HP}{w:World}(hc:c.In B w0 H') (hd:d.In B w0 H') (hw:St B w0 H' w)=>OF c.bs d.bs (cap:=c.bcap) (cap2:=d.bcap) (by omega) (by omega) hc.bd hd.bd hw
 have p3:=λ{H':List HP}{w:World}(hc:c.In B w0 H') (hd:d.In B w0 H') (hw:St B w0 H' w)=>OF c.ws d.ws (cap:=c.wcap) (cap2:=d.wcap) (by omega) (by omega) hc.ws hd.ws hw
 have p4:=λ{H':List HP}{w:World}(hc:c.In B w0 H') (hd:d.In B w0 H') (hw:St B w0 H' w)=>YcB c.ss d.ss (cap:=c.scap) (cap2:=d.scap) hcl.2.2.2 hdl.2.2.2 hc.sl hd.sl hc.st hd.st hc.sw hd.sw hw
 have hce:=@YqM c d
 unfold clV
 by_cases h1:c.flow=d.flow
 rotate_left
 ·rw[Ti (λh=>h1 (hce.1 h).1)]
  refine zX48 ?_<;>intros
  apply Yi H
  ·exact zc0
  exact zc4
 by_cases h2:c.rs.map (·.xs)=d.rs.map (·.xs)
 rotate_left
 ·rw[Ti (λh=>h2 (hce.1 h).2.1)]
  rw[Ti h2]at p1
  refine O8 ?_<;>intros
  first|apply Ya Yb0|apply Yb Yb0
  exact za
  exact rfl
  exactλ_ hw=>(p1 (hc.mono zc0) (hd.mono zc0) hw)
  refine zX2 ?_
  apply Yi H
  ·exact zc0
  exact zc4
 rw[Td h2]at p1
 by_cases h3:c.bs=d.bs
 rotate_left
 ·rw[Ti (λh=>h3 (hce.1 h).2.2.1)]
  rw[Ti h3]at p2
  refine O8 ?_<;>intros
  first|apply Ya Yb0|apply Yb Yb0
  exact za
  exact rfl
  exactλ_ hw=>(p1 (hc.mono zc0) (hd.mono zc0) hw)
  refine zX11 ?_
  first|apply Ya Od|apply Yb Od
  exact za
  exact rfl
  exactλ_ hw=>(p2 (hc.mono zc0) (hd.mono zc0) hw)
  refine zX2 ?_
  apply Yi H
  ·exact zc0
  exact zc4
 rw[Td h3]at p2
 by_cases h4:c.ws=d.ws
 rotate_left
 ·rw[Ti (λh=>h4 (hce.1 h).2.2.2.1)]
  rw[Ti h4]at p3
  refine O8 ?_<;>intros
  first|apply Ya Yb0|apply Yb Yb0
  exact za
  exact rfl
  exactλ_ hw=>(p1 (hc.mono zc0) (hd.mono zc0) hw)
  refine zX11 ?_
  first|apply Ya Od|apply Yb Od
  exact za
  exact rfl
  exactλ_ hw=>(p2 (hc.mono zc0) (hd.mono zc0) hw)
  refine zX11 ?_
  first|apply Ya Od|apply Yb Od
  exact za
  exact rfl
  exactλ_ hw=>(p3 (hc.mono zc0) (hd.mono zc0) hw)
  refine zX2 ?_
  apply Yi H
  ·exact zc0
  exact zc4
 rw[Td h4]at p3
 have h5:decide (c.clm=d.clm)=decide (c.ss.map (·.xs)=d.ss.map (·.xs)):=decide_eq_decide.2 ⟨λh=>(hce.1 h).2.2.2.2,λh=>hce.2 ⟨h1,h2,h3,h4,h⟩⟩
 rw[h5]
 refine O8 ?_<;>intros
 first|apply Ya Yb0|apply Yb Yb0
 exact za
 exact rfl
 exactλ_ hw=>(p1 (hc.mono zc0) (hd.mono zc0) hw)
 refine zX11 ?_
 first|apply Ya Od|apply Yb Od
 exact za
 exact rfl
 exactλ_ hw=>(p2 (hc.mono zc0) (hd.mono zc0) hw)
 refine zX11 ?_
 first|apply Ya Od|apply Yb Od
 exact za
 exact rfl
 exactλ_ hw=>(p3 (hc.mono zc0) (hd.mono zc0) hw)
 refine zX11 ?_
 first|apply Ya YuB|apply Yb YuB
 exact za
 exact rfl
 exactλ_ hw=>(p4 (hc.mono zc0) (hd.mono zc0) hw)
 refine zX11 ?_
 apply Yi H
 ·exact zc0
 exact zc4
theorem Qe{c:List ClM}{i:Nat}{x:ClM}(h:c[i]? =some x):Uh (c.map ClM.clm) i=x.clm:=by
 grind [Uh]
variable {B:Nat}{w0:World}{H:List HP}
theorem YlU{C:List ClM}{c:ClM}(hm:many (C.map clQ)∈H)(hc:c∈C)(hl:c.lens):c.In B w0 H:=by
 have hb:∀w,St B w0 H w->St B w0 (C.map clQ) w:=λw hw=>hw.inM hm
 refine ClM.In.mono (H:=C.map clQ) (Ywr (Sr hc) ⟨⟨?_,?_,?_,?_⟩,?_,?_⟩) hb
 ·have:=hl.1.1;omega
 ·have:=hl.1.2.1;omega
 ·have:=hl.1.2.2.1;omega
 ·have:=hl.1.2.2.2;omega
 ·exactλr hr=>T9 (hl.2.1 r hr) (by decide)
 ·exactλr hr=>T9 (hl.2.2 r hr) (by decide)
theorem Yhm(n:NetM)(q:List RqM)(s:SchM)(c:List ClM){A A1:Option Addr}{cap cap1:Nat}{w:World}(ht:TabsB B w0)(hin:n.In B w0 H)(hq:QIn B w0 H A q)(hrs:Rd B w0 H s.A (s.cells.flatMap celF))(hsl:s.cells.length<=1000000000000)(hc:CIn B w0 H A1 c)(hw:St B w0 H w):
 CX B w0 19 [n.val,.slice A q.length cap,s.val,.slice A1 c.length cap1] w λv K=>v=.tuple #[.int .i64 (chkE n.net (q.map RqM.rq) s.sch (c.map ClM.clm)).1,.int .i64 (chkE n.net (q.map RqM.rq) s.sch (c.map ClM.clm)).2]/\K=H:=by
 refine Yc Tryz.func19 Tryz.ntmps19 rfl rfl hw ?_
 have hcl:=hc.ln
 have hcr:=hc.rd
 have p1:=λ{H':List HP}{w:World}(hin:n.In B w0 H') (hq:QIn B w0 H' A q) (hrs:Rd B w0 H' s.A (s.cells.flatMap celF)) (hw:St B w0 H' w)=>Wt n q s (cap:=cap) ht hin hq hrs hsl hw
 obtain⟨⟨RC,ri,re⟩,hR⟩:∃R,YN n.net (q.map RqM.rq) s.sch=R:=⟨_,rfl⟩
 unfold chkE
 rw[TB]
 rw[hR]at p1⊢
 unfold OutC at p1
 dsimp only at p1⊢
 unfold NetM.val SchM.val
 by_cases h0:re=0
 rotate_left
 ·rw[Tn h0]
  repeat'(first|refine zgb ?_|(refine zgh ?_;intro _)|fail)
  apply Ye _ en80
  exact za
  exact rfl
  exactλ_ hw=>(p1 (hin.mono zc0) (hq.mono zc0) (hrs.mono zc0) (hw))
  rintro _ _ ⟨A2,cap2,C,rfl,hC,hCl,rfl⟩
  repeat'(first|refine zgc ?_|(refine zge ?_ ?_<;>intro _<;>try exact zo)|fail)
  apply Yi H
  ·exact zc0
  exact zc8
 subst h0
 rw[Tf (λe=>e rfl)]
 repeat'(first|refine zgb ?_|(refine zgh ?_;intro _)|fail)
 apply Ye _ en80
 exact za
 exact rfl
 exactλ_ hw=>(p1 (hin.mono zc0) (hq.mono zc0) (hrs.mono zc0) (hw))
 rintro _ _ ⟨A2,cap2,C,rfl,hC,hCl,rfl⟩
 subst hC
 rw[TB]
 by_cases h1:c.length=C.length
 rotate_left
 ·rw[Tn h1]
  repeat'(first|refine zgc ?_|(refine zge ?_ ?_<;>intro _<;>try exact zo)|fail)
  apply Yi H
  ·exact zc0
  exact zc8
 rw[Tf (λe=>e h1)]
 obtain⟨F,hF⟩:∃F:Nat->Int,(λi=>if Uh (c.map ClM.clm) i=Uh (C.map ClM.clm) i then(0:Int)else 20)=F:=⟨_,rfl⟩
 rw[hF]
 have hFv:∀{k:Nat}{x y:ClM},c[k]? =some x->C[k]? =some y->F k=if x.clm=y.clm then 0 else 20:=λhx hy=>by rw[<-hF];show(if _=_ then _ else _)=_;rw[Qe hx,Qe hy]
 repeat'(first|refine zgc ?_|(refine zge ?_ ?_<;>intro _<;>try exact zo)|fail)
 refine Yg (λk:Nat=>[(33,.int .i64 (k:Nat)),(32,.int .i64 C.length),(10,.slice A2 C.length cap2),(3,.slice A1 c.length cap1)]) (λ_=>clsP A2 cap2 C::many (C.map clQ)::H) (λk=>k<=C.length/\∀j,0<=j->j<k->F j=0) (λk=>C.length-k) 0 ⟨Tm _,λj _ h=>absurd h (RL _)⟩ ?_ ?_ ?_
 ·exact zc1
 ·exact zc0
 rintro k ⟨hk,hz⟩ K hK
 have hcr':Rd B w0 (clsP A2 cap2 C::many (C.map clQ)::H) A1 (c.flatMap clF):=hcr.cons.cons
 have hCr':Rd B w0 (clsP A2 cap2 C::many (C.map clQ)::H) A2 (C.flatMap clF):=.sl (.head _)
 by_cases hlt:k<C.length
 ·obtain⟨x,hx⟩:∃x,c[k]? =some x:=⟨_,Ta (by omega)⟩
  obtain⟨y,hy⟩:∃y,C[k]? =some y:=⟨_,Ta hlt⟩
  have hym:=Tc hy
  have hFk:=hFv hx hy
  have hxi:=hc.x x (Tc hx)
  have p2:=λ{H':List HP}{w:World}(hx:x.In B w0 H') (hy:y.In B w0 H') (hw:St B w0 H' w)=>Ymh x y hx hy hw
  by_cases he:x.clm=y.clm
  ·rw[Tn he]at hFk
   rw[Td he]at p2
   repeat'(first|refine zgb ?_|(refine zge ?_ ?_<;>intro _<;>try exact zo)|fail)
   apply XA [0,1,2,3,4,5,6,7,8,9] []
   kernel_rfl
   kernel_rfl
   (simp only[Yh,nthO];rfl)
   exact rfl
   repeat'(first|refine zgd ?_|fail)
   first|apply Ya en81|apply Yb en81
   exact za
   exact rfl
   exactλ_ hw=>(p2 (hxi.mono zc0) (YlU (by(focus exact zc2)) hym (hCl y hym)) hw)
   repeat'(first|(apply Yl;(repeat(first|with_reducible exact YW|(with_reducible apply YL;(repeat(first|with_reducible exact Ys|with_reducible apply YA))))))|refine zgd ?_|fail)
   ·show Perm H (H++[])
    exact zc29
   repeat'(first|fail)
   apply hK (k+1)
   ·exact⟨by omega,λj h1 h2=>by
     rcases RZ.1 h2 with h|rfl
     ·exact hz j h1 h
     ·exact hFk⟩
   ·omega
   ·exact zc1
   ·exact zc0
  ·rw[Tf he]at hFk
   rw[Ti he]at p2
   have hfe:=Zl (f:=F) (r:=c.length) (i0:=0) (i:=k) (λj h1 h2=>hz j h1 h2) (Tm _) (by omega) (by rw[hFk];decide)
   rw[hfe,hFk]
   clear hK
   repeat'(first|refine zgb ?_|(refine zge ?_ ?_<;>intro _<;>try exact zo)|fail)
   apply XA [0,1,2,3,4,5,6,7,8,9] []
   kernel_rfl
   kernel_rfl
   (simp only[Yh,nthO];rfl)
   exact rfl
   repeat'(first|refine zgd ?_|fail)
   first|apply Ya en81|apply Yb en81
   exact za
   exact rfl
   exactλ_ hw=>(p2 (hxi.mono zc0) (YlU (by(focus exact zc2)) hym (hCl y hym)) hw)
   repeat'(first|(apply Yl;(repeat(first|with_reducible exact YW|(with_reducible apply YL;(repeat(first|with_reducible exact Ys|with_reducible apply YA))))))|refine zgd ?_|fail)
   ·show Perm H (H++[])
    exact zc29
   repeat'(first|fail)
   apply Yi H
   ·exact zc0
   exact zc8
 ·obtain rfl:k=C.length:=by omega
  have hfe:=Zm (f:=F) (r:=c.length) (i0:=0) λj h1 h2=>hz j h1 (by omega)
  rw[hfe]
  clear hK
  repeat'(first|refine zgc ?_|(refine zge ?_ ?_<;>intro _<;>try exact zo)|fail)
  apply Yi H
  ·exact zc0
  exact zc8
variable {B:Nat}{w0 w:World}{H:List HP}
theorem Yff(z a b:Int)(ga gb:Nat)(h1:blk ga (.cells #[.int .i64 a] 3 (0,0))∈H)(h2:blk gb (.cells #[.int .i64 b] 3 (0,0))∈H)(hw:St B w0 H w):
 CX B w0 359 [.int .i64 z,.pointer (some ⟨ga,0,none⟩),.pointer (some ⟨gb,0,none⟩)] w λv K=>v=.bool (!decide (a<=z/\z<=b))/\K=H:=by
 refine Yc Tryz.func359 Tryz.ntmps359 rfl rfl hw ?_
 by_cases h:a<=z/\z<=b
 ·rw[Td h]
  refine zX43 ?_<;>intros
  exact zc11
 ·rw[Ti h]
  repeat'(first|refine zgd ?_|(refine zgf ?_ ?_<;>intro _<;>try exact zo)|fail)
  all_goals(apply Yd;exact rfl;exact rfl;exact⟨rfl,rfl⟩)
theorem VY(l:List Int)(a b:Int)(hl:l.length<=1000000000000){A:Option Addr}{cap:Nat}(hr:Rd B w0 H A (l.flatMap numF))(hw:St B w0 H w):
 CX B w0 293 [.slice A l.length cap,.int .i64 a,.int .i64 b] w λv K=>v=.bool (inL l a b)/\K=H:=by
 refine Yc Tryz.func293 Tryz.ntmps293 rfl rfl hw ?_
 have e1:inL l a b=!(l.any λz=>!decide (a<=z/\z<=b)):=by
  unfold inL
  grind
 rw[e1]
 obtain⟨o,ho⟩:∃o,(l.any λz=>!decide (a<=z/\z<=b))=o:=⟨_,rfl⟩
 rw[ho]
 repeat'(first|((refine zs53 ?_;intro _))|((apply Yw;exact za;exact rfl))|refine zga ?_|fail)
 rename_i ga gb
 have p1:∀w,St B w0 (blk gb (.cells #[.int .i64 b] 3 (0,0))::blk ga (.cells #[.int .i64 a] 3 (0,0))::H) w->CX B w0 259 [.slice A l.length cap,.func (.func 359) #[] [Value.pointer (some ⟨ga,0,none⟩),Value.pointer (some ⟨gb,0,none⟩)].toArray] w λv K=>v=.bool o/\K=blk gb (.cells #[.int .i64 b] 3 (0,0))::blk ga (.cells #[.int .i64 a] 3 (0,0))::H:=λw hw=>by
  have h:=Wk (λz=>Value.int .i64 z) (λz=>!decide (a<=z/\z<=b)) l 359 [.pointer (some ⟨ga,0,none⟩),.pointer (some ⟨gb,0,none⟩)] YxD (by omega) (cap:=cap) (show Rd B w0 _ A (l.flatMap numF) from hr.cons.cons) (λz _ w hw=>Yff z a b ga gb (.tail _ (.head _)) (.head _) hw) hw
  simp_all
 cases o<;>(
  first|apply Ya Ynf|apply Yb Ynf
  exact za
  exact rfl
  exactλ_ hw=>(p1 _ hw)
  repeat'(first|(first|refine zs47 ?_|refine zs48 ?_)|refine zga ?_|fail)
  apply Yi H
  ·(intro w hw;refine hw.perm ?_;focus repeat(first|with_reducible exact Perm.refl _|(with_reducible focus(done))|with_reducible apply Perm.dropK))
  apply Yd;exact rfl;exact rfl;exact⟨rfl,rfl⟩)
theorem WC{rs:List RowM}{k:Nat}{r:RowM}(h:rs[k]? =some r):rtAt (rs.map (·.xs)) k=r.xs:=by
 have h2:(rs.map (·.xs))[k]? =some r.xs:=by simp_all
 grind [YbE]
theorem Yhl(c:ClM)(hc:c.In B w0 H)(hw:St B w0 H w):
 CX B w0 225 [clV c] w λv K=>v=.bool (UN c.clm)/\K=H:=by
 refine Yc Tryz.func225 Tryz.ntmps225 rfl rfl hw ?_
 obtain⟨hl1,hl2,hl3,hl4⟩:=hc.ln
 have q1:=λ{H':List HP}{w:World}(hc:c.In B w0 H') (hw:St B w0 H' w)=>VY c.bs 1 512 hl2 (cap:=c.bcap) hc.bd hw
 have q2:=λ{H':List HP}{w:World}(hc:c.In B w0 H') (hw:St B w0 H' w)=>VY c.ws 0 511 hl3 (cap:=c.wcap) hc.ws hw
 obtain⟨F,hF⟩:∃F,UN c.clm=F:=⟨_,rfl⟩
 have hFe:F=(decide (0<=c.flow/\c.flow<=255/\1<=c.rs.length/\c.rs.length<=2/\c.bs.length=c.rs.length/\c.ws.length=c.rs.length/\c.ss.length=c.rs.length)&&inL c.bs 1 512&&inL c.ws 0 511&&(List.range c.rs.length).all λi=>rtOk (rtAt (c.rs.map (·.xs)) i) (rtAt (c.ss.map (·.xs)) i)):=by
  rw[<-hF]
  unfold UN ClM.clm
  simp only[TB]
 rw[hF]
 unfold clV
 obtain⟨b1,hb1⟩:∃b,inL c.bs 1 512=b:=⟨_,rfl⟩
 obtain⟨b2,hb2⟩:∃b,inL c.ws 0 511=b:=⟨_,rfl⟩
 rw[hb1]at q1 hFe
 rw[hb2]at q2 hFe
 by_cases hP:0<=c.flow/\c.flow<=255/\1<=c.rs.length/\c.rs.length<=2/\c.bs.length=c.rs.length/\c.ws.length=c.rs.length/\c.ss.length=c.rs.length
 rotate_left
 ·rw[Ti hP]at hFe
  simp only[SX]at hFe
  subst hFe
  repeat'(first|refine zgd ?_|(refine zgf ?_ ?_<;>intro _<;>try exact zo)|(refine zgh ?_;intro _)|fail)
  all_goals(
   apply Yi H
   ·exact zk
   apply Yd;exact rfl;exact rfl;exact⟨rfl,rfl⟩)
 rw[Td hP,RO]at hFe
 obtain⟨f0,f1,n1,n2,e1,e2,e3⟩:=hP
 cases b1 with
 |false=>
  simp only[SX]at hFe
  subst hFe
  refine YsA ?_<;>intros
  first|apply Ya Jk|apply Yb Jk
  exact za
  exact rfl
  exactλ_ hw=>(q1 (hc.mono zc0) hw)
  refine zX2 ?_
  apply Yi H
  ·exact zc0
  exact zc4
 |true=>
 cases b2 with
 |false=>
  simp only[SX,Bool.and_false]at hFe
  subst hFe
  refine YsA ?_<;>intros
  first|apply Ya Jk|apply Yb Jk
  exact za
  exact rfl
  exactλ_ hw=>(q1 (hc.mono zc0) hw)
  refine zX2 ?_
  first|apply Ya Jk|apply Yb Jk
  exact za
  exact rfl
  exactλ_ hw=>(q2 (hc.mono zc0) hw)
  refine zX2 ?_
  apply Yi H
  ·exact zc0
  exact zc4
 |true=>
 simp only[RO]at hFe
 refine YsA ?_<;>intros
 rename_i g _ _ _ _ _ _ _
 first|apply Ya Jk|apply Yb Jk
 exact za
 exact rfl
 exactλ_ hw=>(q1 (hc.mono zc0) hw)
 refine zX2 ?_
 first|apply Ya Jk|apply Yb Jk
 exact za
 exact rfl
 exactλ_ hw=>(q2 (hc.mono zc0) hw)
 refine zX2 ?_
 obtain⟨ok,hok⟩:∃ok:Nat->Bool,(λi=>rtOk (rtAt (c.rs.map (·.xs)) i) (rtAt (c.ss.map (·.xs)) i))=ok:=⟨_,rfl⟩
 rw[hok]at hFe
 refine Yg (λk:Nat=>[(61,.int .i64 (k:Nat)),(60,.int .i64 c.rs.length),(59,.slice c.rA c.rs.length c.rcap),(1,.pointer (some ⟨g,0,none⟩))]) (λ_=>clA g c::H) (λk=>k<=c.rs.length/\∀j,j<k->ok j=true) (λk=>c.rs.length-k) 0 ⟨Tm _,λj h=>absurd h (RL _)⟩ ?_ (λw hw=>hw) ?_
 ·exact zc1
 rintro k ⟨hk,hz⟩ K hK
 have hcr:Rd B w0 (clA g c::H) c.rA (c.rs.flatMap rowF):=hc.rt.cons
 have hcs:Rd B w0 (clA g c::H) c.sA (c.ss.flatMap rowF):=hc.st.cons
 by_cases hlt:k<c.rs.length
 rotate_left
 ·obtain rfl:k=c.rs.length:=by omega
  have hFt:F=true:=by
   rw[hFe,TF]
   exactλj hj=>hz j (TQ.1 hj)
  subst hFt
  clear hK
  refine zX1 ?_<;>intros
  apply Yi H
  ·exact zc0
  exact zc4
 obtain⟨r,hr⟩:∃r,c.rs[k]? =some r:=⟨_,Ta hlt⟩
 obtain⟨z,hzz⟩:∃z,c.ss[k]? =some z:=⟨_,Ta (by omega)⟩
 have hrm:=Tc hr
 have hzm:=Tc hzz
 have hkk:ok k=rtOk r.xs z.xs:=by rw[<-hok];show rtOk (rtAt _ _) (rtAt _ _)=_;rw[WC hr,WC hzz]
 unfold rtOk at hkk
 have hrl:=hc.rl r hrm
 have hzl:=hc.sl z hzm
 have q3:=λ{H':List HP}{w:World}(hc:c.In B w0 H') (hw:St B w0 H' w)=>VY r.xs 0 31 hrl (cap:=r.cap) (hc.rw_ r hrm) hw
 have q4:=λ{H':List HP}{w:World}(hc:c.In B w0 H') (hw:St B w0 H' w)=>VY z.xs 0 511 hzl (cap:=z.cap) (hc.sw z hzm) hw
 obtain⟨b3,hb3⟩:∃b,inL r.xs 0 31=b:=⟨_,rfl⟩
 obtain⟨b4,hb4⟩:∃b,inL z.xs 0 511=b:=⟨_,rfl⟩
 rw[hb3]at q3 hkk
 rw[hb4]at q4 hkk
 have hno:ok k=false->F=false:=λh=>by
  rw[hFe,List.all_eq_false]
  exact⟨k,TQ.2 hlt,by rw[h];decide⟩
 by_cases hA:2<=r.xs.length/\r.xs.length<=9
 rotate_left
 ·rw[Ti hA]at hkk
  have hFf:=hno (by rw[hkk];rfl)
  subst hFf
  clear hK
  repeat'(first|refine zgd ?_|(refine zgf ?_ ?_<;>intro _<;>try exact zo)|fail)
  all_goals(
   apply Yi H
   ·exact zk
   apply Yd;exact rfl;exact rfl;exact⟨rfl,rfl⟩)
 rw[Td hA]at hkk
 cases b3 with
 |false=>
  have hFf:=hno (by rw[hkk];rfl)
  subst hFf
  clear hK
  refine zX43 ?_<;>intros
  first|apply Ya Jk|apply Yb Jk
  exact za
  exact rfl
  exactλ_ hw=>(q3 (hc.mono zc0) hw)
  refine zX2 ?_
  all_goals(
   apply Yi H
   ·exact zc0
   exact zc4)
 |true=>
 by_cases hB:1<=z.xs.length/\z.xs.length<=64
 rotate_left
 ·rw[Ti hB]at hkk
  have hFf:=hno (by rw[hkk];rfl)
  subst hFf
  clear hK
  refine zX43 ?_<;>intros
  first|apply Ya Jk|apply Yb Jk
  exact za
  exact rfl
  exactλ_ hw=>(q3 (hc.mono zc0) hw)
  repeat'(first|refine zgd ?_|(refine zgf ?_ ?_<;>intro _<;>try exact zo)|fail)
  all_goals(
   apply Yi H
   ·exact zk
   apply Yd;exact rfl;exact rfl;exact⟨rfl,rfl⟩)
 rw[Td hB]at hkk
 cases b4 with
 |false=>
  have hFf:=hno (by rw[hkk];rfl)
  subst hFf
  clear hK
  refine zX43 ?_<;>intros
  first|apply Ya Jk|apply Yb Jk
  exact za
  exact rfl
  exactλ_ hw=>(q3 (hc.mono zc0) hw)
  refine zX25 ?_<;>intros
  first|apply Ya Jk|apply Yb Jk
  exact za
  exact rfl
  exactλ_ hw=>(q4 (hc.mono zc0) hw)
  refine zX2 ?_
  all_goals(
   apply Yi H
   ·exact zc0
   exact zc4)
 |true=>
  have hkt:ok k=true:=hkk
  refine zX43 ?_<;>intros
  first|apply Ya Jk|apply Yb Jk
  exact za
  exact rfl
  exactλ_ hw=>(q3 (hc.mono zc0) hw)
  refine zX25 ?_<;>intros
  first|apply Ya Jk|apply Yb Jk
  exact za
  exact rfl
  exactλ_ hw=>(q4 (hc.mono zc0) hw)
  refine zX2 ?_
  apply hK (k+1)
  ·exact Yvw
  ·omega
  ·exact zc1
  ·exact zc0
end Go.Proofs.YtaholidehobiiaaGreatDoor
